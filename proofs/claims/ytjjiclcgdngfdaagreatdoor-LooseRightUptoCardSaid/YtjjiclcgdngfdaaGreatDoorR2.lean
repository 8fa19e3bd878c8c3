/-
  Part 2 of the walk: contracts of the functions that the law reaches, and the calculus they stand on.
  No conditions.
-/
import Derived.Test.YtjjiclcgdngfdaaGreatDoorR1
import Derived.Lib.Small
import Derived.Lib.Walk
import Derived.Lib.Bytealg
import Derived.Deep.Draws
import Derived.Deep.QuietTactic
import Derived.Lib.Strings
import GoSem.Core.Float
import Derived.Laws.MakeOwn
section
open Go Go.Proofs Go.Sx Go.StP
namespace Go.Proofs
set_option maxRecDepth 10000
set_option maxHeartbeats 4000000
set_option linter.unusedSimpArgs false
theorem pn (x:IdL): (eZ x).length=32:=by simp[eZ,x.h]
theorem Ev (x:IdL): (eZ x).all Value.oneCell'=true:=rr _
abbrev IdS (w:World) (v:Value) (l:List IdL):Prop:=SlV 32 eZ id0 w v l
theorem rz {w:World} {v:Value} {l:List IdL} {b off:Nat} {arr:Array Value} {E:TypeId} {fz:Nat×Nat} (h:RowS 32 eZ id0 w v l b off arr E fz) {k:Nat} (hk:k<l.length):
  aI (some (true,32)) (some (.cells arr E fz)) (off+k*32)=some (.agg (a8 (l.getD k id0).l)):=RowS.load h pn (by omega) hk
theorem o5 (a b:IdL):aT Tryz.prog .eql 84 (.agg (a8 a.l)) (.agg (a8 b.l))=some (.bool (a.l==b.l)):=
 Ss Tryz.underlying84 Tryz.underlying5 Tryz.ag5 (by kernel_rfl) a.l b.l ⟨a.h,b.h⟩
theorem mJ (a b:IdL):aT Tryz.prog .neq 84 (.agg (a8 a.l)) (.agg (a8 b.l))=some (.bool (!(a.l==b.l))):=
 R1 Tryz.underlying84 Tryz.underlying5 Tryz.ag5 (by kernel_rfl) a.l b.l ⟨a.h,b.h⟩
instance:DecidableEq IdL:=fun a b=>if h:a.l=b.l then .isTrue (by cases a;cases b;simp only at h;subst h;rfl) else .isFalse (fun e=>h (by rw[e]))
theorem IdL.ext' {a b:IdL} (h:a.l=b.l):a=b:=by cases a;cases b;simp only at h;subst h;rfl
def idxG (x:IdL):List IdL→Nat→Int
 | [],_=> -1
 |y::r,i=>if x.l==y.l then(i:Int) else idxG x r (i+1)
theorem Pa (x y:IdL) (r:List IdL) (i:Nat):idxG x (y::r) i=if x.l==y.l then(i:Int) else idxG x r (i+1):=rfl
theorem Ad (x:IdL): ∀ (l:List IdL) (i:Nat),decide (0≤idxG x l i)=l.any fun y=>x.l==y.l
 | [],_=>rfl
 |y::r,i=>by
  unfold idxG
  rw[List.any_cons]
  cases h: (x.l==y.l)
  ·rw[if_neg (by simp),Bool.false_or];exact Ad x r (i+1)
  ·rw[if_pos rfl,Bool.true_or,decide_eq_true (by omega)]
theorem pC (x:IdL) (E:TypeId) (fz:Nat×Nat):aI (some (true,32)) (some (.cells (a8 x.l) E fz)) 0=some (.agg (a8 x.l)):=Hh _ E fz 32 x.h
set_option linter.defProp false
def gd:=And.intro (And.intro (@o5) (@mJ)) (And.intro (@pC) (And.intro (@ay) (@ax)))
theorem J2 (v:Value) (l:List IdL) (x:IdL) (w:World) (hv:IdS w v l) (hl:l.length<1000000):
  Rets Tryz.prog 250 #[v, .agg (a8 x.l)] w (fun v' D=>v'=vi (idxG x l 0)∧D= []):=by
 obtain⟨b,off,arr,E,fz,hr⟩:=hv.row
 have ln:=hv.len
 refine Rets.enterV Tryz.func250 rfl (rs:= [.tmp 4]) Tryz.results250 Tryz.ntmps250 ?_
 refine kf ?_
 first|with_reducible refine ks [] @gd ?_|refine kp @gd ?_
 refine Ow.box rfl rfl fun b1 aQ aF=> ?_
 simp only[d9,cu,d8,aV,List.nil_append,List.cons_append]
 refine Ow.go rfl ?_
 simp(disch:=(first|assumption|omega| (simp only[cT,cS,UInt64.reduceToNat];try omega))) only[↓Sx.S0,Sx.S1,Tryz.fx,gd,Nat.reduceAdd,Nat.reducePow,Int.reducePow,Nat.reduceBEq, ↓reduceIte,UInt8.reduceToNat,UInt16.reduceToNat,UInt32.reduceToNat,UInt64.reduceToNat,Int.reduceToNat]
 first|with_reducible refine ks [] (And.intro @gd @ln) ?_|refine kp (And.intro @gd @ln) ?_
 refine Cw.loopG (G:=Nat) [9,10,5,11,12,13,14,15,16,17,4,18,8] (fun g=> [(8,vi g)]) (fun g=> [(b1, .cells (a8 x.l) 84 (0,0))]) (fun g=>g≤l.length∧idxG x l 0=idxG x (l.drop g) g) (fun g=>l.length - g) 0 rfl rfl ?_ ?_
 ·exact⟨Nat.zero_le _,rfl⟩
 ·intro k jk hk
  refine kv ?_
  obtain⟨h1,h2⟩:=hk
  by_cases hk:k<l.length
  ·have h0:0<l.length:=by omega
   have jO:=hr.lt h0
   have lx:b1≠b:=by omega
   have r2:=hr.has h0
   have i2:=hr.idx true k hk
   have l2:=rz hr hk
   rw[HK (z:=id0) hk,Pa] at h2
   first|with_reducible refine ks [] @gd ?_|refine kp @gd ?_
   refine Cw.regionS [b1,b] [1,2,3,0,4,5] [] (by kernel_rfl) (by kernel_rfl) (by kernel_rfl) ?_
   simp only[ap, ↓ao, ↓ac, ↓aj, ↓ai,ad]
   refine kq (And.intro @gd (And.intro @i2 (And.intro @r2 (@l2)))) ?_
   cases hq: (x.l==(l.getD k id0).l)
   ·rw[hq,if_neg (by simp)] at h2
    first|with_reducible refine ks [] (And.intro @gd @hq) ?_|refine kp (And.intro @gd @hq) ?_
    exact Again.mk (k+1) (by omega) ⟨hk,h2⟩ rfl rfl
   ·rw[hq,if_pos rfl] at h2
    rw[h2]
    first|with_reducible refine ks [] (And.intro @gd @hq) ?_|refine kp (And.intro @gd @hq) ?_
    refine⟨_,(ke @gd),⟨aF,trivial⟩, ?_⟩
    rfl
  ·obtain rfl:k=l.length:=by omega
   rw[List.drop_length] at h2
   rw[h2]
   first|with_reducible refine ks [] @gd ?_|refine kp @gd ?_
   refine⟨_,(ke @gd),⟨aF,trivial⟩, ?_⟩
   rfl
theorem Ky_ (v:Value) (l:List IdL) (x:IdL) (w:World) (hv:IdS w v l) (hl:l.length<1000000):
  Rets Tryz.prog 243 #[v, .agg (a8 x.l)] w (fun v' D=>v'= .bool (l.any fun y=>x.l==y.l)∧D= []):=by
 refine Rets.enterV Tryz.func243 rfl (rs:= [.tmp 4]) Tryz.results243 Tryz.ntmps243 ?_
 refine kf ?_
 first|with_reducible refine ks [] @gd ?_|refine kp @gd ?_
 refine Ow.box rfl rfl fun b1 aQ aF=> ?_
 simp only[d9,cu,d8,aV,List.nil_append,List.cons_append]
 refine Ow.go rfl ?_
 simp(disch:=(first|assumption|omega| (simp only[cT,cS,UInt64.reduceToNat];try omega))) only[↓Sx.S0,Sx.S1,Tryz.fx,gd,Nat.reduceAdd,Nat.reducePow,Int.reducePow,Nat.reduceBEq, ↓reduceIte,UInt8.reduceToNat,UInt16.reduceToNat,UInt32.reduceToNat,UInt64.reduceToNat,Int.reduceToNat]
 first|with_reducible refine ks [] @gd ?_|refine kp @gd ?_
 refine Ow.callFV rfl Tryz.call250 (fun w' aB=>J2 v l x w' (hv.oldN aB ⟨aF,trivial⟩) hl) ?_
 refine ko @gd ?_
 refine⟨_,(ke @gd),⟨aF,trivial⟩, ?_⟩
 exact congrArg Value.bool (Ad x l 0)
end Go.Proofs
end
section
open Go Go.Proofs Go.Sx Go.StP
namespace Go.Proofs
set_option maxRecDepth 100000
set_option maxHeartbeats 400000
set_option linter.unusedSimpArgs false
structure RwL where
 id:IdL
 place:Int
 spot:Int
set_option linter.defProp false
end Go.Proofs
end
section
open Go Go.Proofs Go.Sx Go.StP
namespace Go.Proofs
set_option maxRecDepth 10000
set_option maxHeartbeats 4000000
set_option linter.unusedSimpArgs false
set_option linter.defProp false
end Go.Proofs
end
section
open Go Go.Proofs Go.Sx Go.StP
namespace Go.Proofs
set_option maxRecDepth 10000
set_option maxHeartbeats 4000000
set_option linter.unusedSimpArgs false
abbrev M7 (l:List RwL):Prop:=StP.Sorted (fun r:RwL=>r.id.l) l
abbrev Sf (l l':List RwL):Prop:=StP.St (fun r:RwL=>r.id.l) l l'
set_option linter.defProp false
end Go.Proofs
end
section
open Go Go.Proofs Go.Sx Go.StP
namespace Go.Proofs
set_option maxRecDepth 10000
set_option maxHeartbeats 4000000
set_option linter.unusedSimpArgs false
set_option linter.defProp false
end Go.Proofs
end
section
open Go Go.Proofs Go.Sx Go.StP
namespace Go.Proofs
set_option maxRecDepth 10000
set_option maxHeartbeats 4000000
set_option linter.unusedSimpArgs false
set_option linter.defProp false
end Go.Proofs
end
section
open Go Go.Proofs Go.Sx Go.StP
namespace Go.Proofs
set_option maxRecDepth 10000
set_option maxHeartbeats 4000000
set_option linter.unusedSimpArgs false
end Go.Proofs
end
section
open Go Go.Proofs Go.Sx Go.StP
namespace Go.Proofs
set_option maxRecDepth 10000
set_option maxHeartbeats 4000000
set_option linter.unusedSimpArgs false
def rws_SortOf (l Z:List RwL):Prop:=Z.length=l.length∧M7 Z∧Sf l Z
theorem rws_SortOf.eq {l Z Z':List RwL} (h:rws_SortOf l Z) (h':rws_SortOf l Z'):Z=Z':=StP.St.eq h.2.1 h'.2.1 (h.2.2.symm.trans h'.2.2)
end Go.Proofs
end
section
open Go Go.Proofs Go.Sx Go.StP
namespace Go.Proofs
set_option maxRecDepth 10000
set_option maxHeartbeats 1000000
set_option linter.unusedSimpArgs false
set_option linter.defProp false
end Go.Proofs
end
section
open Go Go.Proofs Go.Sx Go.StP
namespace Go.Proofs
set_option maxRecDepth 10000
set_option maxHeartbeats 1000000
set_option linter.unusedSimpArgs false
set_option linter.defProp false
end Go.Proofs
end
section
open Go Go.Proofs Go.Sx Go.StP
namespace Go.Proofs
set_option maxRecDepth 10000
set_option maxHeartbeats 4000000
set_option linter.unusedSimpArgs false
structure ComL where
 tree:IdL
 par:List IdL
 text:List UInt8
def ak (t:IdL) (p:Value) (x:List UInt8):List Value:=t.l.map v8++ ([p]++ [vs x])
theorem wj (t:IdL) (p:Value) (x:List UInt8): (ak t p x).length=34:=by simp[ak,t.h]
theorem SW (t:IdL) (p:Value) (x:List UInt8) (hp:Value.oneCell' p=true): (ak t p x).all Value.oneCell'=true:=by
 unfold ak
 simp only[List.all_append,List.all_cons,List.all_nil,rr,hp,Bool.and_true,Bool.true_and]
 rfl
theorem xZ (t:IdL) (p:Value) (x:List UInt8):Value.cells (.agg (ak t p x).toArray)=(ak t p x).toArray:=aV _
theorem Eh (t:IdL) (p:Value) (x:List UInt8) (E:TypeId) (fz:Nat×Nat):aI (some (true,32)) (some (.cells (ak t p x).toArray E fz)) 0=some (.agg (a8 t.l)):=by
 unfold ak;exact xu [] _ _ E fz rfl (by simp[t.h])
theorem Ei (t:IdL) (p:Value) (x:List UInt8) (n:Nat) (E:TypeId) (fz:Nat×Nat):aI (some (false,n)) (some (.cells (ak t p x).toArray E fz)) 32=some p:=by
 unfold ak;exact lS _ _ p n E fz (by simp[t.h])
theorem En (t:IdL) (p:Value) (x:List UInt8) (n:Nat) (E:TypeId) (fz:Nat×Nat):aI (some (false,n)) (some (.cells (ak t p x).toArray E fz)) 33=some (vs x):=by
 have e:ak t p x=(t.l.map v8++ [p])++ ([vs x]++ []):=by unfold ak;simp only[List.append_assoc,List.append_nil]
 rw[e];exact lS _ _ (vs x) n E fz (by simp[t.h])
theorem FB (t:IdL) (p:Value) (x:List UInt8) (E:TypeId) (fz:Nat×Nat):aI (some (true,34)) (some (.cells (ak t p x).toArray E fz)) 0=some (.agg (ak t p x).toArray):=rV _ E fz 34 (by rw[List.size_toArray,wj])
theorem Hg (old:Array Value) (t:IdL) (p:Value) (x:List UInt8) (a:Bool) (E:TypeId) (h:old.size=34) (hp:Value.oneCell' p=true):ab (some (a,34)) (some (.cells old E (0,0))) 0 (.agg (ak t p x).toArray)=some (.cells (ak t p x).toArray E (0,0)):=xh _ a old E (wj t p x) (SW t p x hp) h
def kX (l:List IdL) (i:Nat):Bool:= !((l.take i).any fun y=>(l.getD i id0).l==y.l)
def je (c:ComL):Bool:=(decide (c.par.length≤4)&&decide (c.text.length≤64))&& (List.range c.par.length).all (kX c.par)
theorem BB {c:ComL} {k:Nat} (hk:k<c.par.length) (h:kX c.par k=false):je c=false:=by
 unfold je
 have: (List.range c.par.length).all (kX c.par)=false:=by
  rw[List.all_eq_false]
  exact⟨k,List.mem_range.2 hk,by simp[h]⟩
 rw[this,Bool.and_false]
theorem A6 {c:ComL} (h: ∀i,i<c.par.length→kX c.par i=true):je c=(decide (c.par.length≤4)&&decide (c.text.length≤64)):=by
 unfold je
 have: (List.range c.par.length).all (kX c.par)=true:=List.all_eq_true.2 fun i hi=>h i (List.mem_range.1 hi)
 rw[this,Bool.and_true]
abbrev ComS (w:World) (v:Value) (c:ComL):Prop:= ∃p,v= .agg (ak c.tree p c.text).toArray∧IdS w p c.par
theorem SlV.one {α:Type} {m:Nat} {enc:α→List Value} {z:α} {w:World} {v:Value} {l:List α} (h:SlV m enc z w v l):Value.oneCell' v=true∧v.cells= #[v]:=by
 obtain⟨b,off,c,arr,E,fz,-,-,⟨rfl,-,-⟩ | ⟨rfl,-,-⟩⟩:=h<;>exact⟨rfl,rfl⟩
set_option linter.defProp false
def iY:=And.intro (And.intro (And.intro (@o5) (@mJ)) (And.intro (@pC) (And.intro (@ay) (@ax)))) (And.intro (And.intro (@Eh) (@Ei)) (And.intro (@En) (And.intro (@FB) (@xZ))))
theorem K6 (v:Value) (c:ComL) (w:World) (hv:ComS w v c) (hl:c.par.length<1000000) (ht:c.text.length<1099511627776):
  Rets Tryz.prog 229 #[v] w (fun v' D=>v'= .bool (je c)∧D= []):=by
 obtain⟨p,rfl,hp⟩:=hv
 obtain⟨b,off,arr,E,fz,hr⟩:=hp.row
 have ln:=hp.len
 refine Rets.enterV Tryz.func229 rfl (rs:= [.tmp 2]) Tryz.results229 Tryz.ntmps229 ?_
 refine kf ?_
 first|with_reducible refine ks [] @iY ?_|refine kp @iY ?_
 refine Ow.box rfl rfl fun bx jl lz=> ?_
 simp only[d9,cu,d8,aV,List.nil_append,List.cons_append]
 refine Ow.go rfl ?_
 simp(disch:=(first|assumption|omega| (simp only[cT,cS,UInt64.reduceToNat];try omega))) only[↓Sx.S0,Sx.S1,Tryz.fx,iY,Nat.reduceAdd,Nat.reducePow,Int.reducePow,Nat.reduceBEq, ↓reduceIte,UInt8.reduceToNat,UInt16.reduceToNat,UInt32.reduceToNat,UInt64.reduceToNat,Int.reduceToNat]
 first|with_reducible refine ks [] (And.intro @iY @ln) ?_|refine kp (And.intro @iY @ln) ?_
 refine Cw.loopG (G:=Nat) [9,10,11,12,4,3,13,14,15,16,17,18,2,19,8] (fun g=> [(8,vi g)]) (fun g=> [(bx, .cells (ak c.tree p c.text).toArray 172 (0,0))]) (fun g=>g≤c.par.length∧ ∀i,i<g→kX c.par i=true) (fun g=>c.par.length - g) 0 rfl rfl ?_ ?_
 ·exact⟨Nat.zero_le _,fun i hi=>absurd hi (Nat.not_lt_zero i)⟩
 ·intro k jk hk
  refine kv ?_
  obtain⟨h1,h2⟩:=hk
  by_cases hk:k<c.par.length
  ·have h0:0<c.par.length:=by omega
   have jO:=hr.lt h0
   have rC:bx≠b:=by omega
   have r2:=hr.has h0
   have i2:=hr.idx true k hk
   have l2:=rz hr hk
   obtain⟨v3,s3,E9,-⟩:=hp.take (show k≤c.par.length by omega) true
   first|with_reducible refine ks [6] (And.intro @iY (And.intro @i2 (And.intro @r2 (@l2)))) ?_|refine kp (And.intro @iY (And.intro @i2 (And.intro @r2 (@l2)))) ?_
   refine Ow.alloc rfl rfl Tryz.zr84 fun b4 gS dg=> ?_
   simp only[aV,List.nil_append,List.cons_append]
   obtain⟨h4,-⟩:=gS
   have gp:=(c.par.getD k id0).h
   refine ko @iY ?_
   refine Cw.regionS [bx,b4] [0,2,1,3,4,5] [] (by kernel_rfl) (by kernel_rfl) (by kernel_rfl) ?_
   simp only[ap, ↓ao, ↓ac, ↓aj, ↓ai,ad]
   refine kq (And.intro @iY @s3) ?_
   refine Ow.callFV rfl Tryz.call243 (fun w' aB=>Ky_ v3 (c.par.take k) (c.par.getD k id0) w' (E9.oldN aB ⟨lz,dg,trivial⟩) (by rw[List.length_take];omega)) ?_
   cases hq: (c.par.take k).any fun y=>(c.par.getD k id0).l==y.l
   ·have e1:kX c.par k=true:=by unfold kX;rw[hq];rfl
    refine kq @iY ?_
    refine Cw.forgetN [(bx, .cells (ak c.tree p c.text).toArray 172 (0,0))] (by exact⟨lz,dg,trivial⟩) (by intro p hp;simp only[List.mem_cons,List.not_mem_nil,or_false] at hp ⊢;all_goals (first| (rcases hp with rfl|hp<;>simp_all) | (subst hp;simp) |simp_all)) (by simp[keys]<;>omega) ?_
    first|with_reducible refine ks [] @iY ?_|refine kp @iY ?_
    exact Again.mk (k+1) (by omega) ⟨by omega,fun i hi=>by
     rcases Nat.lt_succ_iff_lt_or_eq.1 hi with h|rfl
     ·exact h2 i h
     ·exact e1⟩ rfl rfl
   ·have e1:kX c.par k=false:=by unfold kX;rw[hq];rfl
    rw[BB hk e1]
    refine kq @iY ?_
    refine⟨_,(ke @iY),⟨lz,dg,trivial⟩, ?_⟩
    rfl
  ·obtain rfl:k=c.par.length:=by omega
   rw[A6 h2]
   by_cases h4:c.par.length≤4
   ·have d1:decide (((c.par.length:Nat):Int)≤4)=true:=decide_eq_true (by omega)
    first|with_reducible refine ks [] (And.intro @iY (And.intro @ln (@d1))) ?_|refine kp (And.intro @iY (And.intro @ln (@d1))) ?_
    refine⟨_,(ke @iY),⟨lz,trivial⟩, ?_⟩
    rw[show decide (c.par.length≤4)=true from decide_eq_true h4,Bool.true_and];exact congrArg Value.bool (decide_eq_decide.2 (by omega))
   ·have d1:decide (((c.par.length:Nat):Int)≤4)=false:=decide_eq_false (by omega)
    first|with_reducible refine ks [] (And.intro @iY (And.intro @ln (@d1))) ?_|refine kp (And.intro @iY (And.intro @ln (@d1))) ?_
    refine⟨_,(ke @iY),⟨lz,trivial⟩, ?_⟩
    rw[show decide (c.par.length≤4)=false from decide_eq_false h4];rfl
end Go.Proofs
end
section
open Go Go.Proofs Go.Sx Go.StP
namespace Go.Proofs
set_option maxRecDepth 10000
set_option maxHeartbeats 4000000
set_option linter.unusedSimpArgs false
set_option linter.defProp false
def fj:=And.intro (And.intro (And.intro (@o5) (@mJ)) (And.intro (@pC) (And.intro (@ay) (@ax)))) (And.intro (And.intro (@Eh) (@Ei)) (And.intro (@En) (And.intro (@FB) (@xZ))))
theorem RX {l:List IdL} {k:Nat} {x:IdL} (hk:k<l.length) (h: ((l.take k).any fun y=>x.l==y.l)=false) (h2: (x.l==(l.getD k id0).l)=false): ((l.take (k+1)).any fun y=>x.l==y.l)=false:=by
 rw[take_snoc (z:=id0) hk,List.any_append,h,Bool.false_or,List.any_cons,h2];rfl
theorem UG {l:List IdL} {k i:Nat} {x:IdL} (hk:k<l.length) (hi:k<i) (h2: (x.l==(l.getD k id0).l)=true): ((l.take i).any fun y=>x.l==y.l)=true:=by
 rw[List.any_eq_true]
 refine⟨l.getD k id0, ?_,h2⟩
 rw[←Pf (l:=l) (z:=id0) hi]
 exact nX (by rw[List.length_take];omega)
theorem XL_ (v:Value) (c:ComL) (w:World) (hv:ComS w v c) (hl:c.par.length<1000000) (ht:c.text.length<1099511627776):
  Rets Tryz.prog 150 #[v] w (fun v' D=>v'= .bool (je c)∧D= []):=by
 obtain⟨p,rfl,hp⟩:=hv
 obtain⟨b,off,arr,E,fz,hr⟩:=hp.row
 have ln:=hp.len
 refine Rets.enterV Tryz.func150 rfl (rs:= [.tmp 2]) Tryz.results150 Tryz.ntmps150 ?_
 refine kf ?_
 first|with_reducible refine ks [] @fj ?_|refine kp @fj ?_
 refine Ow.box rfl rfl fun bx jl lz=> ?_
 simp only[d9,cu,d8,aV,List.nil_append,List.cons_append]
 refine Ow.go rfl ?_
 simp(disch:=(first|assumption|omega| (simp only[cT,cS,UInt64.reduceToNat];try omega))) only[↓Sx.S0,Sx.S1,Tryz.fx,fj,Nat.reduceAdd,Nat.reducePow,Int.reducePow,Nat.reduceBEq, ↓reduceIte,UInt8.reduceToNat,UInt16.reduceToNat,UInt32.reduceToNat,UInt64.reduceToNat,Int.reduceToNat]
 by_cases h4:4<c.par.length
 ·have d1:decide (4< ((c.par.length:Nat):Int))=true:=decide_eq_true (by omega)
  first|with_reducible refine ks [] (And.intro @fj (And.intro @ln (@d1))) ?_|refine kp (And.intro @fj (And.intro @ln (@d1))) ?_
  have:je c=false:=by unfold je;rw[show decide (c.par.length≤4)=false from decide_eq_false (by omega)];rfl
  rw[this]
  refine⟨_,(ke @fj),⟨lz,trivial⟩, ?_⟩
  rfl
 have d1:decide (4< ((c.par.length:Nat):Int))=false:=decide_eq_false (by omega)
 by_cases li:64<c.text.length
 ·have d2:decide (64< ((c.text.length:Nat):Int))=true:=decide_eq_true (by omega)
  first|with_reducible refine ks [] (And.intro @fj (And.intro @ln (And.intro @d1 (@d2)))) ?_|refine kp (And.intro @fj (And.intro @ln (And.intro @d1 (@d2)))) ?_
  have:je c=false:=by unfold je;rw[show decide (c.text.length≤64)=false from decide_eq_false (by omega),Bool.and_false];rfl
  rw[this]
  refine⟨_,(ke @fj),⟨lz,trivial⟩, ?_⟩
  rfl
 have d2:decide (64< ((c.text.length:Nat):Int))=false:=decide_eq_false (by omega)
 first|with_reducible refine ks [] (And.intro @fj (And.intro @ln (And.intro @d1 (@d2)))) ?_|refine kp (And.intro @fj (And.intro @ln (And.intro @d1 (@d2)))) ?_
 refine Cw.loopG (G:=Nat) [15,16,17,18,19,4,22,23,24,27,28,29,30,31,32,33,34,35,36,37,2,25,26,20,21,3] (fun g=> [(3,vi g)]) (fun g=> [(bx, .cells (ak c.tree p c.text).toArray 172 (0,0))]) (fun g=>g≤c.par.length∧ ∀i,i<g→kX c.par i=true) (fun g=>c.par.length - g) 0 rfl rfl ?_ ?_
 ·exact⟨Nat.zero_le _,fun i hi=>absurd hi (Nat.not_lt_zero i)⟩
 ·intro i ji hi
  refine kv ?_
  obtain⟨h1,h2⟩:=hi
  by_cases hi:i<c.par.length
  ·have h0:0<c.par.length:=by omega
   have jO:=hr.lt h0
   have rC:bx≠b:=by omega
   have r2:=hr.has h0
   have i2:=hr.idx true i hi
   have l2:=rz hr hi
   first|with_reducible refine ks [] (And.intro @fj @ln) ?_|refine kp (And.intro @fj @ln) ?_
   refine Cw.loopG (G:=Nat) [22,23,24,27,28,29,30,31,32,33,34,35,36,37,2,25,26,4] (fun g=> [(4,vi g)]) (fun g=> [(bx, .cells (ak c.tree p c.text).toArray 172 (0,0))]) (fun g=>g≤i∧((c.par.take g).any fun y=>(c.par.getD i id0).l==y.l)=false) (fun g=>i - g) 0 rfl rfl ?_ ?_
   ·exact⟨Nat.zero_le _,rfl⟩
   ·intro k jk hk
    refine kv ?_
    obtain⟨g1,g2⟩:=hk
    by_cases hk:k<i
    ·have i3:=hr.idx true k (show k<c.par.length by omega)
     have l3:=rz hr (show k<c.par.length by omega)
     first|with_reducible refine ks [] @fj ?_|refine kp @fj ?_
     refine Cw.regionS [bx,b] [0,2,5,7,1,3,4,6,8,9,10] [] (by kernel_rfl) (by kernel_rfl) (by kernel_rfl) ?_
     simp only[ap, ↓ao, ↓ac, ↓aj, ↓ai,ad]
     refine kq (And.intro @fj (And.intro @i2 (And.intro @r2 (And.intro @l2 (And.intro @i3 (@l3)))))) ?_
     cases hq: ((c.par.getD i id0).l==(c.par.getD k id0).l)
     ·first|with_reducible refine ks [] (And.intro @fj @hq) ?_|refine kp (And.intro @fj @hq) ?_
      exact Again.mk (k+1) (by omega) ⟨by omega,RX (by omega) g2 hq⟩ rfl rfl
     ·have e1:kX c.par i=false:=by unfold kX;rw[UG (by omega) hk hq];rfl
      rw[BB hi e1]
      first|with_reducible refine ks [] (And.intro @fj @hq) ?_|refine kp (And.intro @fj @hq) ?_
      refine⟨_,(ke @fj),⟨lz,trivial⟩, ?_⟩
      rfl
    ·obtain rfl:k=i:=by omega
     have e1:kX c.par k=true:=by unfold kX;rw[g2];rfl
     first|with_reducible refine ks [] @fj ?_|refine kp @fj ?_
     exact Again.mk (k+1) (by omega) ⟨by omega,fun i hi=>by
      rcases Nat.lt_succ_iff_lt_or_eq.1 hi with h|rfl
      ·exact h2 i h
      ·exact e1⟩ rfl rfl
  ·obtain rfl:i=c.par.length:=by omega
   rw[A6 h2,show decide (c.par.length≤4)=true from decide_eq_true (by omega),show decide (c.text.length≤64)=true from decide_eq_true (by omega)]
   first|with_reducible refine ks [] (And.intro @fj @ln) ?_|refine kp (And.intro @fj @ln) ?_
   refine⟨_,(ke @fj),⟨lz,trivial⟩, ?_⟩
   rfl
end Go.Proofs
end
section
open Go Go.Proofs Go.Sx
namespace Go.Proofs
set_option maxRecDepth 10000
set_option maxHeartbeats 4000000
set_option linter.unusedSimpArgs false
theorem EP {n:Nat} (h:n<1099511627776):fC (n:Int)=n:=by unfold fC maxN;omega
theorem Xv: ∀ (k:Nat) (n:Int) (w:World),fC n≤k→
  Rets Tryz.prog 184 #[vi n] w (fun v D=>v=vs (eH (fC n))∧D= []):=by
 intro k
 induction k using Nat.strongRecOn with
 |ind k ih=>
  intro n w hk
  refine Rets.enterV Tryz.func184 rfl (rs:= [.tmp 2]) Tryz.results184 Tryz.ntmps184 ?_
  refine kf ?_
  by_cases h0:n<0
  ·have d1:decide (n<0)=true:=decide_eq_true h0
   have e:fC n=0:=by unfold fC maxN;omega
   rw[e]
   first|with_reducible refine ks [] @d1 ?_|refine kp @d1 ?_
   refine Ow.buildSlice (e:=5) #[v8 0] rfl rfl (by kernel_rfl) fun b1 aQ aF=> ?_
   rw[show(#[v8 0]:Array Value)=a8 [0] from rfl]
   refine ko @Nat.add_zero ?_
   first|with_reducible refine ks [] @Nat.add_zero ?_|refine kp @Nat.add_zero ?_
   refine⟨_,(ke @Nat.add_zero),⟨aF,trivial⟩, ?_⟩
   rw[sx (by omega)];rfl
  ·have d1:decide (n<0)=false:=decide_eq_false h0
   generalize hm:fC n=m at hk ⊢
   have lu:m≤1099511627775:=by unfold fC maxN at hm;omega
   by_cases h1:n>1099511627775
   ·have d2:decide (1099511627775<n)=true:=decide_eq_true h1
    have e: (1099511627775:Int)=(m:Int):=by unfold fC maxN at hm;omega
    first|with_reducible refine ks [5] (And.intro @d1 @d2) ?_|refine kp (And.intro @d1 @d2) ?_
    rw[e]
    by_cases h2:m<128
    ·have d3:decide ((m:Int)<128)=true:=decide_eq_true (by omega)
     rw[sx h2]
     first|with_reducible refine ks [] (And.intro @d1 @d3) ?_|refine kp (And.intro @d1 @d3) ?_
     generalize hc:UInt8.ofInt (m:Int)=c
     have gn:c=UInt8.ofNat m:=by rw[←hc,ws]
     refine Ow.buildSlice (e:=5) #[v8 c] rfl rfl (by kernel_rfl) fun b1 aQ aF=> ?_
     rw[show(#[v8 c]:Array Value)=a8 [c] from rfl]
     have e4:List.take 1 (List.drop 0 [c])= [c]:=rfl
     refine ko @e4 ?_
     first|with_reducible refine ks [] @Nat.add_zero ?_|refine kp @Nat.add_zero ?_
     refine⟨_,(ke @Nat.add_zero),⟨aF,trivial⟩, ?_⟩
     rw[gn];rfl
    ·have d3:decide ((m:Int)<128)=false:=decide_eq_false (by omega)
     have ih2:=fun w=>ih (m / 128) (by omega) ((m / 128:Nat):Int) w (by rw[EP (by omega)];omega)
     rw[EP (by omega)] at ih2
     have i9:=EK 6 (m / 128) (by omega) (by omega)
     rw[wO h2]
     first|with_reducible refine ks [] (And.intro @d1 @d3) ?_|refine kp (And.intro @d1 @d3) ?_
     refine Cw.regionK 11 (by kernel_rfl) (by kernel_rfl) ?_
     refine OwK.run [0,1,2,3,6,7] [true,true,true,true,false,false,true,true,false,false,false] 5 rfl (by kernel_rfl) (by kernel_rfl) fun k hk=> ?_
     simp only[ap, ↓ao, ↓ac, ↓aj, ↓ai,ad]
     simp(disch:=(first|assumption|omega| (simp only[cT,cS,UInt64.reduceToNat];try omega))) only[↓Sx.S0,Sx.S1,Tryz.fx,Nat.reduceAdd,Nat.reducePow,Int.reducePow,Nat.reduceBEq, ↓reduceIte,UInt8.reduceToNat,UInt16.reduceToNat,UInt32.reduceToNat,UInt64.reduceToNat,Int.reduceToNat]
     (with_reducible refine hk _ _ _ ?_);clear hk k
     generalize hc:UInt8.ofInt ((m:Int)%128+128)=c
     have gn:c=UInt8.ofNat (m%128+128):=by rw[←hc,show((m:Int)%128+128)=((m%128+128:Nat):Int) from rfl,ws]
     rw[show(m:Int) / 128=((m / 128:Nat):Int) from rfl]
     refine OwK.two 4 8 _ _ (by kernel_rfl) rfl rfl ?_ ?_
     ·refine Ow.buildSlice (e:=5) #[v8 c] rfl rfl (by kernel_rfl) fun b1 aQ aF=> ?_
      rw[show(#[v8 c]:Array Value)=a8 [c] from rfl]
      have e4:List.take 1 (List.drop 0 [c])= [c]:=rfl
      refine ko @e4 ?_
      try with_reducible refine Ow.nil ?_
      refine OwK.two 5 8 _ _ (by kernel_rfl) rfl rfl ?_ ?_
      ·refine ko @e4 ?_
       refine OwK.rest [8,9,10] [4,8] rfl (by kernel_rfl) (by kernel_rfl) ?_
       simp only[ap, ↓ao, ↓ac, ↓aj, ↓ai,ad]
       refine Ow.callFV rfl Tryz.call184 (fun w' aB=>ih2 w') ?_
       refine ko @Nat.add_zero ?_
       first|with_reducible refine ks [] @Nat.add_zero ?_|refine kp @Nat.add_zero ?_
       refine⟨_,(ke @Nat.add_zero),⟨aF,trivial⟩, ?_⟩
       rw[gn];rfl
      ·refine Ow.callFV rfl Tryz.call184 (fun w' aB=>ih2 w') ?_
       refine ko @Nat.add_zero ?_
       refine OwK.rest [5,9,10] [4,8] rfl (by kernel_rfl) (by kernel_rfl) ?_
       simp only[ap, ↓ao, ↓ac, ↓aj, ↓ai,ad]
       refine ko @e4 ?_
       first|with_reducible refine ks [] @Nat.add_zero ?_|refine kp @Nat.add_zero ?_
       refine⟨_,(ke @Nat.add_zero),⟨aF,trivial⟩, ?_⟩
       rw[gn];rfl
     ·refine Ow.callFV rfl Tryz.call184 (fun w' aB=>ih2 w') ?_
      refine ko @Nat.add_zero ?_
      refine OwK.rest [4,5,9,10] [4,8] rfl (by kernel_rfl) (by kernel_rfl) ?_
      simp only[ap, ↓ao, ↓ac, ↓aj, ↓ai,ad]
      refine Ow.buildSlice (e:=5) #[v8 c] rfl rfl (by kernel_rfl) fun b1 aQ aF=> ?_
      rw[show(#[v8 c]:Array Value)=a8 [c] from rfl]
      have e4:List.take 1 (List.drop 0 [c])= [c]:=rfl
      refine ko @e4 ?_
      first|with_reducible refine ks [] @Nat.add_zero ?_|refine kp @Nat.add_zero ?_
      refine⟨_,(ke @Nat.add_zero),⟨aF,trivial⟩, ?_⟩
      rw[gn];rfl
   ·have d2:decide (1099511627775<n)=false:=decide_eq_false h1
    have e:n=(m:Int):=by unfold fC maxN at hm;omega
    subst e
    first|with_reducible refine ks [5] (And.intro @d1 @d2) ?_|refine kp (And.intro @d1 @d2) ?_
    by_cases h2:m<128
    ·have d3:decide ((m:Int)<128)=true:=decide_eq_true (by omega)
     rw[sx h2]
     first|with_reducible refine ks [] (And.intro @d1 @d3) ?_|refine kp (And.intro @d1 @d3) ?_
     generalize hc:UInt8.ofInt (m:Int)=c
     have gn:c=UInt8.ofNat m:=by rw[←hc,ws]
     refine Ow.buildSlice (e:=5) #[v8 c] rfl rfl (by kernel_rfl) fun b1 aQ aF=> ?_
     rw[show(#[v8 c]:Array Value)=a8 [c] from rfl]
     have e4:List.take 1 (List.drop 0 [c])= [c]:=rfl
     refine ko @e4 ?_
     first|with_reducible refine ks [] @Nat.add_zero ?_|refine kp @Nat.add_zero ?_
     refine⟨_,(ke @Nat.add_zero),⟨aF,trivial⟩, ?_⟩
     rw[gn];rfl
    ·have d3:decide ((m:Int)<128)=false:=decide_eq_false (by omega)
     have ih2:=fun w=>ih (m / 128) (by omega) ((m / 128:Nat):Int) w (by rw[EP (by omega)];omega)
     rw[EP (by omega)] at ih2
     have i9:=EK 6 (m / 128) (by omega) (by omega)
     rw[wO h2]
     first|with_reducible refine ks [] (And.intro @d1 @d3) ?_|refine kp (And.intro @d1 @d3) ?_
     refine Cw.regionK 11 (by kernel_rfl) (by kernel_rfl) ?_
     refine OwK.run [0,1,2,3,6,7] [true,true,true,true,false,false,true,true,false,false,false] 5 rfl (by kernel_rfl) (by kernel_rfl) fun k hk=> ?_
     simp only[ap, ↓ao, ↓ac, ↓aj, ↓ai,ad]
     simp(disch:=(first|assumption|omega| (simp only[cT,cS,UInt64.reduceToNat];try omega))) only[↓Sx.S0,Sx.S1,Tryz.fx,Nat.reduceAdd,Nat.reducePow,Int.reducePow,Nat.reduceBEq, ↓reduceIte,UInt8.reduceToNat,UInt16.reduceToNat,UInt32.reduceToNat,UInt64.reduceToNat,Int.reduceToNat]
     (with_reducible refine hk _ _ _ ?_);clear hk k
     generalize hc:UInt8.ofInt ((m:Int)%128+128)=c
     have gn:c=UInt8.ofNat (m%128+128):=by rw[←hc,show((m:Int)%128+128)=((m%128+128:Nat):Int) from rfl,ws]
     rw[show(m:Int) / 128=((m / 128:Nat):Int) from rfl]
     refine OwK.two 4 8 _ _ (by kernel_rfl) rfl rfl ?_ ?_
     ·refine Ow.buildSlice (e:=5) #[v8 c] rfl rfl (by kernel_rfl) fun b1 aQ aF=> ?_
      rw[show(#[v8 c]:Array Value)=a8 [c] from rfl]
      have e4:List.take 1 (List.drop 0 [c])= [c]:=rfl
      refine ko @e4 ?_
      try with_reducible refine Ow.nil ?_
      refine OwK.two 5 8 _ _ (by kernel_rfl) rfl rfl ?_ ?_
      ·refine ko @e4 ?_
       refine OwK.rest [8,9,10] [4,8] rfl (by kernel_rfl) (by kernel_rfl) ?_
       simp only[ap, ↓ao, ↓ac, ↓aj, ↓ai,ad]
       refine Ow.callFV rfl Tryz.call184 (fun w' aB=>ih2 w') ?_
       refine ko @Nat.add_zero ?_
       first|with_reducible refine ks [] @Nat.add_zero ?_|refine kp @Nat.add_zero ?_
       refine⟨_,(ke @Nat.add_zero),⟨aF,trivial⟩, ?_⟩
       rw[gn];rfl
      ·refine Ow.callFV rfl Tryz.call184 (fun w' aB=>ih2 w') ?_
       refine ko @Nat.add_zero ?_
       refine OwK.rest [5,9,10] [4,8] rfl (by kernel_rfl) (by kernel_rfl) ?_
       simp only[ap, ↓ao, ↓ac, ↓aj, ↓ai,ad]
       refine ko @e4 ?_
       first|with_reducible refine ks [] @Nat.add_zero ?_|refine kp @Nat.add_zero ?_
       refine⟨_,(ke @Nat.add_zero),⟨aF,trivial⟩, ?_⟩
       rw[gn];rfl
     ·refine Ow.callFV rfl Tryz.call184 (fun w' aB=>ih2 w') ?_
      refine ko @Nat.add_zero ?_
      refine OwK.rest [4,5,9,10] [4,8] rfl (by kernel_rfl) (by kernel_rfl) ?_
      simp only[ap, ↓ao, ↓ac, ↓aj, ↓ai,ad]
      refine Ow.buildSlice (e:=5) #[v8 c] rfl rfl (by kernel_rfl) fun b1 aQ aF=> ?_
      rw[show(#[v8 c]:Array Value)=a8 [c] from rfl]
      have e4:List.take 1 (List.drop 0 [c])= [c]:=rfl
      refine ko @e4 ?_
      first|with_reducible refine ks [] @Nat.add_zero ?_|refine kp @Nat.add_zero ?_
      refine⟨_,(ke @Nat.add_zero),⟨aF,trivial⟩, ?_⟩
      rw[gn];rfl
theorem EQ (s:List UInt8) (w:World) (hs:s.length<1099511627776):
  Rets Tryz.prog 154 #[vs s] w (fun v D=>v=vs (eo s)∧D= []):=by
 have da:=nY (s.length:Int)
 refine Rets.enterV Tryz.func154 rfl (rs:= [.tmp 2]) Tryz.results154 Tryz.ntmps154 ?_
 refine kf ?_
 first|with_reducible refine ks [] @Nat.add_zero ?_|refine kp @Nat.add_zero ?_
 refine Ow.callFV rfl Tryz.call184 (fun w' aB=>Xv _ _ w' (Nat.le_refl _)) ?_
 refine ko @Nat.add_zero ?_
 first|with_reducible refine ks [] @Nat.add_zero ?_|refine kp @Nat.add_zero ?_
 refine⟨_,(ke @Nat.add_zero),trivial, ?_⟩
 rfl
theorem tV (x:IdL) (w:World):
  Rets Tryz.prog 185 #[.agg (a8 x.l)] w (fun v D=>v=vs x.l∧D= []):=by
 have gp:=x.h
 refine Rets.enterV Tryz.func185 rfl (rs:= [.tmp 2]) Tryz.results185 Tryz.ntmps185 ?_
 refine kf ?_
 first|with_reducible refine ks [] @Nat.add_zero ?_|refine kp @Nat.add_zero ?_
 refine Ow.box rfl rfl fun bx jl lz=> ?_
 simp only[d9,cu,d8,aV,List.nil_append,List.cons_append]
 refine Ow.go rfl ?_
 simp(disch:=(first|assumption|omega| (simp only[cT,cS,UInt64.reduceToNat];try omega))) only[↓Sx.S0,Sx.S1,Tryz.fx,Nat.reduceAdd,Nat.reducePow,Int.reducePow,Nat.reduceBEq, ↓reduceIte,UInt8.reduceToNat,UInt16.reduceToNat,UInt32.reduceToNat,UInt64.reduceToNat,Int.reduceToNat]
 have e4:List.take 32 (List.drop 0 x.l)=x.l:=by rw[List.drop_zero,List.take_of_length_le (by omega)]
 first|with_reducible refine ks [] @e4 ?_|refine kp @e4 ?_
 refine⟨_,(ke @Nat.add_zero),⟨lz,trivial⟩, ?_⟩
 rfl
end Go.Proofs
end
section
open Go Go.Proofs Go.Sx Go.StP
namespace Go.Proofs
set_option maxRecDepth 10000
set_option maxHeartbeats 400000
set_option linter.unusedSimpArgs false
set_option linter.defProp false
def nb:=And.intro (And.intro (And.intro (@HT) (@Hf)) (And.intro (@HI) (@y3))) (And.intro (And.intro (@xO) (@wI)) (And.intro (@ay) (@ax)))
def entB (e:EntL):List UInt8:=(eH (fC e.kind)++eo e.name)++e.id.l
def iG (l:List EntL):List UInt8:=(l.map entB).flatten
theorem yY {l:List EntL} {k:Nat} (hk:k<l.length):iG (l.take (k+1))=iG (l.take k)++entB (l.getD k bJ):=by
 unfold iG
 rw[List.take_succ_eq_append_getElem hk,List.map_append,List.flatten_append,List.getD_eq_getElem?_getD,List.getElem?_eq_getElem hk]
 simp
theorem LS {l:List EntL} {k:Nat} (hk:k<l.length):iG (l.take (k+1))=iG (l.take k)++eH (fC (l.getD k bJ).kind)++eo (l.getD k bJ).name++ (l.getD k bJ).id.l:=by
 rw[yY hk];simp only[entB,List.append_assoc]
theorem xc {s:List UInt8} (h:s.length<1099511627776): (eo s).length<1099511627783:=by
 have:=nY (s.length:Int)
 unfold eo;rw[List.length_append];omega
theorem zd {l:List EntL} (g4:nk l): ∀k,k≤l.length→(iG (l.take k)).length≤k*1099511627830
 |0,_=>by simp[iG]
 |k+1,hk=>by
  have ih:=zd g4 k (by omega)
  have h1:=xc (g4 k hk)
  have h2:=nY (l.getD k bJ).kind
  have h3:=(l.getD k bJ).id.h
  rw[yY hk]
  unfold entB
  simp only[List.length_append]
  omega
theorem I1 (v:Value) (l:List EntL) (w:World) (hv:EntS w v l) (hl:l.length<1000000) (g4:nk l):
  Rets Tryz.prog 149 #[v] w (fun v' D=>v'=vs (iG l)∧D= []):=by
 obtain⟨b,off,arr,E,fz,hr⟩:=hv.row
 have ln:=hv.len
 refine Rets.enterV Tryz.func149 rfl (rs:= [.tmp 2]) Tryz.results149 Tryz.ntmps149 ?_
 refine kf ?_
 first|with_reducible refine ks [] (And.intro @nb @ln) ?_|refine kp (And.intro @nb @ln) ?_
 refine Cw.loopG (G:=Nat) [5,6,7,8,11,12,13,14,15,16,17,18,19,20,21,22,23,24,25,26,27,28,29,30,31,32,3,9,10,4] (fun g=> [(3,vs (iG (l.take g))),(4,vi g)]) (fun g=> []) (fun g=>g≤l.length) (fun g=>l.length - g) 0 rfl rfl ?_ ?_
 ·exact Nat.zero_le _
 ·intro k jk hk
  refine kv ?_
  have h1:k≤l.length:=hk
  clear hk
  by_cases hk:k<l.length
  ·have h0:0<l.length:=by omega
   have jO:=hr.lt h0
   have r2:=hr.has h0
   have i2:=hr.idx true k hk
   have m0: ∀n,aI (some (false,n)) (some (.cells arr E fz)) (off+k*34)=some (vs (l.getD k bJ).name):=fun n=>xz hr hk n
   have m1: ∀n,aI (some (false,n)) (some (.cells arr E fz)) (off+k*34+1)=some (vi (l.getD k bJ).kind):=fun n=>Ap hr hk n
   have m2:aI (some (true,32)) (some (.cells arr E fz)) (off+k*34+2)=some (.agg (a8 (l.getD k bJ).id.l)):=Qg hr hk
   have hs:=g4 k hk
   have t1:=zd g4 k h1
   have t2:=xc hs
   have t3:=nY (l.getD k bJ).kind
   have t4:=(l.getD k bJ).id.h
   first|with_reducible refine ks [] (And.intro @nb @ln) ?_|refine kp (And.intro @nb @ln) ?_
   refine Cw.regionS [b] [0,1,2,3,4,8,9,10,11,15,16,17,18,5,12,19,6,7,13,14,20,21,22] [] (by kernel_rfl) (by kernel_rfl) (by kernel_rfl) ?_
   simp only[ap, ↓ao, ↓ac, ↓aj, ↓ai,ad]
   refine kq (And.intro @nb (And.intro @r2 (And.intro @i2 (And.intro @m0 (And.intro @m1 (@m2)))))) ?_
   refine Ow.callFV rfl Tryz.call184 (fun w' aB=>Xv _ _ w' (Nat.le_refl _)) ?_
   refine kq (And.intro @nb (And.intro @r2 (And.intro @i2 (And.intro @m0 (And.intro @m1 (@m2)))))) ?_
   refine Ow.callFV rfl Tryz.call154 (fun w' aB=>EQ _ w' hs) ?_
   refine kq (And.intro @nb (And.intro @r2 (And.intro @i2 (And.intro @m0 (And.intro @m1 (@m2)))))) ?_
   refine Ow.callFV rfl Tryz.call185 (fun w' aB=>tV _ w') ?_
   refine kq (And.intro @nb (And.intro @r2 (And.intro @i2 (And.intro @m0 (And.intro @m1 (@m2)))))) ?_
   exact Again.mk (k+1) (by omega) (by omega) rfl (by rw[LS hk];rfl)
  ·obtain rfl:k=l.length:=by omega
   first|with_reducible refine ks [] (And.intro @nb @ln) ?_|refine kp (And.intro @nb @ln) ?_
   refine⟨_,(ke @nb),trivial, ?_⟩
   rw[List.take_length];rfl
def idsB (l:List IdL):List UInt8:=(l.map IdL.l).flatten
theorem Ob {l:List IdL} {k:Nat} (hk:k<l.length):idsB (l.take (k+1))=idsB (l.take k)++ (l.getD k id0).l:=by
 unfold idsB
 rw[List.take_succ_eq_append_getElem hk,List.map_append,List.flatten_append,List.getD_eq_getElem?_getD,List.getElem?_eq_getElem hk]
 simp
theorem AZ: ∀ (l:List IdL),(idsB l).length=l.length*32
 | []=>rfl
 |x::r=>by
  have h:=AZ r
  have:=x.h
  unfold idsB at h ⊢
  rw[List.map_cons,List.flatten_cons,List.length_append,h,List.length_cons]
  omega
def kz (c:ComL):List UInt8:=c.tree.l++eH (fC c.par.length)
def comB (c:ComL):List UInt8:=kz c++idsB c.par++eo c.text
set_option linter.defProp false
def kb:=And.intro (And.intro (And.intro (@o5) (@mJ)) (And.intro (@pC) (And.intro (@ay) (@ax)))) (And.intro (And.intro (@Eh) (@Ei)) (And.intro (@En) (And.intro (@FB) (@xZ))))
theorem VF_ (v:Value) (c:ComL) (w:World) (hv:ComS w v c) (hl:c.par.length<1000000) (ht:c.text.length<1099511627776):
  Rets Tryz.prog 151 #[v] w (fun v' D=>v'=vs (comB c)∧D= []):=by
 obtain⟨p,rfl,hp⟩:=hv
 obtain⟨b,off,arr,E,fz,hr⟩:=hp.row
 have ln:=hp.len
 have t2:=xc ht
 have t3:=nY (c.par.length:Int)
 have t4:=c.tree.h
 have t5: (kz c).length≤38:=by unfold kz;rw[List.length_append];omega
 refine Rets.enterV Tryz.func151 rfl (rs:= [.tmp 2]) Tryz.results151 Tryz.ntmps151 ?_
 refine kf ?_
 first|with_reducible refine ks [] @kb ?_|refine kp @kb ?_
 refine Ow.box rfl rfl fun bx jl lz=> ?_
 simp only[d9,cu,d8,aV,List.nil_append,List.cons_append]
 refine Ow.go rfl ?_
 simp(disch:=(first|assumption|omega| (simp only[cT,cS,UInt64.reduceToNat];try omega))) only[↓Sx.S0,Sx.S1,Tryz.fx,kb,Nat.reduceAdd,Nat.reducePow,Int.reducePow,Nat.reduceBEq, ↓reduceIte,UInt8.reduceToNat,UInt16.reduceToNat,UInt32.reduceToNat,UInt64.reduceToNat,Int.reduceToNat]
 first|with_reducible refine ks [] (And.intro @kb @ln) ?_|refine kp (And.intro @kb @ln) ?_
 refine Cw.regionS [bx] [0,3,1,4,5,2,6,7,8] [] (by kernel_rfl) (by kernel_rfl) (by kernel_rfl) ?_
 simp only[ap, ↓ao, ↓ac, ↓aj, ↓ai,ad]
 refine kq (And.intro @kb @ln) ?_
 refine Ow.callFV rfl Tryz.call185 (fun w' aB=>tV _ w') ?_
 refine kq (And.intro @kb @ln) ?_
 refine Ow.callFV rfl Tryz.call184 (fun w' aB=>Xv _ _ w' (Nat.le_refl _)) ?_
 refine kq (And.intro @kb @ln) ?_
 rw[show c.tree.l++eH (fC c.par.length)=kz c++idsB (c.par.take 0) by simp[kz,idsB]]
 refine Cw.loopG (G:=Nat) [13,14,15,16,17,20,21,22,23,24,25,26,27,3,18,19,4] (fun g=> [(3,vs (kz c++idsB (c.par.take g))),(4,vi g)]) (fun g=> [(bx, .cells (ak c.tree p c.text).toArray 172 (0,0))]) (fun g=>g≤c.par.length) (fun g=>c.par.length - g) 0 rfl rfl ?_ ?_
 ·exact Nat.zero_le _
 ·intro k jk hk
  refine kv ?_
  have h1:k≤c.par.length:=hk
  clear hk
  have t6:=AZ (c.par.take k)
  rw[List.length_take,Nat.min_eq_left h1] at t6
  by_cases hk:k<c.par.length
  ·have h0:0<c.par.length:=by omega
   have jO:=hr.lt h0
   have rC:bx≠b:=by omega
   have r2:=hr.has h0
   have i2:=hr.idx true k hk
   have l2:=rz hr hk
   have gp:=(c.par.getD k id0).h
   first|with_reducible refine ks [] (And.intro @kb (And.intro @ln (And.intro @r2 (And.intro @i2 (@l2))))) ?_|refine kp (And.intro @kb (And.intro @ln (And.intro @r2 (And.intro @i2 (@l2))))) ?_
   refine Ow.callFV rfl Tryz.call185 (fun w' aB=>tV _ w') ?_
   refine ko (And.intro @kb (And.intro @ln (And.intro @r2 (And.intro @i2 (@l2))))) ?_
   exact Again.mk (k+1) (by omega) (by omega) rfl (by rw[Ob hk,←List.append_assoc];rfl)
  ·obtain rfl:k=c.par.length:=by omega
   rw[List.take_length]
   rw[List.take_length] at t6
   first|with_reducible refine ks [] (And.intro @kb @ln) ?_|refine kp (And.intro @kb @ln) ?_
   refine Ow.callFV rfl Tryz.call154 (fun w' aB=>EQ _ w' ht) ?_
   refine ko @kb ?_
   refine⟨_,(ke @kb),⟨lz,trivial⟩, ?_⟩
   rfl
end Go.Proofs
end
section
open Go Go.Proofs Go.Sx Go.StP
namespace Go.Proofs
set_option maxRecDepth 10000
set_option maxHeartbeats 400000
set_option linter.unusedSimpArgs false
instance:DecidableEq EntL:=fun a b=>if h:a.name=b.name∧a.kind=b.kind∧a.id.l=b.id.l then .isTrue (by cases a;cases b;simp only at h;obtain⟨rfl,rfl,h3⟩:=h;rw[IdL.ext' h3]) else .isFalse (fun e=>h (by rw[e];exact⟨rfl,rfl,rfl⟩))
theorem EntL.ext' {a b:EntL} (h: (a.name==b.name&&a.kind==b.kind&&a.id.l==b.id.l)=true):a=b:=by
 simp only[Bool.and_eq_true,beq_iff_eq] at h
 cases a;cases b;simp only at h;obtain⟨⟨rfl,rfl⟩,h3⟩:=h;rw[IdL.ext' h3]
set_option linter.defProp false
end Go.Proofs
end
section
open Go Go.Proofs Go.Sx Go.StP
namespace Go.Proofs
set_option maxRecDepth 10000
set_option maxHeartbeats 400000
set_option linter.unusedSimpArgs false
set_option linter.defProp false
end Go.Proofs
end
section
open Go Go.Proofs Go.Sx Go.StP
namespace Go.Proofs
set_option maxRecDepth 10000
set_option maxHeartbeats 400000
set_option linter.unusedSimpArgs false
def kC (l:List UInt8):IdL:=if h:l.length=32 then⟨l,h⟩ else id0
theorem wM {l:List UInt8} (h:l.length=32): (kC l).l=l:=by unfold kC;rw[dif_pos h]
theorem tH (s:List UInt8) (a:Nat) (e:Int): (idR s a e).1.length=32:=by
 unfold idR
 simp only
 split
 ·assumption
 ·simp[z32]
theorem mH {s:List UInt8} {a:Nat} {e:Int} (ha:a≤s.length):a≤ (idR s a e).2.1∧(idR s a e).2.1≤s.length:=wc ha
theorem rY {s:List UInt8} {a:Nat} {e most:Int} (ha:a≤s.length):a≤ (an s a e most).2.1∧(an s a e most).2.1≤s.length:=by
 have hp:=iD (e:=e) (most:=most) ha
 have hq:=wc (e:=(aE s a e most).2.2) (n:=(aE s a e most).1) hp.2
 unfold an
 simp only
 split
 ·exact⟨Nat.le_refl _,ha⟩
 ·exact⟨by omega,hq.2⟩
theorem Ew (s:List UInt8) (a:Nat) (e most:Int): (an s a e most).1.length≤s.length:=by
 have: ∀ (b:Nat) (e n:Int),(az s b e n).1.length≤s.length:=by
  intro b e n
  unfold az
  split
  ·simp
  ·split
   ·simp
   ·split
    ·simp
    ·simp only[List.length_take,List.length_drop];omega
 unfold an
 simp only
 split
 ·simp
 ·exact this _ _ _
theorem qg {s:List UInt8} {a:Nat} {e n:Int} (he:e≠0): (az s a e n).2=(a,e):=by unfold az;rw[if_pos he]
theorem ue {s:List UInt8} {a:Nat} {e most:Int} (he:e≠0): (aE s a e most).2=(a,e):=by unfold aE;rw[if_pos he]
theorem qK {s:List UInt8} {a:Nat} {e most:Int} (he:e≠0): (an s a e most).2=(a,e):=by
 unfold an
 simp only[ue he,qg he]
 rw[if_pos he]
theorem nx {s:List UInt8} {a:Nat} {e:Int} (he:e≠0): (idR s a e).2=(a,e):=by unfold idR;simp only[qg he]
theorem uT {s:List UInt8} {a:Nat} {e n:Int} (h:e≠5): (az s a e n).2.2≠5:=by
 unfold az
 split
 ·exact h
 ·split
  ·show(2:Int)≠5;decide
  ·split
   ·show(3:Int)≠5;decide
   ·show(0:Int)≠5;decide
theorem TM (most:Int): ∀ (l:List UInt8) (k n x:Nat),bU most l k n= .error x→x≠5:=by
 intro l
 induction l with
 |nil=>intro k n x h;unfold bU at h;cases h;decide
 |cons c r ih=>
  intro k n x h
  unfold bU at h
  split at h
  ·split at h
   ·cases h;decide
   ·exact ih _ _ _ h
  ·split at h
   ·cases h;decide
   ·split at h
    ·cases h
    ·cases h;decide
theorem Bk (most:Int): ∀ (l:List UInt8) (k n:Nat),bU most l k n≠ .error 0:=by
 intro l
 induction l with
 |nil=>intro k n h;unfold bU at h;cases h
 |cons c r ih=>
  intro k n h
  unfold bU at h
  split at h
  ·split at h
   ·cases h
   ·exact ih _ _ h
  ·split at h
   ·cases h
   ·split at h
    ·cases h
    ·cases h
theorem uQ {s:List UInt8} {a:Nat} {e most:Int} (h:e≠5): (aE s a e most).2.2≠5:=by
 unfold aE
 split
 ·exact h
 ·split
  ·show(0:Int)≠5;decide
  ·rename_i x hx
   have:=TM _ _ _ _ _ hx
   show((x:Nat):Int)≠5
   omega
theorem TR {s:List UInt8} {a:Nat} {e most:Int} (h:e≠5): (an s a e most).2.2≠5:=by
 unfold an
 simp only
 split
 ·exact uT (uQ h)
 ·exact uT (uQ h)
theorem Ve {s:List UInt8} {a:Nat} {e:Int} (h:e≠5): (idR s a e).2.2≠5:=by unfold idR;exact uT h
theorem Bj {s:List UInt8} {a:Nat} {e most:Int} (h: (aE s a e most).2.2=0):a< (aE s a e most).2.1:=by
 unfold aE at h ⊢
 split
 ·rename_i he
  rw[if_pos he] at h
  exact absurd h he
 ·rename_i he
  rw[if_neg he] at h
  split
  ·rename_i n k hk
   have:=tq _ _ _ _ _ _ hk
   show a<a+k
   omega
  ·rename_i x hx
   rw[hx] at h
   exfalso
   have:x=0:=by have: ((x:Nat):Int)=0:=h;omega
   subst this
   exact Bk _ _ _ _ hx
def gl (s:List UInt8) (a:Nat) (e:Int):EntL×Nat×Int:=
 let p:=aE s a e 2
 let q:=an s p.2.1 p.2.2 32
 let i:=idR s q.2.1 q.2.2
 (⟨q.1,p.1,kC i.1⟩,i.2)
theorem uD {s:List UInt8} {a:Nat} {e:Int} (ha:a≤s.length):a≤ (gl s a e).2.1∧(gl s a e).2.1≤s.length:=by
 have h1:=iD (e:=e) (most:=2) ha
 have h2:=rY (e:=(aE s a e 2).2.2) (most:=32) h1.2
 have h3:=mH (e:=(an s (aE s a e 2).2.1 (aE s a e 2).2.2 32).2.2) h2.2
 unfold gl
 exact⟨by simp only;omega,h3.2⟩
theorem Uj {s:List UInt8} {a:Nat} {e:Int} (h:e≠5): (gl s a e).2.2≠5:=Ve (TR (uQ h))
theorem BI {s:List UInt8} {a:Nat} {e:Int} (ha:a≤s.length) (h: (gl s a e).2.2=0):a< (gl s a e).2.1:=by
 have h1:=iD (e:=e) (most:=2) ha
 have h2:=rY (e:=(aE s a e 2).2.2) (most:=32) h1.2
 have h3:=mH (e:=(an s (aE s a e 2).2.1 (aE s a e 2).2.2 32).2.2) h2.2
 unfold gl at h ⊢
 simp only at h ⊢
 have e2: (an s (aE s a e 2).2.1 (aE s a e 2).2.2 32).2.2=0:=Decidable.byContradiction fun hn=>by rw[nx hn] at h;exact hn h
 have e1: (aE s a e 2).2.2=0:=Decidable.byContradiction fun hn=>by rw[qK hn] at e2;exact hn e2
 have:=Bj e1
 omega
def m6 (s:List UInt8):Nat→Nat→Int→List EntL→List EntL×Nat×Int
 |0,a,e,l=>(l,a,e)
 |n+1,a,e,l=>if e=0∧a<s.length then m6 s n (gl s a e).2.1 (gl s a e).2.2 (l++ [(gl s a e).1]) else(l,a,e)
theorem HU {s:List UInt8} {n a:Nat} {e:Int} {l:List EntL} (h:e=0∧a<s.length):m6 s (n+1) a e l=m6 s n (gl s a e).2.1 (gl s a e).2.2 (l++ [(gl s a e).1]):=by rw[m6,if_pos h]
theorem Gs {s:List UInt8} {n a:Nat} {e:Int} {l:List EntL} (h: ¬ (e=0∧a<s.length)):m6 s n a e l=(l,a,e):=by
 cases n with
 |zero=>rfl
 |succ n=>rw[m6,if_neg h]
def ef (s:List UInt8):List EntL×Nat×Int:=m6 s (s.length+1) 0 0 []
structure EntsJ (s:List UInt8) (n a:Nat) (e:Int) (l:List EntL):Prop where
 go:ef s=m6 s n a e l
 le:a≤s.length
 five:e≠5
 fuel:e=0→s.length<a+n
 cnt:l.length+n=s.length+1
 short: ∀i,i<l.length→(l.getD i bJ).name.length≤s.length
theorem EntsJ.init (s:List UInt8):EntsJ s (s.length+1) 0 0 []:=⟨rfl,Nat.zero_le _,by decide,fun _=>by omega,by simp,fun i hi=>by simp at hi⟩
theorem EntsJ.next {s:List UInt8} {n a:Nat} {e:Int} {l:List EntL} (h:EntsJ s n a e l) (hc:e=0∧a<s.length): ∃m,n=m+1∧EntsJ s m (gl s a e).2.1 (gl s a e).2.2 (l++ [(gl s a e).1]):=by
 have:=h.fuel hc.1
 obtain⟨m,rfl⟩: ∃m,n=m+1:=⟨n - 1,by omega⟩
 refine⟨m,rfl,h.go.trans (HU hc),(uD h.le).2,Uj h.five,fun h0=> ?_, ?_,fun i hi=> ?_⟩
 ·have:=BI h.le h0;omega
 ·have:=h.cnt;simp only[List.length_append,List.length_cons,List.length_nil];omega
 ·by_cases aD:i<l.length
  ·rw[yM aD];exact h.short i aD
  ·have:i=l.length:=by simp only[List.length_append,List.length_cons,List.length_nil] at hi;omega
   subst this
   rw[yZ (Nat.le_refl _),Nat.sub_self]
   exact Ew _ _ _ _
theorem EntsJ.done {s:List UInt8} {n a:Nat} {e:Int} {l:List EntL} (h:EntsJ s n a e l) (hc: ¬ (e=0∧a<s.length)):ef s=(l,a,e):=h.go.trans (Gs hc)
theorem EntsJ.sh {s:List UInt8} {n a:Nat} {e:Int} {l:List EntL} (h:EntsJ s n a e l) (hs:s.length<1000000):nk l:=fun i hi=>by have:=h.short i hi;omega
end Go.Proofs
end
section
open Go Go.Proofs Go.Sx Go.StP
namespace Go.Proofs
set_option maxRecDepth 10000
set_option maxHeartbeats 400000
set_option linter.unusedSimpArgs false
theorem Jg:fW (cg Tryz.prog 221) (am Tryz.prog 221) []=some (.agg (av bJ).toArray):=by
 rw[show cg Tryz.prog 221=some [(0,1),(1,1),(2,32)] from id (by kernel_rfl),io];rfl
theorem Om (s:List UInt8):fW (cg Tryz.prog 217) (am Tryz.prog 217) [(0,vs s)]=some (.agg #[vs s,vi 0,vi 0]):=by
 have hp:cg Tryz.prog 217=some [(0,1),(1,1),(2,1)]:=id (by kernel_rfl)
 have hz:am Tryz.prog 217=some (.agg #[vs [],vi 0,vi 0]):=id (by kernel_rfl)
 rw[hp,hz];rfl
def kr (s:List UInt8):Option (List EntL):=if(ef s).2.2=0∧lU (ef s).1=true∧iG (ef s).1=s then some (ef s).1 else none
def uX (s:List UInt8) (v:Value) (D:aA):Prop:=
 match kr s with
 |some l=> ∃v1,v= .tuple #[v1, .bool true]∧Gr D 221 34 v1 l.length (l.map av).flatten
 |none=>v= .tuple #[.slice none 0 0, .bool false]
structure EnG where
 n:Nat
 a:Nat
 e:Int
 l:List EntL
 v:Value
 D:aA
set_option linter.defProp false
def dQ:=And.intro (And.intro (And.intro (@rT) (And.intro (@rX) (@re))) (And.intro (@ro) (And.intro (@rm) (@y3)))) (And.intro (And.intro (@Yl) (And.intro (@Yp) (@yp))) (And.intro (And.intro (@xO) (@wI)) (And.intro (@ay) (@ax))))
theorem IP (s:List UInt8) (w:World) (hs:s.length<100000):
  Rets Tryz.prog 108 #[vs s] w (XS w [] (uX s)):=by
 refine Rets.enterX Tryz.func108 rfl (rs:= [.tmp 2, .tmp 3]) Tryz.results108 Tryz.ntmps108 (fun p hp=>by cases hp) (by simp[keys]) ?_
 refine kf ?_
 first|with_reducible refine ks [] @dQ ?_|refine kp @dQ ?_
 refine Ow.build ((.agg #[vs s,vi 0,vi 0])) rfl (by kernel_rfl) ?_
 refine ko @dQ ?_
 refine Ow.box rfl rfl fun br lk kM=> ?_
 simp only[d9,cu,d8,aV,List.nil_append]
 refine ko @dQ ?_
 refine Cw.loopG (G:=EnG) [10,11,12,13,14,15,16,17,18,19,20,21,22,23,24,6,25,26,27,28,29,30,31,32,33,34,35,36,37,5] (fun q=> [(5,q.v)]) (fun q=>(br, .cells #[vs s,vi q.a,vi q.e] 217 (0,0))::q.D) (fun q=>EntsJ s q.n q.a q.e q.l∧New (br+1) q.D∧Gr q.D 221 34 q.v q.l.length (q.l.map av).flatten) (fun q=>q.n) ⟨s.length+1,0,0,[], .slice none 0 0,[]⟩ rfl rfl ?_ ?_
 ·exact⟨EntsJ.init s,trivial,Gr.nl⟩
 ·intro q jq hq
  refine kv ?_
  obtain⟨n,a,e,l,v,D⟩:=q
  simp only at hq ⊢
  obtain⟨hJ,hN,hG⟩:=hq
  have dN:=hJ.le
  by_cases hc:e=0∧a<s.length
  ·obtain⟨m,rfl,l7⟩:=hJ.next hc
   obtain⟨he,aD⟩:=hc
   have d1: (e==0)=true:=by simp[he]
   have d2:decide ((a:Int)< (s.length:Int))=true:=decide_eq_true (by omega)
   have hp:=iD (e:=e) (most:=2) dN
   have hq:=rY (e:=(aE s a e 2).2.2) (most:=32) hp.2
   have heq:gl s a e=(⟨(an s (aE s a e 2).2.1 (aE s a e 2).2.2 32).1,(aE s a e 2).1,kC (idR s (an s (aE s a e 2).2.1 (aE s a e 2).2.2 32).2.1 (an s (aE s a e 2).2.1 (aE s a e 2).2.2 32).2.2).1⟩,(idR s (an s (aE s a e 2).2.1 (aE s a e 2).2.2 32).2.1 (an s (aE s a e 2).2.1 (aE s a e 2).2.2 32).2.2).2):=rfl
   have gW:=tH s (an s (aE s a e 2).2.1 (aE s a e 2).2.2 32).2.1 (an s (aE s a e 2).2.1 (aE s a e 2).2.2 32).2.2
   first|with_reducible refine ks [] (And.intro @dQ (And.intro @d1 (@d2))) ?_|refine kp (And.intro @dQ (And.intro @d1 (@d2))) ?_
   refine Ow.build (.agg (av bJ).toArray) rfl Jg ?_
   refine ko @dQ ?_
   refine Ow.alloc rfl rfl io fun b6 pS j7=> ?_
   simp only[aV,List.nil_append,List.cons_append]
   have pb:br<b6:=ae pS (by simp[keys])
   refine Ow.permL (M:=(b6,Obj.cells (av bJ).toArray 221 (0,0)):: (br, .cells #[vs s,vi a,vi e] 217 (0,0))::D) (by classical exact List.perm_iff_count.2 fun a=>by simp only[List.count_append,List.count_cons,List.count_nil]<;>omega) ?_
   refine ko @dQ ?_
   refine Ow.callM rfl rfl Tryz.call146 (by simp[keys]) (fun w' aB=>Gf br s a e 2 w' dN (by omega) (aB.has _ _ (List.mem_cons_of_mem _ List.mem_cons_self))) ?_
   generalize aE s a e 2=p at*
   obtain⟨kd,a1,e1⟩:=p
   simp only at hp hq heq gW ⊢
   refine kn ?_
   refine ko @dQ ?_
   first|with_reducible refine ks [] @dQ ?_|refine kp @dQ ?_
   refine Ow.callM rfl rfl Tryz.call144 (by simp[keys]) (fun w' aB=>GU br s a1 e1 32 w' hp.2 (by omega) (aB.has _ _ (List.mem_cons_of_mem _ List.mem_cons_self))) ?_
   generalize an s a1 e1 32=q at*
   obtain⟨tt,a2,e2⟩:=q
   simp only at hq heq gW ⊢
   refine kn ?_
   refine ko @dQ ?_
   first|with_reducible refine ks [] @dQ ?_|refine kp @dQ ?_
   refine Ow.callM rfl rfl Tryz.call147 (by simp[keys]) (fun w' aB=>Gi br s a2 e2 w' hq.2 (by omega) (aB.has _ _ (List.mem_cons_of_mem _ List.mem_cons_self))) ?_
   generalize idR s a2 e2=i at*
   obtain⟨il,a3,e3⟩:=i
   simp only at heq gW ⊢
   obtain⟨I,hI⟩: ∃I,kC il=I:=⟨_,rfl⟩
   have vY:il=I.l:=by rw[←hI,wM gW]
   rw[hI] at heq
   rw[vY]
   refine kn ?_
   refine ko @dQ ?_
   generalize hx: ({name:=tt,kind:=kd,id:=I}:EntL)=x
   rw[hx] at heq
   rw[heq] at l7
   refine Ow.buildSlice (e:=221) (av x).toArray rfl rfl (lV Tryz.underlying168 qV io (by decide) (m4 x)) fun b13 mU wC=> ?_
   have XX:br<b13:=ae mU (by simp[keys])
   refine Ow.permL (M:=D++ ((b6,Obj.cells (av x).toArray 221 (0,0)):: (br, .cells #[vs s,vi a3,vi e3] 217 (0,0)):: [(b13,Obj.cells (av x).toArray 221 (0,0))])) (by classical exact List.perm_iff_count.2 fun a=>by simp only[List.count_append,List.count_cons,List.count_nil]<;>omega) ?_
   refine ko @dQ ?_
   refine Ow.appendX (e:=221) (k:=1) (new:=av x) (X:=D) v rfl rfl rfl rfl Tryz.underlying168 qV (by kernel_rfl) io (by rw[wI,List.size_toArray,m4]) Tryz.underlying168 (by intro k h;cases h) hG (fun w' aB=>AppX.one1 (aB.has b13 (.cells (av x).toArray 221 (0,0)) (by simp)) (m4 _) (ti _)) (by omega) (by have:=hJ.cnt;omega) (fun B v4 D4 i1 pM i7 dr eK bl=> ?_)
   have Vy:b13<B:=ae i1 (by simp[bM,keys])
   have eI:New (br+1) D4:=New.of_le fun q hq=>by
    rcases eK q hq with h|h
    ·exact hN.le q h
    ·omega
   refine Ow.permL (M:=(br, .cells #[vs s,vi a3,vi e3] 217 (0,0)):: (D4++ [(b6,Obj.cells (av x).toArray 221 (0,0)),(b13,Obj.cells (av x).toArray 221 (0,0))])) (by classical exact List.perm_iff_count.2 fun a=>by simp only[List.count_append,List.count_cons,List.count_nil]<;>omega) ?_
   refine ko @dQ ?_
   refine Again.mk (EnG.mk m a3 e3 (l++ [x]) v4 (D4++ [(b6,Obj.cells (av x).toArray 221 (0,0)),(b13,Obj.cells (av x).toArray 221 (0,0))])) (by show m<m+1;omega) ⟨l7,eI.app ⟨by omega,by omega,trivial⟩, ?_⟩ rfl rfl
   show Gr _ _ _ _ (l++ [x]).length ((l++ [x]).map av).flatten
   rw[List.length_append,List.map_append,List.flatten_append,show([x].map av).flatten=av x by simp]
   exact Gr.app (.inl i7)
  ·have hd:=hJ.done hc
   have g4:=hJ.sh (by omega)
   have qz:=hJ.cnt
   have hR:kr s=if e=0∧lU l=true∧iG l=s then some l else none:=by unfold kr;rw[hd]
   unfold uX
   rw[hR]
   have sC:New w.heap.size ((br,Obj.cells #[vs s,vi a,vi e] 217 (0,0))::D):=⟨kM,New.mono (by omega) hN⟩
   by_cases he:e=0
   ·have d1: (e==0)=true:=by simp[he]
    have d2:decide ((a:Int)< (s.length:Int))=false:=decide_eq_false (by omega)
    have lC: (if e≠0 then e else if(a:Int)< (s.length:Int) then 5 else 0)=(0:Int):=by rw[if_neg (by simp[he]),if_neg (by omega)]
    first|with_reducible refine ks [] (And.intro @dQ (And.intro @d1 (@d2))) ?_|refine kp (And.intro @dQ (And.intro @d1 (@d2))) ?_
    refine Ow.callFV rfl Tryz.call145 (fun w' aB=>GZ br s a e w' (aB.has _ _ (by simp))) ?_
    rw[lC]
    have d4: ((0:Int) !=0)=false:=rfl
    refine ko (And.intro @dQ @d4) ?_
    refine Ow.callFV rfl Tryz.call148 (fun w' aB=>Wy_ v l w' (hG.slM (fun b o hm=>aB.has b o (by simp[hm])) rfl rfl m4) (by omega) g4) ?_
    cases hr:lU l
    ·rw[if_neg (by simp)]
     refine ko @dQ ?_
     first|with_reducible refine ks [] @dQ ?_|refine kp @dQ ?_
     refine⟨_,(ke @dQ), ?_⟩
     exact⟨Ext.of_new sC,rfl⟩
    ·refine ko @dQ ?_
     refine Ow.callFV rfl Tryz.call149 (fun w' aB=>I1 v l w' (hG.slM (fun b o hm=>aB.has b o (by simp[hm])) rfl rfl m4) (by omega) g4) ?_
     by_cases hb:iG l=s
     ·have d3: (iG l !=s)=false:=by simp[hb]
      rw[if_pos ⟨he,rfl,hb⟩]
      refine ko (And.intro @dQ @d3) ?_
      first|with_reducible refine ks [] @dQ ?_|refine kp @dQ ?_
      refine⟨_,(ke @dQ), ?_⟩
      exact⟨Ext.of_new sC,v,rfl,hG.keep fun b o hb ho=>by rw[Sx.look,if_neg (by have:=hN.le b (cJ ho);omega)];exact ho⟩
     ·have d3: (iG l !=s)=true:=by simp[hb]
      rw[if_neg (fun h=>hb h.2.2)]
      refine ko (And.intro @dQ @d3) ?_
      first|with_reducible refine ks [] @dQ ?_|refine kp @dQ ?_
      refine⟨_,(ke @dQ), ?_⟩
      exact⟨Ext.of_new sC,rfl⟩
   ·have d1: (e==0)=false:=by simp[he]
    have d3: (e !=0)=true:=by simp[he]
    have lC: (if e≠0 then e else if(a:Int)< (s.length:Int) then 5 else 0)=e:=by rw[if_pos he]
    rw[if_neg (fun h=>he h.1)]
    first|with_reducible refine ks [] (And.intro @dQ @d1) ?_|refine kp (And.intro @dQ @d1) ?_
    refine Ow.callFV rfl Tryz.call145 (fun w' aB=>GZ br s a e w' (aB.has _ _ (by simp))) ?_
    rw[lC]
    refine ko (And.intro @dQ @d3) ?_
    first|with_reducible refine ks [] @dQ ?_|refine kp @dQ ?_
    refine⟨_,(ke @dQ), ?_⟩
    exact⟨Ext.of_new sC,rfl⟩
end Go.Proofs
end
section
open Go Go.Proofs Go.Sx Go.StP
namespace Go.Proofs
set_option maxRecDepth 10000
set_option maxHeartbeats 400000
set_option linter.unusedSimpArgs false
theorem Hx (most:Int): ∀ (l:List UInt8) (k n m k':Nat),bU most l k n= .ok (m,k')→(m:Int)≤most
 | [],_,_,_,_,h=>by simp[bU] at h
 |c::r,k,n,m,k',h=>by
  unfold bU at h
  split at h
  ·split at h
   ·cases h
   ·exact Hx most r _ _ _ _ h
  ·split at h
   ·cases h
   ·split at h
    ·rename_i hh
     cases h
     exact hh.2
    ·cases h
theorem pv {s:List UInt8} {a:Nat} {e most:Int} (h0:0≤most):0≤ (aE s a e most).1∧(aE s a e most).1≤most:=by
 unfold aE
 split
 ·exact⟨Int.le_refl 0,h0⟩
 ·split
  ·rename_i n k h
   exact⟨Int.natCast_nonneg _,Hx most _ _ _ _ _ h⟩
  ·exact⟨Int.le_refl 0,h0⟩
def ar (s:List UInt8) (a:Nat) (e:Int):Nat→List IdL×Nat×Int
 |0=>([],a,e)
 |n+1=>let p:=ar s a e n;let i:=idR s p.2.1 p.2.2;(p.1++ [kC i.1],i.2)
theorem Ey (s:List UInt8) (a:Nat) (e:Int): ∀n,(ar s a e n).1.length=n
 |0=>rfl
 |n+1=>by simp only[ar,List.length_append,List.length_cons,List.length_nil,Ey s a e n]
theorem xl {s:List UInt8} {a:Nat} {e:Int} (ha:a≤s.length): ∀n,(ar s a e n).2.1≤s.length
 |0=>ha
 |n+1=>(mH (xl ha n)).2
def comN (s:List UInt8):Int×Nat×Int:=aE s (idR s 0 0).2.1 (idR s 0 0).2.2 4
def dl (s:List UInt8):List IdL×Nat×Int:=ar s (comN s).2.1 (comN s).2.2 (comN s).1.toNat
def comT (s:List UInt8):List UInt8×Nat×Int:=an s (dl s).2.1 (dl s).2.2 64
def eG (s:List UInt8):ComL×Nat×Int:=(⟨kC (idR s 0 0).1,(dl s).1,(comT s).1⟩,(comT s).2)
def bR (s:List UInt8) (a:Nat) (e:Int):Int:=if e≠0 then e else if(a:Int)< (s.length:Int) then 5 else 0
def l4 (s:List UInt8):Option ComL:=if bR s (eG s).2.1 (eG s).2.2=0∧je (eG s).1=true∧comB (eG s).1=s then some (eG s).1 else none
theorem MM (t x:IdL) (p:Value) (y:List UInt8) (a:Bool) (E:TypeId):ab (some (a,32)) (some (.cells (ak t p y).toArray E (0,0))) 0 (.agg (a8 x.l))=some (.cells (ak x p y).toArray E (0,0)):=
 gj [] _ _ _ a _ E rfl (by simp[t.h]) (aV _) (by simp[x.h]) (rr _)
theorem Mo (t:IdL) (p q:Value) (y:List UInt8) (a:Bool) (E:TypeId) (hq:Value.oneCell' q=true∧q.cells= #[q]):ab (some (a,1)) (some (.cells (ak t p y).toArray E (0,0))) 32 q=some (.cells (ak t q y).toArray E (0,0)):=
 gj (t.l.map v8) [p] [q] [vs y] a _ E (by simp[t.h]) rfl hq.2 rfl (by simp[hq.1])
theorem MT (t:IdL) (p:Value) (y z:List UInt8) (a:Bool) (E:TypeId):ab (some (a,1)) (some (.cells (ak t p y).toArray E (0,0))) 33 (vs z)=some (.cells (ak t p z).toArray E (0,0)):=by
 have e: ∀y,ak t p y=(t.l.map v8++ [p])++ ([vs y]++ []):=fun y=>by unfold ak;simp only[List.append_assoc,List.append_nil]
 rw[e,e];exact gj _ _ _ _ a _ E (by simp[t.h]) rfl rfl rfl rfl
theorem qk:am Tryz.prog 172=some (.agg (ak id0 (.slice none 0 0) []).toArray):=id (by kernel_rfl)
theorem FY:fW (cg Tryz.prog 172) (am Tryz.prog 172) []=some (.agg (ak id0 (.slice none 0 0) []).toArray):=by
 rw[show cg Tryz.prog 172=some [(0,32),(32,1),(33,1)] from id (by kernel_rfl),qk];rfl
theorem pI:aM Tryz.prog 84=some (true,32):=id (by kernel_rfl)
theorem iV:am Tryz.prog 84=some (.agg (a8 id0.l)):=id (by kernel_rfl)
end Go.Proofs
end
section
open Go Go.Proofs Go.Sx Go.StP
namespace Go.Proofs
set_option maxRecDepth 10000
set_option maxHeartbeats 400000
set_option linter.unusedSimpArgs false
theorem Er {b:Nat} {x:Obj}: ∀ {D L:aA},b∉keys D→setB (D++L) b x=D++setB L b x
 | [],_,_=>rfl
 | (c,y)::r,L,h=>by
  simp only[keys,List.map_cons,List.mem_cons,not_or] at h
  rw[List.cons_append,wU _ _ _ _ _ (Ne.symm h.1),Er (by simpa [keys] using h.2)];rfl
def uc (s:List UInt8) (v:Value) (D:aA):Prop:=
 match l4 s with
 |some c=> ∃p,v= .tuple #[.agg (ak c.tree p c.text).toArray, .bool true]∧Gr D 84 32 p c.par.length (c.par.map eZ).flatten
 |none=>v= .tuple #[.agg (ak id0 (.slice none 0 0) []).toArray, .bool false]
theorem ZJ (b:Nat) (s:List UInt8) (a:Nat) (e:Int) (w:World) (ho:w.heap[b]? =some (.cells #[vs s,vi a,vi e] 217 (0,0))):
  Rets Tryz.prog 145 #[vp b 0] w (fun v D=>v=vi (bR s a e)∧D= []):=GZ b s a e w ho
structure CmG where
 g:Nat
 v:Value
 D:aA
set_option linter.defProp false
def dJ:=And.intro (And.intro (And.intro (@rT) (And.intro (@rX) (@re))) (And.intro (And.intro (@ro) (@rm)) (And.intro (@Eh) (@Ei)))) (And.intro (And.intro (@En) (And.intro (@FB) (@xZ))) (And.intro (And.intro (@MM) (@MT)) (And.intro (@ay) (@ax))))
theorem IX (s:List UInt8) (w:World) (hs:s.length<100000):
  Rets Tryz.prog 109 #[vs s] w (XS w [] (uc s)):=by
 refine Rets.enterX Tryz.func109 rfl (rs:= [.cell 2 172, .tmp 3]) Tryz.results109 Tryz.ntmps109 (fun p hp=>by cases hp) (by simp[keys]) ?_
 refine kf ?_
 first|with_reducible refine ks [] @dJ ?_|refine kp @dJ ?_
 refine Ow.alloc rfl rfl qk fun b2 aZ bH=> ?_
 simp only[aV,List.nil_append,List.cons_append]
 refine ko @dJ ?_
 refine Ow.build ((.agg #[vs s,vi 0,vi 0])) rfl (by kernel_rfl) ?_
 refine ko @dJ ?_
 refine Ow.box rfl rfl fun br lk kM=> ?_
 have h2r:b2<br:=ae lk (by simp[keys])
 simp only[d9,cu,d8,aV,List.nil_append,List.cons_append]
 refine ko @dJ ?_
 refine Ow.build (.agg (ak id0 (.slice none 0 0) []).toArray) rfl FY ?_
 refine ko @dJ ?_
 refine Ow.alloc rfl rfl qk fun b5 qy pd=> ?_
 simp only[aV,List.nil_append,List.cons_append]
 have Fb:b2<b5:=ae qy (by simp[keys])
 have G6:br<b5:=ae qy (by simp[keys])
 have st5: ∀a E,ab (some (a,34)) (some (.cells (ak id0 (.slice none 0 0) []).toArray E (0,0))) 0 (.agg (ak id0 (.slice none 0 0) []).toArray)=some (.cells (ak id0 (.slice none 0 0) []).toArray E (0,0)):=fun a E=>Hg _ _ _ _ a E (by rw[List.size_toArray,wj]) rfl
 refine ko (And.intro @dJ @st5) ?_
 refine Ow.callM rfl rfl Tryz.call147 (by simp[keys]) (fun w' aB=>Gi br s 0 0 w' (Nat.zero_le _) (by omega) (aB.has _ _ (List.mem_cons_of_mem _ List.mem_cons_self))) ?_
 have ip:=mH (s:=s) (a:=0) (e:=0) (Nat.zero_le _)
 have np:=iD (e:=(idR s 0 0).2.2) (most:=4) ip.2
 have nm:=pv (s:=s) (a:=(idR s 0 0).2.1) (e:=(idR s 0 0).2.2) (most:=4) (by decide)
 obtain⟨T,hT⟩: ∃T,kC (idR s 0 0).1=T:=⟨_,rfl⟩
 have WX: (idR s 0 0).1=T.l:=by rw[←hT,wM (tH s 0 0)]
 have vO:eG s=(⟨T,(dl s).1,(comT s).1⟩,(comT s).2):=by unfold eG;rw[hT]
 rw[WX]
 refine kn ?_
 refine ko @dJ ?_
 refine Ow.callM rfl rfl Tryz.call146 (by simp[keys]) (fun w' aB=>Gf br s _ _ 4 w' ip.2 (by omega) (aB.has _ _ (List.mem_cons_of_mem _ List.mem_cons_self))) ?_
 have hP:dl s=ar s (aE s (idR s 0 0).2.1 (idR s 0 0).2.2 4).2.1 (aE s (idR s 0 0).2.1 (idR s 0 0).2.2 4).2.2 (aE s (idR s 0 0).2.1 (idR s 0 0).2.2 4).1.toNat:=rfl
 generalize aE s (idR s 0 0).2.1 (idR s 0 0).2.2 4=nr at*
 obtain⟨cn,na,ne⟩:=nr
 simp only at np nm hP ⊢
 obtain⟨k,rfl⟩:=Int.eq_ofNat_of_zero_le nm.1
 rw[Int.toNat_natCast] at hP
 refine kn ?_
 refine ko @dJ ?_
 refine Cw.permL (M:=(b5, .cells (ak T (.slice none 0 0) []).toArray 172 (0,0)):: (br, .cells #[vs s,vi na,vi ne] 217 (0,0)):: (b2, .cells (ak id0 (.slice none 0 0) []).toArray 172 (0,0)):: []) (by classical exact List.perm_iff_count.2 fun a=>by simp only[List.count_append,List.count_cons,List.count_nil]<;>omega) ?_
 refine Cw.loopG (G:=CmG) [17,18,19,22,23,24,25,26,27,28,20,21,7] (fun q=> [(7,vi q.g)]) (fun q=>(b5, .cells (ak T q.v []).toArray 172 (0,0)):: (br, .cells #[vs s,vi (ar s na ne q.g).2.1,vi (ar s na ne q.g).2.2] 217 (0,0)):: (b2, .cells (ak id0 (.slice none 0 0) []).toArray 172 (0,0))::q.D) (fun q=>q.g≤k∧New (b5+1) q.D∧Gr q.D 84 32 q.v q.g ((ar s na ne q.g).1.map eZ).flatten) (fun q=>k - q.g) ⟨0, .slice none 0 0,[]⟩ rfl rfl ?_ ?_
 ·exact⟨Nat.zero_le _,trivial,Gr.nl⟩
 ·intro q jq hq
  refine kv ?_
  obtain⟨g,v,D⟩:=q
  simp only at hq ⊢
  obtain⟨hgk,hN,hG⟩:=hq
  have gle:=xl (e:=ne) np.2 g
  by_cases aD:g<k
  ·have vX:ar s na ne (g+1)=((ar s na ne g).1++ [kC (idR s (ar s na ne g).2.1 (ar s na ne g).2.2).1],(idR s (ar s na ne g).2.1 (ar s na ne g).2.2).2):=rfl
   first|with_reducible refine ks [7] @dJ ?_|refine kp @dJ ?_
   refine Cw.regionS [b5] [0,2,1,3,4,5,6,7] [7] (by kernel_rfl) (by kernel_rfl) (by kernel_rfl) ?_
   simp only[ap, ↓ao, ↓ac, ↓aj, ↓ai,ad]
   refine kq @dJ ?_
   refine Ow.soft rfl rfl rfl ?_
   refine Ow.callM rfl rfl Tryz.call147 (by simp[keys]) (fun w' aB=>Gi br s (ar s na ne g).2.1 (ar s na ne g).2.2 w' gle (by omega) (aB.has _ _ (List.mem_cons_of_mem _ List.mem_cons_self))) ?_
   with_reducible refine Ow.nil ?_
   refine⟨fun b hb=>Xx (by simp only[List.mem_cons,List.not_mem_nil,or_false] at hb;omega), ?_⟩
   have gW:=tH s (ar s na ne g).2.1 (ar s na ne g).2.2
   obtain⟨I,hI⟩: ∃I,kC (idR s (ar s na ne g).2.1 (ar s na ne g).2.2).1=I:=⟨_,rfl⟩
   have vY: (idR s (ar s na ne g).2.1 (ar s na ne g).2.2).1=I.l:=by rw[←hI,wM gW]
   rw[hI] at vX
   have jR: (ar s na ne (g+1)).1=(ar s na ne g).1++ [I]:=by rw[vX]
   have lm: (ar s na ne (g+1)).2=(idR s (ar s na ne g).2.1 (ar s na ne g).2.2).2:=by rw[vX]
   rw[vY,←lm]
   refine kn ?_
   refine Ow.soft rfl rfl rfl ?_
   refine Ow.buildSlice (e:=84) (a8 I.l) rfl rfl (lV (cs:=I.l.map v8) Tryz.underlying106 pI iV (by decide) (by simp[I.h])) fun b13 mU wC=> ?_
   have XX:b5<b13:=ae mU (by simp[keys])
   with_reducible refine Ow.nil ?_
   refine⟨FX (by simp[keys]), ?_⟩
   try simp only[List.cons_append,List.nil_append]
   refine Ow.soft rfl rfl rfl ?_
   refine Ow.permL (M:=D++ ((b5,Obj.cells (ak T v []).toArray 172 (0,0)):: (br,Obj.cells #[vs s,vi (ar s na ne (g+1)).2.1,vi (ar s na ne (g+1)).2.2] 217 (0,0)):: (b2,Obj.cells (ak id0 (.slice none 0 0) []).toArray 172 (0,0)):: [(b13,Obj.cells (a8 I.l) 84 (0,0))])) (by classical exact List.perm_iff_count.2 fun a=>by simp only[List.count_append,List.count_cons,List.count_nil]<;>omega) ?_
   refine Ow.appendX (e:=84) (k:=1) (new:=eZ I) (X:=D) v rfl rfl rfl rfl Tryz.underlying106 pI (by kernel_rfl) iV (by rw[aV,rj,id0.h]) Tryz.underlying106 (by intro k h;cases h) hG (fun w' aB=>AppX.one1 (aB.has b13 (.cells (a8 I.l) 84 (0,0)) (by simp)) (pn I) (Ev I)) (by omega) (by omega) (fun B v4 D4 i1 pM i7 dr eK bl=> ?_)
   have Vy:b13<B:=ae i1 (by simp[bM,keys])
   have eI:New (b5+1) D4:=New.of_le fun q hq=>by
    rcases eK q hq with h|h
    ·exact hN.le q h
    ·omega
   have Vu:b5∉keys D4:=eI.not (by omega)
   with_reducible refine Ow.nil ?_
   refine⟨fun q hq=> ?_, ?_⟩
   ·rw[List.mem_singleton] at hq
    subst hq
    rw[FW Vu]
    simp only[pq]
   have gX: ∀M,Sx.look (D4++M) b5=Sx.look M b5:=fun M=>gi Vu
   have Dy: ∀M x,setB (D4++M) b5 x=D4++setB M b5 x:=fun M x=>Er Vu
   have st5:=fun a E=>Mo T v v4 [] a E i7.cell
   refine kq (And.intro @dJ (And.intro @gX (And.intro @Dy (And.intro @st5 (@qB))))) ?_
   have cK:pz (aM Tryz.prog 106) (D4++ [(b5,Obj.cells (ak T v []).toArray 172 (0,0)),(br,Obj.cells #[vs s,vi (ar s na ne (g+1)).2.1,vi (ar s na ne (g+1)).2.2] 217 (0,0)),(b2,Obj.cells (ak id0 (.slice none 0 0) []).toArray 172 (0,0)),(b13,Obj.cells (a8 I.l) 84 (0,0))]) (vp b5 32) v4=
     some (D4++ [(b5,Obj.cells (ak T v4 []).toArray 172 (0,0)),(br,Obj.cells #[vs s,vi (ar s na ne (g+1)).2.1,vi (ar s na ne (g+1)).2.2] 217 (0,0)),(b2,Obj.cells (ak id0 (.slice none 0 0) []).toArray 172 (0,0)),(b13,Obj.cells (a8 I.l) 84 (0,0))]):=by
    rw[Tryz.ag106,EV,gX]
    simp only[ii,st5,xn,Dy,rn]
   refine Ow.store rfl rfl rfl cK ?_
   refine ko @dJ ?_
   refine Cw.permL (M:=(b5,Obj.cells (ak T v4 []).toArray 172 (0,0)):: (br,Obj.cells #[vs s,vi (ar s na ne (g+1)).2.1,vi (ar s na ne (g+1)).2.2] 217 (0,0)):: (b2,Obj.cells (ak id0 (.slice none 0 0) []).toArray 172 (0,0)):: (D4++ [(b13,Obj.cells (a8 I.l) 84 (0,0))])) (by classical exact List.perm_iff_count.2 fun a=>by simp only[List.count_append,List.count_cons,List.count_nil]<;>omega) ?_
   first|with_reducible refine ks [] @dJ ?_|refine kp @dJ ?_
   refine Again.mk (CmG.mk (g+1) v4 (D4++ [(b13,Obj.cells (a8 I.l) 84 (0,0))])) (by show k - (g+1)<k - g;omega) ⟨by show g+1≤k;omega,eI.app ⟨by omega,trivial⟩, ?_⟩ rfl rfl
   show Gr _ _ _ _ (g+1) ((ar s na ne (g+1)).1.map eZ).flatten
   rw[jR,List.map_append,List.flatten_append,show([I].map eZ).flatten=eZ I by simp]
   exact Gr.app (.inl i7)
  ·obtain rfl:g=k:=by omega
   rw[←hP] at hG
   rw[←hP] at gle
   rw[←hP]
   have tp:=rY (e:=(dl s).2.2) (most:=64) gle
   first|with_reducible refine ks [] @dJ ?_|refine kp @dJ ?_
   refine Ow.callM rfl rfl Tryz.call144 (by simp[keys]) (fun w' aB=>GU br s (dl s).2.1 (dl s).2.2 64 w' gle (by omega) (aB.has _ _ (List.mem_cons_of_mem _ List.mem_cons_self))) ?_
   refine kn ?_
   refine ko @dJ ?_
   have WD:comT s=an s (dl s).2.1 (dl s).2.2 64:=rfl
   have me:=Ew s (dl s).2.1 (dl s).2.2 64
   rw[WD] at vO
   generalize an s (dl s).2.1 (dl s).2.2 64=tx at*
   obtain⟨tt,a3,e3⟩:=tx
   simp only at tp vO me ⊢
   have Cs: (dl s).1.length=g:=by rw[hP,Ey]
   generalize (dl s).1=pl at*
   have hg4:g≤4:=by omega
   have hC: ∀w',Hp w ((b5,Obj.cells (ak T v tt).toArray 172 (0,0)):: (br, .cells #[vs s,vi a3,vi e3] 217 (0,0)):: (b2,Obj.cells (ak id0 (.slice none 0 0) []).toArray 172 (0,0))::D) w'→ComS w' (.agg (ak T v tt).toArray) ⟨T,pl,tt⟩:=fun w' aB=>
    ⟨v,rfl,hG.slM (fun b o hm=>aB.has b o (by simp[hm])) Cs rfl pn⟩
   have sC:New w.heap.size ((b5,Obj.cells (ak T v tt).toArray 172 (0,0)):: (br, .cells #[vs s,vi a3,vi e3] 217 (0,0)):: (b2,Obj.cells (ak id0 (.slice none 0 0) []).toArray 172 (0,0))::D):=⟨pd,kM,bH,New.mono (by omega) hN⟩
   have hR:l4 s=if bR s a3 e3=0∧je ⟨T,pl,tt⟩=true∧comB ⟨T,pl,tt⟩=s then some ⟨T,pl,tt⟩ else none:=by unfold l4;rw[vO]
   have stz: ∀a E,ab (some (a,34)) (some (.cells (ak id0 (.slice none 0 0) []).toArray E (0,0))) 0 (.agg (ak id0 (.slice none 0 0) []).toArray)=some (.cells (ak id0 (.slice none 0 0) []).toArray E (0,0)):=st5
   unfold uc
   rw[hR]
   refine Ow.callFV rfl Tryz.call145 (fun w' aB=>ZJ br s a3 e3 w' (aB.has _ _ (List.mem_cons_of_mem _ List.mem_cons_self))) ?_
   by_cases he:bR s a3 e3=0
   ·have d1: (bR s a3 e3 !=0)=false:=by simp[he]
    refine ko (And.intro @dJ @d1) ?_
    refine Ow.callFV rfl Tryz.call150 (fun w' aB=>XL_ _ _ w' (hC w' aB) (by show pl.length<1000000;omega) (by show tt.length<1099511627776;omega)) ?_
    cases hr:je ⟨T,pl,tt⟩
    ·rw[if_neg (by simp)]
     refine ko @dJ ?_
     refine Ow.build (.agg (ak id0 (.slice none 0 0) []).toArray) rfl FY ?_
     refine ko (And.intro @dJ @stz) ?_
     first|with_reducible refine ks [] @dJ ?_|refine kp @dJ ?_
     refine⟨_,(ke @dJ), ?_⟩
     exact⟨Ext.of_new sC,rfl⟩
    ·refine ko @dJ ?_
     refine Ow.callFV rfl Tryz.call151 (fun w' aB=>VF_ _ _ w' (hC w' aB) (by show pl.length<1000000;omega) (by show tt.length<1099511627776;omega)) ?_
     by_cases hb:comB ⟨T,pl,tt⟩=s
     ·have d3: (comB ⟨T,pl,tt⟩ !=s)=false:=by simp[hb]
      have stq: ∀a E,ab (some (a,34)) (some (.cells (ak id0 (.slice none 0 0) []).toArray E (0,0))) 0 (.agg (ak T v tt).toArray)=some (.cells (ak T v tt).toArray E (0,0)):=fun a E=>Hg _ _ _ _ a E (by rw[List.size_toArray,wj]) hG.cell.1
      rw[if_pos ⟨he,rfl,hb⟩]
      refine ko (And.intro @dJ (And.intro @d3 (@stq))) ?_
      first|with_reducible refine ks [] @dJ ?_|refine kp @dJ ?_
      refine⟨_,(ke @dJ), ?_⟩
      refine⟨Ext.of_new ⟨pd,kM,bH,New.mono (by omega) hN⟩,v,rfl, ?_⟩
      show Gr _ _ _ _ pl.length (pl.map eZ).flatten
      rw[Cs]
      exact hG.keep fun b o hb ho=>by
       have:=hN.le b (cJ ho)
       simp(disch:=omega) only[p4]
       exact ho
     ·have d3: (comB ⟨T,pl,tt⟩ !=s)=true:=by simp[hb]
      rw[if_neg (fun h=>hb h.2.2)]
      refine ko (And.intro @dJ @d3) ?_
      refine Ow.build (.agg (ak id0 (.slice none 0 0) []).toArray) rfl FY ?_
      refine ko (And.intro @dJ @stz) ?_
      first|with_reducible refine ks [] @dJ ?_|refine kp @dJ ?_
      refine⟨_,(ke @dJ), ?_⟩
      exact⟨Ext.of_new sC,rfl⟩
   ·have d1: (bR s a3 e3 !=0)=true:=by simp[he]
    rw[if_neg (fun h=>he h.1)]
    refine ko (And.intro @dJ @d1) ?_
    refine Ow.build (.agg (ak id0 (.slice none 0 0) []).toArray) rfl FY ?_
    refine ko (And.intro @dJ @stz) ?_
    first|with_reducible refine ks [] @dJ ?_|refine kp @dJ ?_
    refine⟨_,(ke @dJ), ?_⟩
    exact⟨Ext.of_new sC,rfl⟩
end Go.Proofs
end
section
open Go Go.Proofs Go.Sx Go.StP
namespace Go.Proofs
set_option maxRecDepth 10000
set_option maxHeartbeats 400000
set_option linter.unusedSimpArgs false
def roC (r v:Value) (t:IdL) (p:Value) (y:List UInt8):List Value:= [r]++ ([v]++ak t p y)
theorem AS (r v:Value) (t:IdL) (p:Value) (y:List UInt8) (n:Nat) (E:TypeId) (fz:Nat×Nat):aI (some (false,n)) (some (.cells (roC r v t p y).toArray E fz)) 0=some r:=lS [] _ r n E fz rfl
theorem Af (r v:Value) (t:IdL) (p:Value) (y:List UInt8) (n:Nat) (E:TypeId) (fz:Nat×Nat):aI (some (false,n)) (some (.cells (roC r v t p y).toArray E fz)) 1=some v:=by
 unfold roC;exact lS [r] _ v n E fz rfl
theorem AE (r v:Value) (t:IdL) (p:Value) (y:List UInt8) (E:TypeId) (fz:Nat×Nat):aI (some (true,34)) (some (.cells (roC r v t p y).toArray E fz)) 2=some (.agg (ak t p y).toArray):=by
 have e:roC r v t p y= [r,v]++ (ak t p y++ []):=by unfold roC;simp
 rw[e];exact xu [r,v] _ _ E fz rfl (wj _ _ _)
theorem zG (r v:Value) (t:IdL) (p:Value) (y:List UInt8) (n:Nat) (E:TypeId) (fz:Nat×Nat):aI (some (false,n)) (some (.cells (roC r v t p y).toArray E fz)) 34=some p:=by
 have e:roC r v t p y=([r,v]++t.l.map v8)++ ([p]++ [vs y]):=by unfold roC ak;simp
 rw[e];exact lS _ _ p n E fz (by simp[t.h])
theorem PN (r v q:Value) (t:IdL) (p:Value) (y:List UInt8) (a:Bool) (E:TypeId) (hq:Value.oneCell' q=true∧q.cells= #[q]):ab (some (a,1)) (some (.cells (roC r v t p y).toArray E (0,0))) 1 q=some (.cells (roC r q t p y).toArray E (0,0)):=by
 unfold roC
 exact gj [r] [v] [q] _ a _ E rfl rfl hq.2 rfl (by simp[hq.1])
theorem PF (r v:Value) (t x:IdL) (p:Value) (y:List UInt8) (a:Bool) (E:TypeId):ab (some (a,32)) (some (.cells (roC r v t p y).toArray E (0,0))) 2 (.agg (a8 x.l))=some (.cells (roC r v x p y).toArray E (0,0)):=by
 have e: ∀t,roC r v t p y= [r,v]++ (t.l.map v8++ ([p]++ [vs y])):=fun t=>by unfold roC ak;simp
 rw[e,e];exact gj [r,v] _ _ _ a _ E rfl (by simp[t.h]) (aV _) (by simp[x.h]) (rr _)
theorem NH (r v:Value) (t:IdL) (p q:Value) (y:List UInt8) (a:Bool) (E:TypeId) (hq:Value.oneCell' q=true∧q.cells= #[q]):ab (some (a,1)) (some (.cells (roC r v t p y).toArray E (0,0))) 34 q=some (.cells (roC r v t q y).toArray E (0,0)):=by
 have e: ∀p,roC r v t p y=([r,v]++t.l.map v8)++ ([p]++ [vs y]):=fun p=>by unfold roC ak;simp
 rw[e,e];exact gj _ [p] [q] [vs y] a _ E (by simp[t.h]) rfl hq.2 rfl (by simp[hq.1])
theorem Mh (r v:Value) (t:IdL) (p:Value) (y z:List UInt8) (a:Bool) (E:TypeId):ab (some (a,1)) (some (.cells (roC r v t p y).toArray E (0,0))) 35 (vs z)=some (.cells (roC r v t p z).toArray E (0,0)):=by
 have e: ∀y,roC r v t p y=(([r,v]++t.l.map v8)++ [p])++ ([vs y]++ []):=fun y=>by unfold roC ak;simp
 rw[e,e];exact gj _ _ _ _ a _ E (by simp[t.h]) rfl rfl rfl rfl
theorem N8 (k:Int) (t:List UInt8):fW (cg Tryz.prog 221) (am Tryz.prog 221) [(1,vi k),(0,vs t)]=some (.agg (av ⟨t,k,id0⟩).toArray):=by
 rw[show cg Tryz.prog 221=some [(0,1),(1,1),(2,32)] from id (by kernel_rfl),io];rfl
theorem FQ (b:Nat) (s:List UInt8) (a:Nat) (e:Int) (w:World) (ho:w.heap[b]? =some (.cells #[vs s,vi a,vi e] 250 (0,0))):
  Rets Tryz.prog 142 #[vp b 0] w (fun v D=>v=vi (bR s a e)∧D= []):=Nj b s a e w ho
set_option linter.defProp false
def gc:=And.intro (And.intro (And.intro (And.intro (@rT) (@rX)) (And.intro (@re) (@ro))) (And.intro (And.intro (@rm) (@AS)) (And.intro (@Af) (@AE)))) (And.intro (And.intro (And.intro (@zG) (@y3)) (And.intro (@Yl) (@Yp))) (And.intro (And.intro (@yp) (@xO)) (And.intro (@wI) (And.intro (@ay) (@ax)))))
theorem BP {w:World} {a b:Nat} {x y:Obj} (h:w.heap[a]? =some x) (h':w.heap[b]? =some y): ∀p:Nat×Obj,p∈ [(a,x),(b,y)]→w.heap[p.1]? =some p.2:=by
 intro p hp
 simp only[List.mem_cons,List.not_mem_nil,or_false] at hp
 rcases hp with rfl|rfl<;>assumption
structure EnH where
 n:Nat
 a:Nat
 e:Int
 l:List EntL
 v:Value
 D:aA
 H:aA
def C5 (bo bw:Nat) (s:List UInt8) (v:Value) (D:aA):Prop:=
 v= .bool (bR s (ef s).2.1 (ef s).2.2==0&&lU (ef s).1)∧ ∃v1,Sx.look D bo=some (.cells (roC (vp bw 0) v1 id0 (.slice none 0 0) []).toArray 271 (0,0))∧Gr D 221 34 v1 (ef s).1.length ((ef s).1.map av).flatten
theorem LA (bo bw:Nat) (s:List UInt8) (w:World) (hs:s.length<100000) (aO:bo≠bw)
  (ho:w.heap[bo]? =some (.cells (roC (vp bw 0) (.slice none 0 0) id0 (.slice none 0 0) []).toArray 271 (0,0))) (hr:w.heap[bw]? =some (.cells #[vs s,vi 0,vi 0] 250 (0,0))):
  Rets Tryz.prog 202 #[vp bo 0] w (XS w [(bo, .cells (roC (vp bw 0) (.slice none 0 0) id0 (.slice none 0 0) []).toArray 271 (0,0)),(bw, .cells #[vs s,vi 0,vi 0] 250 (0,0))] (C5 bo bw s)):=by
 have XJ:bo<w.heap.size:=(Array.getElem?_eq_some_iff.1 ho).1
 have EE:bw<w.heap.size:=(Array.getElem?_eq_some_iff.1 hr).1
 refine Rets.enterX Tryz.func202 rfl (rs:= [.tmp 2]) Tryz.results202 Tryz.ntmps202 (BP ho hr) (by simp[keys,aO]) ?_
 refine kf ?_
 first|with_reducible refine ks [] @gc ?_|refine kp @gc ?_
 refine Cw.loopG (G:=EnH) [4,5,6,7,8,9,10,11,12,13,14,15,16,17,18,19,20,3,21,22,23,24,25,26,27,28,29,30,31,32,33,34,35,36] (fun q=> []) (fun q=>q.H) (fun q=>EntsJ s q.n q.a q.e q.l∧New w.heap.size q.D∧Gr q.D 221 34 q.v q.l.length (q.l.map av).flatten∧((bo,Obj.cells (roC (vp bw 0) q.v id0 (.slice none 0 0) []).toArray 271 (0,0)):: (bw, .cells #[vs s,vi q.a,vi q.e] 250 (0,0))::q.D).Perm q.H) (fun q=>q.n) ⟨s.length+1,0,0,[], .slice none 0 0,[],[(bo,Obj.cells (roC (vp bw 0) (.slice none 0 0) id0 (.slice none 0 0) []).toArray 271 (0,0)),(bw, .cells #[vs s,vi 0,vi 0] 250 (0,0))]⟩ rfl rfl ?_ ?_
 ·exact⟨EntsJ.init s,trivial,Gr.nl,List.Perm.refl _⟩
 ·intro q jq hq
  refine kv ?_
  obtain⟨n,a,e,l,v,D,H0⟩:=q
  simp only at hq ⊢
  obtain⟨hJ,hN,hG,Ct⟩:=hq
  refine Cw.permL Ct ?_
  clear Ct
  have dN:=hJ.le
  first|with_reducible refine ks [3] @gc ?_|refine kp @gc ?_
  refine Ow.callFV rfl Tryz.call142 (fun w' aB=>FQ bw s a e w' (aB.has _ _ (List.mem_cons_of_mem _ List.mem_cons_self))) ?_
  by_cases hc:e=0∧a<s.length
  ·obtain⟨m,rfl,l7⟩:=hJ.next hc
   obtain⟨he,aD⟩:=hc
   have h5:bR s a e=5:=by unfold bR;rw[if_neg (by simp[he]),if_pos (by omega)]
   have d1: (bR s a e==5)=true:=by simp[h5]
   refine ko (And.intro @gc @d1) ?_
   have hp:=iD (e:=e) (most:=2) dN
   have hq:=rY (e:=(aE s a e 2).2.2) (most:=32) hp.2
   have heq:gl s a e=(⟨(an s (aE s a e 2).2.1 (aE s a e 2).2.2 32).1,(aE s a e 2).1,kC (idR s (an s (aE s a e 2).2.1 (aE s a e 2).2.2 32).2.1 (an s (aE s a e 2).2.1 (aE s a e 2).2.2 32).2.2).1⟩,(idR s (an s (aE s a e 2).2.1 (aE s a e 2).2.2 32).2.1 (an s (aE s a e 2).2.1 (aE s a e 2).2.2 32).2.2).2):=rfl
   have gW:=tH s (an s (aE s a e 2).2.1 (aE s a e 2).2.2 32).2.1 (an s (aE s a e 2).2.1 (aE s a e 2).2.2 32).2.2
   refine Cw.regionD [bo] [12] 11 3 221 12 _ rfl (by kernel_rfl) (by kernel_rfl) rfl (by kernel_rfl) io (fun hD=> ?_)
   simp only[List.replicate_succ,List.replicate_zero]
   refine OwD.run [0,1,2,3,5,6,7,8] [true,true,true,true,false,true,true,true,true,false,false,false,false] 4 rfl hD (by kernel_rfl) fun k hk=> ?_
   simp only[ap, ↓ao, ↓ac, ↓aj, ↓ai,ad]
   simp(disch:=(first|assumption|omega| (simp only[cT,cS,UInt64.reduceToNat];try omega))) only[↓Sx.S0,Sx.S1,Tryz.fx,gc,Nat.reduceAdd,Nat.reducePow,Int.reducePow,Nat.reduceBEq, ↓reduceIte,UInt8.reduceToNat,UInt16.reduceToNat,UInt32.reduceToNat,UInt64.reduceToNat,Int.reduceToNat,Md.next_sofnil,Md.next_sofnil]
   (with_reducible refine hk _ _ _ ?_);clear hk k
   refine OwD.soft 4 _ hD rfl (by kernel_rfl) (fun E hE=> ?_)
   refine Ow.callM rfl rfl Tryz.call179 (by simp[keys]) (fun w' aB=>Xy bw s a e 2 w' dN (by omega) (aB.has _ _ (by simp))) ?_
   generalize aE s a e 2=p at*
   obtain⟨kd,a1,e1⟩:=p
   simp only at hp hq heq gW ⊢
   refine kn ?_
   with_reducible refine Ow.nil ?_
   refine⟨(bo,Obj.cells (roC (vp bw 0) v id0 (.slice none 0 0) []).toArray 271 (0,0)):: (bw, .cells #[vs s,vi a1,vi e1] 250 (0,0))::D,(by classical exact List.perm_iff_count.2 fun a=>by simp only[List.count_append,List.count_cons,List.count_nil]<;>omega),fun r hr=> ?_, ?_⟩
   ·rw[List.mem_singleton.1 hr]
    simp only[pq]
   simp only[List.set_cons_zero,List.set_cons_succ,EY,ry,s8]
   refine OwD.soft 9 _ hD rfl (by kernel_rfl) (fun E hE=> ?_)
   refine Ow.callM rfl rfl Tryz.call141 (by simp[keys]) (fun w' aB=>Gm bw s a1 e1 32 w' hp.2 (by omega) (aB.has _ _ (by simp))) ?_
   generalize an s a1 e1 32=q at*
   obtain⟨tt,a2,e2⟩:=q
   simp only at hq heq gW ⊢
   refine kn ?_
   with_reducible refine Ow.nil ?_
   refine⟨(bo,Obj.cells (roC (vp bw 0) v id0 (.slice none 0 0) []).toArray 271 (0,0)):: (bw, .cells #[vs s,vi a2,vi e2] 250 (0,0))::D,(by classical exact List.perm_iff_count.2 fun a=>by simp only[List.count_append,List.count_cons,List.count_nil]<;>omega),fun r hr=> ?_, ?_⟩
   ·rw[List.mem_singleton.1 hr]
    simp only[pq]
   simp only[List.set_cons_zero,List.set_cons_succ,EY,ry,s8]
   refine OwD.soft 10 _ hD rfl (by kernel_rfl) (fun E hE=> ?_)
   refine Ow.build (.agg (av ⟨tt,kd,id0⟩).toArray) rfl (N8 kd tt) ?_
   with_reducible refine Ow.nil ?_
   refine⟨_,List.Perm.refl _,fun _ _=>rfl, ?_⟩
   simp only[List.set_cons_zero,List.set_cons_succ,EY,ry,s8]
   refine OwD.real [12] rfl hD (by kernel_rfl) (by kernel_rfl) (by kernel_rfl) (by kernel_rfl) (fun r hr=>by rw[List.mem_singleton.1 hr];exact .inl (by simp[keys])) ?_
   simp only[ap, ↓ao, ↓ac, ↓aj, ↓ai,ad]
   intro b3 gI lA
   simp only[ry,s8]
   have Xj:=xO ⟨tt,kd,id0⟩ bJ
   refine Ow.store rfl rfl rfl (L':=((bo,Obj.cells (roC (vp bw 0) v id0 (.slice none 0 0) []).toArray 271 (0,0)):: (bw, .cells #[vs s,vi a2,vi e2] 250 (0,0))::D)++ [(b3, .cells (av ⟨tt,kd,id0⟩).toArray 221 (0,0))]) ?_ ?_
   ·simp only[d9,cu,d8]
    rw[Tryz.ag221,EV,Y3 lA,aV,Xj,xn,yl lA]
    exact []
   refine ko @gc ?_
   refine Cw.permL (M:=(b3, .cells (av ⟨tt,kd,id0⟩).toArray 221 (0,0)):: (bo,Obj.cells (roC (vp bw 0) v id0 (.slice none 0 0) []).toArray 271 (0,0)):: (bw, .cells #[vs s,vi a2,vi e2] 250 (0,0))::D) (by classical exact List.perm_iff_count.2 fun a=>by simp only[List.count_append,List.count_cons,List.count_nil]<;>omega) ?_
   have hb3o:bo≠b3:=by simp[keys] at lA;omega
   have hb3w:bw≠b3:=by simp[keys] at lA;omega
   first|with_reducible refine ks [] @gc ?_|refine kp @gc ?_
   refine Ow.callM rfl rfl Tryz.call227 (by simp[keys]) (fun w' aB=>tO bw s a2 e2 w' hq.2 (by omega) (aB.has _ _ (by simp))) ?_
   generalize idR s a2 e2=i at*
   obtain⟨il,a3,e3⟩:=i
   simp only at heq gW ⊢
   obtain⟨I,hI⟩: ∃I,kC il=I:=⟨_,rfl⟩
   have vY:il=I.l:=by rw[←hI,wM gW]
   rw[hI] at heq
   rw[vY]
   refine kn ?_
   refine ko @gc ?_
   generalize hx: ({name:=tt,kind:=kd,id:=I}:EntL)=x
   rw[hx] at heq
   rw[heq] at l7
   refine Cw.regionS [bo,b3] [0,1,2,3,4,5,6,7,8,9,10] [10] (by kernel_rfl) (by kernel_rfl) (by kernel_rfl) ?_
   simp only[ap, ↓ao, ↓ac, ↓aj, ↓ai,ad]
   refine kq @gc ?_
   refine Ow.soft rfl rfl rfl ?_
   refine Ow.buildSlice (e:=221) (av x).toArray rfl rfl (lV Tryz.underlying168 qV io (by decide) (m4 x)) fun b13 mU wC=> ?_
   have h3d:b3<b13:=ae mU (by simp[keys])
   with_reducible refine Ow.nil ?_
   refine⟨FX (by simp[keys]), ?_⟩
   try simp only[List.cons_append,List.nil_append]
   refine Ow.soft rfl rfl rfl ?_
   refine Ow.permL (M:=D++ [(b3,Obj.cells (av x).toArray 221 (0,0)),(bo,Obj.cells (roC (vp bw 0) v id0 (.slice none 0 0) []).toArray 271 (0,0)),(bw, .cells #[vs s,vi a3,vi e3] 250 (0,0)),(b13,Obj.cells (av x).toArray 221 (0,0))]) (by classical exact List.perm_iff_count.2 fun a=>by simp only[List.count_append,List.count_cons,List.count_nil]<;>omega) ?_
   refine Ow.appendX (e:=221) (k:=1) (new:=av x) (X:=D) v rfl rfl rfl rfl Tryz.underlying168 qV (by kernel_rfl) io (by rw[wI,List.size_toArray,m4]) Tryz.underlying168 (by intro k h;cases h) hG (fun w' aB=>AppX.one1 (aB.has b13 (.cells (av x).toArray 221 (0,0)) (by simp)) (m4 _) (ti _)) (by omega) (by have:=hJ.cnt;omega) (fun B v4 D4 i1 pM i7 dr eK bl=> ?_)
   have n8:b3<B:=ae i1 (by simp[bM,keys])
   have eI:New w.heap.size D4:=New.of_le fun q hq=>by
    rcases eK q hq with h|h
    ·exact hN.le q h
    ·omega
   have vu:bo∉keys D4:=eI.not XJ
   have Fc:b3∉keys D4:=fun hm=>by
    rcases eK b3 hm with h|h
    ·exact lA (by simp only[keys,List.map_cons,List.mem_cons];exact .inr (.inr h))
    ·omega
   with_reducible refine Ow.nil ?_
   refine⟨fun q hq=> ?_, ?_⟩
   ·simp only[List.mem_cons,List.not_mem_nil,or_false] at hq
    rcases hq with rfl|rfl
    ·rw[FW vu]
     simp(disch:=omega) only[pq,H1]
    ·rw[FW Fc]
     simp(disch:=omega) only[pq,H1]
   have vq: ∀M,Sx.look (D4++M) bo=Sx.look M bo:=fun M=>gi vu
   have w8: ∀M x,setB (D4++M) bo x=D4++setB M bo x:=fun M x=>Er vu
   have st1:=fun a E=>PN (vp bw 0) v v4 id0 (.slice none 0 0) [] a E i7.cell
   have cK:pz (aM Tryz.prog 168) (D4++ [(b3,Obj.cells (av x).toArray 221 (0,0)),(bo,Obj.cells (roC (vp bw 0) v id0 (.slice none 0 0) []).toArray 271 (0,0)),(bw, .cells #[vs s,vi a3,vi e3] 250 (0,0)),(b13,Obj.cells (av x).toArray 221 (0,0))]) (vp bo 1) v4=some (D4++ [(b3,Obj.cells (av x).toArray 221 (0,0)),(bo,Obj.cells (roC (vp bw 0) v4 id0 (.slice none 0 0) []).toArray 271 (0,0)),(bw, .cells #[vs s,vi a3,vi e3] 250 (0,0)),(b13,Obj.cells (av x).toArray 221 (0,0))]):=by
    rw[Tryz.ag168,EV,vq]
    simp(disch:=omega) only[ii,p4,st1,xn,w8,rn,wU]
   refine kq @gc ?_
   refine Ow.store rfl rfl rfl cK ?_
   refine ko @gc ?_
   refine Again.mk (EnH.mk m a3 e3 (l++ [x]) v4 (D4++ [(b3,Obj.cells (av x).toArray 221 (0,0)),(b13,Obj.cells (av x).toArray 221 (0,0))]) _) (by show m<m+1;omega) ⟨l7,eI.app ⟨by omega,by omega,trivial⟩, ?_, ?_⟩ rfl rfl
   ·show Gr _ _ _ _ (l++ [x]).length ((l++ [x]).map av).flatten
    rw[List.length_append,List.map_append,List.flatten_append,show([x].map av).flatten=av x by simp]
    exact Gr.app (.inl i7)
   ·exact(by classical exact List.perm_iff_count.2 fun a=>by simp only[List.count_append,List.count_cons,List.count_nil]<;>omega)
  ·have hd:=hJ.done hc
   have g4:=hJ.sh (by omega)
   have qz:=hJ.cnt
   have h5:bR s a e≠5:=by
    unfold bR
    by_cases he:e=0
    ·rw[if_neg (by simp[he]),if_neg (by omega)];decide
    ·rw[if_pos he];exact hJ.five
   have d1: (bR s a e==5)=false:=by simpa using h5
   have hE:Ext w [(bo,Obj.cells (roC (vp bw 0) (.slice none 0 0) id0 (.slice none 0 0) []).toArray 271 (0,0)),(bw,Obj.cells #[vs s,vi 0,vi 0] 250 (0,0))] ((bo,Obj.cells (roC (vp bw 0) v id0 (.slice none 0 0) []).toArray 271 (0,0)):: (bw,Obj.cells #[vs s,vi a,vi e] 250 (0,0))::D):=by
    refine⟨fun c hc=> ?_,fun c hc=> ?_⟩
    ·simp only[keys,List.map_cons,List.map_nil,List.mem_cons,List.not_mem_nil,or_false] at hc ⊢
     rcases hc with h|h|h
     ·exact .inl (.inl h)
     ·exact .inl (.inr h)
     ·exact .inr (hN.le c h)
    ·simp only[keys,List.map_cons,List.map_nil,List.mem_cons,List.not_mem_nil,or_false] at hc ⊢
     rcases hc with h|h
     ·exact .inl h
     ·exact .inr (.inl h)
   have hF:Gr ((bo,Obj.cells (roC (vp bw 0) v id0 (.slice none 0 0) []).toArray 271 (0,0)):: (bw,Obj.cells #[vs s,vi a,vi e] 250 (0,0))::D) 221 34 v l.length (l.map av).flatten:=hG.keep fun b o hb ho=>by
    have:=hN.le b (cJ ho)
    simp(disch:=omega) only[p4]
    exact ho
   unfold C5
   rw[hd]
   refine ko (And.intro @gc @d1) ?_
   refine Ow.callFV rfl Tryz.call142 (fun w' aB=>FQ bw s a e w' (aB.has _ _ (List.mem_cons_of_mem _ List.mem_cons_self))) ?_
   by_cases he:bR s a e=0
   ·have d2: (bR s a e==0)=true:=by simp[he]
    rw[d2]
    refine ko (And.intro @gc @d2) ?_
    refine Ow.callFV rfl Tryz.call228 (fun w' aB=>J5 v l w' (hG.slM (fun b o hm=>aB.has b o (by simp[hm])) rfl rfl m4) (by omega) g4) ?_
    refine ko @gc ?_
    first|with_reducible refine ks [] @gc ?_|refine kp @gc ?_
    refine⟨_,(ke @gc), ?_⟩
    exact⟨hE,rfl,v,by simp only[ii],hF⟩
   ·have d2: (bR s a e==0)=false:=by simpa using he
    rw[d2]
    refine ko (And.intro @gc @d2) ?_
    first|with_reducible refine ks [] @gc ?_|refine kp @gc ?_
    refine⟨_,(ke @gc), ?_⟩
    exact⟨hE,rfl,v,by simp only[ii],hF⟩
end Go.Proofs
end
section
open Go Go.Proofs Go.Sx Go.StP
namespace Go.Proofs
set_option maxRecDepth 10000
set_option maxHeartbeats 400000
set_option linter.unusedSimpArgs false
set_option linter.defProp false
def iK:=And.intro (And.intro (And.intro (@rT) (And.intro (@rX) (@re))) (And.intro (And.intro (@ro) (@rm)) (And.intro (@AS) (@Af)))) (And.intro (And.intro (@AE) (And.intro (@zG) (@PF))) (And.intro (And.intro (@Mh) (@xZ)) (And.intro (@ay) (@ax))))
structure CmH where
 g:Nat
 v:Value
 D:aA
 H:aA
def CZ (bo bw:Nat) (s:List UInt8) (v:Value) (D:aA):Prop:=
 v= .bool (bR s (eG s).2.1 (eG s).2.2==0&&je (eG s).1)∧ ∃p,Sx.look D bo=some (.cells (roC (vp bw 0) (.slice none 0 0) (eG s).1.tree p (eG s).1.text).toArray 271 (0,0))∧Gr D 84 32 p (eG s).1.par.length ((eG s).1.par.map eZ).flatten
theorem O1 (bo bw:Nat) (s:List UInt8) (w:World) (hs:s.length<100000) (aO:bo≠bw)
  (ho:w.heap[bo]? =some (.cells (roC (vp bw 0) (.slice none 0 0) id0 (.slice none 0 0) []).toArray 271 (0,0))) (hr:w.heap[bw]? =some (.cells #[vs s,vi 0,vi 0] 250 (0,0))):
  Rets Tryz.prog 203 #[vp bo 0] w (XS w [(bo,Obj.cells (roC (vp bw 0) (.slice none 0 0) id0 (.slice none 0 0) []).toArray 271 (0,0)),(bw,Obj.cells #[vs s,vi 0,vi 0] 250 (0,0))] (CZ bo bw s)):=by
 have XJ:bo<w.heap.size:=(Array.getElem?_eq_some_iff.1 ho).1
 have EE:bw<w.heap.size:=(Array.getElem?_eq_some_iff.1 hr).1
 refine Rets.enterX Tryz.func203 rfl (rs:= [.tmp 2]) Tryz.results203 Tryz.ntmps203 (BP ho hr) (by simp[keys,aO]) ?_
 refine kf ?_
 first|with_reducible refine ks [] @iK ?_|refine kp @iK ?_
 refine Ow.callM rfl rfl Tryz.call227 (by simp[keys]) (fun w' aB=>tO bw s 0 0 w' (Nat.zero_le _) (by omega) (aB.has _ _ (List.mem_cons_of_mem _ List.mem_cons_self))) ?_
 have ip:=mH (s:=s) (a:=0) (e:=0) (Nat.zero_le _)
 have np:=iD (e:=(idR s 0 0).2.2) (most:=4) ip.2
 have nm:=pv (s:=s) (a:=(idR s 0 0).2.1) (e:=(idR s 0 0).2.2) (most:=4) (by decide)
 obtain⟨T,hT⟩: ∃T,kC (idR s 0 0).1=T:=⟨_,rfl⟩
 have WX: (idR s 0 0).1=T.l:=by rw[←hT,wM (tH s 0 0)]
 have vO:eG s=(⟨T,(dl s).1,(comT s).1⟩,(comT s).2):=by unfold eG;rw[hT]
 rw[WX]
 refine kn ?_
 refine ko @iK ?_
 refine Ow.callM rfl rfl Tryz.call179 (by simp[keys]) (fun w' aB=>Xy bw s _ _ 4 w' ip.2 (by omega) (aB.has _ _ (List.mem_cons_of_mem _ List.mem_cons_self))) ?_
 have hP:dl s=ar s (aE s (idR s 0 0).2.1 (idR s 0 0).2.2 4).2.1 (aE s (idR s 0 0).2.1 (idR s 0 0).2.2 4).2.2 (aE s (idR s 0 0).2.1 (idR s 0 0).2.2 4).1.toNat:=rfl
 generalize aE s (idR s 0 0).2.1 (idR s 0 0).2.2 4=nr at*
 obtain⟨cn,na,ne⟩:=nr
 simp only at np nm hP ⊢
 obtain⟨k,rfl⟩:=Int.eq_ofNat_of_zero_le nm.1
 rw[Int.toNat_natCast] at hP
 refine kn ?_
 refine ko @iK ?_
 refine Cw.loopG (G:=CmH) [18,19,20,21,22,23,24,25,26,27,28,29,30,31,32,33,34,35,17] (fun q=> [(17,vi q.g)]) (fun q=>q.H) (fun q=>q.g≤k∧New w.heap.size q.D∧Gr q.D 84 32 q.v q.g ((ar s na ne q.g).1.map eZ).flatten∧((bo,Obj.cells (roC (vp bw 0) (.slice none 0 0) T q.v []).toArray 271 (0,0)):: (bw,Obj.cells #[vs s,vi (ar s na ne q.g).2.1,vi (ar s na ne q.g).2.2] 250 (0,0))::q.D).Perm q.H) (fun q=>k - q.g) ⟨0, .slice none 0 0,[],[(bo,Obj.cells (roC (vp bw 0) (.slice none 0 0) T (.slice none 0 0) []).toArray 271 (0,0)),(bw,Obj.cells #[vs s,vi na,vi ne] 250 (0,0))]⟩ rfl rfl ?_ ?_
 ·exact⟨Nat.zero_le _,trivial,Gr.nl,List.Perm.refl _⟩
 ·intro q jq hq
  refine kv ?_
  obtain⟨g,v,D,H0⟩:=q
  simp only at hq ⊢
  obtain⟨hgk,hN,hG,Ct⟩:=hq
  refine Cw.permL Ct ?_
  clear Ct
  have gle:=xl (e:=ne) np.2 g
  by_cases aD:g<k
  ·have vX:ar s na ne (g+1)=((ar s na ne g).1++ [kC (idR s (ar s na ne g).2.1 (ar s na ne g).2.2).1],(idR s (ar s na ne g).2.1 (ar s na ne g).2.2).2):=rfl
   first|with_reducible refine ks [] @iK ?_|refine kp @iK ?_
   refine Cw.regionS [bo] [0,1,2,3,4,6,7,8,5,9,10,11,12,13,14,15,16] [16] (by kernel_rfl) (by kernel_rfl) (by kernel_rfl) ?_
   simp only[ap, ↓ao, ↓ac, ↓aj, ↓ai,ad]
   refine kq @iK ?_
   refine Ow.soft rfl rfl rfl ?_
   refine Ow.callM rfl rfl Tryz.call227 (by simp[keys]) (fun w' aB=>tO bw s (ar s na ne g).2.1 (ar s na ne g).2.2 w' gle (by omega) (aB.has _ _ (List.mem_cons_of_mem _ List.mem_cons_self))) ?_
   with_reducible refine Ow.nil ?_
   refine⟨fun b hb=>Xx (by simp only[List.mem_cons,List.not_mem_nil,or_false] at hb;omega), ?_⟩
   have gW:=tH s (ar s na ne g).2.1 (ar s na ne g).2.2
   obtain⟨I,hI⟩: ∃I,kC (idR s (ar s na ne g).2.1 (ar s na ne g).2.2).1=I:=⟨_,rfl⟩
   have vY: (idR s (ar s na ne g).2.1 (ar s na ne g).2.2).1=I.l:=by rw[←hI,wM gW]
   rw[hI] at vX
   have jR: (ar s na ne (g+1)).1=(ar s na ne g).1++ [I]:=by rw[vX]
   have lm: (ar s na ne (g+1)).2=(idR s (ar s na ne g).2.1 (ar s na ne g).2.2).2:=by rw[vX]
   rw[vY,←lm]
   refine kn ?_
   refine Ow.soft rfl rfl rfl ?_
   refine Ow.buildSlice (e:=84) (a8 I.l) rfl rfl (lV (cs:=I.l.map v8) Tryz.underlying106 pI iV (by decide) (by simp[I.h])) fun b13 mU wC=> ?_
   with_reducible refine Ow.nil ?_
   refine⟨FX (by simp[keys]), ?_⟩
   try simp only[List.cons_append,List.nil_append]
   refine Ow.soft rfl rfl rfl ?_
   refine Ow.permL (M:=D++ [(bo,Obj.cells (roC (vp bw 0) (.slice none 0 0) T v []).toArray 271 (0,0)),(bw,Obj.cells #[vs s,vi (ar s na ne (g+1)).2.1,vi (ar s na ne (g+1)).2.2] 250 (0,0)),(b13,Obj.cells (a8 I.l) 84 (0,0))]) (by classical exact List.perm_iff_count.2 fun a=>by simp only[List.count_append,List.count_cons,List.count_nil]<;>omega) ?_
   refine Ow.appendX (e:=84) (k:=1) (new:=eZ I) (X:=D) v rfl rfl rfl rfl Tryz.underlying106 pI (by kernel_rfl) iV (by rw[aV,rj,id0.h]) Tryz.underlying106 (by intro k h;cases h) hG (fun w' aB=>AppX.one1 (aB.has b13 (.cells (a8 I.l) 84 (0,0)) (by simp)) (pn I) (Ev I)) (by omega) (by omega) (fun B v4 D4 i1 pM i7 dr eK bl=> ?_)
   have eI:New w.heap.size D4:=New.of_le fun q hq=>by
    rcases eK q hq with h|h
    ·exact hN.le q h
    ·omega
   have vu:bo∉keys D4:=eI.not XJ
   with_reducible refine Ow.nil ?_
   refine⟨fun q hq=> ?_, ?_⟩
   ·rw[List.mem_singleton] at hq
    subst hq
    rw[FW vu]
    simp only[pq]
   have vq: ∀M,Sx.look (D4++M) bo=Sx.look M bo:=fun M=>gi vu
   have w8: ∀M x,setB (D4++M) bo x=D4++setB M bo x:=fun M x=>Er vu
   have st1:=fun a E=>NH (vp bw 0) (.slice none 0 0) T v v4 [] a E i7.cell
   have cK:pz (aM Tryz.prog 106) (D4++ [(bo,Obj.cells (roC (vp bw 0) (.slice none 0 0) T v []).toArray 271 (0,0)),(bw,Obj.cells #[vs s,vi (ar s na ne (g+1)).2.1,vi (ar s na ne (g+1)).2.2] 250 (0,0)),(b13,Obj.cells (a8 I.l) 84 (0,0))]) (vp bo 34) v4=some (D4++ [(bo,Obj.cells (roC (vp bw 0) (.slice none 0 0) T v4 []).toArray 271 (0,0)),(bw,Obj.cells #[vs s,vi (ar s na ne (g+1)).2.1,vi (ar s na ne (g+1)).2.2] 250 (0,0)),(b13,Obj.cells (a8 I.l) 84 (0,0))]):=by
    rw[Tryz.ag106,EV,vq]
    simp(disch:=omega) only[ii,p4,st1,xn,w8,rn,wU]
   refine kq @iK ?_
   refine Ow.store rfl rfl rfl cK ?_
   refine ko @iK ?_
   refine Again.mk (CmH.mk (g+1) v4 (D4++ [(b13,Obj.cells (a8 I.l) 84 (0,0))]) _) (by show k - (g+1)<k - g;omega) ⟨by show g+1≤k;omega,eI.app ⟨by omega,trivial⟩, ?_, ?_⟩ rfl rfl
   ·show Gr _ _ _ _ (g+1) ((ar s na ne (g+1)).1.map eZ).flatten
    rw[jR,List.map_append,List.flatten_append,show([I].map eZ).flatten=eZ I by simp]
    exact Gr.app (.inl i7)
   ·exact(by classical exact List.perm_iff_count.2 fun a=>by simp only[List.count_append,List.count_cons,List.count_nil]<;>omega)
  ·obtain rfl:g=k:=by omega
   rw[←hP] at hG
   rw[←hP] at gle
   rw[←hP]
   have tp:=rY (e:=(dl s).2.2) (most:=64) gle
   first|with_reducible refine ks [] @iK ?_|refine kp @iK ?_
   refine Ow.callM rfl rfl Tryz.call141 (by simp[keys]) (fun w' aB=>Gm bw s (dl s).2.1 (dl s).2.2 64 w' gle (by omega) (aB.has _ _ (List.mem_cons_of_mem _ List.mem_cons_self))) ?_
   refine kn ?_
   refine ko @iK ?_
   have WD:comT s=an s (dl s).2.1 (dl s).2.2 64:=rfl
   have me:=Ew s (dl s).2.1 (dl s).2.2 64
   rw[WD] at vO
   generalize an s (dl s).2.1 (dl s).2.2 64=tx at*
   obtain⟨tt,a3,e3⟩:=tx
   simp only at tp vO me ⊢
   have Cs: (dl s).1.length=g:=by rw[hP,Ey]
   generalize (dl s).1=pl at*
   have hC: ∀w',Hp w ((bo,Obj.cells (roC (vp bw 0) (.slice none 0 0) T v tt).toArray 271 (0,0)):: (bw,Obj.cells #[vs s,vi a3,vi e3] 250 (0,0))::D) w'→ComS w' (.agg (ak T v tt).toArray) ⟨T,pl,tt⟩:=fun w' aB=>
    ⟨v,rfl,hG.slM (fun b o hm=>aB.has b o (by simp[hm])) Cs rfl pn⟩
   have hE:Ext w [(bo,Obj.cells (roC (vp bw 0) (.slice none 0 0) id0 (.slice none 0 0) []).toArray 271 (0,0)),(bw,Obj.cells #[vs s,vi 0,vi 0] 250 (0,0))] ((bo,Obj.cells (roC (vp bw 0) (.slice none 0 0) T v tt).toArray 271 (0,0)):: (bw,Obj.cells #[vs s,vi a3,vi e3] 250 (0,0))::D):=by
    refine⟨fun c hc=> ?_,fun c hc=> ?_⟩
    ·simp only[keys,List.map_cons,List.map_nil,List.mem_cons,List.not_mem_nil,or_false] at hc ⊢
     rcases hc with h|h|h
     ·exact .inl (.inl h)
     ·exact .inl (.inr h)
     ·exact .inr (hN.le c h)
    ·simp only[keys,List.map_cons,List.map_nil,List.mem_cons,List.not_mem_nil,or_false] at hc ⊢
     rcases hc with h|h
     ·exact .inl h
     ·exact .inr (.inl h)
   have hF:Gr ((bo,Obj.cells (roC (vp bw 0) (.slice none 0 0) T v tt).toArray 271 (0,0)):: (bw,Obj.cells #[vs s,vi a3,vi e3] 250 (0,0))::D) 84 32 v pl.length (pl.map eZ).flatten:=by
    rw[Cs]
    exact hG.keep fun b o hb ho=>by
     have:=hN.le b (cJ ho)
     simp(disch:=omega) only[p4]
     exact ho
   unfold CZ
   rw[vO]
   refine Ow.callFV rfl Tryz.call142 (fun w' aB=>FQ bw s a3 e3 w' (aB.has _ _ (List.mem_cons_of_mem _ List.mem_cons_self))) ?_
   by_cases he:bR s a3 e3=0
   ·have d2: (bR s a3 e3==0)=true:=by simp[he]
    rw[d2]
    refine ko (And.intro @iK @d2) ?_
    refine Ow.callFV rfl Tryz.call229 (fun w' aB=>K6 _ _ w' (hC w' aB) (by show pl.length<1000000;omega) (by show tt.length<1099511627776;omega)) ?_
    refine ko @iK ?_
    first|with_reducible refine ks [] @iK ?_|refine kp @iK ?_
    refine⟨_,(ke @iK), ?_⟩
    exact⟨hE,rfl,v,by simp only[ii],hF⟩
   ·have d2: (bR s a3 e3==0)=false:=by simpa using he
    rw[d2]
    refine ko (And.intro @iK @d2) ?_
    first|with_reducible refine ks [] @iK ?_|refine kp @iK ?_
    refine⟨_,(ke @iK), ?_⟩
    exact⟨hE,rfl,v,by simp only[ii],hF⟩
end Go.Proofs
end
section
open Go Go.Proofs Go.Sx Go.StP
namespace Go.Proofs
set_option maxRecDepth 10000
set_option maxHeartbeats 400000
set_option linter.unusedSimpArgs false
theorem Lq (v:Value) (w:World):Rets Tryz.prog 201 #[v] w (fun v' D=>v'= .bool true∧D= []):=by
 refine Rets.enterV Tryz.func201 rfl (rs:= [.tmp 2]) Tryz.results201 Tryz.ntmps201 ?_
 refine kf ?_
 first|with_reducible refine ks [] @Nat.add_zero ?_|refine kp @Nat.add_zero ?_
 refine⟨_,(ke @Nat.add_zero),trivial, ?_⟩
 rfl
abbrev obV (k:Int) (t:List UInt8):Value:= .agg #[vi k,vs t]
theorem jV (k:Int) (t:List UInt8) (E:TypeId) (fz:Nat×Nat):aI (some (true,2)) (some (.cells #[vi k,vs t] E fz)) 0=some (obV k t):=(rfl)
theorem jY (k:Int) (t:List UInt8) (n:Nat) (E:TypeId) (fz:Nat×Nat):aI (some (false,n)) (some (.cells #[vi k,vs t] E fz)) 0=some (vi k):=(rfl)
theorem jX (k:Int) (t:List UInt8) (n:Nat) (E:TypeId) (fz:Nat×Nat):aI (some (false,n)) (some (.cells #[vi k,vs t] E fz)) 1=some (vs t):=(rfl)
theorem jW (k k':Int) (t t':List UInt8) (a:Bool) (E:TypeId):ab (some (a,2)) (some (.cells #[vi k',vs t'] E (0,0))) 0 (obV k t)=some (.cells #[vi k,vs t] E (0,0)):=(rfl)
set_option linter.defProp false
def eL:=And.intro (And.intro (@jV) (And.intro (@jY) (@jX))) (And.intro (@jW) (And.intro (@ay) (@ax)))
def fnV (k:Nat):Value:= .func (.func k) #[] #[]
def fnsV:Array Value:= #[.nilFunc,fnV 201,fnV 202,fnV 203]
abbrev T4:TypeId:=269
theorem P3:fW (cg Tryz.prog T4) (am Tryz.prog T4) [(1,fnV 201),(2,fnV 202),(3,fnV 203)]=some (.agg fnsV):=by
 have hp:cg Tryz.prog T4=some [(0,1),(1,1),(2,1),(3,1)]:=id (by kernel_rfl)
 have hz:am Tryz.prog T4=some (.agg #[.nilFunc, .nilFunc, .nilFunc, .nilFunc]):=id (by kernel_rfl)
 rw[hp,hz];rfl
theorem VO:am Tryz.prog T4=some (.agg #[.nilFunc, .nilFunc, .nilFunc, .nilFunc]):=id (by kernel_rfl)
theorem Pc (a:Bool) (E:TypeId):ab (some (a,4)) (some (.cells #[.nilFunc, .nilFunc, .nilFunc, .nilFunc] E (0,0))) 0 (.agg fnsV)=some (.cells fnsV E (0,0)):=(rfl)
theorem RJ (x:Value) (hx:x.cells= #[x]):fW (cg Tryz.prog 271) (am Tryz.prog 271) [(0,x)]=some (.agg (roC x (.slice none 0 0) id0 (.slice none 0 0) []).toArray):=by
 have hp:cg Tryz.prog 271=some [(0,1),(1,1),(2,34)]:=id (by kernel_rfl)
 have hz:am Tryz.prog 271=some (.agg (roC (.pointer none) (.slice none 0 0) id0 (.slice none 0 0) []).toArray):=id (by kernel_rfl)
 rw[hp,hz]
 simp only[fW,kw,List.getElem?_cons_zero,hx]
 rfl
def bS (k:Int) (t:List UInt8):Bool:=
 if 1≤k∧k≤3∧t.length≤4096 then
  (if k=1 then true else if k=2 then(bR t (ef t).2.1 (ef t).2.2==0&&lU (ef t).1) else(bR t (eG t).2.1 (eG t).2.2==0&&je (eG t).1))
 else false
def RdS (k:Int) (t:List UInt8) (v:Value) (D:aA):Prop:=
 ∃p,v= .tuple #[p, .bool (bS k t)]∧(1≤k∧k≤3∧t.length≤4096→ ∃bo bw v1 c1 x1 y1,p=vp bo 0∧Sx.look D bo=some (.cells (roC (vp bw 0) v1 c1 x1 y1).toArray 271 (0,0))∧
  (k=2→Gr D 221 34 v1 (ef t).1.length ((ef t).1.map av).flatten)∧
  (k=3→c1=(eG t).1.tree∧y1=(eG t).1.text∧Gr D 84 32 x1 (eG t).1.par.length ((eG t).1.par.map eZ).flatten)∧(k≠2→v1= .slice none 0 0))
theorem My (k:Int) (t:List UInt8) (w:World):Rets Tryz.prog 169 #[obV k t] w (XS w [] (RdS k t)):=by
 refine Rets.enterX Tryz.func169 rfl (rs:= [.tmp 2, .tmp 3]) Tryz.results169 Tryz.ntmps169 (fun p hp=>by cases hp) (by simp[keys]) ?_
 refine kf ?_
 first|with_reducible refine ks [] @eL ?_|refine kp @eL ?_
 refine Ow.box rfl rfl fun b1 aQ aF=> ?_
 simp only[d9,cu,d8,aV,List.nil_append]
 refine ko @eL ?_
 refine Ow.build (.agg fnsV) rfl P3 ?_
 refine ko @eL ?_
 refine Ow.alloc rfl rfl VO fun b4 gS dg=> ?_
 simp only[aV,List.nil_append,List.cons_append]
 have Fa:b1<b4:=ae gS (by simp[keys])
 refine ko (And.intro @eL @Pc) ?_
 by_cases h1:k<1
 ·have d1:decide (k<1)=true:=decide_eq_true h1
  have e:bS k t=false:=by unfold bS;rw[if_neg (by omega)]
  first|with_reducible refine ks [] (And.intro @eL @d1) ?_|refine kp (And.intro @eL @d1) ?_
  refine⟨_,(ke @eL), ?_⟩
  exact⟨Ext.of_new ⟨aF,dg,trivial⟩, .pointer none,by rw[e];rfl,fun h=>absurd h.1 (by omega)⟩
 ·have d1:decide (k<1)=false:=decide_eq_false h1
  by_cases h2:3<k
  ·have d2:decide (3<k)=true:=decide_eq_true h2
   have e:bS k t=false:=by unfold bS;rw[if_neg (by omega)]
   first|with_reducible refine ks [] (And.intro @eL (And.intro @d1 (@d2))) ?_|refine kp (And.intro @eL (And.intro @d1 (@d2))) ?_
   refine⟨_,(ke @eL), ?_⟩
   exact⟨Ext.of_new ⟨aF,dg,trivial⟩, .pointer none,by rw[e];rfl,fun h=>absurd h.2.1 (by omega)⟩
  ·have d2:decide (3<k)=false:=decide_eq_false h2
   by_cases h3:4096<t.length
   ·have d3:decide (4096< (t.length:Int))=true:=decide_eq_true (by omega)
    have e:bS k t=false:=by unfold bS;rw[if_neg (by omega)]
    first|with_reducible refine ks [] (And.intro @eL (And.intro @d1 (And.intro @d2 (@d3)))) ?_|refine kp (And.intro @eL (And.intro @d1 (And.intro @d2 (@d3)))) ?_
    refine⟨_,(ke @eL), ?_⟩
    exact⟨Ext.of_new ⟨aF,dg,trivial⟩, .pointer none,by rw[e];rfl,fun h=>absurd h.2.2 (by omega)⟩
   ·have d3:decide (4096< (t.length:Int))=false:=decide_eq_false (by omega)
    first|with_reducible refine ks [] (And.intro @eL (And.intro @d1 (And.intro @d2 (@d3)))) ?_|refine kp (And.intro @eL (And.intro @d1 (And.intro @d2 (@d3)))) ?_
    refine Ow.callF rfl rfl Tryz.call138 (S:=fun B v D=> ∃b',B≤b'∧v=vp b' 0∧D= [(b', .cells #[vs t,vi 0,vi 0] 250 (0,0))]) (fun w' aB=>z2 t w') ?_
    rintro B v D jM hB ⟨bw,WP,rfl,rfl⟩
    obtain⟨h1B,h4B,-⟩:=jM
    refine⟨_,Mrg.fresh (by intro q hq;simp only[keys,List.map_cons,List.map_nil,List.mem_singleton] at hq;omega), ?_⟩
    simp only[List.cons_append,List.nil_append]
    refine ko @eL ?_
    refine Ow.build (.agg (roC (vp bw 0) (.slice none 0 0) id0 (.slice none 0 0) []).toArray) rfl (RJ _ rfl) ?_
    refine ko @eL ?_
    refine Ow.box rfl rfl fun bo gT hwo=> ?_
    simp only[d9,cu,d8,aV,List.nil_append,List.cons_append]
    have Dm:bo≠bw:=by have:=ae gT (show bw∈keys _ by simp[keys]);omega
    rcases(show k=1∨k=2∨k=3 by omega) with rfl|rfl|rfl
    ·have lf: ∀n E fz,aI (some (false,n)) (some (.cells fnsV E fz)) 1=some (fnV 201):=fun _ _ _=>rfl
     have e:bS 1 t=true:=by unfold bS;rw[if_pos (by omega)];rfl
     refine ko (And.intro @eL @lf) ?_
     refine Ow.callV rfl rfl Tryz.call201 (fun w' aB=>by have:=Lq (vp bo 0) w';simpa [d9,d8,cu] using this) ?_
     refine ko @eL ?_
     first|with_reducible refine ks [] @eL ?_|refine kp @eL ?_
     refine⟨_,(ke @eL), ?_⟩
     refine⟨Ext.of_new ⟨aF,dg,by omega,hwo,trivial⟩,vp bo 0,by rw[e];rfl,fun h=>⟨bo,bw, .slice none 0 0,id0, .slice none 0 0,[],rfl, ?_,fun h=>absurd h (by decide),fun h=>absurd h (by decide),fun _=>rfl⟩⟩
     have hb1o:b1≠bo:=by have:=ae gT (show b1∈keys _ by simp[keys]);omega
     have hb4o:b4≠bo:=by have:=ae gT (show b4∈keys _ by simp[keys]);omega
     simp(disch:=omega) only[ii,p4]
    ·have lf: ∀n E fz,aI (some (false,n)) (some (.cells fnsV E fz)) 2=some (fnV 202):=fun _ _ _=>rfl
     have e:bS 2 t=(bR t (ef t).2.1 (ef t).2.2==0&&lU (ef t).1):=by unfold bS;rw[if_pos (by omega)];rfl
     refine ko (And.intro @eL @lf) ?_
     refine Ow.permL (M:= [(bo,Obj.cells (roC (vp bw 0) (.slice none 0 0) id0 (.slice none 0 0) []).toArray 271 (0,0)),(bw,Obj.cells #[vs t,vi 0,vi 0] 250 (0,0))]++ [(b1,Obj.cells #[vi 2,vs t] 82 (0,0)),(b4,Obj.cells fnsV 269 (0,0))]) (by classical exact List.perm_iff_count.2 fun a=>by simp only[List.count_append,List.count_cons,List.count_nil]<;>omega) ?_
     refine Ow.callFnX (b:=vp bo 0) (X:= [(bo,Obj.cells (roC (vp bw 0) (.slice none 0 0) id0 (.slice none 0 0) []).toArray 271 (0,0)),(bw,Obj.cells #[vs t,vi 0,vi 0] 250 (0,0))]) (Y:= [(b1,Obj.cells #[vi 2,vs t] 82 (0,0)),(b4,Obj.cells fnsV 269 (0,0))]) rfl rfl rfl rfl rfl Tryz.call202 (fun w' aB hX hn=>LA bo bw t w' (by omega) Dm (hX _ List.mem_cons_self) (hX _ (List.mem_cons_of_mem _ List.mem_cons_self))) (fun v D hC hS=> ?_)
     obtain⟨rfl,v1,js,jR⟩:=hS
     have l8:New w.heap.size (D++ [(b1,Obj.cells #[vi 2,vs t] 82 (0,0)),(b4,Obj.cells fnsV 269 (0,0))]):=by
      refine New.of_le fun c hc=> ?_
      rw[bM,List.mem_append] at hc
      rcases hc with hc|hc
      ·rcases hC.new c hc with h| ⟨-,h⟩
       ·simp only[keys,List.map_cons,List.map_nil,List.mem_cons,List.not_mem_nil,or_false] at h;omega
       ·exact h
      ·simp only[keys,List.map_cons,List.map_nil,List.mem_cons,List.not_mem_nil,or_false] at hc;omega
     refine ko @eL ?_
     first|with_reducible refine ks [] @eL ?_|refine kp @eL ?_
     refine⟨_,(ke @eL), ?_⟩
     exact⟨Ext.of_new l8,vp bo 0,by rw[e];rfl,fun _=>⟨bo,bw,v1,_,_,_,rfl,bL js,fun _=>jR.app,fun h=>absurd h (by decide),fun h=>absurd rfl h⟩⟩
    ·have lf: ∀n E fz,aI (some (false,n)) (some (.cells fnsV E fz)) 3=some (fnV 203):=fun _ _ _=>rfl
     have e:bS 3 t=(bR t (eG t).2.1 (eG t).2.2==0&&je (eG t).1):=by unfold bS;rw[if_pos (by omega)];rfl
     refine ko (And.intro @eL @lf) ?_
     refine Ow.permL (M:= [(bo,Obj.cells (roC (vp bw 0) (.slice none 0 0) id0 (.slice none 0 0) []).toArray 271 (0,0)),(bw,Obj.cells #[vs t,vi 0,vi 0] 250 (0,0))]++ [(b1,Obj.cells #[vi 3,vs t] 82 (0,0)),(b4,Obj.cells fnsV 269 (0,0))]) (by classical exact List.perm_iff_count.2 fun a=>by simp only[List.count_append,List.count_cons,List.count_nil]<;>omega) ?_
     refine Ow.callFnX (b:=vp bo 0) (X:= [(bo,Obj.cells (roC (vp bw 0) (.slice none 0 0) id0 (.slice none 0 0) []).toArray 271 (0,0)),(bw,Obj.cells #[vs t,vi 0,vi 0] 250 (0,0))]) (Y:= [(b1,Obj.cells #[vi 3,vs t] 82 (0,0)),(b4,Obj.cells fnsV 269 (0,0))]) rfl rfl rfl rfl rfl Tryz.call203 (fun w' aB hX hn=>O1 bo bw t w' (by omega) Dm (hX _ List.mem_cons_self) (hX _ (List.mem_cons_of_mem _ List.mem_cons_self))) (fun v D hC hS=> ?_)
     obtain⟨rfl,p1,js,jR⟩:=hS
     have l8:New w.heap.size (D++ [(b1,Obj.cells #[vi 3,vs t] 82 (0,0)),(b4,Obj.cells fnsV 269 (0,0))]):=by
      refine New.of_le fun c hc=> ?_
      rw[bM,List.mem_append] at hc
      rcases hc with hc|hc
      ·rcases hC.new c hc with h| ⟨-,h⟩
       ·simp only[keys,List.map_cons,List.map_nil,List.mem_cons,List.not_mem_nil,or_false] at h;omega
       ·exact h
      ·simp only[keys,List.map_cons,List.map_nil,List.mem_cons,List.not_mem_nil,or_false] at hc;omega
     refine ko @eL ?_
     first|with_reducible refine ks [] @eL ?_|refine kp @eL ?_
     refine⟨_,(ke @eL), ?_⟩
     exact⟨Ext.of_new l8,vp bo 0,by rw[e];rfl,fun _=>⟨bo,bw,_,_,p1,_,rfl,bL js,fun h=>absurd h (by decide),fun _=>⟨rfl,rfl,jR.app⟩,fun _=>rfl⟩⟩
end Go.Proofs
end
section
open Go Go.Proofs Go.Sx Go.StP
namespace Go.Proofs
set_option maxRecDepth 10000
set_option maxHeartbeats 400000
set_option linter.unusedSimpArgs false
set_option linter.defProp false
def km:=And.intro (And.intro (And.intro (@jV) (@jY)) (And.intro (@jX) (@jW))) (And.intro (And.intro (@Sx.tup2_0) (@Sx.tup2_1)) (And.intro (@ay) (@ax)))
theorem Yb (k:Int) (t:List UInt8) (w:World):Rets Tryz.prog 132 #[obV k t] w (fun v D=>v= .bool (bS k t)∧D= []):=by
 refine Rets.enterV Tryz.func132 rfl (rs:= [.tmp 2]) Tryz.results132 Tryz.ntmps132 ?_
 refine kf ?_
 first|with_reducible refine ks [] @km ?_|refine kp @km ?_
 refine Ow.box rfl rfl fun b1 aQ aF=> ?_
 simp only[d9,cu,d8,aV,List.nil_append]
 refine ko @km ?_
 refine Ow.callC rfl rfl Tryz.call169 (fun w' aB=>My k t w') (fun B v D hA hB hN hS=> ?_)
 obtain⟨p,rfl,-⟩:=hS
 refine ko @km ?_
 first|with_reducible refine ks [] @km ?_|refine kp @km ?_
 refine⟨_,(ke @km),⟨aF,New.mono hB hN⟩, ?_⟩
 rfl
theorem eb:am Tryz.prog 82=some (obV 0 []):=id (by kernel_rfl)
theorem wH:fW (cg Tryz.prog 82) (am Tryz.prog 82) []=some (obV 0 []):=by
 have hp:cg Tryz.prog 82=some [(0,1),(1,1)]:=id (by kernel_rfl)
 rw[hp,eb];rfl
theorem zU (k:Int) (t:List UInt8):fW (cg Tryz.prog 82) (am Tryz.prog 82) [(0,vi k),(1,vs t)]=some (obV k t):=by
 have hp:cg Tryz.prog 82=some [(0,1),(1,1)]:=id (by kernel_rfl)
 rw[hp,eb];rfl
end Go.Proofs
end
section
open Go Go.Proofs Go.Sx Go.StP
namespace Go.Proofs
set_option maxRecDepth 10000
set_option maxHeartbeats 400000
set_option linter.unusedSimpArgs false
set_option linter.defProp false
theorem BldAt.zeroE (b:Nat) {L:aA} (h:Sx.look L b=some (.cells #[.pointer none, .slice none 0 0] 204 (0,0))):BldAt b [] L:=
 ⟨_,_,h, .inl rfl, .nl,fun h=>by cases h⟩
theorem zrWr:am Tryz.prog 204=some (.agg #[.pointer none, .slice none 0 0]):=id (by kernel_rfl)
theorem Came.newE {w0:World} {L X D:aA} {b:Nat} (hC:Came w0 L X D) (hN:New (b+1) X) (hb:b∈keys L):New (b+1) D:=New.of_le fun c hc=>by
 rcases hC.new c hc with h| ⟨h,-⟩
 ·exact hN.le c h
 ·have:=ae h hb;omega
end Go.Proofs
end
section
open Go Go.Proofs Go.Sx Go.StP
namespace Go.Proofs
set_option maxRecDepth 10000
set_option maxHeartbeats 400000
set_option linter.unusedSimpArgs false
set_option linter.defProp false
end Go.Proofs
end
section
open Go Go.Proofs Go.Sx Go.StP
namespace Go.Proofs
set_option maxRecDepth 10000
set_option maxHeartbeats 400000
set_option linter.unusedSimpArgs false
theorem wi {k:Int} {t:List UInt8} (h:bS k t=true):1≤k∧k≤3∧t.length≤4096:=by
 unfold bS at h
 split at h
 ·assumption
 ·cases h
set_option linter.defProp false
end Go.Proofs
end
section
open Go Go.Proofs Go.Sx Go.StP
namespace Go.Proofs
set_option maxRecDepth 10000
set_option maxHeartbeats 400000
set_option linter.unusedSimpArgs false
set_option linter.defProp false
def jz:=And.intro (And.intro (And.intro (@jV) (@jY)) (And.intro (@jX) (@jW))) (And.intro (And.intro (@Sx.tup2_0) (@Sx.tup2_1)) (And.intro (@ay) (@ax)))
def jx (k:Int):List UInt8:=(([32,98,116,99]:List UInt8).take (k+1).toNat).drop k.toNat
def dk (k:Int) (t:List UInt8):List UInt8:=jx k++eo t
theorem YG (k:Int) (t:List UInt8) (w:World):Rets Tryz.prog 99 #[obV k t] w (XS w [] (fun v _=>v=if bS k t then .tuple #[vs (dk k t),vi 0] else .tuple #[vs [],vi 1])):=by
 refine Rets.enterX Tryz.func99 rfl (rs:= [.tmp 2, .tmp 3]) Tryz.results99 Tryz.ntmps99 (fun p hp=>by cases hp) (by simp[keys]) ?_
 refine kf ?_
 first|with_reducible refine ks [] @jz ?_|refine kp @jz ?_
 refine Ow.box rfl rfl fun b1 aQ aF=> ?_
 simp only[d9,cu,d8,aV,List.nil_append]
 refine ko @jz ?_
 refine Ow.callFV rfl Tryz.call132 (fun w' aB=>Yb k t w') ?_
 cases hr:bS k t
 ·refine ko @jz ?_
  first|with_reducible refine ks [] @jz ?_|refine kp @jz ?_
  refine⟨_,(ke @jz), ?_⟩
  exact⟨Ext.of_new ⟨aF,trivial⟩,rfl⟩
 ·obtain⟨dr,aW,me⟩:=wi hr
  have x8: (jx k).length≤4:=by unfold jx;simp only[List.length_drop,List.length_take,List.length_cons,List.length_nil];omega
  refine ko @jz ?_
  refine Ow.alloc rfl rfl zrWr fun b4 gS dg=> ?_
  simp only[aV,List.nil_append,List.cons_append]
  have Fa:b1<b4:=ae gS (by simp[keys])
  refine Ow.permL (M:= [(b4,Obj.cells #[.pointer none, .slice none 0 0] 204 (0,0))]++ [(b1,Obj.cells #[vi k,vs t] 82 (0,0))]) (by classical exact List.perm_iff_count.2 fun a=>by simp only[List.count_append,List.count_cons,List.count_nil]<;>omega) ?_
  have uu:BldAt b4 [] [(b4,Obj.cells #[.pointer none, .slice none 0 0] 204 (0,0))]:=BldAt.zeroE b4 (ii _ _ _)
  have pP:New (b1+1) [(b4,Obj.cells #[.pointer none, .slice none 0 0] 204 (0,0))]:=⟨by omega,trivial⟩
  generalize [(b4,Obj.cells #[.pointer none, .slice none 0 0] 204 (0,0))]=D0 at uu pP ⊢
  have rdc: ∀ {D},New (b1+1) D→ ∀M,aP w (D++ (b1,Obj.cells #[vi k,vs t] 82 (0,0))::M) b1=some (.cells #[vi k,vs t] 82 (0,0)):=fun hn M=>aY (by rw[gi (hn.not (by omega))];exact ii _ _ _)
  have r0:=rdc pP
  have cN:gZ .str (vs ([32,98,116,99]:List UInt8)) (some (some k)) (some (some (k+1)))=some (vs (jx k)):=ZN _ _ _ ⟨by omega,by omega,by simp only[List.length_cons,List.length_nil];omega⟩
  refine ko (And.intro @jz (And.intro @r0 (@cN))) ?_
  refine Ow.buildSlice (e:=9) #[vs (jx k)] rfl rfl (by kernel_rfl) fun b14 i4 jv=> ?_
  have h114:b1<b14:=ae i4 (by simp[keys])
  have W4:b14∉keys D0:=fun hm=>Nat.lt_irrefl _ (ae i4 (by rw[bM];exact List.mem_append_left _ hm))
  refine ko @jz ?_
  refine Ow.callX (Y:= [(b1,Obj.cells #[vi k,vs t] 82 (0,0)),(b14,Obj.cells #[vs (jx k)] 9 (0,0))]) (by simp) rfl rfl Tryz.call133 (fun w' aB hX hn=>zu b4 D0 _ _ b14 0 [jx k] _ _ _ w' uu hX hn (StrS.lit [jx k] rfl rfl (aB.has _ _ (List.mem_append_right _ List.mem_cons_self))) (fun _=>W4) (by simp;omega) (by simp)) (fun u0 E0 hC0 Cx=> ?_)
  obtain⟨rfl,Vw⟩:=Cx
  have uy:=Came.newE hC0 pP (by simp[keys])
  have fK:=Vw.app (Y:= [(b14,Obj.cells #[vs (jx k)] 9 (0,0))])
  have eE:=uy.app (show New (b1+1) [(b14,Obj.cells #[vs (jx k)] 9 (0,0))] from⟨by omega,trivial⟩)
  refine Ow.permL (M:=(E0++ [(b14,Obj.cells #[vs (jx k)] 9 (0,0))])++ [(b1,Obj.cells #[vi k,vs t] 82 (0,0))]) (by classical exact List.perm_iff_count.2 fun a=>by simp only[List.count_append,List.count_cons,List.count_nil]<;>omega) ?_
  generalize E0++ [(b14,Obj.cells #[vs (jx k)] 9 (0,0))]=F1 at fK eE ⊢
  simp only[List.flatten_cons,List.flatten_nil,List.append_nil,List.nil_append] at fK
  have r1:=rdc eE
  refine ko (And.intro @jz @r1) ?_
  have E8:mo [t]=eo t:=by simp[mo]
  have tll:=xc (s:=t) (by omega)
  have tnl: (eo t).length=(eH (fC t.length)).length+t.length:=by unfold eo;rw[List.length_append]
  have nl1:=nY (t.length:Int)
  refine Ow.buildSlice (e:=9) #[vs t] rfl rfl (by kernel_rfl) fun b18 DE hw18=> ?_
  have h118:b1<b18:=ae DE (by simp[keys])
  have W5:b18∉keys F1:=fun hm=>Nat.lt_irrefl _ (ae DE (by rw[bM];exact List.mem_append_left _ hm))
  refine ko @jz ?_
  refine Ow.callX (Y:= [(b1,Obj.cells #[vi k,vs t] 82 (0,0)),(b18,Obj.cells #[vs t] 9 (0,0))]) (by simp) rfl rfl Tryz.call134 (fun w' aB hX hn=>NA b4 F1 _ _ b18 0 [t] _ _ _ w' fK hX hn (StrS.lit [t] rfl rfl (aB.has _ _ (List.mem_append_right _ List.mem_cons_self))) (fun _=>W5) (by rw[E8];omega) (by simp)) (fun u1 E1 W0 fS=> ?_)
  obtain⟨rfl,Vx⟩:=fS
  have cZ:=Came.newE W0 eE (by simp[keys])
  have dI:=Vx.app (Y:= [(b18,Obj.cells #[vs t] 9 (0,0))])
  have eP:=cZ.app (show New (b1+1) [(b18,Obj.cells #[vs t] 9 (0,0))] from⟨by omega,trivial⟩)
  refine Ow.permL (M:=(E1++ [(b18,Obj.cells #[vs t] 9 (0,0))])++ [(b1,Obj.cells #[vi k,vs t] 82 (0,0))]) (by classical exact List.perm_iff_count.2 fun a=>by simp only[List.count_append,List.count_cons,List.count_nil]<;>omega) ?_
  generalize E1++ [(b18,Obj.cells #[vs t] 9 (0,0))]=F2 at dI eP ⊢
  rw[E8] at dI
  refine ko @jz ?_
  refine Ow.callX (Y:= [(b1,Obj.cells #[vi k,vs t] 82 (0,0))]) (by simp) rfl rfl Tryz.call135 (fun w' aB hX hn=>Jk b4 F2 _ w' dI hX hn (by rw[List.length_append];omega)) (fun v5 D5 W1 vC=> ?_)
  obtain rfl:=vC
  have gC:=Came.newE W1 eP (by simp[keys])
  refine ko @jz ?_
  first|with_reducible refine ks [] @jz ?_|refine kp @jz ?_
  refine⟨_,(ke @jz), ?_⟩
  exact⟨Ext.of_new ((New.mono (by omega) gC).app ⟨aF,trivial⟩),rfl⟩
end Go.Proofs
end
section
open Go Go.Proofs Go.Sx Go.StP
namespace Go.Proofs
set_option maxRecDepth 10000
set_option maxHeartbeats 400000
set_option linter.unusedSimpArgs false
set_option linter.defProp false
def gx:=And.intro (And.intro (And.intro (@jV) (@jY)) (And.intro (@jX) (@jW))) (And.intro (And.intro (@Sx.tup2_0) (@Sx.tup2_1)) (And.intro (@xZ) (And.intro (@ay) (@ax))))
def kS (k:Int) (t:List UInt8):Bool:=if 4096<t.length then false else if k=2 then(kr t).isSome else if k=3 then(l4 t).isSome else k==1
theorem YE (k:Int) (t:List UInt8) (w:World):Rets Tryz.prog 54 #[obV k t] w (fun v D=>v= .bool (kS k t)∧D= []):=by
 refine Rets.enterV Tryz.func54 rfl (rs:= [.tmp 2]) Tryz.results54 Tryz.ntmps54 ?_
 refine kf ?_
 first|with_reducible refine ks [] @gx ?_|refine kp @gx ?_
 refine Ow.box rfl rfl fun b1 aQ aF=> ?_
 simp only[d9,cu,d8,aV,List.nil_append]
 refine ko @gx ?_
 unfold kS
 by_cases h3:4096<t.length
 ·have d1:decide (4096< (t.length:Int))=true:=decide_eq_true (by omega)
  rw[if_pos h3]
  first|with_reducible refine ks [] (And.intro @gx @d1) ?_|refine kp (And.intro @gx @d1) ?_
  refine⟨_,(ke @gx),⟨aF,trivial⟩, ?_⟩
  rfl
 ·have d1:decide (4096< (t.length:Int))=false:=decide_eq_false (by omega)
  rw[if_neg h3]
  by_cases h2:k=2
  ·subst h2
   rw[if_pos rfl]
   first|with_reducible refine ks [] (And.intro @gx @d1) ?_|refine kp (And.intro @gx @d1) ?_
   refine Ow.callC rfl rfl Tryz.call108 (fun w' aB=>IP t w' (by omega)) (fun B v D hA hB hN hS=> ?_)
   obtain⟨p,b,rfl,hb⟩: ∃p b,v= .tuple #[p, .bool b]∧(kr t).isSome=b:=by
    unfold uX at hS
    cases h:kr t with
    |none=>rw[h] at hS;exact⟨_,_,hS,rfl⟩
    |some l=>rw[h] at hS;obtain⟨v1,rfl,-⟩:=hS;exact⟨_,_,rfl,rfl⟩
   rw[hb]
   refine ko @gx ?_
   first|with_reducible refine ks [] @gx ?_|refine kp @gx ?_
   refine⟨_,(ke @gx),⟨aF,New.mono hB hN⟩, ?_⟩
   rfl
  ·have d2: (k==2)=false:=by simpa using h2
   rw[if_neg h2]
   by_cases h4:k=3
   ·subst h4
    rw[if_pos rfl]
    first|with_reducible refine ks [] (And.intro @gx (And.intro @d1 (@d2))) ?_|refine kp (And.intro @gx (And.intro @d1 (@d2))) ?_
    refine Ow.callC rfl rfl Tryz.call109 (fun w' aB=>IX t w' (by omega)) (fun B v D hA hB hN hS=> ?_)
    obtain⟨c,p,x,b,rfl,hp,hb⟩: ∃c p x b,v= .tuple #[.agg (ak c p x).toArray, .bool b]∧Value.oneCell' p=true∧(l4 t).isSome=b:=by
     unfold uc at hS
     cases h:l4 t with
     |none=>rw[h] at hS;exact⟨_,_,_,_,hS,rfl,rfl⟩
     |some l=>rw[h] at hS;obtain⟨v1,rfl,hg⟩:=hS;exact⟨_,_,_,_,rfl,hg.cell.1,rfl⟩
    rw[hb]
    have stq: ∀a E,ab (some (a,34)) (some (.cells (ak id0 (.slice none 0 0) []).toArray E (0,0))) 0 (.agg (ak c p x).toArray)=some (.cells (ak c p x).toArray E (0,0)):=fun a E=>Hg _ _ _ _ a E (by rw[List.size_toArray,wj]) hp
    refine ko @gx ?_
    refine Ow.alloc rfl rfl qk fun b5 qy pd=> ?_
    simp only[aV,List.nil_append,List.cons_append]
    refine Ow.permL (M:=(b5,Obj.cells (ak id0 (.slice none 0 0) []).toArray 172 (0,0)):: (b1,Obj.cells #[vi 3,vs t] 82 (0,0))::D) (by classical exact List.perm_iff_count.2 fun a=>by simp only[List.count_append,List.count_cons,List.count_nil]<;>omega) ?_
    refine ko (And.intro @gx @stq) ?_
    first|with_reducible refine ks [] @gx ?_|refine kp @gx ?_
    refine⟨_,(ke @gx),⟨pd,aF,New.mono hB hN⟩, ?_⟩
    rfl
   ·have d3: (k==3)=false:=by simpa using h4
    rw[if_neg h4]
    first|with_reducible refine ks [] (And.intro @gx (And.intro @d1 (And.intro @d2 (@d3)))) ?_|refine kp (And.intro @gx (And.intro @d1 (And.intro @d2 (@d3)))) ?_
    refine⟨_,(ke @gx),⟨aF,trivial⟩, ?_⟩
    rfl
end Go.Proofs
end
section
open Go Go.Proofs Go.Sx Go.StP
namespace Go.Proofs
set_option maxRecDepth 10000
set_option maxHeartbeats 400000
set_option linter.unusedSimpArgs false
theorem PH (n:Nat):0< (eH n).length:=by
 by_cases h:n<128
 ·rw[sx h];simp
 ·rw[wO h];simp
theorem M8 (most:Int): ∀ (l:List UInt8) (k acc m k':Nat),bU most l k acc= .ok (m,k')→ ∃n,l=eH n++l.drop (k' - k)∧m=acc+n*128^k∧(0<k→0<n)∧k<k':=by
 intro l
 induction l with
 |nil=>intro k acc m k' h;simp[bU] at h
 |cons c r ih=>
  intro k acc m k' h
  unfold bU at h
  have ll:=c.toNat_lt
  split at h
  ·rename_i hc
   split at h
   ·cases h
   ·obtain⟨n,h1,h2,h3,h4⟩:=ih _ _ _ _ h
    have hn:=h3 (by omega)
    refine⟨c.toNat%128+128*n, ?_, ?_,fun _=>by omega,by omega⟩
    ·rw[wO (by omega),show(c.toNat%128+128*n) / 128=n by omega,show(c.toNat%128+128*n)%128+128=c.toNat by omega]
     rw[show k' - k=(k' - (k+1))+1 by omega,List.drop_succ_cons,List.cons_append,←h1]
     simp
    ·rw[h2,Nat.pow_succ,Nat.add_mul,Nat.add_assoc]
     congr 2
     rw[Nat.mul_comm 128 n,Nat.mul_assoc,Nat.mul_comm (128^k) 128]
  ·rename_i hc
   split at h
   ·cases h
   ·rename_i hz
    split at h
    ·cases h
     refine⟨c.toNat, ?_, ?_,fun hk=>by omega,by omega⟩
     ·rw[sx (by omega),Nat.add_sub_cancel_left]
      simp
     ·rw[Nat.mod_eq_of_lt (by omega)]
    ·cases h
theorem FO {n:Nat} (h:n≤1099511627775):fC (n:Int)=n:=EP (by omega)
theorem ZB (most:Int): ∀ (l:List UInt8) (k n m k':Nat),bU most l k n= .ok (m,k')→m≤1099511627775
 | [],_,_,_,_,h=>by simp[bU] at h
 |c::r,k,n,m,k',h=>by
  unfold bU at h
  split at h
  ·split at h
   ·cases h
   ·exact ZB most r _ _ _ _ h
  ·split at h
   ·cases h
   ·split at h
    ·rename_i hh
     cases h
     exact hh.1
    ·cases h
theorem Gv {s:List UInt8} {a:Nat} {most:Int} (h: (aE s a 0 most).2.2=0): ∃n:Nat,(aE s a 0 most).1=(n:Int)∧n≤1099511627775∧(n:Int)≤most∧s.drop a=eH n++s.drop (aE s a 0 most).2.1:=by
 unfold aE at h ⊢
 rw[if_neg (by simp)] at h ⊢
 cases hg:bU most (s.drop a) 0 0 with
 |ok p=>
  obtain⟨m,k⟩:=p
  obtain⟨n,h1,h2,-,-⟩:=M8 _ _ _ _ _ _ hg
  obtain rfl:m=n:=by rw[h2];simp
  refine⟨m,rfl,ZB _ _ _ _ _ _ hg,Hx _ _ _ _ _ _ hg, ?_⟩
  rw[Nat.sub_zero,List.drop_drop] at h1
  exact h1
 |error x=>
  rw[hg] at h
  exfalso
  have:x=0:=by have: ((x:Nat):Int)=0:=h;omega
  subst this
  exact Bk _ _ _ _ hg
theorem Yt {s:List UInt8} {a:Nat} {n:Int} (ha:a≤s.length) (h: (az s a 0 n).2.2=0):0≤n∧(az s a 0 n).1.length=n.toNat∧s.drop a=(az s a 0 n).1++s.drop (az s a 0 n).2.1:=by
 unfold az at h ⊢
 rw[if_neg (by simp)] at h ⊢
 split at h
 ·exact absurd (show(2:Int)=0 from h) (by decide)
 ·rename_i h1
  rw[if_neg h1]
  split at h
  ·exact absurd (show(3:Int)=0 from h) (by decide)
  ·rename_i h2
   rw[if_neg h2]
   refine⟨by omega, ?_, ?_⟩
   ·simp only[List.length_take,List.length_drop];omega
   ·simp only
    rw[←List.drop_drop,List.take_append_drop]
theorem HZ {s:List UInt8} {a:Nat} {most:Int} (ha:a≤s.length) (h: (an s a 0 most).2.2=0): ((an s a 0 most).1.length:Int)≤most∧s.drop a=eo (an s a 0 most).1++s.drop (an s a 0 most).2.1:=by
 have dN:=iD (e:=0) (most:=most) ha
 have e1: (aE s a 0 most).2.2=0:=Decidable.byContradiction fun hn=>by
  unfold an at h
  simp only[qg hn] at h
  rw[if_pos hn] at h
  exact hn h
 obtain⟨n,hn,hb,hm,hd⟩:=Gv e1
 unfold an at h ⊢
 simp only at h ⊢
 generalize aE s a 0 most=p at*
 obtain⟨p1,p2,p3⟩:=p
 simp only at e1 hn hd dN h ⊢
 subst e1 hn
 have e2: (az s p2 0 (n:Int)).2.2=0:=Decidable.byContradiction fun hh=>by rw[if_pos hh] at h;exact hh h
 rw[if_neg (by simp[e2])]
 obtain⟨-,hl,hr⟩:=Yt dN.2 e2
 rw[Int.toNat_natCast] at hl
 refine⟨by rw[hl];exact hm, ?_⟩
 unfold eo
 rw[hl,FO hb,List.append_assoc,←hr]
 exact hd
theorem HR {s:List UInt8} {a:Nat} (ha:a≤s.length) (h: (idR s a 0).2.2=0):s.drop a=(kC (idR s a 0).1).l++s.drop (idR s a 0).2.1:=by
 have e2: (az s a 0 32).2.2=0:=h
 obtain⟨-,hl,hr⟩:=Yt ha e2
 rw[wM (tH s a 0)]
 unfold idR
 simp only
 have lG: (az s a 0 32).1.length=32:=hl
 rw[if_pos lG]
 exact hr
theorem N3 {s:List UInt8} {a:Nat} (ha:a≤s.length) (h: (gl s a 0).2.2=0):s.drop a=entB (gl s a 0).1++s.drop (gl s a 0).2.1:=by
 have hq:=iD (e:=0) (most:=2) ha
 unfold gl at h ⊢
 simp only at h ⊢
 have e1: (aE s a 0 2).2.2=0:=Decidable.byContradiction fun hn=>by
  rw[nx (by rw[qK hn];exact hn),qK hn] at h;exact hn h
 obtain⟨n,hn,hb,-,hd⟩:=Gv e1
 generalize aE s a 0 2=p at*
 obtain⟨p1,p2,p3⟩:=p
 simp only at e1 hn hd hq h ⊢
 subst e1 hn
 have ht:=rY (e:=0) (most:=32) hq.2
 have e2: (an s p2 0 32).2.2=0:=Decidable.byContradiction fun hn=>by rw[nx hn] at h;exact hn h
 obtain⟨-,sL⟩:=HZ hq.2 e2
 generalize an s p2 0 32=q at*
 obtain⟨q1,q2,q3⟩:=q
 simp only at e2 sL ht h ⊢
 subst e2
 have hd3:=HR ht.2 h
 unfold entB
 simp only
 rw[FO hb,List.append_assoc,List.append_assoc,←hd3,←sL]
 exact hd
theorem NE (l:List EntL) (x:EntL):iG (l++ [x])=iG l++entB x:=by unfold iG;simp
theorem Z5 {s:List UInt8}: ∀ (n a:Nat) (e:Int) (l:List EntL),a≤s.length→(e=0→s=iG l++s.drop a)→((m6 s n a e l).2.2=0→s=iG (m6 s n a e l).1++s.drop (m6 s n a e l).2.1)
 |0,_,_,_,_,h=>h
 |n+1,a,e,l,ha,h=>by
  by_cases hc:e=0∧a<s.length
  ·rw[HU hc]
   refine Z5 n _ _ _ (uD ha).2 fun h0=> ?_
   obtain⟨rfl,-⟩:=hc
   rw[NE,List.append_assoc,←N3 ha h0]
   exact h rfl
  ·rw[Gs hc]
   exact h
theorem Ez {s:List UInt8} {a:Nat} {e:Int} (h:bR s a e=0):e=0∧s.length≤a:=by
 unfold bR at h
 split at h
 ·rename_i he;exact absurd h he
 ·rename_i he
  split at h
  ·exact absurd h (by decide)
  ·exact⟨Decidable.byContradiction he,by omega⟩
theorem LX {s:List UInt8} (h:bR s (ef s).2.1 (ef s).2.2=0):iG (ef s).1=s:=by
 obtain⟨h1,h2⟩:=Ez h
 have:=Z5 (s:=s) (s.length+1) 0 0 [] (Nat.zero_le _) (fun _=>by simp[iG]) h1
 rw[show m6 s (s.length+1) 0 0 []=ef s from rfl,List.drop_eq_nil_of_le h2,List.append_nil] at this
 exact this.symm
theorem Y4 {s:List UInt8}: ∀ (n a:Nat) (e:Int) (l:List EntL),a≤s.length→(e=0→s.length<a+n)→(m6 s n a e l).2.2=0→s.length≤ (m6 s n a e l).2.1
 |0,a,e,l,ha,hf,h=>by have:=hf h;show s.length≤a;omega
 |n+1,a,e,l,ha,hf,h=>by
  by_cases hc:e=0∧a<s.length
  ·rw[HU hc] at h ⊢
   refine Y4 n _ _ _ (uD ha).2 (fun h0=> ?_) h
   obtain⟨rfl,-⟩:=hc
   have:=BI ha h0
   have:=hf rfl
   omega
  ·rw[Gs hc] at h ⊢
   have h':e=0:=h
   exact Decidable.byContradiction fun hn=>hc ⟨h',by have aw: ¬s.length≤a:=hn;omega⟩
theorem zj (s:List UInt8): (bR s (ef s).2.1 (ef s).2.2=0)↔(ef s).2.2=0:=by
 refine⟨fun h=>(Ez h).1,fun h=> ?_⟩
 have:=Y4 (s:=s) (s.length+1) 0 0 [] (Nat.zero_le _) (fun _=>by omega) h
 have h2:s.length≤ (ef s).2.1:=this
 unfold bR
 rw[if_neg (by simp[h]),if_neg (by omega)]
theorem Ou (l:List IdL) (x:IdL):idsB (l++ [x])=idsB l++x.l:=by unfold idsB;simp
theorem Y6 {s:List UInt8} {a:Nat} (ha:a≤s.length): ∀n,(ar s a 0 n).2.2=0→s.drop a=idsB (ar s a 0 n).1++s.drop (ar s a 0 n).2.1
 |0,_=>by simp[ar,idsB]
 |n+1,h=>by
  unfold ar at h ⊢
  simp only at h ⊢
  have e1: (ar s a 0 n).2.2=0:=Decidable.byContradiction fun hn=>by rw[nx hn] at h;exact hn h
  have ih:=Y6 ha n e1
  have hl:=xl (e:=0) ha n
  generalize ar s a 0 n=p at*
  obtain⟨p1,p2,p3⟩:=p
  simp only at e1 ih hl h ⊢
  subst e1
  rw[Ou,List.append_assoc,←HR hl h]
  exact ih
theorem Bx {s:List UInt8} {a:Nat} {e:Int} (he:e≠0): ∀n,(ar s a e n).2=(a,e)
 |0=>rfl
 |n+1=>by
  have ih:=Bx (s:=s) (a:=a) he n
  unfold ar
  simp only
  rw[ih,nx he]
theorem NM {s:List UInt8} (h:bR s (eG s).2.1 (eG s).2.2=0):comB (eG s).1=s:=by
 obtain⟨h1,h2⟩:=Ez h
 have ip:=mH (s:=s) (a:=0) (e:=0) (Nat.zero_le _)
 have np:=iD (e:=(idR s 0 0).2.2) (most:=4) ip.2
 unfold eG at h1 h2 ⊢
 simp only at h1 h2 ⊢
 have e3: (dl s).2.2=0:=Decidable.byContradiction fun hn=>by unfold comT at h1;rw[qK hn] at h1;exact hn h1
 have e2: (comN s).2.2=0:=Decidable.byContradiction fun hn=>by unfold dl at e3;rw[Bx hn] at e3;exact hn e3
 have e1: (idR s 0 0).2.2=0:=Decidable.byContradiction fun hn=>by unfold comN at e2;rw[ue hn] at e2;exact hn e2
 have d1:=HR (Nat.zero_le _) e1
 rw[e1] at np
 have Fl:comN s=aE s (idR s 0 0).2.1 0 4:=by unfold comN;rw[e1]
 rw[Fl] at e2
 obtain⟨n,hn,hb,-,d2⟩:=Gv e2
 have DM:dl s=ar s (comN s).2.1 0 n:=by unfold dl;rw[Fl,e2,hn,Int.toNat_natCast]
 have hp: (comN s).2.1≤s.length:=by rw[Fl];exact np.2
 rw[DM] at e3
 have d3:=Y6 hp n e3
 have gG: (dl s).1.length=n:=by rw[DM,Ey]
 have Fm:comT s=an s (dl s).2.1 0 64:=by unfold comT;rw[DM,e3]
 have dN: (dl s).2.1≤s.length:=by rw[DM];exact xl hp n
 rw[Fm] at h1
 obtain⟨-,d4⟩:=HZ dN h1
 rw[←Fm] at d4
 rw[←DM] at d3
 rw[←Fl] at d2
 unfold comB kz
 simp only
 rw[gG,FO hb]
 rw[List.drop_eq_nil_of_le h2,List.append_nil] at d4
 rw[List.append_assoc,List.append_assoc,←d4,←d3,←d2,←d1]
 rfl
theorem Gw (k:Int) (t:List UInt8):bS k t=kS k t:=by
 unfold bS kS
 by_cases h4:4096<t.length
 ·rw[if_neg (by omega),if_pos h4]
 ·rw[if_neg h4]
  by_cases h2:k=2
  ·subst h2
   rw[if_pos (by omega),if_neg (by decide),if_pos rfl,if_pos rfl]
   unfold kr
   by_cases hz:bR t (ef t).2.1 (ef t).2.2=0
   ·have:=LX hz
    have h1:=(zj t).1 hz
    rw[hz]
    cases ho:lU (ef t).1
    ·rw[if_neg (fun h=>by cases h.2.1)];rfl
    ·rw[if_pos ⟨h1,rfl,this⟩];rfl
   ·have h': ¬ (ef t).2.2=0:=fun h=>hz ((zj t).2 h)
    simp[hz,h']
  ·by_cases h3:k=3
   ·subst h3
    rw[if_pos (by omega),if_neg (by decide),if_neg (by decide),if_neg (by decide),if_pos rfl]
    unfold l4
    by_cases hz:bR t (eG t).2.1 (eG t).2.2=0
    ·have:=NM hz
     cases ho:je (eG t).1<;>simp[hz,this]
    ·simp[hz]
   ·rw[if_neg h2,if_neg h3]
    by_cases h1:k=1
    ·subst h1
     rw[if_pos (by omega)];rfl
    ·rw[if_neg (by omega)]
     simp[h1,h2]
theorem Jd (most:Int) (r:List UInt8): ∀ (n k acc:Nat),(0<k→0<n)→k+ (eH n).length≤6→acc+n*128^k≤1099511627775→((acc+n*128^k:Nat):Int)≤most→
  bU most (eH n++r) k acc= .ok (acc+n*128^k,k+ (eH n).length):=by
 intro n
 induction n using Nat.strongRecOn with
 |ind n ih=>
  intro k acc hk hl hs hm
  by_cases h:n<128
  ·rw[sx h,List.cons_append,List.nil_append,bU]
   have hc: (UInt8.ofNat n).toNat=n:=by rw[UInt8.toNat_ofNat'];omega
   rw[hc,Nat.mod_eq_of_lt h,if_neg (by omega),if_neg (by omega),if_pos ⟨hs,hm⟩]
   rfl
  ·have hb:=wO h
   rw[hb] at hl ⊢
   rw[List.cons_append,bU]
   have hc: (UInt8.ofNat (n%128+128)).toNat=n%128+128:=by rw[UInt8.toNat_ofNat'];omega
   have hp:=PH (n / 128)
   rw[List.length_cons] at hl
   have e:acc+ (n%128+128)%128*128^k+n / 128*128^ (k+1)=acc+n*128^k:=by
    have h1: (n%128+128)%128=n%128:=by omega
    rw[h1,Nat.pow_succ,Nat.add_assoc]
    congr 1
    have h2:n / 128* (128^k*128)=(n / 128*128)*128^k:=by rw[Nat.mul_comm (128^k),Nat.mul_assoc]
    rw[h2,←Nat.add_mul]
    congr 1
    omega
   rw[hc,if_pos (by omega),if_neg (by omega),ih (n / 128) (by omega) (k+1) _ (fun _=>by omega) (by omega) (by rw[e];exact hs) (by rw[e];exact hm),e,List.length_cons]
   congr 2
   omega
theorem P1 (A r:List UInt8) (n:Nat) (most:Int) (hn:n≤1099511627775) (hm: (n:Int)≤most):aE (A++ (eH n++r)) A.length 0 most=((n:Int),A.length+ (eH n).length,0):=by
 have hl:=EK 6 n (by omega) (by omega)
 have h:=Jd most r n 0 0 (fun h=>absurd h (Nat.lt_irrefl 0)) (by omega) (by simpa using hn) (by simpa using hm)
 simp only[Nat.pow_zero,Nat.mul_one,Nat.zero_add] at h
 exact yD rfl (by rw[List.drop_left];exact h)
theorem P5 (A x r:List UInt8):az (A++ (x++r)) A.length 0 (x.length:Int)=(x,A.length+x.length,0):=by
 unfold az
 rw[if_neg (by simp),if_neg (by omega),if_neg (by simp only[List.length_append];omega),List.drop_left,Int.toNat_natCast,List.take_left]
theorem MW (A t r:List UInt8) (most:Int) (hn:t.length≤1099511627775) (hm: (t.length:Int)≤most):an (A++ (eo t++r)) A.length 0 most=(t,A.length+ (eo t).length,0):=by
 have h1:=P1 A (t++r) t.length most hn hm
 have h2:=P5 (A++eH t.length) t r
 unfold an eo
 rw[FO (by omega)]
 rw[List.append_assoc,h1]
 simp only
 rw[List.append_assoc,List.length_append] at h2
 rw[h2]
 simp only[ne_eq,not_true_eq_false, ↓reduceIte,List.length_append,Nat.add_assoc]
end Go.Proofs
end
section
open Go Go.Proofs Go.Sx Go.StP
namespace Go.Proofs
set_option maxRecDepth 10000
set_option maxHeartbeats 400000
set_option linter.unusedSimpArgs false
theorem LH (s:List UInt8) (c:UInt8) (w:World): (callFunc 231 #[vs s,v8 c]).run Tryz.prog w= .ok (.value (vi (Lib.indexByte s c))) w:=by
 rw[run_callFunc_extern Tryz.func231 (by kernel_rfl) (by kernel_rfl) (by kernel_rfl) (e:=Extern.BytealgIndexByte.indexByte) (by kernel_rfl)]
 have h:=Lib.run_indexByteString (P:=Tryz.prog) ⟨s.toArray⟩ (c.toNat:Int) w
 have e: ((c.toNat:Int)).toNat.toUInt8=c:=by simp
 rw[e] at h
 show((Extern.BytealgIndexByte.indexByte #[.string ⟨s.toArray⟩, .int .u8 (c.toNat:Int)]).run Tryz.prog w).andThen _=_
 rw[h];rfl
theorem Wo_ (s:List UInt8) (c:UInt8) (w:World):Rets Tryz.prog 207 #[vs s,v8 c] w (fun v D=>v=vi (Lib.indexByte s c)∧D= []):=by
 refine Rets.enterV Tryz.func207 rfl (rs:= [.tmp 4]) Tryz.results207 Tryz.ntmps207 ?_
 refine kf ?_
 first|with_reducible refine ks [] @Nat.add_zero ?_|refine kp @Nat.add_zero ?_
 refine Ow.callExt rfl rfl (fun w=>LH s c w) ?_
 refine ko @Nat.add_zero ?_
 first|with_reducible refine ks [] @Nat.add_zero ?_|refine kp @Nat.add_zero ?_
 refine⟨_,(ke @Nat.add_zero),trivial, ?_⟩
 rfl
def idxT (s:List UInt8):List UInt8→Int
 | []=>0
 |c::_=>Lib.indexByte s c
theorem KX_ (s x:List UInt8) (w:World) (hx:x.length≤1) (hs:2≤s.length) (_hsl:s.length<1099511627776):Rets Tryz.prog 175 #[vs s,vs x] w (fun v D=>v=vi (idxT s x)∧D= []):=by
 refine Rets.enterV Tryz.func175 rfl (rs:= [.tmp 4]) Tryz.results175 Tryz.ntmps175 ?_
 refine kf ?_
 match x,hx with
 | [],_=>
  have d1: (((([]:List UInt8).length:Nat):Int)==0)=true:=rfl
  first|with_reducible refine ks [] @d1 ?_|refine kp @d1 ?_
  refine⟨_,(ke @Nat.add_zero),trivial, ?_⟩
  rfl
 | [c],_=>
  have d1: ((([c]:List UInt8).length:Int)==0)=false:=rfl
  have d2: ([c]==s)=false:=beq_eq_false_iff_ne.2 fun e=>by rw[←e] at hs;simp at hs
  have d3: ((([c]:List UInt8).length:Int)==1)=true:=rfl
  have i0: ([c]:List UInt8).getD 0 0=c:=rfl
  first|with_reducible refine ks [] (And.intro @d1 (And.intro @d2 (And.intro @d3 (@i0)))) ?_|refine kp (And.intro @d1 (And.intro @d2 (And.intro @d3 (@i0)))) ?_
  refine Ow.callFV rfl Tryz.call207 (fun w' aB=>Wo_ s c w') ?_
  refine ko @Nat.add_zero ?_
  first|with_reducible refine ks [] @Nat.add_zero ?_|refine kp @Nat.add_zero ?_
  refine⟨_,(ke @Nat.add_zero),trivial, ?_⟩
  rfl
theorem Me (s x:List UInt8) (w:World) (hx:x.length≤1) (hs:2≤s.length) (cN:s.length<1099511627776):Rets Tryz.prog 139 #[vs s,vs x] w (fun v D=>v=vi (idxT s x)∧D= []):=by
 refine Rets.enterV Tryz.func139 rfl (rs:= [.tmp 4]) Tryz.results139 Tryz.ntmps139 ?_
 refine kf ?_
 first|with_reducible refine ks [] @Nat.add_zero ?_|refine kp @Nat.add_zero ?_
 refine Ow.callFV rfl Tryz.call175 (fun w' aB=>KX_ s x w' hx hs cN) ?_
 refine ko @Nat.add_zero ?_
 first|with_reducible refine ks [] @Nat.add_zero ?_|refine kp @Nat.add_zero ?_
 refine⟨_,(ke @Nat.add_zero),trivial, ?_⟩
 rfl
abbrev letL:List UInt8:= [32,98,116,99]
def frR (s:List UInt8):List UInt8×Nat×Int:=az s 0 0 1
def frT (s:List UInt8):List UInt8×Nat×Int:=an s (frR s).2.1 (frR s).2.2 4096
def frK (s:List UInt8):Int:=idxT letL (frR s).1
def eu (s:List UInt8):Bool:=bR s (frT s).2.1 (frT s).2.2==0&&bS (frK s) (frT s).1
theorem Tj (s:List UInt8): (frR s).1.length≤1:=by
 unfold frR az
 rw[if_neg (by simp),if_neg (by decide)]
 split
 ·simp
 ·simp only[List.length_take,Int.toNat_one];omega
def CL (s:List UInt8) (v:Value):Prop:=v= .tuple #[obV (if eu s then frK s else 0) (if eu s then(frT s).1 else []),vi (if eu s then 0 else 2)]
set_option linter.defProp false
def fo:=And.intro (And.intro (And.intro (@jV) (@jY)) (And.intro (@jX) (@jW))) (And.intro (And.intro (@Sx.tup2_0) (@Sx.tup2_1)) (And.intro (@ay) (@ax)))
theorem MF (s:List UInt8) (w:World) (hs:s.length<1099511627776):Rets Tryz.prog 103 #[vs s] w (fun v D=>CL s v∧D= []):=by
 refine Rets.enterV Tryz.func103 rfl (rs:= [.cell 2 82, .tmp 3]) Tryz.results103 Tryz.ntmps103 ?_
 refine kf ?_
 first|with_reducible refine ks [] @fo ?_|refine kp @fo ?_
 refine Ow.alloc rfl rfl eb fun b2 aZ bH=> ?_
 simp only[aV,List.nil_append,List.cons_append]
 refine ko @fo ?_
 refine Ow.callF rfl rfl Tryz.call138 (S:=fun B v D=> ∃b',B≤b'∧v=vp b' 0∧D= [(b', .cells #[vs s,vi 0,vi 0] 250 (0,0))]) (fun w' aB=>z2 s w') ?_
 rintro B v D jM hB ⟨bw,WP,rfl,rfl⟩
 obtain⟨h2B,-⟩:=jM
 refine⟨_,Mrg.fresh (by intro q hq;simp only[keys,List.map_cons,List.map_nil,List.mem_singleton] at hq;omega), ?_⟩
 simp only[List.cons_append,List.nil_append]
 refine Ow.permL (M:= [(bw, .cells #[vs s,vi 0,vi 0] 250 (0,0)),(b2,Obj.cells #[vi 0,vs []] 82 (0,0))]) (by classical exact List.perm_iff_count.2 fun a=>by simp only[List.count_append,List.count_cons,List.count_nil]<;>omega) ?_
 have aO:bw≠b2:=by omega
 refine ko @fo ?_
 first|with_reducible refine ks [] @fo ?_|refine kp @fo ?_
 refine Ow.callM rfl rfl Tryz.call140 (by simp[keys]) (fun w' aB=>Ho bw s 0 0 1 w' (Nat.zero_le _) (by omega) (aB.has _ _ List.mem_cons_self)) ?_
 have r1:=wc (s:=s) (a:=0) (e:=0) (n:=1) (Nat.zero_le _)
 have r2:=Tj s
 have hT:frT s=an s (frR s).2.1 (frR s).2.2 4096:=rfl
 have hK:frK s=idxT letL (frR s).1:=rfl
 have hO:eu s=(bR s (frT s).2.1 (frT s).2.2==0&&bS (frK s) (frT s).1):=rfl
 unfold CL
 rw[show az s 0 0 1=frR s from rfl] at r1 ⊢
 generalize frR s=p at*
 obtain⟨x,a1,e1⟩:=p
 simp only at r1 r2 hT hK ⊢
 refine kn ?_
 refine ko @fo ?_
 refine Ow.callFV rfl Tryz.call139 (fun w' aB=>Me letL x w' r2 (by decide) (by decide)) ?_
 rw[←hK]
 refine ko @fo ?_
 refine Ow.callM rfl rfl Tryz.call141 (by simp[keys]) (fun w' aB=>Gm bw s a1 e1 4096 w' r1.2 (by omega) (aB.has _ _ List.mem_cons_self)) ?_
 rw[←hT]
 generalize frT s=q at*
 obtain⟨tt,a2,e2⟩:=q
 simp only at hO ⊢
 refine kn ?_
 refine ko @fo ?_
 refine Ow.build (obV (frK s) tt) rfl (zU _ tt) ?_
 refine ko @fo ?_
 refine Ow.alloc rfl rfl eb fun b5 qy pd=> ?_
 simp only[aV,List.nil_append,List.cons_append]
 have h5w:bw<b5:=ae qy (by simp[keys])
 have h52:b2<b5:=ae qy (by simp[keys])
 refine ko @fo ?_
 refine Ow.callFV rfl Tryz.call142 (fun w' aB=>FQ bw s a2 e2 w' (aB.has _ _ List.mem_cons_self)) ?_
 by_cases he:bR s a2 e2=0
 ·have d1: (bR s a2 e2 !=0)=false:=by simp[he]
  have d1': (bR s a2 e2==0)=true:=by simp[he]
  rw[d1',Bool.true_and] at hO
  refine ko (And.intro @fo @d1) ?_
  refine Ow.callFV rfl Tryz.call132 (fun w' aB=>Yb (frK s) tt w') ?_
  rw[hO]
  cases hr:bS (frK s) tt
  ·refine ko @fo ?_
   refine Ow.build (obV 0 []) rfl wH ?_
   refine ko @fo ?_
   first|with_reducible refine ks [] @fo ?_|refine kp @fo ?_
   refine⟨_,(ke @fo),⟨by omega,bH,pd,trivial⟩, ?_⟩
   rfl
  ·refine ko @fo ?_
   first|with_reducible refine ks [] @fo ?_|refine kp @fo ?_
   refine⟨_,(ke @fo),⟨by omega,bH,pd,trivial⟩, ?_⟩
   rfl
 ·have d1: (bR s a2 e2 !=0)=true:=by simpa using he
  have d1': (bR s a2 e2==0)=false:=by simpa using he
  rw[d1',Bool.false_and] at hO
  rw[hO]
  refine ko (And.intro @fo @d1) ?_
  refine Ow.build (obV 0 []) rfl wH ?_
  refine ko @fo ?_
  first|with_reducible refine ks [] @fo ?_|refine kp @fo ?_
  refine⟨_,(ke @fo),⟨by omega,bH,pd,trivial⟩, ?_⟩
  rfl
end Go.Proofs
end
section
open Go Go.Proofs Go.Sx Go.StP
namespace Go.Proofs
set_option maxRecDepth 10000
set_option maxHeartbeats 400000
set_option linter.unusedSimpArgs false
def fkC (c:UInt8):Int:=if c=98 then 1 else if c=116 then 2 else if c=99 then 3 else 0
def lfT (r:List UInt8):List UInt8×Nat×Int:=an r 0 0 4096
def lfK (s:List UInt8):Int:=match s with| []=>0|c::_=>fkC c
def lfOk (s:List UInt8):Bool:=lfK s !=0&&bR (s.drop 1) (lfT (s.drop 1)).2.1 (lfT (s.drop 1)).2.2==0&&kS (lfK s) (lfT (s.drop 1)).1
def CE (s:List UInt8) (v:Value):Prop:=v= .tuple #[obV (if lfOk s then lfK s else 0) (if lfOk s then(lfT (s.drop 1)).1 else []), .bool (lfOk s)]
theorem A5 (k k':Int) (t:List UInt8) (a:Bool) (E:TypeId):ab (some (a,1)) (some (.cells #[vi k',vs t] E (0,0))) 0 (vi k)=some (.cells #[vi k,vs t] E (0,0)):=(rfl)
theorem A3 (k:Int) (t t':List UInt8) (a:Bool) (E:TypeId):ab (some (a,1)) (some (.cells #[vi k,vs t'] E (0,0))) 1 (vs t)=some (.cells #[vi k,vs t] E (0,0)):=(rfl)
set_option linter.defProp false
def cU:=And.intro (And.intro (And.intro (@jV) (@jY)) (And.intro (@jX) (And.intro (@jW) (@A5)))) (And.intro (And.intro (@A3) (@Sx.tup2_0)) (And.intro (@Sx.tup2_1) (And.intro (@ay) (@ax))))
theorem yo (s:List UInt8) (w:World) (hs:s.length<1099511627776):Rets Tryz.prog 106 #[vs s] w (fun v D=>CE s v∧D= []):=by
 refine Rets.enterV Tryz.func106 rfl (rs:= [.cell 2 82, .tmp 3]) Tryz.results106 Tryz.ntmps106 ?_
 refine kf ?_
 first|with_reducible refine ks [1000004] @cU ?_|refine kp @cU ?_
 refine Ow.alloc rfl rfl eb fun b2 aZ bH=> ?_
 simp only[aV,List.nil_append,List.cons_append]
 refine ko @cU ?_
 by_cases hl:s.length=0
 ·obtain rfl:s= []:=List.eq_nil_of_length_eq_zero hl
  have d1: (((([]:List UInt8).length:Nat):Int)==0)=true:=rfl
  first|with_reducible refine ks [] (And.intro @cU @d1) ?_|refine kp (And.intro @cU @d1) ?_
  refine Ow.build (obV 0 []) rfl wH ?_
  refine ko @cU ?_
  first|with_reducible refine ks [] @cU ?_|refine kp @cU ?_
  refine⟨_,(ke @cU),⟨bH,trivial⟩, ?_⟩
  rfl
 ·have d1: ((s.length:Int)==0)=false:=beq_eq_false_iff_ne.2 (by omega)
  obtain⟨c,r,rfl⟩: ∃c r,s=c::r:=by cases s with|nil=>exact absurd rfl hl|cons c r=>exact⟨c,r,rfl⟩
  have DR: (c::r).drop 1=r:=rfl
  have g0: (c::r).getD 0 0=c:=rfl
  have aL: (c::r).length=r.length+1:=rfl
  have lQ:r.length<1099511627775:=by omega
  first|with_reducible refine ks [] (And.intro @cU @d1) ?_|refine kp (And.intro @cU @d1) ?_
  refine Ow.build (obV 0 []) rfl wH ?_
  refine ko @cU ?_
  refine Ow.alloc rfl rfl eb fun b4 gS dg=> ?_
  simp only[aV,List.nil_append,List.cons_append]
  have Vt:b2<b4:=ae gS (by simp[keys])
  have ht:=rY (s:=r) (a:=0) (e:=0) (most:=4096) (Nat.zero_le _)
  have hLT:lfT r=an r 0 0 4096:=rfl
  have hO:lfOk (c::r)=(fkC c !=0&&bR r (lfT r).2.1 (lfT r).2.2==0&&kS (fkC c) (lfT r).1):=rfl
  have hK:lfK (c::r)=fkC c:=rfl
  unfold CE
  rw[hK,DR]
  have E8: (an r 0 0 4096).1.length≤r.length:=Ew _ _ _ _
  have hf0:fkC c=0∨fkC c=1∨fkC c=2∨fkC c=3:=by
   unfold fkC;split<;>(try split)<;>(try split)<;>simp
  refine ko @cU ?_
  first|with_reducible refine ks [1000004] (And.intro @cU @g0) ?_|refine kp (And.intro @cU @g0) ?_
  refine Cw.cut (G:=Int) 40 (fun g=> [(0,vs (c::r)),(2,vp b2 0),(3, .bool false),(4,vp b4 0)]) (fun g=> [(b2,Obj.cells #[vi 0,vs []] 82 (0,0)),(b4,Obj.cells #[vi g,vs []] 82 (0,0))]) (fun g=>g=fkC c∧g≠0) ?_ ?_
  ·by_cases c1:c=98
   ·subst c1
    first|with_reducible refine ks [] (And.intro @cU @g0) ?_|refine kp (And.intro @cU @g0) ?_
    exact CutM.mk 1 ⟨rfl,by decide⟩ rfl rfl
   ·have e1: (c==98)=false:=by simpa using c1
    by_cases c2:c=116
    ·subst c2
     first|with_reducible refine ks [] (And.intro @cU (And.intro @e1 (@g0))) ?_|refine kp (And.intro @cU (And.intro @e1 (@g0))) ?_
     exact CutM.mk 2 ⟨rfl,by decide⟩ rfl rfl
    ·have e2: (c==116)=false:=by simpa using c2
     by_cases c3:c=99
     ·subst c3
      first|with_reducible refine ks [] (And.intro @cU (And.intro @e1 (And.intro @e2 (@g0)))) ?_|refine kp (And.intro @cU (And.intro @e1 (And.intro @e2 (@g0)))) ?_
      exact CutM.mk 3 ⟨rfl,by decide⟩ rfl rfl
     ·have e3: (c==99)=false:=by simpa using c3
      have hk:fkC c=0:=by unfold fkC;rw[if_neg c1,if_neg c2,if_neg c3]
      rw[hk] at hO ⊢
      rw[hO]
      first|with_reducible refine ks [] (And.intro @cU (And.intro @e1 (And.intro @e2 (And.intro @e3 (@g0))))) ?_|refine kp (And.intro @cU (And.intro @e1 (And.intro @e2 (And.intro @e3 (@g0))))) ?_
      refine Ow.build (obV 0 []) rfl wH ?_
      refine ko @cU ?_
      first|with_reducible refine ks [] @cU ?_|refine kp @cU ?_
      refine⟨_,(ke @cU),⟨bH,dg,trivial⟩, ?_⟩
      rfl
  ·intro g j hg
   simp only[UX,Uo,pin,ry,s8,Nat.reduceAdd]
   obtain⟨rfl,oI⟩:=hg
   have d0: (fkC c !=0)=true:=by simpa using oI
   rw[d0,Bool.true_and] at hO
   generalize fkC c=k at hO ⊢
   first|with_reducible refine ks [] (And.intro @cU @DR) ?_|refine kp (And.intro @cU @DR) ?_
   refine Ow.build (.agg #[vs r,vi 0,vi 0]) rfl (Om r) ?_
   refine ko @cU ?_
   refine Ow.box rfl rfl fun br lk kM=> ?_
   have h2r:b2<br:=ae lk (by simp[keys])
   have h4r:b4<br:=ae lk (by simp[keys])
   simp only[d9,cu,d8,aV,List.nil_append,List.cons_append]
   refine ko @cU ?_
   refine Ow.callM rfl rfl Tryz.call144 (by simp[keys]) (fun w' aB=>GU br r 0 0 4096 w' (Nat.zero_le _) (by omega) (aB.has _ _ (by simp))) ?_
   rw[←hLT] at ht E8 ⊢
   generalize lfT r=q at*
   obtain⟨tt,a2,e2⟩:=q
   simp only at hO ht E8 ⊢
   refine kn ?_
   refine ko @cU ?_
   refine Ow.callFV rfl Tryz.call145 (fun w' aB=>ZJ br r a2 e2 w' (aB.has _ _ (by simp))) ?_
   by_cases he:bR r a2 e2=0
   ·have d5: (bR r a2 e2 !=0)=false:=by simp[he]
    have d6: (bR r a2 e2==0)=true:=by simp[he]
    rw[d6,Bool.true_and] at hO
    rw[hO]
    refine ko (And.intro @cU @d5) ?_
    refine Ow.callFV rfl Tryz.call54 (fun w' aB=>YE k tt w') ?_
    cases hr:kS k tt
    ·refine ko @cU ?_
     refine Ow.build (obV 0 []) rfl wH ?_
     refine ko @cU ?_
     first|with_reducible refine ks [] @cU ?_|refine kp @cU ?_
     refine⟨_,(ke @cU),⟨bH,dg,kM,trivial⟩, ?_⟩
     rfl
    ·refine ko @cU ?_
     first|with_reducible refine ks [] @cU ?_|refine kp @cU ?_
     refine⟨_,(ke @cU),⟨bH,dg,kM,trivial⟩, ?_⟩
     rfl
   ·have d5: (bR r a2 e2 !=0)=true:=by simpa using he
    have d6: (bR r a2 e2==0)=false:=by simpa using he
    rw[d6,Bool.false_and] at hO
    rw[hO]
    refine ko (And.intro @cU @d5) ?_
    refine Ow.build (obV 0 []) rfl wH ?_
    refine ko @cU ?_
    first|with_reducible refine ks [] @cU ?_|refine kp @cU ?_
    refine⟨_,(ke @cU),⟨bH,dg,kM,trivial⟩, ?_⟩
    rfl
end Go.Proofs
end
namespace Go.Flo
open Go Ieee
abbrev F (n:Int):Nat:=FloatKind.f64.nearest n
def dat (n:Int):Datum:= .number (decide (n<0)) (n.natAbs*2^ (52 - n.natAbs.log2)) ((n.natAbs.log2:Int) - 52)
theorem C7 {a:Nat} (h:a<8192):a.log2<13∨a=0:=by
 by_cases h0:a=0
 ·exact .inr h0
 ·exact .inl ((Nat.log2_lt h0).2 h)
theorem dec0:FloatKind.f64.decode (F 0)= .number false 0 (-1074):=by kernel_rfl
theorem Rl (neg:Bool) (n:Nat):Toward.even.cut neg n 0=n:=by
 simp[Toward.cut,Nat.mod_one]
theorem dec {n:Int} (h0:n≠0) (h:n.natAbs<8192):FloatKind.f64.decode (F n)=dat n:=by
 have ha:n.natAbs≠0:=by omega
 generalize hm:n.natAbs=a at*
 have hl:a.log2<13:=(Nat.log2_lt ha).2 h
 have gF:2^a.log2≤a:=Nat.log2_self_le ha
 have hhi:a<2^ (a.log2+1):=Nat.lt_log2_self
 generalize hk:a.log2=k at*
 have hp:2^ (52 - k)*2^k=2^52:=by rw[←Nat.pow_add];congr 1;omega
 have pZ:2^ (k+1)=2*2^k:=by rw[Nat.pow_succ];omega
 have e1:2^52≤a*2^ (52 - k):=by
  rw[←hp,Nat.mul_comm];exact Nat.mul_le_mul_right _ gF
 have e2:a*2^ (52 - k)<2*2^52:=by
  have h1:=Nat.mul_lt_mul_of_pos_right hhi (show 0<2^ (52 - k) from Nat.pow_pos (by omega))
  rw[pZ,Nat.mul_assoc,Nat.mul_comm (2^k),hp] at h1
  exact h1
 have hw:F n=Ieee.double.word (decide (n<0)) ((k+1022)*2^52+a*2^ (52 - k)):=by
  show Ieee.double.nearest (decide (n<0)) n.natAbs 0=_
  rw[hm]
  unfold Format.nearest
  rw[if_neg ha,hk]
  have Da:max ((0:Int)+ (k:Int) - (Ieee.double.fractionBits:Int)) Ieee.double.leastPlace=(k:Int) - 52:=by
   have e3:Ieee.double.leastPlace= -1074:=by decide
   have e4: (Ieee.double.fractionBits:Int)=52:=rfl
   rw[e3,e4];omega
  rw[Da]
  have e5: ((k:Int) - 52 - 0).toNat=0:=by omega
  have e6: ((0:Int) - ((k:Int) - 52)).toNat=52 - k:=by omega
  simp only[e5,e6,Rl,Nat.shiftLeft_eq]
  have e7: ((k:Int) - 52 - Ieee.double.leastPlace).toNat=k+1022:=by
   have e3:Ieee.double.leastPlace= -1074:=by decide
   rw[e3];omega
  have e8:Ieee.double.binade=2^52:=rfl
  have e9:Ieee.double.infRung=2047*2^52:=rfl
  rw[e7,e8,e9,Nat.min_eq_left (by omega)]
 show Ieee.double.read (F n)=_
 rw[hw]
 generalize hX:a*2^ (52 - k)=X at*
 have e8:Ieee.double.binade=2^52:=rfl
 have e9:Ieee.double.infRung=2047*2^52:=rfl
 have e10:Ieee.double.signWeight=2^63:=rfl
 have e3:Ieee.double.leastPlace= -1074:=by decide
 have Di: (Ieee.double.word (decide (n<0)) ((k+1022)*2^52+X) / 2^63%2==1)=decide (n<0)∧Ieee.double.word (decide (n<0)) ((k+1022)*2^52+X)%2^63=(k+1022)*2^52+X:=by
  unfold Format.word
  rw[e10]
  by_cases hn:n<0
  ·rw[decide_eq_true hn,if_pos rfl]
   refine⟨?_,by omega⟩
   rw[beq_iff_eq];omega
  ·rw[decide_eq_false hn,if_neg (by simp)]
   refine⟨?_,by omega⟩
   rw[beq_eq_false_iff_ne];omega
 unfold Format.read
 simp only[e10,Di.1,Di.2,e8,e9,e3]
 rw[if_neg (by omega),if_pos (by omega)]
 unfold dat
 rw[hm,hk,hX]
 congr 1
 ·omega
 ·omega
theorem sgn (n:Int) (u:Nat):signed (decide (n<0)) (n.natAbs*2^u) 0=n*2^u:=by
 unfold signed
 rw[Nat.shiftLeft_eq,Nat.pow_zero,Nat.mul_one]
 by_cases h:n<0
 ·rw[decide_eq_true h,if_pos rfl]
  rw[Int.natCast_mul,←Int.neg_mul]
  congr 1
  ·omega
 ·rw[decide_eq_false h,if_neg (by simp),Int.natCast_mul]
  congr 1
  omega
def plc (n:Int):Int:=if n=0 then -1074 else(n.natAbs.log2:Int) - 52
def mag (n:Int):Nat:=if n=0 then 0 else n.natAbs*2^ (52 - n.natAbs.log2)
theorem decA {n:Int} (h:n.natAbs<8192):FloatKind.f64.decode (F n)= .number (decide (n<0)) (mag n) (plc n):=by
 by_cases h0:n=0
 ·subst h0;rw[dec0];rfl
 ·rw[dec h0 h];unfold dat mag plc;rw[if_neg h0,if_neg h0]
theorem sgnU {n base:Int} (h:n.natAbs<8192) (hb:base≤plc n):signed (decide (n<0)) (mag n) (plc n - base).toNat=n*2^ (-base).toNat:=by
 by_cases h0:n=0
 ·subst h0;simp[signed,mag]
 ·have hl:n.natAbs.log2<13:=by rcases C7 h with h1|h1;exact h1;omega
  have hu:52 - n.natAbs.log2+ (plc n - base).toNat=(-base).toNat:=by
   unfold plc at hb ⊢
   rw[if_neg h0] at hb ⊢
   omega
  have e:signed (decide (n<0)) (mag n) (plc n - base).toNat=signed (decide (n<0)) (n.natAbs*2^ (-base).toNat) 0:=by
   unfold signed mag
   rw[if_neg h0,←hu,Nat.pow_add]
   simp only[Nat.shiftLeft_eq,Nat.pow_zero,Nat.mul_one,Nat.mul_assoc]
  rw[e,sgn]
theorem SI {a b k:Int} (hk:0<k):compare (a*k) (b*k)=compare a b:=by
 simp only[compare,compareOfLessAndEq]
 have h1:a*k<b*k↔a<b:=Int.mul_lt_mul_right hk
 have h2:a*k=b*k↔a=b:=Int.mul_eq_mul_right_iff (by omega)
 simp only[h1,h2]
theorem ord {a b:Int} (ha:a.natAbs<8192) (hb:b.natAbs<8192):FloatKind.f64.format.order (F a) (F b)=some (compare a b):=by
 have h1:FloatKind.f64.format.read (F a)=_:=decA ha
 have h2:FloatKind.f64.format.read (F b)=_:=decA hb
 unfold Format.order
 rw[h1,h2]
 unfold Datum.order
 simp only
 have p1:min (plc a) (plc b)≤plc a:=Int.min_le_left ..
 have p2:min (plc a) (plc b)≤plc b:=Int.min_le_right ..
 rw[sgnU ha p1,sgnU hb p2,SI]
 exact Int.pow_pos (by omega)
theorem intF {a:Int} (h:a.natAbs<8192): (FloatKind.f64.decode (F a)).toInt .zero=some a:=by
 rw[decA h]
 by_cases h0:a=0
 ·subst h0;rfl
 ·have hl:a.natAbs.log2<13:=by rcases C7 h with h1|h1;exact h1;omega
  unfold Datum.toInt Datum.integral
  simp only
  have hp:plc a=(a.natAbs.log2:Int) - 52:=by unfold plc;rw[if_neg h0]
  have hm:mag a=a.natAbs*2^ (52 - a.natAbs.log2):=by unfold mag;rw[if_neg h0]
  rw[hp,hm]
  have e1: ((a.natAbs.log2:Int) - 52).toNat=0:=by omega
  have e2: (-((a.natAbs.log2:Int) - 52)).toNat=52 - a.natAbs.log2:=by omega
  rw[e1,e2,Nat.shiftLeft_zero]
  have Ww: (a.natAbs*2^ (52 - a.natAbs.log2)).log2+2≥52 - a.natAbs.log2:=by
   have:2^ (52 - a.natAbs.log2)≤a.natAbs*2^ (52 - a.natAbs.log2):=Nat.le_mul_of_pos_left _ (by omega)
   have h3:=(Nat.le_log2 (n:=a.natAbs*2^ (52 - a.natAbs.log2)) (k:=52 - a.natAbs.log2) (by have:=Nat.pow_pos (a:=2) (n:=52 - a.natAbs.log2) (by omega);omega)).2 this
   omega
  unfold Toward.cut
  simp only
  rw[Nat.min_eq_left Ww,Nat.shiftLeft_eq,Nat.one_mul,Nat.mul_div_cancel _ (Nat.pow_pos (by omega))]
  have:=sgn a 0
  rw[Nat.pow_zero,Nat.mul_one] at this
  simp only[Bool.toNat_false,Nat.add_zero]
  rw[this];simp
end Go.Flo
namespace Go.Sx
open Go Go.Flo
def fl (n:Int):Value:= .float .f64 (F n)
def cx (a b:Int):Value:= .complex .f64 (F a) (F b)
section
variable {P:Program} {w0:World} {f:Fr} {L:aA} {N:Fr→aA→Prop} {ops:Array Oper} {rest:List Oper} {md:Md}
 {d:Option Tmp} {ty:TypeId} {ps:String} {af:Array Edge} {g:Option (Nat×Bool)}
theorem Ow.convIF {s dt:TypeId} {x:Operand} {n:Int} {md':Md} (he:md.turn=some md') (nN:bA ops f ⟨d, .convert s dt x,ty,ps,af,g⟩=false)
  (vQ:cvT P s dt= .no) (hs:P.underlying s=some (.int .i64)) (hd:P.underlying dt=some (.float .f64)) (hx:ev f x=vi n)
  (hn:Ow P w0 ops md' rest (aS f d (fl n)) L N):Ow P w0 ops md (⟨d, .convert s dt x,ty,ps,af,g⟩::rest) f L N:=by
 refine Ow.step he (by simp[fY,vQ]) nN fun w hw=> .inl ⟨fl n,w,L, ?_,hw,hn⟩
 have hc: (convert s dt (vi n)).run P w= .ok (fl n) w:=by
  unfold convert
  simp only[vi,Sem.run_bind,run_underlying hs w,run_underlying hd w,Result.andThen_ok]
  rfl
 simp only[execOp,Sem.run_bind,hx,hc]
 rfl
theorem Ow.convFI {s dt:TypeId} {x:Operand} {n:Int} {md':Md} (he:md.turn=some md') (nN:bA ops f ⟨d, .convert s dt x,ty,ps,af,g⟩=false)
  (vQ:cvT P s dt= .no) (hs:P.underlying s=some (.float .f64)) (hd:P.underlying dt=some (.int .i64)) (hx:ev f x=fl n) (hn8:n.natAbs<8192)
  (hn:Ow P w0 ops md' rest (aS f d (vi n)) L N):Ow P w0 ops md (⟨d, .convert s dt x,ty,ps,af,g⟩::rest) f L N:=by
 refine Ow.step he (by simp[fY,vQ]) nN fun w hw=> .inl ⟨vi n,w,L, ?_,hw,hn⟩
 have hc: (convert s dt (fl n)).run P w= .ok (vi n) w:=by
  unfold convert
  simp only[fl,Sem.run_bind,run_underlying hs w,run_underlying hd w,Result.andThen_ok]
  show(Conv.floatToInt .f64 (F n) .i64).run P w=_
  unfold Conv.floatToInt
  simp only[intF hn8]
  have e1:IntKind.i64.min= -9223372036854775808:=rfl
  have e2:IntKind.i64.max=9223372036854775807:=rfl
  rw[if_pos (by rw[e1,e2];omega)]
  rfl
 simp only[execOp,Sem.run_bind,hx,hc]
 rfl
theorem U1 (a b:Int): (some (compare a b)==some Ordering.lt||some (compare a b)==some Ordering.eq)=decide (a≤b):=by
 simp only[compare,compareOfLessAndEq]
 by_cases h1:a<b
 ·rw[if_pos h1,decide_eq_true (by omega)];rfl
 ·by_cases h2:a=b
  ·rw[if_neg h1,if_pos h2,decide_eq_true (by omega)];rfl
  ·rw[if_neg h1,if_neg h2,decide_eq_false (by omega)];rfl
theorem UC (a b:Int): (some (compare a b)==some Ordering.gt||some (compare a b)==some Ordering.eq)=decide (b≤a):=by
 simp only[compare,compareOfLessAndEq]
 by_cases h1:a<b
 ·rw[if_pos h1,decide_eq_false (by omega)];rfl
 ·by_cases h2:a=b
  ·rw[if_neg h1,if_pos h2,decide_eq_true (by omega)];rfl
  ·rw[if_neg h1,if_neg h2,decide_eq_true (by omega)];rfl
theorem SB (a b:Int): (some (compare a b)==some Ordering.eq)=(a==b):=by
 simp only[compare,compareOfLessAndEq]
 by_cases h1:a<b
 ·have: (a==b)=false:=by rw[beq_eq_false_iff_ne];omega
  rw[if_pos h1,this];rfl
 ·by_cases h2:a=b
  ·rw[if_neg h1,if_pos h2,h2];simp
  ·have: (a==b)=false:=by rw[beq_eq_false_iff_ne];exact h2
   rw[if_neg h1,if_neg h2,this];rfl
theorem Ow.fleq {t t':TypeId} {x y:Operand} {a b:Int} (hs:bA ops f ⟨d, .binOp .leq t x y t',ty,ps,af,g⟩=false) (hx:ev f x=fl a) (hy:ev f y=fl b) (ha:a.natAbs<8192) (hb:b.natAbs<8192)
  (hn:Ow P w0 ops md.next rest (aS f d (.bool (decide (a≤b)))) L N):Ow P w0 ops md (⟨d, .binOp .leq t x y t',ty,ps,af,g⟩::rest) f L N:=by
 refine Ow.pureV rfl hs (fun w=> ?_) hn
 simp only[execOp,Sem.run_bind,hx,hy]
 have hg: (eqGuard .leq t x y (fl a) (fl b)).run P w= .ok () w:=rfl
 have hc: (binOp .leq t (fl a) (fl b)).run P w= .ok (.bool (decide (a≤b))) w:=by
  show Result.ok (Value.bool (FloatKind.f64.format.order (F a) (F b)==some .lt||FloatKind.f64.format.order (F a) (F b)==some .eq)) w=_
  rw[ord ha hb,U1]
 rw[hg,Result.andThen_ok,hc]
 rfl
theorem Ow.fgeq {t t':TypeId} {x y:Operand} {a b:Int} (hs:bA ops f ⟨d, .binOp .geq t x y t',ty,ps,af,g⟩=false) (hx:ev f x=fl a) (hy:ev f y=fl b) (ha:a.natAbs<8192) (hb:b.natAbs<8192)
  (hn:Ow P w0 ops md.next rest (aS f d (.bool (decide (b≤a)))) L N):Ow P w0 ops md (⟨d, .binOp .geq t x y t',ty,ps,af,g⟩::rest) f L N:=by
 refine Ow.pureV rfl hs (fun w=> ?_) hn
 simp only[execOp,Sem.run_bind,hx,hy]
 have hg: (eqGuard .geq t x y (fl a) (fl b)).run P w= .ok () w:=rfl
 have hc: (binOp .geq t (fl a) (fl b)).run P w= .ok (.bool (decide (b≤a))) w:=by
  show Result.ok (Value.bool (FloatKind.f64.format.order (F a) (F b)==some .gt||FloatKind.f64.format.order (F a) (F b)==some .eq)) w=_
  rw[ord ha hb,UC]
 rw[hg,Result.andThen_ok,hc]
 rfl
theorem Ow.feql {t t':TypeId} {x y:Operand} {a b:Int} (hs:bA ops f ⟨d, .binOp .eql t x y t',ty,ps,af,g⟩=false) (hx:ev f x=fl a) (hy:ev f y=fl b) (ha:a.natAbs<8192) (hb:b.natAbs<8192)
  (hn:Ow P w0 ops md.next rest (aS f d (.bool (a==b))) L N):Ow P w0 ops md (⟨d, .binOp .eql t x y t',ty,ps,af,g⟩::rest) f L N:=by
 refine Ow.pureV rfl hs (fun w=> ?_) hn
 simp only[execOp,Sem.run_bind,hx,hy]
 have hg: (eqGuard .eql t x y (fl a) (fl b)).run P w= .ok () w:=rfl
 have hc: (binOp .eql t (fl a) (fl b)).run P w= .ok (.bool (a==b)) w:=by
  show Result.ok (Value.bool (FloatKind.f64.format.order (F a) (F b)==some .eq)) w=_
  rw[ord ha hb,SB]
 rw[hg,Result.andThen_ok,hc]
 rfl
theorem Ow.real {x:Operand} {ts:Array TypeId} {a b:Int} (hs:bA ops f ⟨d, .call ⟨.builtin .real, #[x],ts⟩,ty,ps,af,g⟩=false) (hx:ev f x=cx a b)
  (hn:Ow P w0 ops md.next rest (aS f d (fl a)) L N):Ow P w0 ops md (⟨d, .call ⟨.builtin .real, #[x],ts⟩,ty,ps,af,g⟩::rest) f L N:=by
 refine Ow.calm rfl rfl hs (fun w hw=> .inl ⟨fl a,w,L, ?_,hw,rfl,rfl⟩) hn
 simp only[execOp,resolve,Sem.run_bind,Sem.run_pure,Result.andThen_ok,invoke,builtin,List.map_toArray,List.map_cons,List.map_nil,hx]
 rfl
theorem Ow.imag {x:Operand} {ts:Array TypeId} {a b:Int} (hs:bA ops f ⟨d, .call ⟨.builtin .imag, #[x],ts⟩,ty,ps,af,g⟩=false) (hx:ev f x=cx a b)
  (hn:Ow P w0 ops md.next rest (aS f d (fl b)) L N):Ow P w0 ops md (⟨d, .call ⟨.builtin .imag, #[x],ts⟩,ty,ps,af,g⟩::rest) f L N:=by
 refine Ow.calm rfl rfl hs (fun w hw=> .inl ⟨fl b,w,L, ?_,hw,rfl,rfl⟩) hn
 simp only[execOp,resolve,Sem.run_bind,Sem.run_pure,Result.andThen_ok,invoke,builtin,List.map_toArray,List.map_cons,List.map_nil,hx]
 rfl
theorem Ow.complexB {x y:Operand} {ts:Array TypeId} {a b:Int} (hs:bA ops f ⟨d, .call ⟨.builtin .complex, #[x,y],ts⟩,ty,ps,af,g⟩=false) (hx:ev f x=fl a) (hy:ev f y=fl b)
  (hn:Ow P w0 ops md.next rest (aS f d (cx a b)) L N):Ow P w0 ops md (⟨d, .call ⟨.builtin .complex, #[x,y],ts⟩,ty,ps,af,g⟩::rest) f L N:=by
 refine Ow.calm rfl rfl hs (fun w hw=> .inl ⟨cx a b,w,L, ?_,hw,rfl,rfl⟩) hn
 simp only[execOp,resolve,Sem.run_bind,Sem.run_pure,Result.andThen_ok,invoke,builtin,List.map_toArray,List.map_cons,List.map_nil,hx,hy]
 rfl
end
end Go.Sx
namespace Go.Sx
open Go Go.Flo
theorem Qm (P:Program) (t:TypeId) (a b:Int):aT P .eql t (fl a) (fl b)=none:=by
 show(eA (P.underlying t) (fl a) (fl b)).map _=none
 unfold eA fl
 split<;>simp_all
theorem A9 (P:Program) (t:TypeId) (a b a' b':Int):aT P .eql t (cx a b) (cx a' b')=none:=by
 show(eA (P.underlying t) (cx a b) (cx a' b')).map _=none
 unfold eA cx
 split<;>simp_all
section
variable {P:Program} {w0:World} {st:Bool} {f:Fr} {L:aA} {md:Md} {d:Option Tmp} {ty:TypeId} {ps:String} {af:Array Edge} {g:Option (Nat×Bool)} {go:Fr→aA→Prop} {stop:Prop}
theorem BD (a:Array Operand) (t:Array TypeId):vcB P w0 st md ⟨d, .call ⟨.builtin .real,a,t⟩,ty,ps,af,g⟩ f L go stop=stop:=(rfl)
theorem Ae (a:Array Operand) (t:Array TypeId):vcB P w0 st md ⟨d, .call ⟨.builtin .imag,a,t⟩,ty,ps,af,g⟩ f L go stop=stop:=(rfl)
theorem HY (a:Array Operand) (t:Array TypeId):vcB P w0 st md ⟨d, .call ⟨.builtin .complex,a,t⟩,ty,ps,af,g⟩ f L go stop=stop:=(rfl)
end
end Go.Sx
section
open Go Go.Proofs Go.Sx Go.StP Go.Flo
namespace Go.Proofs
set_option maxRecDepth 10000
set_option maxHeartbeats 400000
set_option linter.unusedSimpArgs false
structure PcL where
 a:Nat
 n:Nat
 x:List UInt8
def pc0:PcL:=⟨0,0,[]⟩
def pcC (p:PcL):List Value:= [cx p.a p.n,vs p.x]
def PcB (p:PcL):Prop:=p.a≤4099∧p.n≤4099
theorem tD (p:PcL): (pcC p).length=2:=rfl
theorem Bs (p:PcL): (pcC p).all Value.oneCell'=true:=rfl
def cpV (p:PcL) (b:Int):Option (Nat×Nat):=if 1≤p.n∧p.n≤4099∧p.x= []∧(p.a:Int)≤b - p.n then some (p.a,p.n) else none
def ey (p:PcL) (b:Int):Nat:=if p.a=0∧p.n=0∧p.x.length≤4099 then p.x.length else match cpV p b with|some q=>q.2|none=>0
theorem AY (p:PcL) (b:Int):ey p b≤4099:=by
 unfold ey
 split
 ·rename_i h;exact h.2.2
 ·unfold cpV
  split
  ·rename_i q h
   split at h
   ·rename_i hc;cases h;exact hc.2.1
   ·cases h
  ·omega
def eB (b:Int) (l:List PcL):Nat:=(l.map fun p=>ey p b).sum
theorem Q0 (b:Int) (l:List PcL) (p:PcL):eB b (l++ [p])=eB b l+ey p b:=by
 unfold eB;rw[List.map_append,List.sum_append];simp
theorem QH (b:Int) (l m:List PcL):eB b (l++m)=eB b l+eB b m:=by
 unfold eB;rw[List.map_append,List.sum_append]
def anyZ (b:Int) (l:List PcL):Bool:=l.any fun p=>ey p b==0
def chkV (b:Int) (l:List PcL):Int×Int:=if b<0∨4099<b then(0,1) else if anyZ b l=true then(0,1) else if 4099<eB b l then(0,19) else((eB b l:Nat),0)
theorem BW (b:Int): ∀ (l:List PcL),anyZ b l=false→l.length≤eB b l
 | [],_=>Nat.zero_le _
 |p::l,h=>by
  unfold anyZ at h
  rw[List.any_cons,Bool.or_eq_false_iff] at h
  have h1:=BW b l h.2
  have h2:ey p b≠0:=by simpa using h.1
  unfold eB at h1 ⊢
  rw[List.map_cons,List.sum_cons,List.length_cons]
  omega
theorem uH {b m:Int} {l:List PcL} (h:chkV b l=(m,0)):0≤b∧b≤4099∧anyZ b l=false∧eB b l≤4099∧m=(eB b l:Nat)∧l.length≤4099:=by
 unfold chkV at h
 split at h
 ·cases h
 ·rename_i hb
  split at h
  ·cases h
  ·rename_i hz
   split at h
   ·cases h
   ·rename_i hs
    have hz':anyZ b l=false:=by simpa using hz
    have:=BW b l hz'
    cases h
    exact⟨by omega,by omega,hz',by omega,rfl,by omega⟩
def pcT (base:List UInt8) (p:PcL):List UInt8:=match cpV p base.length with|some q=>(base.drop q.1).take q.2++p.x|none=>p.x
def txtP (base:List UInt8) (l:List PcL):List UInt8:=(l.map (pcT base)).flatten
def pcR (d:List UInt8) (a:Nat):PcL×Nat×Int:=
 if(aE d a 0 8199).1%2=1 then
  (⟨(aE d (aE d a 0 8199).2.1 (aE d a 0 8199).2.2 4099).1.toNat,((aE d a 0 8199).1 / 2).toNat,[]⟩,(aE d (aE d a 0 8199).2.1 (aE d a 0 8199).2.2 4099).2)
 else(⟨0,0,(az d (aE d a 0 8199).2.1 (aE d a 0 8199).2.2 ((aE d a 0 8199).1 / 2)).1⟩,(az d (aE d a 0 8199).2.1 (aE d a 0 8199).2.2 ((aE d a 0 8199).1 / 2)).2)
theorem uU {d:List UInt8} {a:Nat} (ha:a≤d.length):a≤ (pcR d a).2.1∧(pcR d a).2.1≤d.length:=by
 have h1:=iD (s:=d) (a:=a) (e:=0) (most:=8199) ha
 unfold pcR
 split
 ·have h2:=iD (s:=d) (a:=(aE d a 0 8199).2.1) (e:=(aE d a 0 8199).2.2) (most:=4099) h1.2
  exact⟨Nat.le_trans h1.1 h2.1,h2.2⟩
 ·have h2:=wc (s:=d) (a:=(aE d a 0 8199).2.1) (e:=(aE d a 0 8199).2.2) (n:=(aE d a 0 8199).1 / 2) h1.2
  exact⟨Nat.le_trans h1.1 h2.1,h2.2⟩
theorem uR {d:List UInt8} {a:Nat} (ha:a≤d.length) (h: (pcR d a).2.2=0):a< (pcR d a).2.1:=by
 have h1:=iD (s:=d) (a:=a) (e:=0) (most:=8199) ha
 have hz: (aE d a 0 8199).2.2=0:=by
  by_cases he: (aE d a 0 8199).2.2=0
  ·exact he
  ·unfold pcR at h
   split at h
   ·have:=ue (s:=d) (a:=(aE d a 0 8199).2.1) (most:=4099) he
    simp only[this] at h
    exact absurd h he
   ·have:=qg (s:=d) (a:=(aE d a 0 8199).2.1) (n:=(aE d a 0 8199).1 / 2) he
    simp only[this] at h
    exact absurd h he
 have pc:=Bj hz
 unfold pcR
 split
 ·have h2:=iD (s:=d) (a:=(aE d a 0 8199).2.1) (e:=(aE d a 0 8199).2.2) (most:=4099) h1.2
  exact Nat.lt_of_lt_of_le pc h2.1
 ·have h2:=wc (s:=d) (a:=(aE d a 0 8199).2.1) (e:=(aE d a 0 8199).2.2) (n:=(aE d a 0 8199).1 / 2) h1.2
  exact Nat.lt_of_lt_of_le pc h2.1
def pcsF (d:List UInt8):Nat→Nat→List PcL×Nat×Int
 |0,a=>([],a,0)
 |k+1,a=>if a<d.length then(if(pcR d a).2.2=0 then((pcR d a).1:: (pcsF d k (pcR d a).2.1).1,(pcsF d k (pcR d a).2.1).2) else([(pcR d a).1],(pcR d a).2)) else([],a,0)
theorem zr {d:List UInt8}: ∀ (k j a:Nat),a≤d.length→d.length - a≤k→d.length - a≤j→pcsF d k a=pcsF d j a
 |0,j,a,ha,hk,_=>by
  have: ¬a<d.length:=by omega
  cases j with
  |zero=>rfl
  |succ j=>unfold pcsF;rw[if_neg this]
 |k+1,0,a,ha,_,hj=>by
  have: ¬a<d.length:=by omega
  unfold pcsF;rw[if_neg this]
 |k+1,j+1,a,ha,hk,hj=>by
  unfold pcsF
  by_cases h:a<d.length
  ·rw[if_pos h,if_pos h]
   by_cases he: (pcR d a).2.2=0
   ·have hu:=uR ha he
    have hl:=uU ha
    rw[if_pos he,if_pos he,zr k j (pcR d a).2.1 hl.2 (by omega) (by omega)]
   ·rw[if_neg he,if_neg he]
  ·rw[if_neg h,if_neg h]
def pcs (d:List UInt8) (a:Nat):List PcL×Nat×Int:=pcsF d (d.length - a) a
theorem Tk {d:List UInt8} {a:Nat} (h: ¬a<d.length):pcs d a=([],a,0):=by
 unfold pcs
 rw[show d.length - a=0 by omega];rfl
theorem Uq {d:List UInt8} {a:Nat} (h:a<d.length) (he: (pcR d a).2.2=0):pcs d a=((pcR d a).1:: (pcs d (pcR d a).2.1).1,(pcs d (pcR d a).2.1).2):=by
 have hu:=uR (Nat.le_of_lt h) he
 have hl:=uU (Nat.le_of_lt h)
 unfold pcs
 obtain⟨k,hk⟩: ∃k,d.length - a=k+1:=⟨d.length - a - 1,by omega⟩
 rw[hk]
 conv=>lhs;unfold pcsF
 rw[if_pos h,if_pos he,zr k (d.length - (pcR d a).2.1) (pcR d a).2.1 hl.2 (by omega) (Nat.le_refl _)]
theorem TV {d:List UInt8} {a:Nat} (h:a<d.length) (he: (pcR d a).2.2≠0):pcs d a=([(pcR d a).1],(pcR d a).2):=by
 unfold pcs
 obtain⟨k,hk⟩: ∃k,d.length - a=k+1:=⟨d.length - a - 1,by omega⟩
 rw[hk]
 unfold pcsF
 rw[if_pos h,if_neg he]
def wg (d:List UInt8):Option (Nat×List PcL):=
 if(aE d (aE d 0 0 4099).2.1 (aE d 0 0 4099).2.2 4099).2.2≠0 then none
 else if(pcs d (aE d (aE d 0 0 4099).2.1 (aE d 0 0 4099).2.2 4099).2.1).2.2≠0 then none
 else if chkV (aE d 0 0 4099).1 (pcs d (aE d (aE d 0 0 4099).2.1 (aE d 0 0 4099).2.2 4099).2.1).1=((aE d (aE d 0 0 4099).2.1 (aE d 0 0 4099).2.2 4099).1,0) then some ((aE d 0 0 4099).1.toNat,(pcs d (aE d (aE d 0 0 4099).2.1 (aE d 0 0 4099).2.2 4099).2.1).1)
 else none
def k8 (base d:List UInt8):List UInt8×Int:=
 match wg d with
 |none=>([],2)
 |some p=>if p.1≠base.length then([],19) else(txtP base p.2,0)
end Go.Proofs
end
section
open Go Go.Proofs Go.Sx Go.StP Go.Flo
namespace Go.Proofs
set_option maxRecDepth 10000
set_option maxHeartbeats 400000
set_option linter.unusedSimpArgs false
theorem cvIF:cvT Tryz.prog 3 312= .no:=id (by kernel_rfl)
theorem cvFI:cvT Tryz.prog 312 3= .no:=id (by kernel_rfl)
set_option linter.defProp false
theorem wr (p:PcL) (E:TypeId) (n:Nat):aI (some (false,n)) (some (.cells (pcC p).toArray E (0,0))) 0=some (cx p.a p.n):=(rfl)
theorem wn (p:PcL) (E:TypeId) (n:Nat):aI (some (false,n)) (some (.cells (pcC p).toArray E (0,0))) 1=some (vs p.x):=(rfl)
theorem wd (p:PcL) (E:TypeId):aI (some (true,2)) (some (.cells (pcC p).toArray E (0,0))) 0=some (.agg (pcC p).toArray):=rV _ E (0,0) 2 rfl
theorem wL (p:PcL):Value.cells (.agg (pcC p).toArray)=(pcC p).toArray:=aV _
theorem zrPc:am Tryz.prog 311=some (.agg (pcC pc0).toArray):=id (by kernel_rfl)
theorem Qd (p q:PcL) (E:TypeId):ab (some (true,2)) (some (.cells (pcC q).toArray E (0,0))) 0 (.agg (pcC p).toArray)=some (.cells (pcC p).toArray E (0,0)):=by
 have:=xh (pcC p) (n:=2) true (pcC q).toArray E rfl (Bs p) rfl
 exact this
theorem cxz: (Value.complex FloatKind.f64 0 0)=cx 0 0:=id (by kernel_rfl)
set_option linter.defProp false
abbrev PcSl (w:World) (v:Value) (l:List PcL):Prop:=SlV 2 pcC pc0 w v l
def BndP (l:List PcL):Prop:= ∀g,g<l.length→PcB (l.getD g pc0)∧(l.getD g pc0).x.length<9223372036854775808
theorem Or {b:Int} {l:List PcL} {g:Nat} (h:g<l.length):eB b (l.take (g+1))=eB b (l.take g)+ey (l.getD g pc0) b:=by
 rw[take_snoc (z:=pc0) h,Q0]
theorem OS {b:Int} {l:List PcL} {g:Nat} (h:g<l.length):anyZ b (l.take (g+1))=(anyZ b (l.take g) ||ey (l.getD g pc0) b==0):=by
 rw[take_snoc (z:=pc0) h];unfold anyZ;rw[List.any_append];simp
theorem tP {b:Int} {l:List PcL} {g:Nat} (h:g<l.length) (hz:ey (l.getD g pc0) b=0):anyZ b l=true:=by
 unfold anyZ
 rw[List.any_eq_true]
 exact⟨_,nX (z:=pc0) h,by rw[beq_iff_eq];exact hz⟩
end Go.Proofs
end
section
open Go Go.Proofs Go.Sx Go.StP Go.Flo
namespace Go.Proofs
set_option maxRecDepth 10000
set_option maxHeartbeats 400000
set_option linter.unusedSimpArgs false
def pcAt (p:PcL) (b:Int):Nat×Nat:=match cpV p b with|some q=>q|none=>(0,0)
theorem S9 (p:PcL) (base:List UInt8): (pcAt p base.length).1+ (pcAt p base.length).2≤base.length:=by
 unfold pcAt cpV
 split
 ·rename_i q h
  split at h
  ·rename_i hc;cases h;simp only;omega
  ·cases h
 ·simp
theorem Tp (base:List UInt8) (p:PcL) (h:ey p base.length≠0): (pcT base p).length=ey p base.length:=by
 have dN:=S9 p base
 unfold ey at h ⊢
 unfold pcT
 unfold pcAt at dN
 split at h
 ·rename_i hc
  rw[if_pos hc]
  have hn:cpV p base.length=none:=by unfold cpV;rw[if_neg (by omega)]
  rw[hn]
 ·rename_i hc
  rw[if_neg hc]
  cases hq:cpV p base.length with
  |none=>rw[hq] at h;exact absurd rfl h
  |some q=>
   rw[hq] at dN
   simp only at dN ⊢
   have hx:p.x= []:=by
    unfold cpV at hq
    split at hq
    ·rename_i h2;exact h2.2.2.1
    ·cases hq
   rw[hx,List.append_nil,List.length_take,List.length_drop]
   omega
theorem Nm {base:List UInt8} {l:List PcL} {g:Nat} (h:g<l.length):txtP base (l.take (g+1))=txtP base (l.take g)++pcT base (l.getD g pc0):=by
 rw[take_snoc (z:=pc0) h];unfold txtP;simp
theorem tg {base:List UInt8}: ∀ {l:List PcL},anyZ base.length l=false→(txtP base l).length=eB base.length l
 | [],_=>rfl
 |p::l,h=>by
  unfold anyZ at h
  rw[List.any_cons,Bool.or_eq_false_iff] at h
  have h1:=tg (base:=base) (l:=l) h.2
  have h2:=Tp base p (by simpa using h.1)
  unfold txtP eB at h1 ⊢
  rw[List.map_cons,List.flatten_cons,List.length_append,List.map_cons,List.sum_cons,h1,h2]
theorem Z4 {b:Int} {l:List PcL} {g:Nat}:eB b (l.take g)≤eB b l:=by
 have:=QH b (l.take g) (l.drop g)
 rw[List.take_append_drop] at this
 omega
theorem UM {b:Int} {l:List PcL} {g:Nat} (h:anyZ b l=false):anyZ b (l.take g)=false:=by
 unfold anyZ at h ⊢
 rw[List.any_eq_false] at h ⊢
 exact fun x hx=>h x (List.mem_of_mem_take hx)
set_option linter.defProp false
end Go.Proofs
end
namespace Go.Sx
open Go
section
variable {α:Type} {m:Nat} {enc:α→List Value} {z:α}
end
section
variable {P:Program} {w0:World} {f:Fr} {L:aA} {N:Fr→aA→Prop} {ops:Array Oper} {rest:List Oper} {md:Md} {d:Option Tmp} {ty:TypeId} {ps:String} {af:Array Edge} {g:Option (Nat×Bool)}
theorem Ow.makeSlice {t e:TypeId} {m:Bool×Nat} {z:Value} {x y:Operand} {n c:Nat} {md':Md} (he:md.turn=some md') (hs:bA ops f ⟨d, .makeSlice t x y,ty,ps,af,g⟩=false)
  (hu:P.underlying t=some (.slice e)) (hm:aM P e=some m) (hi:px P e=true) (hz:am P e=some z) (hx:ev f x=vi n) (hy:ev f y=vi c) (XC:n≤c) (cb:c≤2^38)
  (hn: ∀b,eS L b→w0.heap.size≤b→Ow P w0 ops md' rest (aS f d (vsl b 0 n c)) (L++ [(b, .cells (madeCells z.cells (c*m.2)) e (0,0))]) N):
  Ow P w0 ops md (⟨d, .makeSlice t x y,ty,ps,af,g⟩::rest) f L N:=by
 refine Ow.step he rfl hs fun w hw=> .inl ⟨vsl w.heap.size 0 n c,w.alloc (.cells (madeCells z.cells (c*m.2)) e (0,0)),_, ?_,hw.alloc _,hn _ (gh fun b hb=>hw.lt hb) hw.size⟩
 obtain⟨i,r7,-,hb⟩:=I0 hi cb
 have hiz:i.zero=some z:=by
  unfold am at hz
  rw[r7] at hz
  exact hz
 have him:i.size=m.2:=by
  unfold aM at hm
  rw[r7] at hm
  split at hm
  ·rename_i h1 h2
   cases h2
   cases hm
   rfl
  ·cases hm
 have DF: (i.bytes:Int)* (c:Int)≤281474976710656:=by
  have: ((i.bytes*c:Nat):Int)≤281474976710656:=by rw[Nat.mul_comm];exact Int.ofNat_le.2 hb
  rwa [Int.natCast_mul] at this
 have hr:=run_make (P:=P) w t e i z hu r7 hiz .i64 .i64 (n:Int) (c:Int) (by omega) (by omega) DF (by omega)
 simp only[Int.toNat_natCast,him] at hr
 show(execOp (ev f) _).run P w=_
 simp only[execOp,Sem.run_bind]
 rw[hx,hy]
 show((Instr.makeSlice t (.int .i64 (n:Int)) (.int .i64 (c:Int))).run P w).andThen _=_
 rw[hr]
 rfl
theorem Ow.appendXG {ts tx e:TypeId} {m:Bool×Nat} {z:Value} {s x:Operand} {n k:Nat} {cs new:List Value} {dx:TypeDesc} {md':Md} {X Y:aA} (sv:Value) (hL:L=X++Y) (gH:ev f s=sv) (he:md.turn=some md')
  (hs:bA ops f ⟨d, .call ⟨.builtin .append, #[s,x], #[ts,tx]⟩,ty,ps,af,g⟩=false)
  (hu:P.underlying ts=some (.slice e)) (hm:aM P e=some m) (hi:px P e=true) (hz:am P e=some z) (kN:z.cells.size=m.2) (iS:P.underlying tx=some dx) (dO: ∀k,dx≠ .int k)
  (hB:Gr X e m.2 sv n cs) (hX: ∀w,Hp w0 L w→AppX P w m.2 (ev f x) k new) (cb:2* (n+k)+768≤2^38)
  (hn: ∀B v' D,eS L B→w0.heap.size≤B→Gr D e m.2 v' (n+k) (cs++new)→(∀c,c∈keys X→c∈keys D)→(∀c,c∈keys D→c∈keys X∨B≤c)→(∀c o,slB sv≠some c→look X c=some o→look D c=some o)→Ow P w0 ops md' rest (aS f d v') (D++Y) N):
  Ow P w0 ops md (⟨d, .call ⟨.builtin .append, #[s,x], #[ts,tx]⟩,ty,ps,af,g⟩::rest) f L N:=by
 subst hL
 refine Ow.step he rfl hs fun w hw=> ?_
 have hp:=hw.part
 have hA:eS (X++Y) w.heap.size:=gh fun b hb=>hw.lt hb
 have fin: ∀v' w' D,(Builtin.append_ #[ts,tx] ty #[sv,ev f x]).run P w= .ok v' w'→Hp w D w'→Gr D e m.2 v' (n+k) (cs++new)→(∀c,c∈keys X→c∈keys D)→(∀c,c∈keys D→c∈keys X∨w.heap.size≤c)→(∀c o,slB sv≠some c→look X c=some o→look D c=some o)→
   (∃v w' L',(execOp (ev f) ⟨d, .call ⟨.builtin .append, #[s,x], #[ts,tx]⟩,ty,ps,af,g⟩).run P w= .ok (.value v) w'∧Hp w0 L' w'∧Ow P w0 ops md' rest (aS f d v) L' N):=by
  intro v' w' D hr hD hb h1 h2 h3
  refine⟨v',w',D++Y, ?_,hw.join hD h1 h2,hn w.heap.size v' D hA hw.size hb h1 h2 h3⟩
  simp only[execOp,resolve,Sem.run_bind,Sem.run_pure,Result.andThen_ok,invoke,builtin,List.map_toArray,List.map_cons,List.map_nil,gH]
  rw[hr]
  rfl
 rcases hB with hB| ⟨rfl,rfl,b,rfl,bl⟩
 ·obtain⟨v',w',D,hr,hD,hb,hg,-⟩:=H4 (w0:=w) (L:=X) (ty:=ty) (x:=ev f x) hp hu hm hi hz kN iS dO hB (fun w2 bH=>hX w2 (by
   refine hw.join bH (fun c hc=>hc) (fun c hc=> .inl hc))) cb
  exact .inl (fin v' w' D hr hD (.inl hb) hg.keys (fun c hc=>(hg.new c hc).imp id And.right) hg.look)
 ·rcases Xw (w0:=w) (L:=X) (ty:=ty) (b:=b) (x:=ev f x) hp hu hm hi hz kN iS dO (fun w2 bH=>hX w2 (by
   refine hw.join bH (fun c hc=>hc) (fun c hc=> .inl hc))) cb with⟨h0,hr⟩ | ⟨-,v',w',D,hr,hD,hb,hg,-⟩
  ·subst h0
   have hnw:=(hX w hw).size
   obtain rfl:new= []:=List.eq_nil_of_length_eq_zero (by rw[hnw,Nat.zero_mul])
   exact .inl (fin _ w X hr hp (.inr ⟨rfl,rfl,b,rfl,bl⟩) (fun c hc=>hc) (fun c hc=> .inl hc) (fun c o _ hl=>hl))
  ·exact .inl (fin v' w' D hr hD (.inl hb) hg.keys (fun c hc=>(hg.new c hc).imp id And.right) (fun c o _ hl=>hg.look c o (by simp[slB]) hl))
end
theorem New.perm {n:Nat} {D D':aA} (h:New n D) (hp:D.Perm D'):New n D':=New.of_le fun c hc=>h.le c ((hp.map Prod.fst).mem_iff.2 hc)
end Go.Sx
section
open Go Go.Proofs Go.Sx Go.StP Go.Flo
namespace Go.Proofs
set_option maxRecDepth 10000
set_option maxHeartbeats 400000
set_option linter.unusedSimpArgs false
def dB (d:List UInt8):Int×Nat×Int:=aE d 0 0 4099
def dM (d:List UInt8):Int×Nat×Int:=aE d (dB d).2.1 (dB d).2.2 4099
theorem A8 (d:List UInt8):wg d=if(dM d).2.2≠0 then none else if(pcs d (dM d).2.1).2.2≠0 then none else if chkV (dB d).1 (pcs d (dM d).2.1).1=((dM d).1,0) then some ((dB d).1.toNat,(pcs d (dM d).2.1).1) else none:=rfl
theorem TX (p:PcL):t7 Tryz.prog 297 1 [(0, .agg (pcC p).toArray)]=some (311,(pcC p).toArray):=
 lV Tryz.underlying297 (id (by kernel_rfl)) zrPc (by decide) (tD p)
set_option linter.defProp false
end Go.Proofs
end
section
open Go Go.Proofs Go.Sx Go.StP Go.Flo
namespace Go.Proofs
set_option maxRecDepth 10000
set_option maxHeartbeats 400000
set_option linter.unusedSimpArgs false
theorem yN {d:List UInt8} {p:Nat×List PcL} (h:wg d=some p): ∃m,chkV (p.1:Nat) p.2=(m,0):=by
 rw[A8] at h
 split at h
 ·cases h
 ·split at h
  ·cases h
  ·split at h
   ·rename_i hc
    cases h
    have fT:=pv (s:=d) (a:=0) (e:=0) (most:=4099) (by omega)
    change 0≤ (dB d).1∧(dB d).1≤4099 at fT
    refine⟨(dM d).1, ?_⟩
    rw[show(((dB d).1.toNat:Nat):Int)=(dB d).1 by omega]
    exact hc
   ·cases h
set_option linter.defProp false
end Go.Proofs
end
section
open Go Go.Proofs Go.Sx Go.StP Go.Flo
namespace Go.Proofs
set_option maxRecDepth 10000
set_option maxHeartbeats 400000
set_option linter.unusedSimpArgs false
structure PartL where
 d:Bool
 b:Int
 x:List UInt8
def fP:PartL:=⟨false,0,[]⟩
def cY (p:PartL):List Value:= [.bool p.d,vi p.b,vs p.x]
theorem Hk (p:PartL): (cY p).length=3:=rfl
theorem zm (p:PartL): (cY p).all Value.oneCell'=true:=rfl
def kR (l:List PartL):Nat→Nat→Except Int (List Nat)
 |0,_=> .error 11
 |k+1,at_=>
  if(l.getD at_ fP).d=true then
   (if(l.getD at_ fP).b<0∨(at_:Int)≤ (l.getD at_ fP).b then .error 2
   else if k=0 then .error 11
   else(kR l k (l.getD at_ fP).b.toNat).map (at_:: ·))
  else if(l.getD at_ fP).b≠0 then .error 2 else .ok [at_]
def jH (l:List PartL) (at_:Int):Except Int (List Nat):=
 if 200<l.length∨at_<0∨(l.length:Int)≤at_ then .error 1 else kR l 5 at_.toNat
def ga (p:PartL) (base:List UInt8):List UInt8×Int:=if p.d=true then k8 base p.x else if 4099<p.x.length then([],19) else(p.x,0)
def jF (l:List PartL):List Nat→Except Int (List UInt8)
 | []=> .ok []
 |a::p=>(jF l p).bind fun s=>if(ga (l.getD a fP) s).2=0 then .ok (ga (l.getD a fP) s).1 else .error (ga (l.getD a fP) s).2
def partV (l:List PartL) (at_:Int):Except Int (List UInt8):=(jH l at_).bind (jF l)
def CW (l:List PartL):Nat→Except Int (List (List UInt8))
 |0=> .ok []
 |k+1=>(CW l k).bind fun ts=>(partV l (k:Nat)).map fun s=>ts++ [s]
def allV (l:List PartL):Except Int (List (List UInt8)):=if 200<l.length then .error 1 else CW l l.length
end Go.Proofs
end
section
open Go Go.Proofs Go.Sx Go.StP Go.Flo
namespace Go.Proofs
set_option maxRecDepth 10000
set_option maxHeartbeats 400000
set_option linter.unusedSimpArgs false
def natC (n:Nat):List Value:= [vi n]
theorem Am (n:Nat): (natC n).length=1:=rfl
abbrev CF (w:World) (v:Value) (l:List PartL):Prop:=SlV 3 cY fP w v l
theorem yW (p:PartL) (E:TypeId) (n:Nat):aI (some (false,n)) (some (.cells (cY p).toArray E (0,0))) 0=some (.bool p.d):=(rfl)
theorem Yv (p:PartL) (E:TypeId) (n:Nat):aI (some (false,n)) (some (.cells (cY p).toArray E (0,0))) 1=some (vi p.b):=(rfl)
theorem Yw (p:PartL) (E:TypeId) (n:Nat):aI (some (false,n)) (some (.cells (cY p).toArray E (0,0))) 2=some (vs p.x):=(rfl)
theorem FR (p:PartL):Value.cells (.agg (cY p).toArray)=(cY p).toArray:=aV _
theorem nd:am Tryz.prog 279=some (.agg (cY fP).toArray):=id (by kernel_rfl)
theorem Yj (p q:PartL) (E:TypeId):ab (some (true,3)) (some (.cells (cY q).toArray E (0,0))) 0 (.agg (cY p).toArray)=some (.cells (cY p).toArray E (0,0)):=
 xh (cY p) (n:=3) true (cY q).toArray E rfl (zm p) rfl
def jg (l:List PartL) (a0:Int) (v:Value) (D:aA):Prop:=match jH l a0 with
 | .ok p=> ∃x,v= .tuple #[x,vi 0]∧p.length≤5∧GrI D 3 1 x p.length (p.map natC).flatten
 | .error e=>v= .tuple #[.slice none 0 0,vi e]
set_option linter.defProp false
end Go.Proofs
end
section
open Go Go.Proofs Go.Sx Go.StP Go.Flo
namespace Go.Proofs
set_option maxRecDepth 10000
set_option maxHeartbeats 400000
set_option linter.unusedSimpArgs false
theorem yj {l:List PartL}: ∀ (k a:Nat) (e:Int),kR l k a= .error e→e≠0
 |0,_,e,h=>by cases h;decide
 |k+1,a,e,h=>by
  unfold kR at h
  split at h
  ·split at h
   ·cases h;decide
   ·split at h
    ·cases h;decide
    ·cases hp:kR l k (l.getD a fP).b.toNat with
     |error x=>rw[hp] at h;cases h;exact yj k _ _ hp
     |ok q=>rw[hp] at h;cases h
  ·split at h
   ·cases h;decide
   ·cases h
theorem yw {l:List PartL} {a:Int} {e:Int} (h:jH l a= .error e):e≠0:=by
 unfold jH at h
 split at h
 ·cases h;decide
 ·exact yj _ _ _ h
theorem zR {l:List PartL}: ∀ (k a:Nat) (p:List Nat),a<l.length→kR l k a= .ok p→ ∀x,x∈p→x<l.length
 |0,_,_,_,h=>by cases h
 |k+1,a,p,ha,h=>by
  unfold kR at h
  split at h
  ·split at h
   ·cases h
   ·rename_i hb
    split at h
    ·cases h
    ·cases hp:kR l k (l.getD a fP).b.toNat with
     |error x=>rw[hp] at h;cases h
     |ok q=>
      rw[hp] at h
      cases h
      intro x hx
      rcases List.mem_cons.1 hx with rfl|hx
      ·exact ha
      ·exact zR k _ q (by omega) hp x hx
  ·split at h
   ·cases h
   ·cases h
    intro x hx
    rw[List.mem_singleton] at hx
    omega
theorem Rp {l:List PartL} {a:Int} {p:List Nat} (h:jH l a= .ok p): ∀x,x∈p→x<l.length:=by
 unfold jH at h
 split at h
 ·cases h
 ·exact zR _ _ _ (by omega) h
theorem Gz {l:List PartL} {e:Int}: ∀ (p:List Nat) (i:Nat),jF l (p.drop i)= .error e→jF l p= .error e
 | [],i,h=>by rw[List.drop_nil] at h;exact h
 |a::p,0,h=>h
 |a::p,i+1,h=>by
  have:=Gz p i h
  unfold jF
  rw[this];rfl
theorem RQ {E:TypeId} {rest:List Value} {l:List Nat} (n i:Nat) (hi:i<l.length):aI (some (false,n)) (some (rowO natC E rest l)) i=some (vi (l.getD i 0)):=by
 unfold rowO aI
 have e: (l.map natC).flatten=l.map fun n=>vi (n:Nat):=by
  clear hi
  induction l with
  |nil=>rfl
  |cons a l ih=>rw[List.map_cons,List.flatten_cons,List.map_cons,ih];rfl
 simp only[e]
 rw[List.getElem?_toArray,List.getElem?_append_left (by simpa using hi),List.getElem?_map,List.getElem?_eq_getElem hi,List.getD_eq_getElem?_getD,List.getElem?_eq_getElem hi]
 rfl
set_option linter.defProp false
def mP (r:Except Int (List UInt8)):Value:=match r with
 | .ok s=> .tuple #[vs s,vi 0]
 | .error e=> .tuple #[vs [],vi e]
end Go.Proofs
end
section
open Go Go.Proofs Go.Sx Go.StP Go.Flo
namespace Go.Proofs
set_option maxRecDepth 10000
set_option maxHeartbeats 400000
set_option linter.unusedSimpArgs false
set_option linter.defProp false
end Go.Proofs
end
section
open Go Go.Proofs Go.Sx Go.StP Go.Flo
namespace Go.Proofs
set_option maxRecDepth 10000
set_option maxHeartbeats 400000
set_option linter.unusedSimpArgs false
theorem zN {l:List PartL} {e:Int}: ∀ (p:List Nat),jF l p= .error e→e≠0
 | [],h=>by cases h
 |a::p,h=>by
  unfold jF at h
  cases hp:jF l p with
  |error x=>rw[hp] at h;cases h;exact zN p hp
  |ok s=>
   rw[hp] at h
   change(if(ga (l.getD a fP) s).2=0 then _ else _)=_ at h
   split at h
   ·cases h
   ·rename_i aO;cases h;exact aO
theorem Pk {l:List PartL} {a e:Int} (h:partV l a= .error e):e≠0:=by
 unfold partV at h
 cases hp:jH l a with
 |error x=>rw[hp] at h;cases h;exact yw hp
 |ok p=>rw[hp] at h;exact zN p h
def strC (s:List UInt8):List Value:= [vs s]
theorem As (s:List UInt8): (strC s).length=1:=rfl
set_option linter.defProp false
end Go.Proofs
end
namespace Go.Dig
open Go.Sx
def hexL:List UInt8:= [48,49,50,51,52,53,54,55,56,57,97,98,99,100,101,102]
def gr (b:UInt8):Int:=if 48≤b.toNat∧b.toNat≤57 then(b.toNat:Int) - 48 else if 97≤b.toNat∧b.toNat≤102 then(b.toNat:Int) - 97+10 else -1
theorem UD (b:UInt8) (g:Nat) (hg:g<16) (h: (hexL.getD g 0==b)=true):gr b=g:=by
 have: ∀i:Fin 16,gr (hexL.getD i.val 0)=(i.val:Int):=by decide+kernel
 have h1:=this ⟨g,hg⟩
 rw[beq_iff_eq] at h
 rw[←h];exact h1
theorem Si (b:UInt8) (aO: ∀i,i<16→hexL.getD i 0≠b):gr b= -1:=by
 have key: ∀n:Fin 256,gr (UInt8.ofNat n.val)= -1∨ ∃i:Fin 16,hexL.getD i.val 0=UInt8.ofNat n.val:=by decide+kernel
 have hb:UInt8.ofNat b.toNat=b:=by simp
 have:=key ⟨b.toNat,b.toNat_lt⟩
 simp only[hb] at this
 rcases this with h| ⟨i,hi⟩
 ·exact h
 ·exact absurd hi (aO i.val i.isLt)
def hexD (n:Nat):UInt8:=hexL.getD n 0
def hexB (b:UInt8):List UInt8:= [hexD (b.toNat / 16),hexD (b.toNat%16)]
def aK (id:List UInt8):List UInt8:=id.flatMap hexB
def rv (id:List UInt8) (g:Nat):List UInt8:=aK (id.take g)++List.replicate (64 - 2*g) 0
theorem pw (id:List UInt8): (aK id).length=2*id.length:=by
 induction id with
 |nil=>rfl
 |cons b r ih=>simp only[aK,List.flatMap_cons,List.length_append] at ih ⊢;rw[ih];simp[hexB];omega
theorem Y1 (id:List UInt8) (g:Nat) (h:id.length=32) (hg:g≤32): (rv id g).length=64:=by
 simp[rv,pw,h];omega
theorem Ll (id:List UInt8) (g:Nat) (h:id.length=32) (hg:g<32) (x y:UInt8) (hx:x=hexD ((id.getD g 0).toNat / 16)) (hy:y=hexD ((id.getD g 0).toNat%16)):
  ((rv id g).set (2*g) x).set (2*g+1) y=rv id (g+1):=by
 have hl: (aK (id.take g)).length=2*g:=by rw[pw];simp;omega
 have hr:List.replicate (64 - 2*g) (0:UInt8)=0::0::List.replicate (64 - 2* (g+1)) 0:=by
  have:64 - 2*g=(64 - 2* (g+1))+1+1:=by omega
  rw[this];rfl
 have ht:id.take (g+1)=id.take g++ [id.getD g 0]:=by
  rw[List.take_add_one]
  simp[List.getD_eq_getElem?_getD,h,hg]
 have key: ∀ (p q:List UInt8) (a b:UInt8),((p++a::b::q).set p.length x).set (p.length+1) y=p++x::y::q:=by
  intro p q a b
  induction p with
  |nil=>rfl
  |cons c r ih=>simp only[List.cons_append,List.length_cons,List.set_cons_succ,ih]
 unfold rv
 rw[ht,hr,←hl,key]
 simp[aK,hexB,hx,hy]
theorem Mu (id:List UInt8) (h:id.length=32):rv id 32=aK id:=by
 simp[rv,List.take_of_length_le (show id.length≤32 by omega)]
theorem Sq (b:UInt8): (mm b 4).toNat<16:=by
 have:=b.toNat_lt
 rw[mm,UInt8.toNat_ofNat'];omega
theorem RU (b:UInt8): (b&&&15).toNat<16:=by
 rw[UInt8.toNat_and]
 exact Nat.lt_of_le_of_lt Nat.and_le_right (by decide)
theorem Tt (b:UInt8):hexL.getD (mm b 4).toNat 0=hexD (b.toNat / 16):=by
 have:=b.toNat_lt
 rw[mm,UInt8.toNat_ofNat',Nat.mod_eq_of_lt (by omega)];rfl
theorem Qi (b:UInt8):hexL.getD (b&&&15).toNat 0=hexD (b.toNat%16):=by
 rw[UInt8.toNat_and]
 have:b.toNat&&& (15:UInt8).toNat=b.toNat%16:=Nat.and_two_pow_sub_one_eq_mod b.toNat 4
 rw[this];rfl
theorem PY (id:List UInt8) (g:Nat) (h:id.length=32) (hg:g<32):aK (id.take (g+1))=aK (id.take g)++ [hexD ((id.getD g 0).toNat / 16)]++ [hexD ((id.getD g 0).toNat%16)]:=by
 have ht:id.take (g+1)=id.take g++ [id.getD g 0]:=by
  rw[List.take_add_one]
  simp[List.getD_eq_getElem?_getD,h,hg]
 rw[ht];simp[aK,hexB]
theorem Bu (n:Nat) (h:n<16): (hexL.take (n+1)).drop n= [hexD n]:=by
 have: ∀i:Fin 16,(hexL.take (i.val+1)).drop i.val= [hexD i.val]:=by decide+kernel
 exact this ⟨n,h⟩
def pK (l:List UInt8) (n:Nat):List UInt8:=(List.range n).map fun i=>UInt8.ofInt (gr (l.getD (2*i) 0)*16+gr (l.getD (2*i+1) 0))
def mz (l:List UInt8):Bool:=l.length==64&&l.all fun c=>decide (0≤gr c)
def nc (l:List UInt8):List UInt8:=if mz l then pK l 32 else List.replicate 32 0
def si (l:List UInt8) (g:Nat):List UInt8:=pK l g++List.replicate (32 - g) 0
theorem Kk_ (l:List UInt8) (g:Nat) (hg:g≤32): (si l g).length=32:=by simp[si,pK];omega
theorem IU (l:List UInt8) (g:Nat) (hg:g<32) (x:UInt8) (hx:x=UInt8.ofInt (gr (l.getD (2*g) 0)*16+gr (l.getD (2*g+1) 0))): (si l g).set g x=si l (g+1):=by
 have hr:List.replicate (32 - g) (0:UInt8)=0::List.replicate (32 - (g+1)) 0:=by
  have:32 - g=(32 - (g+1))+1:=by omega
  rw[this];rfl
 have hl: (pK l g).length=g:=by simp[pK]
 have key: ∀ (p q:List UInt8) (a:UInt8),(p++a::q).set p.length x=p++x::q:=by
  intro p q a
  induction p with
  |nil=>rfl
  |cons c r ih=>simp only[List.cons_append,List.length_cons,List.set_cons_succ,ih]
 unfold si
 rw[hr]
 have:=key (pK l g) (List.replicate (32 - (g+1)) 0) 0
 rw[hl] at this
 rw[this]
 simp[pK,List.range_succ,hx]
theorem zl (b:UInt8): -1≤gr b∧gr b≤15:=by unfold gr;repeat' split<;>omega
theorem AR (l:List UInt8) (i:Nat) (hl:l.length=64) (hi:i<64) (h:gr (l.getD i 0)<0):mz l=false:=by
 unfold mz
 rw[Bool.and_eq_false_iff]
 right
 rw[Bool.eq_false_iff]
 intro ha
 rw[List.all_eq_true] at ha
 have hm:l.getD i 0∈l:=by
  rw[List.getD_eq_getElem?_getD,List.getElem?_eq_getElem (by omega)]
  exact List.getElem_mem _
 have:=ha _ hm
 simp only[decide_eq_true_eq] at this
 omega
theorem zE (l:List UInt8) (hl:l.length=64) (h: ∀i,i<64→0≤gr (l.getD i 0)):mz l=true:=by
 unfold mz
 rw[Bool.and_eq_true]
 refine⟨by simp[hl], ?_⟩
 rw[List.all_eq_true]
 intro c hc
 obtain⟨i,hi,rfl⟩:=List.mem_iff_getElem.1 hc
 have:=h i (by omega)
 rw[List.getD_eq_getElem?_getD,List.getElem?_eq_getElem hi] at this
 simpa using this
theorem zy (l:List UInt8) (hl: ¬l.length=64):mz l=false:=by
 unfold mz
 rw[Bool.and_eq_false_iff]
 left;simpa using hl
theorem nib (a b:Int) (ha:0≤a) (hb:0≤b) (dK:b≤15): (((a*16).toNat|||b.toNat:Nat):Int)=a*16+b:=by
 obtain⟨n,rfl⟩:=Int.eq_ofNat_of_zero_le ha
 obtain⟨m,rfl⟩:=Int.eq_ofNat_of_zero_le hb
 have e: ((n:Int)*16).toNat=n<<<4:=by rw[Nat.shiftLeft_eq];omega
 rw[e,Int.toNat_natCast,←Nat.shiftLeft_add_eq_or_of_lt (by omega:m<2^4),Nat.shiftLeft_eq]
 omega
def rgt (x:UInt32) (n:UInt64):UInt32:=eN x n.toNat|||mB x (32 - n).toNat
def rol (x:UInt32) (k:Int):UInt32:=mB x (UInt64.ofInt k&&&31).toNat|||eN x (32 - (UInt64.ofInt k&&&31)).toNat
def ny (x:UInt32) (a b c:Int):UInt32:=rol x (-a)^^^rol x (-b)^^^eN x c.toNat
def nt (x:UInt32) (a b c:Int):UInt32:=rol x (-a)^^^rol x (-b)^^^rol x (-c)
def S1 (e:UInt32):UInt32:=rgt e 6^^^rgt e 11^^^rgt e 25
def S0 (a:UInt32):UInt32:=rgt a 2^^^rgt a 13^^^rgt a 22
def s1 (y:UInt32):UInt32:=rgt y 17^^^rgt y 19^^^eN y 10
def s0 (x:UInt32):UInt32:=rgt x 7^^^rgt x 18^^^eN x 3
theorem rol6 (x:UInt32):rol x (-6)=rgt x 6:=by unfold rol rgt;rw[UInt32.or_comm];rfl
theorem V9 (x:UInt32):rol x (-11)=rgt x 11:=by unfold rol rgt;rw[UInt32.or_comm];rfl
theorem VA (x:UInt32):rol x (-25)=rgt x 25:=by unfold rol rgt;rw[UInt32.or_comm];rfl
theorem rol2 (x:UInt32):rol x (-2)=rgt x 2:=by unfold rol rgt;rw[UInt32.or_comm];rfl
theorem Vm (x:UInt32):rol x (-13)=rgt x 13:=by unfold rol rgt;rw[UInt32.or_comm];rfl
theorem VJ (x:UInt32):rol x (-22)=rgt x 22:=by unfold rol rgt;rw[UInt32.or_comm];rfl
theorem VK (x:UInt32):rol x (-17)=rgt x 17:=by unfold rol rgt;rw[UInt32.or_comm];rfl
theorem Vn (x:UInt32):rol x (-19)=rgt x 19:=by unfold rol rgt;rw[UInt32.or_comm];rfl
theorem rol7 (x:UInt32):rol x (-7)=rgt x 7:=by unfold rol rgt;rw[UInt32.or_comm];rfl
theorem Vf (x:UInt32):rol x (-18)=rgt x 18:=by unfold rol rgt;rw[UInt32.or_comm];rfl
theorem Vh (x:UInt32):nt x 6 11 25=S1 x:=by unfold nt S1;rw[rol6,V9,VA]
theorem VI (x:UInt32):nt x 2 13 22=S0 x:=by unfold nt S0;rw[rol2,Vm,VJ]
theorem Vd (x:UInt32):ny x 17 19 10=s1 x:=by unfold ny s1;rw[VK,Vn];rfl
theorem VH (x:UInt32):ny x 7 18 3=s0 x:=by unfold ny s0;rw[rol7,Vf];rfl
def kL:List UInt32:= [1116352408,1899447441,3049323471,3921009573,961987163,1508970993,2453635748,2870763221,3624381080,310598401,607225278,1426881987,1925078388,2162078206,2614888103,3248222580,3835390401,4022224774,264347078,604807628,770255983,1249150122,1555081692,1996064986,2554220882,2821834349,2952996808,3210313671,3336571891,3584528711,113926993,338241895,666307205,773529912,1294757372,1396182291,1695183700,1986661051,2177026350,2456956037,2730485921,2820302411,3259730800,3345764771,3516065817,3600352804,4094571909,275423344,430227734,506948616,659060556,883997877,958139571,1322822218,1537002063,1747873779,1955562222,2024104815,2227730452,2361852424,2428436474,2756734187,3204031479,3329325298]
def initL:List UInt32:= [1779033703,3144134277,1013904242,2773480762,1359893119,2600822924,528734635,1541459225]
def qj (b:List UInt8) (i:Nat):UInt32:=
 UInt32.ofNat (b.getD (4*i) 0).toNat*16777216+UInt32.ofNat (b.getD (4*i+1) 0).toNat*65536+UInt32.ofNat (b.getD (4*i+2) 0).toNat*256+UInt32.ofNat (b.getD (4*i+3) 0).toNat
def wPre (b:List UInt8) (i:Nat):List UInt32:=(List.range 64).map fun j=>if j<i then qj b j else 0
theorem GX (b:List UInt8) (i:Nat): (wPre b i).length=64:=by simp[wPre]
theorem yr (b:List UInt8) (i:Nat): (wPre b i).set i (qj b i)=wPre b (i+1):=by
 apply List.ext_getElem
 ·simp[wPre]
 intro k dr eK
 have hk:k<64:=by simpa [wPre] using eK
 rw[List.getElem_set]
 by_cases h:i=k
 ·subst h;simp[wPre]
 ·rw[if_neg h]
  simp only[wPre,List.getElem_map,List.getElem_range]
  by_cases h1:k<i
  ·rw[if_pos h1,if_pos (by omega)]
  ·rw[if_neg h1,if_neg (by omega)]
theorem zh (b:List UInt8):wPre b 0=List.replicate 64 0:=by
 apply List.ext_getElem
 ·simp[wPre]
 intro k dr eK
 simp only[wPre,List.getElem_map,List.getElem_range,List.getElem_replicate]
 rw[if_neg (by omega)]
def qp (w:List UInt32) (g:Nat):List UInt32:=w.set g (s1 (w.getD (g - 2) 0)+w.getD (g - 7) 0+s0 (w.getD (g - 15) 0)+w.getD (g - 16) 0)
def wGo (w:List UInt32):Nat→List UInt32
 |0=>w
 |n+1=>qp (wGo w n) (16+n)
theorem yf (w:List UInt32) (n:Nat): (wGo w n).length=w.length:=by
 induction n with
 |zero=>rfl
 |succ n ih=>simp[wGo,qp,ih]
def wAll (b:List UInt8):List UInt32:=wGo (wPre b 16) 48
theorem YH (b:List UInt8): (wAll b).length=64:=by rw[wAll,yf,GX]
def uo (s:List UInt32) (k w:UInt32):List UInt32:=
 let t:=s.getD 7 0+S1 (s.getD 4 0)+ (s.getD 4 0&&&s.getD 5 0||| ~~~ s.getD 4 0&&&s.getD 6 0)+k+w
 let u:=S0 (s.getD 0 0)+ (s.getD 0 0&&&s.getD 1 0|||s.getD 0 0&&&s.getD 2 0|||s.getD 1 0&&&s.getD 2 0)
 [t+u,s.getD 0 0,s.getD 1 0,s.getD 2 0,s.getD 3 0+t,s.getD 4 0,s.getD 5 0,s.getD 6 0]
def rGo (st w:List UInt32):Nat→List UInt32
 |0=>st
 |n+1=>uo (rGo st w n) (kL.getD n 0) (w.getD n 0)
theorem MV (st w:List UInt32) (n:Nat) (h:st.length=8): (rGo st w n).length=8:=by
 cases n with
 |zero=>exact h
 |succ n=>rfl
def kT (st s:List UInt32) (i:Nat):List UInt32:=(List.range 8).map fun j=>if j<i then st.getD j 0+s.getD j 0 else st.getD j 0
theorem Y0 (st s:List UInt32) (i:Nat): (kT st s i).length=8:=by simp[kT]
theorem Mw (st s:List UInt32) (i j:Nat) (hj:j<8): (kT st s i).getD j 0=if j<i then st.getD j 0+s.getD j 0 else st.getD j 0:=by
 simp[kT,List.getD_eq_getElem?_getD,hj]
theorem Lj (st s:List UInt32) (i:Nat): (kT st s i).set i (st.getD i 0+s.getD i 0)=kT st s (i+1):=by
 apply List.ext_getElem
 ·simp[kT]
 intro k dr eK
 rw[List.getElem_set]
 by_cases h:i=k
 ·subst h;simp[kT]
 ·rw[if_neg h]
  simp only[kT,List.getElem_map,List.getElem_range]
  by_cases h1:k<i
  ·rw[if_pos h1,if_pos (by omega)]
  ·rw[if_neg h1,if_neg (by omega)]
theorem Ko (st s:List UInt32) (h:st.length=8):kT st s 0=st:=by
 apply List.ext_getElem
 ·simp[kT,h]
 intro k dr eK
 simp[kT,List.getD_eq_getElem?_getD,eK]
def comp (st:List UInt32) (b:List UInt8):List UInt32:=kT st (rGo st (wAll b) 64) 8
theorem Hb (st:List UInt32) (b:List UInt8): (comp st b).length=8:=Y0 _ _ _
def kj (st:List UInt32) (m:List UInt8):Nat→List UInt32
 |0=>st
 |n+1=>comp (kj st m n) ((m.drop (64*n)).take 64)
theorem JT (st:List UInt32) (m:List UInt8) (n:Nat) (h:st.length=8): (kj st m n).length=8:=by
 cases n with
 |zero=>exact h
 |succ n=>exact Hb _ _
theorem JF (st:List UInt32) (m x:List UInt8) (n:Nat) (h:64*n≤m.length):kj st (m++x) n=kj st m n:=by
 induction n with
 |zero=>rfl
 |succ n ih=>
  simp only[kj]
  rw[ih (by omega),List.drop_append_of_le_length (by omega),List.take_append_of_le_length (by simp;omega)]
def jc (bg:Bool) (st:List UInt32) (rest:List UInt8) (many:Int) (taken:UInt64):List Value:=
 .bool bg:: (st.map (fun x=>Value.int .u32 (x.toNat:Int))++ (rest.map (fun x=>Value.int .u8 (x.toNat:Int))++ [vi many,v64 taken]))
def bB (bg:Bool) (st:List UInt32) (rest:List UInt8) (many:Int) (taken:UInt64):Array Value:=(jc bg st rest many taken).toArray
section
variable {bg:Bool} {st:List UInt32} {rest:List UInt8} {many:Int} {taken:UInt64} {E:TypeId}
theorem ph (h:st.length=8∧rest.length=64): (bB bg st rest many taken).size=75:=by simp[bB,jc,h]
theorem NW: (bB bg st rest many taken)[0]? =some (.bool bg):=rfl
theorem PQ (k:Nat) (hk:k<8) (h:st.length=8): (bB bg st rest many taken)[1+k]? =some (v32 (st.getD k 0)):=by
 have:1+k=k+1:=by omega
 rw[this,bB,List.getElem?_toArray,jc,List.getElem?_cons_succ,List.getElem?_append_left (by simp;omega)]
 simp[v32,List.getD_eq_getElem?_getD,h,hk]
theorem A0 (k:Nat) (hk:k<64) (h:st.length=8∧rest.length=64): (bB bg st rest many taken)[9+k]? =some (v8 (rest.getD k 0)):=by
 have:9+k=(8+k)+1:=by omega
 rw[this,bB,List.getElem?_toArray,jc,List.getElem?_cons_succ,List.getElem?_append_right (by simp;omega),List.getElem?_append_left (by simp;omega)]
 have e:8+k - (List.map (fun x:UInt32=>Value.int .u32 (x.toNat:Int)) st).length=k:=by simp;omega
 rw[e]
 simp[v8,List.getD_eq_getElem?_getD,h,hk]
theorem On (h:st.length=8∧rest.length=64): (bB bg st rest many taken)[73]? =some (vi many):=by
 rw[bB,List.getElem?_toArray,jc,List.getElem?_cons_succ,List.getElem?_append_right (by simp;omega),List.getElem?_append_right (by simp;omega)]
 simp[h]
theorem OT (h:st.length=8∧rest.length=64): (bB bg st rest many taken)[74]? =some (v64 taken):=by
 rw[bB,List.getElem?_toArray,jc,List.getElem?_cons_succ,List.getElem?_append_right (by simp;omega),List.getElem?_append_right (by simp;omega)]
 simp[h]
theorem FV (n:Nat):aI (some (false,n)) (some (.cells (bB bg st rest many taken) E (0,0))) 0=some (.bool bg):=NW
theorem FN (n k:Nat) (h:k<8∧st.length=8):aI (some (false,n)) (some (.cells (bB bg st rest many taken) E (0,0))) (1+k)=some (v32 (st.getD k 0)):=PQ k h.1 h.2
theorem FS (n k:Nat) (h:k<64∧st.length=8∧rest.length=64):aI (some (false,n)) (some (.cells (bB bg st rest many taken) E (0,0))) (9+k)=some (v8 (rest.getD k 0)):=A0 k h.1 h.2
theorem GQ (n j k:Nat) (h:j+k<64∧st.length=8∧rest.length=64):aI (some (false,n)) (some (.cells (bB bg st rest many taken) E (0,0))) (9+j+k)=some (v8 (rest.getD (j+k) 0)):=by
 rw[Nat.add_assoc];exact A0 (j+k) h.1 h.2
theorem FZ (n:Nat) (h:st.length=8∧rest.length=64):aI (some (false,n)) (some (.cells (bB bg st rest many taken) E (0,0))) 73=some (vi many):=On h
theorem FP (n:Nat) (h:st.length=8∧rest.length=64):aI (some (false,n)) (some (.cells (bB bg st rest many taken) E (0,0))) 74=some (v64 taken):=OT h
theorem Gd (h:st.length=8∧rest.length=64):aI (some (true,8)) (some (.cells (bB bg st rest many taken) E (0,0))) 1=some (.agg (a32 st)):=by
 have hs:1+8≤ (bB bg st rest many taken).size:=by rw[ph h];omega
 simp only[aI,hs, ↓reduceIte]
 congr 2
 rw[bB,a32,jc]
 simp only[List.extract_toArray,List.extract_eq_take_drop]
 congr 1
 simp[h]
theorem GK (h:st.length=8∧rest.length=64):aI (some (true,75)) (some (.cells (bB bg st rest many taken) E (0,0))) 0=some (.agg (bB bg st rest many taken)):=rV _ _ _ _ (ph h)
theorem Ra: (bB bg st rest many taken).toList.all Value.oneCell'=true:=by
 simp[bB,jc,Value.oneCell',vi,v64]
theorem Eg (old:Array Value) (h:st.length=8∧rest.length=64∧old.size=75):ab (some (true,75)) (some (.cells old E (0,0))) 0 (.agg (bB bg st rest many taken))=some (.cells (bB bg st rest many taken) E (0,0)):=
 F0 _ _ _ _ _ ⟨ph ⟨h.1,h.2.1⟩,h.2.2⟩ Ra
theorem EZ (i:Nat) (v:Value): (bB bg st rest many taken).setIfInBounds i v=((jc bg st rest many taken).set i v).toArray:=by simp[bB]
theorem GY (b:Bool) (h:st.length=8∧rest.length=64):ab (some (false,1)) (some (.cells (bB bg st rest many taken) E (0,0))) 0 (.bool b)=some (.cells (bB b st rest many taken) E (0,0)):=by
 rw[wE _ _ _ _ _ (by rw[ph h];omega) rfl rfl,EZ];rfl
theorem GS (k:Nat) (x:UInt32) (h:k<8∧st.length=8∧rest.length=64):ab (some (false,1)) (some (.cells (bB bg st rest many taken) E (0,0))) (1+k) (v32 x)=some (.cells (bB bg (st.set k x) rest many taken) E (0,0)):=by
 have e:1+k=k+1:=by omega
 rw[wE _ _ _ _ _ (by rw[ph h.2];omega) rfl rfl,EZ,e,jc,List.set_cons_succ,List.set_append_left _ _ (by simp;omega)]
 simp only[bB,jc,List.map_set];rfl
theorem Gb (k:Nat) (x:UInt8) (h:k<64∧st.length=8∧rest.length=64):ab (some (false,1)) (some (.cells (bB bg st rest many taken) E (0,0))) (9+k) (v8 x)=some (.cells (bB bg st (rest.set k x) many taken) E (0,0)):=by
 have e:9+k=(8+k)+1:=by omega
 rw[wE _ _ _ _ _ (by rw[ph h.2];omega) rfl rfl,EZ,e,jc,List.set_cons_succ,List.set_append_right _ _ (by simp;omega),List.set_append_left _ _ (by simp;omega)]
 have e2:8+k - (List.map (fun x:UInt32=>Value.int .u32 (x.toNat:Int)) st).length=k:=by simp;omega
 rw[e2]
 simp only[bB,jc,List.map_set];rfl
theorem GP (m:Int) (h:st.length=8∧rest.length=64):ab (some (false,1)) (some (.cells (bB bg st rest many taken) E (0,0))) 73 (vi m)=some (.cells (bB bg st rest m taken) E (0,0)):=by
 rw[wE _ _ _ _ _ (by rw[ph h];omega) rfl rfl,EZ,jc,List.set_cons_succ,List.set_append_right _ _ (by simp;omega),List.set_append_right _ _ (by simp;omega)]
 simp[bB,jc,h]
theorem GO (t:UInt64) (h:st.length=8∧rest.length=64):ab (some (false,1)) (some (.cells (bB bg st rest many taken) E (0,0))) 74 (v64 t)=some (.cells (bB bg st rest many t) E (0,0)):=by
 rw[wE _ _ _ _ _ (by rw[ph h];omega) rfl rfl,EZ,jc,List.set_cons_succ,List.set_append_right _ _ (by simp;omega),List.set_append_right _ _ (by simp;omega)]
 simp[bB,jc,h]
theorem GV (st':List UInt32) (h:st.length=8∧rest.length=64∧st'.length=8):ab (some (true,8)) (some (.cells (bB bg st rest many taken) E (0,0))) 1 (.agg (a32 st'))=some (.cells (bB bg st' rest many taken) E (0,0)):=by
 have hs:1+8≤ (bB bg st rest many taken).size:=by rw[ph ⟨h.1,h.2.1⟩];omega
 have hp:fJ (bB bg st rest many taken) 1 (a32 st').toList=bB bg st' rest many taken:=by
  have:=uB (a32 st').toList [.bool bg] (st.map fun x=>Value.int .u32 (x.toNat:Int)) (rest.map (fun x=>Value.int .u8 (x.toNat:Int))++ [vi many,v64 taken]) (by simp[a32,h])
  simpa [bB,jc,a32] using this
 have h1: (a32 st').size=8:=by rw[y4];exact h.2.2
 simp only[ab,aV,h1,hs,Nat.le_refl,true_or,BT,and_self, ↓reduceIte,hp]
end
def acc (b:List UInt8) (i:Nat):Nat→UInt32
 |0=>0
 |k+1=>mB (acc b i k) 8|||UInt32.ofNat (b.getD (4*i+k) 0).toNat
theorem FG (x:UInt32) (c:UInt8) (h:x.toNat<16777216): (mB x 8|||UInt32.ofNat c.toNat).toNat=x.toNat*256+c.toNat:=by
 have hc:=c.toNat_lt
 rw[UInt32.toNat_or,mB,UInt32.toNat_ofNat',UInt32.toNat_ofNat',Nat.mod_eq_of_lt (by omega),Nat.mod_eq_of_lt (by omega),←Nat.shiftLeft_eq,←Nat.shiftLeft_add_eq_or_of_lt (by omega:c.toNat<2^8),Nat.shiftLeft_eq]
theorem Qw (b:List UInt8) (i:Nat):acc b i 4=qj b i:=by
 have h0:=(b.getD (4*i) 0).toNat_lt
 have h1:=(b.getD (4*i+1) 0).toNat_lt
 have h2:=(b.getD (4*i+2) 0).toNat_lt
 have h3:=(b.getD (4*i+3) 0).toNat_lt
 have e1: (acc b i 1).toNat=(b.getD (4*i) 0).toNat:=by
  have:=FG 0 (b.getD (4*i+0) 0) (by decide)
  simpa [acc] using this
 have l1: (acc b i 1).toNat<16777216:=by omega
 have e2: (acc b i 2).toNat=(acc b i 1).toNat*256+ (b.getD (4*i+1) 0).toNat:=FG _ _ l1
 have l2: (acc b i 2).toNat<16777216:=by omega
 have e3: (acc b i 3).toNat=(acc b i 2).toNat*256+ (b.getD (4*i+2) 0).toNat:=FG _ _ l2
 have l3: (acc b i 3).toNat<16777216:=by omega
 have e4: (acc b i 4).toNat=(acc b i 3).toNat*256+ (b.getD (4*i+3) 0).toNat:=FG _ _ l3
 apply UInt32.toNat.inj
 rw[e4,e3,e2,e1]
 unfold qj
 simp only[UInt32.toNat_add,UInt32.toNat_mul,UInt32.toNat_ofNat']
 have k1: (16777216:UInt32).toNat=16777216:=rfl
 have k2: (65536:UInt32).toNat=65536:=rfl
 have k3: (256:UInt32).toNat=256:=rfl
 rw[k1,k2,k3]
 omega
theorem Nb (b:List UInt8) (g:Nat):wPre b g=(wPre b g).set g (acc b g 0):=by
 apply List.ext_getElem
 ·simp
 intro k dr eK
 rw[List.getElem_set]
 by_cases h:g=k
 ·subst h;simp[wPre,acc]
 ·rw[if_neg h]
theorem xM {α:Type} (l:List α) (i:Nat) (x d:α) (h:i<l.length): (l.set i x).getD i d=x:=by
 simp[List.getD_eq_getElem?_getD,h]
def wG (b:List UInt8) (g:Nat):List UInt32:=wGo (wPre b 16) (g - 16)
theorem zY (b:List UInt8) (g:Nat): (wG b g).length=64:=by rw[wG,yf,GX]
theorem BJ (b:List UInt8) (g:Nat) (h:16≤g):wG b (g+1)=qp (wG b g) g:=by
 unfold wG
 have:g+1 - 16=(g - 16)+1:=by omega
 rw[this]
 show qp _ (16+ (g - 16))=_
 rw[show 16+ (g - 16)=g from by omega]
theorem C9 (b:List UInt8):wG b 64=wAll b:=rfl
theorem Ag (b:List UInt8):wPre b 16=wG b 16:=rfl
theorem VU (a b c:UInt32): (a&&&b^^^ ~~~a&&&c)=(a&&&b||| ~~~a&&&c):=by
 apply UInt32.toBitVec_inj.1
 simp only[UInt32.toBitVec_xor,UInt32.toBitVec_or,UInt32.toBitVec_and,UInt32.toBitVec_not]
 ext i hi
 simp only[BitVec.getElem_xor,BitVec.getElem_or,BitVec.getElem_and,BitVec.getElem_not]
 cases a.toBitVec[i]<;>simp
theorem Sm (a b c:UInt32): (a&&&b^^^a&&&c^^^b&&&c)=(a&&&b|||a&&&c|||b&&&c):=by
 apply UInt32.toBitVec_inj.1
 simp only[UInt32.toBitVec_xor,UInt32.toBitVec_or,UInt32.toBitVec_and]
 ext i hi
 simp only[BitVec.getElem_xor,BitVec.getElem_or,BitVec.getElem_and]
 cases a.toBitVec[i]<;>cases b.toBitVec[i]<;>simp
def Glob (w:World):Prop:= ∃e0 e1 f0 f1,w.heap[0]? =some (.cells (a32 initL) e0 f0)∧w.heap[1]? =some (.cells (a32 kL) e1 f1)
theorem Glob.of {w0 w:World} {L:aA} (hg:Glob w0) (h:Hp w0 L w) (hk: ∀b,b∈keys L→1<b):Glob w:=by
 obtain⟨e0,e1,f0,f1,h0,h1⟩:=hg
 refine⟨e0,e1,f0,f1, ?_, ?_⟩
 ·rw[h.old 0 (Array.getElem?_eq_some_iff.1 h0).1 (fun hm=>by have:=hk 0 hm;omega)];exact h0
 ·rw[h.old 1 (Array.getElem?_eq_some_iff.1 h1).1 (fun hm=>by have:=hk 1 hm;omega)];exact h1
structure Hs where
 st:List UInt32
 rest:List UInt8
 many:Nat
structure Hs.Ok (s:Hs):Prop where
 st:s.st.length=8
 rest:s.rest.length=64
 many:s.many<64
def eX (s:Hs) (x:UInt8):Hs:=
 if s.many+1=64 then⟨comp s.st (s.rest.set s.many x),s.rest.set s.many x,0⟩ else⟨s.st,s.rest.set s.many x,s.many+1⟩
theorem qI {s:Hs} (x:UInt8) (h:s.Ok): (eX s x).Ok:=by
 unfold eX
 split
 ·exact⟨Hb _ _,by simp[h.rest],by show(0:Nat)<64;omega⟩
 ·exact⟨h.st,by simp[h.rest],by show s.many+1<64;have:=h.many;omega⟩
def dR (s:Hs) (l:List UInt8):Hs:=l.foldl eX s
theorem wQ {s:Hs} (l:List UInt8) (h:s.Ok): (dR s l).Ok:=by
 induction l generalizing s with
 |nil=>exact h
 |cons x r ih=>exact ih (qI x h)
theorem xk (s:Hs) (a b:List UInt8):dR s (a++b)=dR (dR s a) b:=List.foldl_append
theorem Xu {α:Type} (l:List α) (g:Nat) (d:α) (h:g<l.length):l.take (g+1)=l.take g++ [l.getD g d]:=by
 rw[List.take_add_one]
 simp[List.getD_eq_getElem?_getD,h]
theorem yV (s:Hs) (l:List UInt8) (g:Nat) (h:g<l.length):dR s (l.take (g+1))=eX (dR s (l.take g)) (l.getD g 0):=by
 rw[Xu l g 0 h,xk];rfl
def pJ (bg:Bool) (s:Hs):Hs:=if bg then s else{s with st:=initL}
theorem z8 {s:Hs} (bg:Bool) (h:s.Ok): (pJ bg s).Ok:=by
 unfold pJ;split
 ·exact h
 ·exact⟨rfl,h.rest,h.many⟩
def iI (s:Hs) (taken:UInt64):Array Value:=bB true s.st s.rest s.many taken
def mn (t:UInt64) (l:List (List UInt8)):UInt64:=l.foldl (fun t a=>t+UInt64.ofNat a.length) t
theorem Lh (t:UInt64) (l:List (List UInt8)) (g:Nat) (h:g<l.length):mn t (l.take (g+1))=mn t (l.take g)+UInt64.ofNat (l.getD g []).length:=by
 rw[Xu l g [] h,mn,List.foldl_append];rfl
theorem JI (l:List (List UInt8)) (g:Nat) (h:g<l.length): (l.take (g+1)).flatten=(l.take g).flatten++l.getD g []:=by
 rw[Xu l g [] h,List.flatten_append];simp
theorem loadV_one (cs:Array Value) (E:TypeId) (fz:Nat×Nat) (n i:Nat):aI (some (false,n)) (some (.cells cs E fz)) i=cs[i]? :=(rfl)
end Go.Dig
section
open Go Go.Proofs Go.Sx Go.Dig
namespace Go.Proofs
set_option maxRecDepth 10000
set_option maxHeartbeats 4000000
set_option linter.unusedSimpArgs false
def GlobE (w:World):Prop:= ∃e0 e1 f0 f1,w.heap[3]? =some (.cells (a32 initL) e0 f0)∧w.heap[4]? =some (.cells (a32 kL) e1 f1)
theorem GlobE.of {w0 w:World} {L:aA} (hg:GlobE w0) (h:Hp w0 L w) (hk: ∀b,b∈keys L→4<b):GlobE w:=by
 obtain⟨e0,e1,f0,f1,h0,h1⟩:=hg
 refine⟨e0,e1,f0,f1, ?_, ?_⟩
 ·rw[h.old _ (Array.getElem?_eq_some_iff.1 h0).1 (fun hm=>by have:=hk _ hm;omega)];exact h0
 ·rw[h.old _ (Array.getElem?_eq_some_iff.1 h1).1 (fun hm=>by have:=hk _ hm;omega)];exact h1
theorem ET (x:UInt32) (k:Int) (w:World):Rets Tryz.prog 251 #[v32 x,vi k] w (fun v D=>v=v32 (rol x k)∧D= []):=by
 refine Rets.enterV Tryz.func251 rfl (rs:= [.tmp 4]) Tryz.results251 Tryz.ntmps251 ?_
 refine kf ?_
 first|with_reducible refine ks [] @Nat.add_zero ?_|refine kp @Nat.add_zero ?_
 refine⟨_,(ke @Nat.add_zero),trivial, ?_⟩
 rfl
theorem pr (x:UInt32) (n:UInt64) (w:World):Rets Tryz.prog 186 #[v32 x,v64 n] w (fun v D=>v=v32 (rgt x n)∧D= []):=by
 refine Rets.enterV Tryz.func186 rfl (rs:= [.tmp 4]) Tryz.results186 Tryz.ntmps186 ?_
 refine kf ?_
 first|with_reducible refine ks [] @Nat.add_zero ?_|refine kp @Nat.add_zero ?_
 refine⟨_,(ke @Nat.add_zero),trivial, ?_⟩
 rfl
theorem zT (x:UInt32) (a b c:Int) (ha:0≤a∧a≤64) (hb:0≤b∧b≤64) (hc:0≤c∧c≤64) (w:World):Rets Tryz.prog 244 #[v32 x,vi a,vi b,vi c] w (fun v D=>v=v32 (ny x a b c)∧D= []):=by
 refine Rets.enterV Tryz.func244 rfl (rs:= [.tmp 8]) Tryz.results244 Tryz.ntmps244 ?_
 refine kf ?_
 first|with_reducible refine ks [] @Nat.add_zero ?_|refine kp @Nat.add_zero ?_
 refine Cw.regionO [0,1,2,4,5,6,9,10,11,3,7,8,12,13] [] rfl (by kernel_rfl) (by kernel_rfl) ?_
 simp only[ap, ↓ao, ↓ac, ↓aj, ↓ai,ad]
 refine kq @Nat.add_zero ?_
 refine Ow.callFV rfl Tryz.call251 (fun w' aB=>ET _ _ w') ?_
 refine kq @Nat.add_zero ?_
 refine Ow.callFV rfl Tryz.call251 (fun w' aB=>ET _ _ w') ?_
 refine kq @Nat.add_zero ?_
 first|with_reducible refine ks [] @Nat.add_zero ?_|refine kp @Nat.add_zero ?_
 refine⟨_,(ke @Nat.add_zero),trivial, ?_⟩
 rfl
theorem A4 (x:UInt32) (a b c:Int) (ha:0≤a∧a≤64) (hb:0≤b∧b≤64) (hc:0≤c∧c≤64) (w:World):Rets Tryz.prog 245 #[v32 x,vi a,vi b,vi c] w (fun v D=>v=v32 (nt x a b c)∧D= []):=by
 refine Rets.enterV Tryz.func245 rfl (rs:= [.tmp 8]) Tryz.results245 Tryz.ntmps245 ?_
 refine kf ?_
 first|with_reducible refine ks [] @Nat.add_zero ?_|refine kp @Nat.add_zero ?_
 refine Ow.callFV rfl Tryz.call251 (fun w' aB=>ET _ _ w') ?_
 refine ko @Nat.add_zero ?_
 refine Ow.callFV rfl Tryz.call251 (fun w' aB=>ET _ _ w') ?_
 refine ko @Nat.add_zero ?_
 refine Ow.callFV rfl Tryz.call251 (fun w' aB=>ET _ _ w') ?_
 refine ko @Nat.add_zero ?_
 first|with_reducible refine ks [] @Nat.add_zero ?_|refine kp @Nat.add_zero ?_
 refine⟨_,(ke @Nat.add_zero),trivial, ?_⟩
 rfl
theorem KC (w:World):Rets Tryz.prog 187 #[] w (fun v D=>v= .agg (a32 kL)∧D= []):=by
 refine Rets.enterV Tryz.func187 rfl (rs:= [.cell 0 256]) Tryz.results187 Tryz.ntmps187 ?_
 refine kf ?_
 first|with_reducible refine ks [] @Nat.add_zero ?_|refine kp @Nat.add_zero ?_
 have Zy:kL.length=64:=rfl
 refine Ow.alloc rfl rfl Tryz.zr256 fun b1 _ aF=> ?_
 refine ko @Nat.add_zero ?_
 first|with_reducible refine ks [] @Nat.add_zero ?_|refine kp @Nat.add_zero ?_
 refine Ow.build (.agg (a32 kL)) rfl (by kernel_rfl) ?_
 refine ko @Nat.add_zero ?_
 first|with_reducible refine ks [] @Nat.add_zero ?_|refine kp @Nat.add_zero ?_
 refine⟨_,(ke @Nat.add_zero),⟨aF,trivial⟩, ?_⟩
 rfl
end Go.Proofs
end
section
open Go Go.Proofs Go.Sx Go.Dig
namespace Go.Proofs
set_option maxRecDepth 10000
set_option maxHeartbeats 4000000
set_option linter.unusedSimpArgs false
set_option linter.defProp false
def cB:=And.intro (And.intro (And.intro (And.intro (@FV) (@FN)) (And.intro (@FS) (@GQ))) (And.intro (And.intro (@FZ) (@FP)) (And.intro (@Gd) (@GK)))) (And.intro (And.intro (And.intro (@Eg) (@GY)) (And.intro (@GS) (@Gb))) (And.intro (And.intro (@GP) (@GO)) (And.intro (@GV) (@xM))))
theorem Oe (b:Nat) (bg:Bool) (st:List UInt32) (rest:List UInt8) (many:Int) (taken:UInt64) (w:World) (hG:GlobE w) (hb:4<b) (hs:st.length=8) (hr:rest.length=64)
  (ho:w.heap[b]? =some (.cells (bB bg st rest many taken) 254 (0,0))):
  Rets Tryz.prog 233 #[vp b 0] w (fun v D=> ∃o,D= [(b,o)]∧v= .tuple #[]∧o= .cells (bB bg (comp st rest) rest 0 taken) 254 (0,0)):=by
 obtain⟨e0,e1,f0,f1,h0,h1⟩:=hG
 have jO:=(Array.getElem?_eq_some_iff.1 ho).1
 have Zy:kL.length=64:=rfl
 refine Rets.enterM Tryz.func233 rfl (rs:= []) Tryz.results233 Tryz.ntmps233 ho ?_
 refine kf ?_
 first|with_reducible refine ks [] @cB ?_|refine kp @cB ?_
 refine Ow.alloc rfl rfl Tryz.zr256 fun b1 aQ aF=> ?_
 obtain⟨h01,-⟩:=aQ
 refine ko @cB ?_
 first|with_reducible refine ks [] @cB ?_|refine kp @cB ?_
 rw[←zh rest]
 refine Cw.loopG (G:=Nat) [14,15,3,16,17,18,19,20,21,22,23,24,25,26,27,28,29,5,30,31,32,33,34,35,36,37,38,39,40,13] (fun g=> [(13,vi g)]) (fun g=> [(b, .cells (bB bg st rest many taken) 254),(b1, .cells (a32 (wPre rest g)) 256)]) (fun g=>g≤16) (fun g=>16 - g) 0 rfl rfl ?_ ?_
 ·omega
 intro g j hg
 refine kv ?_
 have aL:=GX rest g
 by_cases aD:g<16
 ·first|with_reducible refine ks [] @cB ?_|refine kp @cB ?_
  rw[Nb rest g]
  refine Cw.loopG (G:=Nat) [27,28,29,5,30,31,32,33,34,35,36,37,38,39,26] (fun k=> [(26,vi k)]) (fun k=> [(b, .cells (bB bg st rest many taken) 254 (0,0)),(b1, .cells (a32 ((wPre rest g).set g (acc rest g k))) 256 (0,0))]) (fun k=>k≤4) (fun k=>4 - k) 0 rfl rfl ?_ ?_
  ·omega
  intro k jk hk
  refine kv ?_
  by_cases hk4:k<4
  ·first|with_reducible refine ks [] @cB ?_|refine kp @cB ?_
   exact Again.mk (k+1) (by omega) (by omega) rfl rfl
  ·have hk:k=4:=by omega
   subst hk
   first|with_reducible refine ks [] @cB ?_|refine kp @cB ?_
   refine Again.mk (g+1) (by omega) (by omega) ?_ rfl
   rw[Qw,yr]
 ·have vU:g=16:=by omega
  subst vU
  first|with_reducible refine ks [] @cB ?_|refine kp @cB ?_
  rw[Ag]
  refine Cw.loopG (G:=Nat) [41,42,45,46,47,48,49,50,51,52,53,54,55,56,57,58,59,60,61,62,63,64,65,66,67,43,44,6] (fun g=> [(6,vi g)]) (fun g=> [(b, .cells (bB bg st rest many taken) 254 (0,0)),(b1, .cells (a32 (wG rest g)) 256)]) (fun g=>16≤g∧g≤64) (fun g=>64 - g) 16 rfl rfl ?_ ?_
  ·omega
  intro g j hg
  refine kv ?_
  obtain⟨jR,lm⟩:=hg
  have aL:=zY rest g
  by_cases aD:g<64
  ·first|with_reducible refine ks [] @cB ?_|refine kp @cB ?_
   refine Cw.regionO [0,1,2,3,6,7,8,11,12,13,17,18,19,4,9,14,20,5,10,15,16,21,22,23] [23] rfl (by kernel_rfl) (by kernel_rfl) ?_
   simp only[ap, ↓ao, ↓ac, ↓aj, ↓ai,ad]
   refine kq @cB ?_
   refine Ow.callFV rfl Tryz.call244 (fun w' aB=>zT _ _ _ _ (by omega) (by omega) (by omega) w') ?_
   refine kq @cB ?_
   refine Ow.callFV rfl Tryz.call244 (fun w' aB=>zT _ _ _ _ (by omega) (by omega) (by omega) w') ?_
   refine kq @cB ?_
   refine Ow.store rfl rfl rfl (ke @cB) ?_
   refine ko @cB ?_
   first|with_reducible refine ks [] @cB ?_|refine kp @cB ?_
   refine Again.mk (g+1) (by omega) (by omega) ?_ rfl
   rw[BJ rest g jR,Vd,VH];rfl
  ·have lF:g=64:=by omega
   subst lF
   rw[C9]
   have hwl:=YH rest
   first|with_reducible refine ks [] (And.intro @cB @h1) ?_|refine kp (And.intro @cB @h1) ?_
   refine Ow.alloc rfl rfl Tryz.zr227 fun b2 aZ bH=> ?_
   obtain⟨h02,n4,-⟩:=aZ
   refine ko (And.intro @cB @h1) ?_
   first|with_reducible refine ks [] (And.intro @cB @h1) ?_|refine kp (And.intro @cB @h1) ?_
   refine Cw.loopG (G:=Nat) [74,75,76,8,9,77,78,79,80,81,82,83,84,85,86,87,88,89,90,91,92,93,94,95,96,97,98,99,100,101,10,102,103,104,105,106,107,108,109,110,111,112,113,114,115,116,117,118,119,120,121,122,11,123,124,125,126,127,128,129,130,131,132,133,134,135,136,137,138,139,140,141,142,143,73] (fun g=> [(73,vi g)]) (fun g=> [(b, .cells (bB bg st rest many taken) 254 (0,0)),(b1, .cells (a32 (wAll rest)) 256),(b2, .cells (a32 (rGo st (wAll rest) g)) 227)]) (fun g=>g≤64) (fun g=>64 - g) 0 rfl rfl ?_ ?_
   ·omega
   ·intro g j hg
    refine kv ?_
    have lQ:=MV st (wAll rest) g hs
    by_cases aD:g<64
    ·first|with_reducible refine ks [] @cB ?_|refine kp @cB ?_
     refine Cw.regionO [0,2,6,8,11,14,19,21,22,1,3,7,9,10,12,13,15,16,17,23,4,5,18,20,24,25] [] rfl (by kernel_rfl) (by kernel_rfl) ?_
     simp only[ap, ↓ao, ↓ac, ↓aj, ↓ai,ad]
     refine kq @cB ?_
     refine Ow.callFV rfl Tryz.call245 (fun w' aB=>A4 _ _ _ _ (by omega) (by omega) (by omega) w') ?_
     refine kq @cB ?_
     first|with_reducible refine ks [] @cB ?_|refine kp @cB ?_
     refine Cw.regionO [0,3,5,8,10,14,16,1,4,6,7,9,11,12,13,15,17,18,19,2,20,21] [] rfl (by kernel_rfl) (by kernel_rfl) ?_
     simp only[ap, ↓ao, ↓ac, ↓aj, ↓ai,ad]
     refine kq @cB ?_
     refine Ow.callFV rfl Tryz.call245 (fun w' aB=>A4 _ _ _ _ (by omega) (by omega) (by omega) w') ?_
     refine kq @cB ?_
     first|with_reducible refine ks [] @cB ?_|refine kp @cB ?_
     rw[Vh,VI,VU,Sm]
     refine Ow.build (.agg (a32 (uo (rGo st (wAll rest) g) (kL.getD g 0) ((wAll rest).getD g 0)))) rfl (by kernel_rfl) ?_
     have hrl2: (uo (rGo st (wAll rest) g) (kL.getD g 0) ((wAll rest).getD g 0)).length=8:=rfl
     refine ko @cB ?_
     first|with_reducible refine ks [] @cB ?_|refine kp @cB ?_
     exact Again.mk (g+1) (by omega) (by omega) rfl rfl
    ·have lF:g=64:=by omega
     subst lF
     first|with_reducible refine ks [] @cB ?_|refine kp @cB ?_
     rw[←Ko st (rGo st (wAll rest) 64) hs]
     refine Cw.loopG (G:=Nat) [145,146,12,147,148,149,150,151,152,153,154,155,156,157,158,159,160,144] (fun k=> [(144,vi k)]) (fun k=> [(b, .cells (bB bg (kT st (rGo st (wAll rest) 64) k) rest many taken) 254 (0,0)),(b1, .cells (a32 (wAll rest)) 256),(b2, .cells (a32 (rGo st (wAll rest) 64)) 227)]) (fun k=>k≤8) (fun k=>8 - k) 0 rfl rfl ?_ ?_
     ·omega
     intro k jk hk
     refine kv ?_
     have gm:=Y0 st (rGo st (wAll rest) 64) k
     by_cases Zx:k<8
     ·first|with_reducible refine ks [] @cB ?_|refine kp @cB ?_
      refine Cw.regionO [0,1,2,3,4,6,7,10,11,5,8,9,12,13] [13] rfl (by kernel_rfl) (by kernel_rfl) ?_
      simp only[ap, ↓ao, ↓ac, ↓aj, ↓ai,ad]
      refine kq @cB ?_
      refine Ow.store rfl rfl rfl (ke @cB) ?_
      refine ko @cB ?_
      first|with_reducible refine ks [] @cB ?_|refine kp @cB ?_
      refine Again.mk (k+1) (by omega) (by omega) ?_ rfl
      rw[←Lj,Mw _ _ _ _ (by omega),if_neg (by omega)]
     ·have Wd:k=8:=by omega
      subst Wd
      first|with_reducible refine ks [] @cB ?_|refine kp @cB ?_
      refine⟨_,_,_,(ke @cB),rfl,⟨aF,bH,trivial⟩, ?_⟩
      exact⟨rfl,rfl⟩
end Go.Proofs
end
section
open Go Go.Proofs Go.Sx Go.Dig
namespace Go.Proofs
set_option maxRecDepth 10000
set_option maxHeartbeats 1000000
set_option linter.unusedSimpArgs false
theorem Hi (n:Nat):UInt64.ofInt (n:Int)=UInt64.ofNat n:=by
 apply UInt64.toNat.inj
 rw[show UInt64.ofInt (n:Int)=UInt64.ofNat ((n:Int)%2^64).toNat from rfl,UInt64.toNat_ofNat',UInt64.toNat_ofNat']
 omega
theorem uj (b o:Nat):aT Tryz.prog .eql 275 (vp b o) (.pointer none)=some (.bool false):=by
 simp[aT,eqX,eM,eA,Tryz.underlying275,vp]
theorem uY:aT Tryz.prog .eql 275 (.pointer none) (.pointer none)=some (.bool true):=by
 simp[aT,eqX,eM,eA,Tryz.underlying275]
theorem ub (b o:Nat):aT Tryz.prog .neq 275 (vp b o) (.pointer none)=some (.bool true):=by
 simp[aT,eqX,eM,eA,Tryz.underlying275,vp]
theorem uO:aT Tryz.prog .neq 275 (.pointer none) (.pointer none)=some (.bool false):=by
 simp[aT,eqX,eM,eA,Tryz.underlying275]
set_option linter.defProp false
def db:=And.intro (And.intro (And.intro (And.intro (@FV) (@FN)) (And.intro (@FS) (And.intro (@GQ) (@FZ)))) (And.intro (And.intro (@FP) (@Gd)) (And.intro (@GK) (And.intro (@Eg) (@GY))))) (And.intro (And.intro (And.intro (@GS) (@Gb)) (And.intro (@GP) (And.intro (@GO) (@GV)))) (And.intro (And.intro (@xM) (@uj)) (And.intro (@uY) (And.intro (@ub) (@uO)))))
theorem yK (b:Nat) (bg:Bool) (st:List UInt32) (rest:List UInt8) (many:Int) (taken:UInt64) (w:World) (hG:GlobE w) (hb:4<b) (hs:st.length=8) (hr:rest.length=64)
  (ho:w.heap[b]? =some (.cells (bB bg st rest many taken) 254 (0,0))):
  Rets Tryz.prog 211 #[vp b 0] w (fun v D=> ∃o,D= [(b,o)]∧v= .tuple #[]∧o= .cells (bB true (if bg then st else initL) rest many taken) 254 (0,0)):=by
 obtain⟨e0,e1,f0,f1,h0,h1⟩:=hG
 have gW:initL.length=8:=rfl
 refine Rets.enterM Tryz.func211 rfl (rs:= []) Tryz.results211 Tryz.ntmps211 ho ?_
 refine kf ?_
 cases bg
 ·first|with_reducible refine ks [] (And.intro @db @h0) ?_|refine kp (And.intro @db @h0) ?_
  refine⟨_,_,_,(ke @db),rfl,trivial, ?_⟩
  exact⟨rfl,rfl⟩
 ·first|with_reducible refine ks [] (And.intro @db @h0) ?_|refine kp (And.intro @db @h0) ?_
  refine⟨_,_,_,(ke @db),rfl,trivial, ?_⟩
  exact⟨rfl,rfl⟩
theorem FA (b:Nat) (s:Hs) (taken:UInt64) (x:UInt8) (w:World) (hG:GlobE w) (hb:4<b) (hs:s.Ok)
  (ho:w.heap[b]? =some (.cells (iI s taken) 254 (0,0))):
  Rets Tryz.prog 212 #[vp b 0,v8 x] w (fun v D=> ∃o,D= [(b,o)]∧v= .tuple #[]∧o= .cells (iI (eX s x) taken) 254 (0,0)):=by
 obtain⟨st,rest,many⟩:=s
 obtain⟨bF,ob,vr⟩:=hs
 simp only[iI] at ho bF ob vr ⊢
 refine Rets.enterM Tryz.func212 rfl (rs:= []) Tryz.results212 Tryz.ntmps212 ho ?_
 refine kf ?_
 first|with_reducible refine ks [] @db ?_|refine kp @db ?_
 refine Cw.regionO [0,1,2,3,5,6,7,4,8,9] [9] rfl (by kernel_rfl) (by kernel_rfl) ?_
 simp only[ap, ↓ao, ↓ac, ↓aj, ↓ai,ad]
 refine kq @db ?_
 refine Ow.store rfl rfl rfl (ke @db) ?_
 refine ko @db ?_
 first|with_reducible refine ks [] @db ?_|refine kp @db ?_
 unfold eX
 by_cases li:many+1=64
 ·simp only[li, ↓reduceIte]
  have h64': (many:Int)+1=64:=by omega
  have h63:many=63:=by omega
  subst h63
  rw[Cb _ _ _ _ _ _ (by omega)]
  first|with_reducible refine ks [] @db ?_|refine kp @db ?_
  refine Ow.callM rfl rfl Tryz.call233 (by simp[keys]) (fun w' aB=>Oe _ _ _ _ _ _ w' (GlobE.of hG aB (by simp[keys];omega)) hb bF (by simp[ob]) (aB.has _ _ List.mem_cons_self)) ?_
  refine ko @db ?_
  first|with_reducible refine ks [] @db ?_|refine kp @db ?_
  refine⟨_,_,_,(ke @db),rfl,trivial, ?_⟩
  exact⟨rfl,rfl⟩
 ·rw[CU _ _ _ _ _ _ (by omega)]
  simp only[li, ↓reduceIte]
  first|with_reducible refine ks [] @db ?_|refine kp @db ?_
  refine⟨_,_,_,(ke @db),rfl,trivial, ?_⟩
  exact⟨rfl,by rw[if_neg li];simp⟩
theorem Jp (b:Nat) (bg:Bool) (s:Hs) (taken:UInt64) (x:Value) (b2 off:Nat) (l:List (List UInt8)) (arr:Array Value) (E:TypeId) (fz:Nat×Nat) (w:World) (hG:GlobE w) (hb:4<b) (hs:s.Ok) (aO:0<l.length→b≠b2)
  (hS:StrS w x l b2 off arr E fz) (hn:l.length<1099511627776) (hz: ∀i,i<l.length→(l.getD i []).length<1099511627776)
  (ho:w.heap[b]? =some (.cells (bB bg s.st s.rest s.many taken) 254 (0,0))):
  Rets Tryz.prog 180 #[vp b 0,x] w (fun v D=> ∃o,D= [(b,o)]∧v= .tuple #[]∧o= .cells (iI (dR (pJ bg s) l.flatten) (mn taken l)) 254 (0,0)):=by
 obtain⟨e0,e1,f0,f1,h0,h1⟩:=id hG
 obtain⟨st,rest,many⟩:=s
 obtain⟨bF,ob,vr⟩:=id hs
 simp only[iI] at ho bF ob vr ⊢
 refine Rets.enterM Tryz.func180 rfl (rs:= []) Tryz.results180 Tryz.ntmps180 ho ?_
 refine kf ?_
 first|with_reducible refine ks [] @db ?_|refine kp @db ?_
 refine Ow.callM rfl rfl Tryz.call211 (by simp[keys]) (fun w' aB=>yK _ _ _ _ _ _ w' (GlobE.of hG aB (by simp[keys];omega)) hb bF ob (aB.has _ _ List.mem_cons_self)) ?_
 refine ko @db ?_
 ((try with_reducible refine Cw.go [] ?_);(try simp(disch:=(first|assumption|omega| (simp only[cT,cS,UInt64.reduceToNat];try omega))) only[↓Sx.S0,Sx.S1,Tryz.fx,db,Nat.reduceAdd,Nat.reducePow,Int.reducePow,Nat.reduceBEq, ↓reduceIte,UInt8.reduceToNat,UInt16.reduceToNat,UInt32.reduceToNat,UInt64.reduceToNat,Int.reduceToNat,hS.len]))
 have e:bB true (if bg=true then st else initL) rest many taken=iI (dR (pJ bg ⟨st,rest,many⟩) (l.take 0).flatten) (mn taken (l.take 0)):=by cases bg<;>rfl
 rw[e]
 have rF:=z8 bg hs
 generalize pJ bg ⟨st,rest,many⟩=S0 at*
 refine Cw.loopG (G:=Nat) [14,15,16,5,17,18,19,20,21,6,22,23,24,25,26,27,28,29,30,31,32,33,34,35,36,37,38,13] (fun g=> [(13,vi g)]) (fun g=> [(b, .cells (iI (dR S0 (l.take g).flatten) (mn taken (l.take g))) 254 (0,0))]) (fun g=>g≤l.length) (fun g=>l.length - g) 0 rfl rfl ?_ ?_
 ·omega
 intro g j hg
 refine kv ?_
 by_cases aD:g<l.length
 ·have rB:=hS.get g aD
  have aZ:=hS.has (by omega)
  have hne2:=aO (by omega)
  have hzg:=hz g aD
  ((try with_reducible refine Cw.go [] ?_);(try simp(disch:=(first|assumption|omega| (simp only[cT,cS,UInt64.reduceToNat];try omega))) only[↓Sx.S0,Sx.S1,Tryz.fx,db,Nat.reduceAdd,Nat.reducePow,Int.reducePow,Nat.reduceBEq, ↓reduceIte,UInt8.reduceToNat,UInt16.reduceToNat,UInt32.reduceToNat,UInt64.reduceToNat,Int.reduceToNat,Sx.loadV_one,aZ,rB,hS.idx]))
  have bX:=wQ (l.take g).flatten rF
  rw[show iI (dR S0 (l.take g).flatten) (mn taken (l.take g))=iI (dR (dR S0 (l.take g).flatten) ((l.getD g []).take 0)) (mn taken (l.take g)) from rfl]
  refine Cw.loopG (G:=Nat) [20,21,6,22,23,24,25,26,27,19] (fun k=> [(19,vi k)]) (fun k=> [(b, .cells (iI (dR (dR S0 (l.take g).flatten) ((l.getD g []).take k)) (mn taken (l.take g))) 254 (0,0))]) (fun k=>k≤ (l.getD g []).length) (fun k=>(l.getD g []).length - k) 0 rfl rfl ?_ ?_
  ·omega
  intro k jk hk
  refine kv ?_
  by_cases bl:k< (l.getD g []).length
  ·first|with_reducible refine ks [] @db ?_|refine kp @db ?_
   refine Ow.callM rfl rfl Tryz.call212 (by simp[keys]) (fun w' aB=>FA _ _ _ _ w' (GlobE.of hG aB (by simp[keys];omega)) hb (wQ _ bX) (aB.has _ _ List.mem_cons_self)) ?_
   refine ko @db ?_
   first|with_reducible refine ks [] @db ?_|refine kp @db ?_
   refine Again.mk (k+1) (by omega) (by omega) ?_ rfl
   rw[yV _ _ _ bl]
  ·have vb:k=(l.getD g []).length:=by omega
   subst vb
   have rG:=wQ (l.getD g []) bX
   have hok3:=rG.st
   have hok4:=rG.rest
   rw[List.take_length]
   unfold iI
   first|with_reducible refine ks [] @db ?_|refine kp @db ?_
   refine Again.mk (g+1) (by omega) (by omega) ?_ rfl
   rw[JI _ _ aD,xk,Lh _ _ _ aD,show UInt64.ofInt ((l.getD g []).length:Int)=UInt64.ofNat (l.getD g []).length from Hi _]
 ·have vW:g=l.length:=by omega
  subst vW
  first|with_reducible refine ks [] @db ?_|refine kp @db ?_
  rw[List.take_length]
  refine⟨_,_,_,(ke @db),rfl,trivial, ?_⟩
  exact⟨rfl,rfl⟩
end Go.Proofs
end
namespace Go.Dig
open Go.Sx
def ie (m:Nat):Nat:=(120 - m)%64
def lenB (t:UInt64) (g:Nat):UInt8:=UInt8.ofNat (nU (8*t) (56 - 8*g)).toNat
def len8 (t:UInt64):List UInt8:=(List.range 8).map (lenB t)
def outB (st:List UInt32) (j:Nat):UInt8:=UInt8.ofNat (eN (st.getD (j / 4) 0) (24 - 8* (j%4))).toNat
def jI (st:List UInt32) (k:Nat):List UInt8:=(List.range 32).map fun j=>if j<k then outB st j else 0
def qZ (s:Hs) (taken:UInt64):Hs:=dR (dR (eX s 128) (List.replicate (ie (eX s 128).many) 0)) (len8 taken)
def hsum (s:Hs) (taken:UInt64):List UInt8:=jI (qZ s taken).st 32
def H0:Hs:=⟨initL,List.replicate 64 0,0⟩
theorem Ce:H0.Ok:=⟨rfl,by simp[H0],by show(0:Nat)<64;omega⟩
def sumV (l:List (List UInt8)):List UInt8:=hsum (dR H0 l.flatten) (mn 0 l)
theorem Q5 {s:Hs} (x:UInt8) (h:s.Ok): (eX s x).many=(s.many+1)%64:=by
 have:=h.many
 unfold eX
 split
 ·show 0=_;omega
 ·show s.many+1=_;omega
theorem Mv {s:Hs} (l:List UInt8) (h:s.Ok): (dR s l).many=(s.many+l.length)%64:=by
 induction l generalizing s with
 |nil=>have:=h.many;show s.many=_;simp;omega
 |cons x r ih=>
  show(dR (eX s x) r).many=_
  rw[ih (qI x h),Q5 x h,List.length_cons];omega
theorem OX (s:Hs) (x:UInt8) (j:Nat):dR s (List.replicate (j+1) x)=eX (dR s (List.replicate j x)) x:=by
 rw[List.replicate_succ',xk];rfl
theorem outPre_length (st:List UInt32) (k:Nat): (jI st k).length=32:=by simp[jI]
theorem YW (st:List UInt32):jI st 0=List.replicate 32 0:=by
 apply List.ext_getElem
 ·simp[jI]
 intro k dr eK
 simp only[jI,List.getElem_map,List.getElem_range,List.getElem_replicate]
 rw[if_neg (by omega)]
theorem EM (st:List UInt32) (k:Nat): (jI st k).set k (outB st k)=jI st (k+1):=by
 apply List.ext_getElem
 ·simp[jI]
 intro j dr eK
 rw[List.getElem_set]
 by_cases h:k=j
 ·subst h;simp[jI]
 ·rw[if_neg h]
  simp only[jI,List.getElem_map,List.getElem_range]
  by_cases h1:j<k
  ·rw[if_pos h1,if_pos (by omega)]
  ·rw[if_neg h1,if_neg (by omega)]
theorem qJ (st:List UInt32) (i r:Nat) (h:r<4):outB st (4*i+r)=UInt8.ofNat (eN (st.getD i 0) (24 - 8*r)).toNat:=by
 unfold outB
 rw[show(4*i+r) / 4=i by omega,show(4*i+r)%4=r by omega]
theorem Io (x:UInt32):eN x 0=x:=by
 apply UInt32.toNat.inj
 have:=x.toNat_lt
 rw[eN,UInt32.toNat_ofNat']
 simp
theorem Lv (st:List UInt32) (i:Nat):
  ((((jI st (4*i)).set (4*i) (UInt8.ofNat (eN (st.getD i 0) 24).toNat)).set (4*i+1) (UInt8.ofNat (eN (st.getD i 0) 16).toNat)).set (4*i+2) (UInt8.ofNat (eN (st.getD i 0) 8).toNat)).set (4*i+3) (UInt8.ofNat (st.getD i 0).toNat)=jI st (4* (i+1)):=by
 have h0:=qJ st i 0 (by omega)
 have h1:=qJ st i 1 (by omega)
 have h2:=qJ st i 2 (by omega)
 have h3:=qJ st i 3 (by omega)
 rw[Nat.add_zero] at h0
 rw[show 24 - 8*3=0 from rfl,Io] at h3
 rw[←h3,←h2,←h1,←h0,EM,EM,EM,EM]
 rw[show 4* (i+1)=4*i+1+1+1+1 by omega]
theorem YI (t:UInt64): (len8 t).length=8:=by simp[len8]
theorem QE (t:UInt64) (g:Nat) (h:g<8): (len8 t).getD g 0=lenB t g:=by simp[len8,List.getD_eq_getElem?_getD,h]
end Go.Dig
section
open Go Go.Proofs Go.Sx Go.Dig
namespace Go.Proofs
set_option maxRecDepth 10000
set_option maxHeartbeats 1000000
set_option linter.unusedSimpArgs false
set_option linter.defProp false
def dj:=And.intro (And.intro (And.intro (And.intro (@FV) (@FN)) (And.intro (@FS) (And.intro (@GQ) (@FZ)))) (And.intro (And.intro (@FP) (@Gd)) (And.intro (@GK) (And.intro (@Eg) (@GY))))) (And.intro (And.intro (And.intro (@GS) (@Gb)) (And.intro (@GP) (And.intro (@GO) (@GV)))) (And.intro (And.intro (@xM) (@uj)) (And.intro (@uY) (And.intro (@ub) (@uO)))))
theorem CB:am Tryz.prog 254=some (.agg (bB false (List.replicate 8 0) (List.replicate 64 0) 0 0)):=id (by kernel_rfl)
theorem yc (bg:Bool) (st:List UInt32) (rest:List UInt8) (many:Int) (taken:UInt64):Value.cells (.agg (bB bg st rest many taken))=bB bg st rest many taken:=aV _
theorem ZK {bg bg':Bool} {st st':List UInt32} {rest rest':List UInt8} {many many':Int} {taken taken':UInt64} {E:TypeId} (h:st.length=8∧rest.length=64∧st'.length=8∧rest'.length=64):
  ab (some (true,75)) (some (.cells (bB bg' st' rest' many' taken') E (0,0))) 0 (.agg (bB bg st rest many taken))=some (.cells (bB bg st rest many taken) E (0,0)):=
 Eg _ ⟨h.1,h.2.1,ph h.2.2⟩
theorem NU (b:Nat) (bg:Bool) (s:Hs) (taken:UInt64) (w:World) (hG:GlobE w) (hb:4<b) (hs:s.Ok)
  (ho:w.heap[b]? =some (.cells (bB bg s.st s.rest s.many taken) 254 (0,0))):
  Rets Tryz.prog 181 #[vp b 0] w (fun v D=>v= .agg (a8 (hsum (pJ bg s) taken))∧D= []):=by
 obtain⟨e0,e1,f0,f1,h0,h1⟩:=id hG
 obtain⟨st,rest,many⟩:=s
 obtain⟨bF,ob,vr⟩:=id hs
 simp only at ho bF ob vr ⊢
 refine Rets.enterV Tryz.func181 rfl (rs:= [.cell 2 84]) Tryz.results181 Tryz.ntmps181 ?_
 refine kf ?_
 first|with_reducible refine ks [] @dj ?_|refine kp @dj ?_
 refine Ow.alloc rfl rfl Tryz.zr84 fun b1 aQ aF=> ?_
 refine ko @dj ?_
 first|with_reducible refine ks [] @dj ?_|refine kp @dj ?_
 refine Ow.alloc rfl rfl CB fun b2 aZ bH=> ?_
 obtain⟨n4,-⟩:=aZ
 have jO:=(Array.getElem?_eq_some_iff.1 ho).1
 rw[yc]
 refine ko @dj ?_
 first|with_reducible refine ks [] (And.intro @dj (And.intro @ho (@ZK))) ?_|refine kp (And.intro @dj (And.intro @ho (@ZK))) ?_
 refine Ow.callM rfl rfl Tryz.call211 (by simp[keys]) (fun w' aB=>yK _ _ _ _ _ _ w' (GlobE.of hG aB (by simp[keys];omega)) (by omega) bF ob (aB.has _ _ (List.mem_cons_of_mem _ List.mem_cons_self))) ?_
 refine ko @dj ?_
 first|with_reducible refine ks [] @dj ?_|refine kp @dj ?_
 have e:bB true (if bg=true then st else initL) rest many taken=iI (pJ bg ⟨st,rest,many⟩) taken:=by cases bg<;>rfl
 rw[e]
 have rF:=z8 bg hs
 generalize pJ bg ⟨st,rest,many⟩=S0 at*
 refine Ow.callM rfl rfl Tryz.call212 (by simp[keys]) (fun w' aB=>FA _ _ _ 128 w' (GlobE.of hG aB (by simp[keys];omega)) (by omega) rF (aB.has _ _ (List.mem_cons_of_mem _ List.mem_cons_self))) ?_
 refine ko @dj ?_
 have j5:=qI 128 rF
 have ep:qZ S0 taken=dR (dR (eX S0 128) (List.replicate (ie (eX S0 128).many) 0)) (len8 taken):=rfl
 unfold hsum
 rw[ep]
 generalize eX S0 128=S1 at*
 first|with_reducible refine ks [] @dj ?_|refine kp @dj ?_
 rw[show iI S1 taken=iI (dR S1 (List.replicate 0 0)) taken from rfl]
 have hz: (S1.many+ie S1.many)%64=56∧ie S1.many<64:=by have:=j5.many;unfold ie;omega
 refine Cw.loopG (G:=Nat) [15,16,17,18] (fun g=> []) (fun g=> [(b1, .cells (a8 (List.replicate 32 0)) 84 (0,0)),(b2, .cells (iI (dR S1 (List.replicate g 0)) taken) 254 (0,0))]) (fun g=>g≤ie S1.many) (fun g=>ie S1.many - g) 0 rfl rfl ?_ ?_
 ·omega
 intro g j hg
 refine kv ?_
 have oR:=wQ (List.replicate g 0) j5
 have hm:=Mv (List.replicate g 0) j5
 rw[List.length_replicate] at hm
 have jR:=oR.st
 have lm:=oR.rest
 by_cases aD:g<ie S1.many
 ·have hzz: (S1.many+g)%64≠56:=by have:=j5.many;unfold ie at aD;omega
  unfold iI
  first|with_reducible refine ks [] @dj ?_|refine kp @dj ?_
  refine Ow.callM rfl rfl Tryz.call212 (by simp[keys]) (fun w' aB=>FA _ _ _ 0 w' (GlobE.of hG aB (by simp[keys];omega)) (by omega) oR (aB.has _ _ (List.mem_cons_of_mem _ List.mem_cons_self))) ?_
  refine ko @dj ?_
  first|with_reducible refine ks [] @dj ?_|refine kp @dj ?_
  refine Again.mk (g+1) (by omega) (by omega) ?_ rfl
  rw[OX];rfl
 ·have vW:g=ie S1.many:=by omega
  subst vW
  unfold iI
  first|with_reducible refine ks [] @dj ?_|refine kp @dj ?_
  generalize dR S1 (List.replicate (ie S1.many) 0)=S2 at*
  rw[show bB true S2.st S2.rest S2.many taken=iI (dR S2 ((len8 taken).take 0)) taken from rfl]
  have h8:=YI taken
  refine Cw.loopG (G:=Nat) [19,20,23,24,25,26,27,28,29,21,22,4] (fun k=> [(4,vi (56 - 8*k))]) (fun k=> [(b1, .cells (a8 (List.replicate 32 0)) 84 (0,0)),(b2, .cells (iI (dR S2 ((len8 taken).take k)) taken) 254 (0,0))]) (fun k=>k≤8) (fun k=>8 - k) 0 rfl rfl ?_ ?_
  ·omega
  intro k jk hk
  refine kv ?_
  have vw:=wQ ((len8 taken).take k) oR
  have dr:=vw.st
  have eK:=vw.rest
  by_cases Zx:k<8
  ·unfold iI
   first|with_reducible refine ks [] @dj ?_|refine kp @dj ?_
   rw[show(56 - 8* (k:Int)).toNat=56 - 8*k from by omega]
   refine Ow.callM rfl rfl Tryz.call212 (by simp[keys]) (fun w' aB=>FA _ _ _ (lenB taken k) w' (GlobE.of hG aB (by simp[keys];omega)) (by omega) vw (aB.has _ _ (List.mem_cons_of_mem _ List.mem_cons_self))) ?_
   refine ko @dj ?_
   first|with_reducible refine ks [] @dj ?_|refine kp @dj ?_
   refine Again.mk (k+1) (by omega) (by omega) ?_ ?_
   ·rw[yV _ _ _ (by omega),QE _ _ Zx];rfl
   ·rw[show(56 - 8* ((k+1:Nat):Int))=56 - 8* (k:Int) - 8 from by omega];rfl
  ·have vb:k=8:=by omega
   subst vb
   first|with_reducible refine ks [] @dj ?_|refine kp @dj ?_
   rw[List.take_of_length_le (show(len8 taken).length≤8 by omega)] at*
   generalize dR S2 (len8 taken)=S3 at*
   refine Ow.alloc rfl rfl Tryz.zr84 fun b3 ed gI=> ?_
   obtain⟨ur,wv,-⟩:=ed
   unfold iI
   refine ko @dj ?_
   first|with_reducible refine ks [] @dj ?_|refine kp @dj ?_
   rw[show a8 (List.replicate 32 0)=a8 (jI S3.st (4*0)) from by rw[YW]]
   have h3s:=(wQ (len8 taken) oR).st
   have nE:S3.st.length=8:=dr
   refine Cw.loopG (G:=Nat) [33,34,35,6,7,36,37,38,39,40,41,42,43,44,45,46,47,48,49,50,51,52,53,54,55,56,57,58,59,60,61,62,32] (fun i=> [(32,vi i)]) (fun i=> [(b1, .cells (a8 (jI S3.st (4*0))) 84 (0,0)),(b2, .cells (bB true S3.st S3.rest S3.many taken) 254 (0,0)),(b3, .cells (a8 (jI S3.st (4*i))) 84 (0,0))]) (fun i=>i≤8) (fun i=>8 - i) 0 rfl rfl ?_ ?_
   ·omega
   intro i ji hi
   refine kv ?_
   have lL:=outPre_length S3.st (4*i)
   have rH:=outPre_length S3.st (4*0)
   by_cases Zu:i<8
   ·first|with_reducible refine ks [] @dj ?_|refine kp @dj ?_
    refine Again.mk (i+1) (by omega) (by omega) ?_ rfl
    rw[Lv]
   ·have r7:i=8:=by omega
    subst r7
    first|with_reducible refine ks [] @dj ?_|refine kp @dj ?_
    rw[show 4*8=32 from rfl]
    refine⟨_,(ke @dj),⟨aF,bH,gI,trivial⟩, ?_⟩
    rfl
end Go.Proofs
end
section
open Go Go.Proofs Go.Sx Go.Dig
namespace Go.Proofs
set_option maxRecDepth 10000
set_option maxHeartbeats 1000000
set_option linter.unusedSimpArgs false
set_option linter.defProp false
def ki:=And.intro (And.intro (And.intro (And.intro (@FV) (@FN)) (And.intro (@FS) (And.intro (@GQ) (@FZ)))) (And.intro (And.intro (@FP) (@Gd)) (And.intro (@GK) (And.intro (@Eg) (@GY))))) (And.intro (And.intro (And.intro (@GS) (@Gb)) (And.intro (@GP) (And.intro (@GO) (@GV)))) (And.intro (And.intro (@xM) (@uj)) (And.intro (@uY) (And.intro (@ub) (@uO)))))
theorem Q2 (x:Value) (b2 off:Nat) (l:List (List UInt8)) (arr:Array Value) (E:TypeId) (fz:Nat×Nat) (w:World) (hG:GlobE w)
  (hS:StrS w x l b2 off arr E fz) (hn:l.length<1099511627776) (hz: ∀i,i<l.length→(l.getD i []).length<1099511627776):
  Rets Tryz.prog 143 #[x] w (fun v D=>v= .agg (a8 (sumV l))∧D= []):=by
 obtain⟨e0,e1,f0,f1,h0,h1⟩:=id hG
 have jR:4<w.heap.size:=(Array.getElem?_eq_some_iff.1 h1).1
 have jO:0<l.length→b2<w.heap.size:=fun h=>(Array.getElem?_eq_some_iff.1 (hS.has h)).1
 refine Rets.enterV Tryz.func143 rfl (rs:= [.cell 2 84]) Tryz.results143 Tryz.ntmps143 ?_
 refine kf ?_
 first|with_reducible refine ks [] @ki ?_|refine kp @ki ?_
 refine Ow.alloc rfl rfl Tryz.zr84 fun b1 aQ aF=> ?_
 refine ko @ki ?_
 first|with_reducible refine ks [] @ki ?_|refine kp @ki ?_
 refine Ow.alloc rfl rfl CB fun b3 ed gI=> ?_
 obtain⟨ur,-⟩:=ed
 rw[yc]
 refine ko @ki ?_
 first|with_reducible refine ks [] @ki ?_|refine kp @ki ?_
 refine Ow.callM rfl rfl Tryz.call180 (by simp[keys]) (fun w' aB=>Jp _ _ ⟨List.replicate 8 0,List.replicate 64 0,0⟩ _ _ _ _ _ _ _ _ w' (GlobE.of hG aB (by simp[keys];omega)) (by omega) ⟨by simp,by simp,by simp⟩ (fun h=>by have:=jO h;omega) (hS.old aB (fun h=>by have:=jO h;simp[keys];omega)) hn hz (aB.has _ _ (List.mem_cons_of_mem _ List.mem_cons_self))) ?_
 refine ko @ki ?_
 first|with_reducible refine ks [] @ki ?_|refine kp @ki ?_
 have bX:=wQ l.flatten Ce
 have e:pJ false ⟨List.replicate 8 0,List.replicate 64 0,0⟩=H0:=rfl
 rw[e]
 refine Ow.callFV rfl Tryz.call181 (fun w' aB=>NU _ true _ _ w' (GlobE.of hG aB (by simp[keys];omega)) (by omega) bX (aB.has _ _ (List.mem_cons_of_mem _ List.mem_cons_self))) ?_
 have cN: (hsum (pJ true (dR H0 l.flatten)) (mn 0 l)).length=32:=outPre_length _ _
 refine ko @ki ?_
 first|with_reducible refine ks [] @ki ?_|refine kp @ki ?_
 refine⟨_,(ke @ki),⟨aF,gI,trivial⟩, ?_⟩
 rfl
end Go.Proofs
end
namespace Go.Dig
open Go.Sx
def quoN (t:UInt64):Nat→UInt64
 |0=>t
 |n+1=>quoN t n / 256
theorem O9 (t:UInt64) (n:Nat): (quoN t n).toNat=t.toNat / 256^n:=by
 induction n with
 |zero=>simp[quoN]
 |succ n ih=>
  show(quoN t n / 256).toNat=_
  rw[UInt64.toNat_div,ih,Nat.pow_succ,Nat.div_div_eq_div_mul];rfl
def um (t:UInt64) (j:Nat):UInt8:=UInt8.ofNat (nU t (56 - 8*j)).toNat
theorem RH (t:UInt64) (i:Nat) (h:i<8):UInt8.ofNat (quoN t i%256).toNat=um t (7 - i):=by
 apply UInt8.toNat.inj
 unfold um
 rw[UInt8.toNat_ofNat',UInt8.toNat_ofNat',UInt64.toNat_mod,O9,nU,UInt64.toNat_ofNat']
 have e:56 - 8* (7 - i)=8*i:=by omega
 have ht:=t.toNat_lt
 have hd:t.toNat / 2^ (8*i)≤t.toNat:=Nat.div_le_self _ _
 rw[e,Nat.mod_eq_of_lt (a:=t.toNat / 2^ (8*i)) (by omega)]
 have e2:256^i=2^ (8*i):=by rw[Nat.pow_mul]
 rw[e2,show(256:UInt64).toNat=256 from rfl]
 omega
def kO (t:UInt64) (i:Nat):List UInt8:=(List.range 8).map fun j=>if 8≤j+i then um t j else 0
theorem Wt_ (t:UInt64) (i:Nat): (kO t i).length=8:=by simp[kO]
theorem K1 (t:UInt64):kO t 0=List.replicate 8 0:=by
 apply List.ext_getElem
 ·simp[kO]
 intro k dr eK
 have:k<8:=by simpa [kO] using dr
 simp only[kO,List.getElem_map,List.getElem_range,List.getElem_replicate]
 rw[if_neg (by omega)]
theorem J9 (t:UInt64) (i:Nat) (h:i<8): (kO t i).set (7 - i) (UInt8.ofNat (quoN t i%256).toNat)=kO t (i+1):=by
 rw[RH t i h]
 apply List.ext_getElem
 ·simp[kO]
 intro j hj1 hj2
 have hj:j<8:=by simpa [kO] using hj2
 rw[List.getElem_set]
 by_cases h1:7 - i=j
 ·rw[if_pos h1]
  simp only[kO,List.getElem_map,List.getElem_range]
  rw[if_pos (by omega),h1]
 ·rw[if_neg h1]
  simp only[kO,List.getElem_map,List.getElem_range]
  by_cases h2:8≤j+i
  ·rw[if_pos h2,if_pos (by omega)]
  ·rw[if_neg h2,if_neg (by omega)]
theorem Kj (t:UInt64):kO (8*t) 8=len8 t:=by
 unfold kO len8
 apply List.map_congr_left
 intro j hj
 rw[if_pos (by omega)];rfl
def padR (m:List UInt8):List UInt8:=m++ [128]++List.replicate (ie ((m.length+1)%64)) 0++len8 (UInt64.ofNat m.length)
theorem Yq (n:Nat): (n+ie (n%64))%64=56∧ie (n%64)<64:=by unfold ie;omega
theorem LK (m:List UInt8): (padR m).length%64=0∧(padR m).length≤m.length+72:=by
 have:=Yq (m.length+1)
 simp only[padR,List.length_append,List.length_replicate,YI,List.length_cons,List.length_nil]
 omega
def shaR (m:List UInt8):List UInt8:=jI (kj initL (padR m) ((padR m).length / 64)) 32
theorem Nt (st s:List UInt32):kT st s 8= [st.getD 0 0+s.getD 0 0,st.getD 1 0+s.getD 1 0,st.getD 2 0+s.getD 2 0,st.getD 3 0+s.getD 3 0,st.getD 4 0+s.getD 4 0,st.getD 5 0+s.getD 5 0,st.getD 6 0+s.getD 6 0,st.getD 7 0+s.getD 7 0]:=rfl
end Go.Dig
section
open Go Go.Proofs Go.Sx Go.Dig
namespace Go.Proofs
set_option maxRecDepth 10000
set_option maxHeartbeats 1000000
set_option linter.unusedSimpArgs false
set_option linter.defProp false
def aq:= @xM
theorem VN_ (m:List UInt8) (hm:m.length<1099511627776) (w:World):
  Rets Tryz.prog 152 #[vs m] w (fun v D=>v=vs (padR m)∧D= []):=by
 refine Rets.enterV Tryz.func152 rfl (rs:= [.tmp 2]) Tryz.results152 Tryz.ntmps152 ?_
 refine kf ?_
 first|with_reducible refine ks [] @aq ?_|refine kp @aq ?_
 have hz:=Yq (m.length+1)
 rw[show m++ [128]=m++ [128]++List.replicate 0 0 from(List.append_nil _).symm]
 refine Cw.loopG (G:=Nat) [9,10,11,12,13,14,3] (fun g=> [(3,vs (m++ [128]++List.replicate g 0))]) (fun g=> []) (fun g=>g≤ie ((m.length+1)%64)) (fun g=>ie ((m.length+1)%64) - g) 0 rfl rfl ?_ ?_
 ·omega
 intro g j hg
 refine kv ?_
 have hl: (m++ [128]++List.replicate g 0).length=m.length+1+g:=by simp;omega
 by_cases aD:g<ie ((m.length+1)%64)
 ·have h56: (m.length+1+g)%64≠56:=by unfold ie at*;omega
  first|with_reducible refine ks [] (And.intro @aq @hl) ?_|refine kp (And.intro @aq @hl) ?_
  refine Again.mk (g+1) (by omega) (by omega) rfl ?_
  rw[show m++ [128]++List.replicate (g+1) 0=m++ [128]++List.replicate g 0++ [0] from by rw[List.replicate_succ'];simp]
  rfl
 ·have vW:g=ie ((m.length+1)%64):=by omega
  subst vW
  first|with_reducible refine ks [] (And.intro @aq @hl) ?_|refine kp (And.intro @aq @hl) ?_
  refine Ow.alloc rfl rfl Tryz.zr255 fun b1 aQ aF=> ?_
  rw[show UInt64.ofInt (m.length:Int)=UInt64.ofNat m.length from Hi _]
  refine ko @aq ?_
  first|with_reducible refine ks [] @aq ?_|refine kp @aq ?_
  generalize ht:UInt64.ofNat m.length*8=t
  rw[←K1 t]
  refine Cw.loopG (G:=Nat) [19,20,23,24,25,26,27,28,29,30,4,21,22,6] (fun i=> [(4,v64 (quoN t i)),(6,vi i)]) (fun i=> [(b1, .cells (a8 (kO t i)) 255 (0,0))]) (fun i=>i≤8) (fun i=>8 - i) 0 rfl rfl ?_ ?_
  ·omega
  intro i ji hi
  refine kv ?_
  have me:=Wt_ t i
  by_cases Zu:i<8
  ·first|with_reducible refine ks [] @aq ?_|refine kp @aq ?_
   refine Again.mk (i+1) (by omega) (by omega) ?_ rfl
   rw[J9 t i Zu]
  ·have r7:i=8:=by omega
   subst r7
   first|with_reducible refine ks [] @aq ?_|refine kp @aq ?_
   rw[List.drop_zero,List.take_of_length_le (show(kO t 8).length≤8 by omega),←ht,UInt64.mul_comm,Kj]
   refine⟨_,(ke @aq),⟨aF,trivial⟩, ?_⟩
   rfl
theorem ME (st:List UInt32) (blk:List UInt8) (bF:st.length=8) (sG:blk.length=64) (w:World):
  Rets Tryz.prog 153 #[.agg (a32 st),vs blk] w (fun v D=>v= .agg (a32 (comp st blk))∧D= []):=by
 have Zy:kL.length=64:=rfl
 refine Rets.enterV Tryz.func153 rfl (rs:= [.cell 4 227]) Tryz.results153 Tryz.ntmps153 ?_
 refine kf ?_
 first|with_reducible refine ks [] @aq ?_|refine kp @aq ?_
 refine Ow.box rfl rfl fun b1 aQ aF=> ?_
 refine ko @aq ?_
 refine Ow.alloc rfl rfl Tryz.zr227 fun b2 aZ bH=> ?_
 obtain⟨n4,-⟩:=aZ
 refine ko @aq ?_
 first|with_reducible refine ks [] @aq ?_|refine kp @aq ?_
 refine Ow.alloc rfl rfl Tryz.zr256 fun b3 ed gI=> ?_
 obtain⟨ur,wv,-⟩:=ed
 refine ko @aq ?_
 first|with_reducible refine ks [] @aq ?_|refine kp @aq ?_
 rw[←zh blk]
 refine Cw.loopG (G:=Nat) [22,23,26,27,28,29,30,31,32,33,34,35,36,37,38,39,40,41,42,43,44,45,46,47,48,49,50,51,52,53,54,55,56,24,25,6] (fun g=> [(6,vi g)]) (fun g=> [(b1, .cells (a32 st) 227 (0,0)),(b2, .cells (a32 (List.replicate 8 0)) 227 (0,0)),(b3, .cells (a32 (wPre blk g)) 256 (0,0))]) (fun g=>g≤16) (fun g=>16 - g) 0 rfl rfl ?_ ?_
 ·omega
 intro g j hg
 refine kv ?_
 have aL:=GX blk g
 by_cases aD:g<16
 ·first|with_reducible refine ks [] @aq ?_|refine kp @aq ?_
  refine Cw.regionO [0,1,2,3,4,5,6,7,8,9,10,11,12,13,14,15,16,17,18,19,20,21,22,23,24,25,26,27,28,29,30,31] [31] rfl (by kernel_rfl) (by kernel_rfl) ?_
  simp only[ap, ↓ao, ↓ac, ↓aj, ↓ai,ad]
  refine kq @aq ?_
  refine Ow.store rfl rfl rfl (ke @aq) ?_
  refine ko @aq ?_
  first|with_reducible refine ks [] @aq ?_|refine kp @aq ?_
  exact Again.mk (g+1) (by omega) (by omega) (by rw[←yr];rfl) rfl
 ·have vU:g=16:=by omega
  subst vU
  first|with_reducible refine ks [] @aq ?_|refine kp @aq ?_
  rw[Ag]
  refine Cw.loopG (G:=Nat) [57,58,61,62,63,64,65,66,67,68,8,9,69,70,71,72,73,74,75,76,77,78,79,80,81,82,83,84,85,86,87,88,89,90,91,92,93,94,95,96,97,59,60,7] (fun g=> [(7,vi g)]) (fun g=> [(b1, .cells (a32 st) 227 (0,0)),(b2, .cells (a32 (List.replicate 8 0)) 227 (0,0)),(b3, .cells (a32 (wG blk g)) 256 (0,0))]) (fun g=>16≤g∧g≤64) (fun g=>64 - g) 16 rfl rfl ?_ ?_
  ·omega
  intro g j hg
  refine kv ?_
  obtain⟨jR,lm⟩:=hg
  have aL:=zY blk g
  by_cases aD:g<64
  ·first|with_reducible refine ks [] @aq ?_|refine kp @aq ?_
   refine Cw.regionO [0,1,2,4,5,6,3,8,7,9] [] rfl (by kernel_rfl) (by kernel_rfl) ?_
   simp only[ap, ↓ao, ↓ac, ↓aj, ↓ai,ad]
   refine kq @aq ?_
   first|with_reducible refine ks [] @aq ?_|refine kp @aq ?_
   refine Cw.regionO [0,1,3,6,7,9,10,11,14,16,19,20,23,24,25,12,26,2,4,5,8,13,15,17,18,21,22,27,28,29] [29] rfl (by kernel_rfl) (by kernel_rfl) ?_
   simp only[ap, ↓ao, ↓ac, ↓aj, ↓ai,ad]
   refine kq @aq ?_
   refine Ow.callFV rfl Tryz.call186 (fun w' aB=>pr _ 17 w') ?_
   refine kq @aq ?_
   refine Ow.callFV rfl Tryz.call186 (fun w' aB=>pr _ 19 w') ?_
   refine kq @aq ?_
   refine Ow.callFV rfl Tryz.call186 (fun w' aB=>pr _ 7 w') ?_
   refine kq @aq ?_
   refine Ow.callFV rfl Tryz.call186 (fun w' aB=>pr _ 18 w') ?_
   refine kq @aq ?_
   refine Ow.store rfl rfl rfl (ke @aq) ?_
   refine ko @aq ?_
   first|with_reducible refine ks [] @aq ?_|refine kp @aq ?_
   exact Again.mk (g+1) (by omega) (by omega) (by rw[BJ blk g jR];rfl) rfl
  ·have lF:g=64:=by omega
   subst lF
   rw[C9]
   have hwl:=YH blk
   first|with_reducible refine ks [] @aq ?_|refine kp @aq ?_
   refine Ow.callFV rfl Tryz.call187 (fun w' aB=>KC w') ?_
   refine ko @aq ?_
   refine Ow.alloc rfl rfl Tryz.zr256 fun b4 gS dg=> ?_
   obtain⟨Fa,Vt,Fc,-⟩:=gS
   refine ko @aq ?_
   first|with_reducible refine ks [] @aq ?_|refine kp @aq ?_
   refine Cw.regionO [0,2,4,6,1,8,3,9,5,10,7,11] [] rfl (by kernel_rfl) (by kernel_rfl) ?_
   simp only[ap, ↓ao, ↓ac, ↓aj, ↓ai,ad]
   refine kq @aq ?_
   first|with_reducible refine ks [] @aq ?_|refine kp @aq ?_
   refine Cw.regionO [0,2,4,6,1,8,3,9,5,10,7,11] [] rfl (by kernel_rfl) (by kernel_rfl) ?_
   simp only[ap, ↓ao, ↓ac, ↓aj, ↓ai,ad]
   refine kq @aq ?_
   first|with_reducible refine ks [] @aq ?_|refine kp @aq ?_
   generalize hw:wAll blk=W at*
   refine Cw.loopG (G:=Nat) [115,116,119,120,121,122,123,124,125,126,127,128,129,130,131,132,133,134,135,136,137,138,139,140,141,142,143,144,145,20,146,147,148,149,150,151,152,153,154,155,156,157,158,159,160,161,162,163,164,165,21,166,18,167,17,168,16,169,170,171,15,172,14,173,13,174,12,175,176,177,11,117,118,19] (fun g=> [(19,vi g),(11,v32 ((rGo st W g).getD 0 0)),(12,v32 ((rGo st W g).getD 1 0)),(13,v32 ((rGo st W g).getD 2 0)),(14,v32 ((rGo st W g).getD 3 0)),(15,v32 ((rGo st W g).getD 4 0)),(16,v32 ((rGo st W g).getD 5 0)),(17,v32 ((rGo st W g).getD 6 0)),(18,v32 ((rGo st W g).getD 7 0))]) (fun g=> [(b1, .cells (a32 st) 227 (0,0)),(b2, .cells (a32 (List.replicate 8 0)) 227 (0,0)),(b3, .cells (a32 W) 256 (0,0)),(b4, .cells (a32 kL) 256 (0,0))]) (fun g=>g≤64) (fun g=>64 - g) 0 rfl rfl ?_ ?_
   ·omega
   ·intro g j hg
    refine kv ?_
    by_cases aD:g<64
    ·first|with_reducible refine ks [] @aq ?_|refine kp @aq ?_
     refine Cw.regionO [0,1,3,6,10,11,12,13,14,15,16,17,19,20,23,24,21,25,2,4,5,7,8,9,18,22,26,27] [] rfl (by kernel_rfl) (by kernel_rfl) ?_
     simp only[ap, ↓ao, ↓ac, ↓aj, ↓ai,ad]
     refine kq @aq ?_
     refine Ow.callFV rfl Tryz.call186 (fun w' aB=>pr _ 6 w') ?_
     refine kq @aq ?_
     refine Ow.callFV rfl Tryz.call186 (fun w' aB=>pr _ 11 w') ?_
     refine kq @aq ?_
     refine Ow.callFV rfl Tryz.call186 (fun w' aB=>pr _ 25 w') ?_
     refine kq @aq ?_
     first|with_reducible refine ks [] @aq ?_|refine kp @aq ?_
     refine Ow.callFV rfl Tryz.call186 (fun w' aB=>pr _ 2 w') ?_
     refine ko @aq ?_
     refine Ow.callFV rfl Tryz.call186 (fun w' aB=>pr _ 13 w') ?_
     refine ko @aq ?_
     refine Ow.callFV rfl Tryz.call186 (fun w' aB=>pr _ 22 w') ?_
     refine ko @aq ?_
     first|with_reducible refine ks [] @aq ?_|refine kp @aq ?_
     exact Again.mk (g+1) (by omega) (by omega) rfl rfl
    ·have lF:g=64:=by omega
     subst lF
     first|with_reducible refine ks [] @aq ?_|refine kp @aq ?_
     have DQ:comp st blk=kT st (rGo st W 64) 8:=by rw[←hw];rfl
     rw[DQ]
     generalize rGo st W 64=R at*
     rw[Nt]
     refine Ow.build (.agg (a32 [st.getD 0 0+R.getD 0 0,st.getD 1 0+R.getD 1 0,st.getD 2 0+R.getD 2 0,st.getD 3 0+R.getD 3 0,st.getD 4 0+R.getD 4 0,st.getD 5 0+R.getD 5 0,st.getD 6 0+R.getD 6 0,st.getD 7 0+R.getD 7 0])) rfl (by kernel_rfl) ?_
     refine ko @aq ?_
     first|with_reducible refine ks [] @aq ?_|refine kp @aq ?_
     refine⟨_,(ke @aq),⟨aF,bH,gI,dg,trivial⟩, ?_⟩
     rfl
end Go.Proofs
end
section
open Go Go.Proofs Go.Sx Go.Dig
namespace Go.Proofs
set_option maxRecDepth 10000
set_option maxHeartbeats 1000000
set_option linter.unusedSimpArgs false
set_option linter.defProp false
def f4:= @xM
theorem Ly (m:List UInt8) (hm:m.length<1099511627776) (w:World):
  Rets Tryz.prog 110 #[vs m] w (fun v D=>v= .agg (a8 (shaR m))∧D= []):=by
 refine Rets.enterV Tryz.func110 rfl (rs:= [.cell 2 84]) Tryz.results110 Tryz.ntmps110 ?_
 refine kf ?_
 first|with_reducible refine ks [] @f4 ?_|refine kp @f4 ?_
 refine Ow.alloc rfl rfl Tryz.zr84 fun b1 aQ aF=> ?_
 refine ko @f4 ?_
 first|with_reducible refine ks [] @f4 ?_|refine kp @f4 ?_
 refine Ow.callFV rfl Tryz.call152 (fun w' aB=>VN_ m hm w') ?_
 have hp:=LK m
 unfold shaR
 generalize padR m=p at*
 refine ko @f4 ?_
 first|with_reducible refine ks [] @f4 ?_|refine kp @f4 ?_
 refine Ow.build (.agg (a32 initL)) rfl (by kernel_rfl) ?_
 refine ko @f4 ?_
 refine Ow.alloc rfl rfl Tryz.zr227 fun b2 aZ bH=> ?_
 obtain⟨n4,-⟩:=aZ
 have gW:initL.length=8:=rfl
 refine ko @f4 ?_
 first|with_reducible refine ks [] @f4 ?_|refine kp @f4 ?_
 rw[show a32 initL=a32 (kj initL p 0) from rfl]
 refine Cw.loopG (G:=Nat) [11,12,13,14,17,18,19,20,21,22,23,15,16,5] (fun g=> [(5,vi (64*g))]) (fun g=> [(b1, .cells (a8 (List.replicate 32 0)) 84 (0,0)),(b2, .cells (a32 (kj initL p g)) 227 (0,0))]) (fun g=>64*g≤p.length) (fun g=>p.length - 64*g) 0 rfl rfl ?_ ?_
 ·omega
 intro g j hg
 refine kv ?_
 have ll:=JT initL p g rfl
 by_cases aD:64*g<p.length
 ·first|with_reducible refine ks [] @f4 ?_|refine kp @f4 ?_
  refine Cw.regionO [1,2,3,4,5,0,6,7] [7] rfl (by kernel_rfl) (by kernel_rfl) ?_
  simp only[ap, ↓ao, ↓ac, ↓aj, ↓ai,ad]
  refine kq @f4 ?_
  rw[show List.drop (64*g) (List.take (64*g+64) p)=(p.drop (64*g)).take 64 from by rw[List.drop_take];congr 1;omega]
  refine Ow.callFV rfl Tryz.call153 (fun w' aB=>ME _ _ ll (by simp;omega) w') ?_
  have hcl2:=Hb (kj initL p g) ((p.drop (64*g)).take 64)
  refine kq @f4 ?_
  refine Ow.store rfl rfl rfl (ke @f4) ?_
  refine ko @f4 ?_
  first|with_reducible refine ks [] @f4 ?_|refine kp @f4 ?_
  exact Again.mk (g+1) (by omega) (by omega) rfl (by rw[show 64* ((g+1:Nat):Int)=64* (g:Int)+64 from by omega];rfl)
 ·have vW:g=p.length / 64:=by omega
  first|with_reducible refine ks [] @f4 ?_|refine kp @f4 ?_
  rw[←vW]
  refine Ow.alloc rfl rfl Tryz.zr84 fun b3 ed gI=> ?_
  obtain⟨ur,wv,-⟩:=ed
  refine ko @f4 ?_
  first|with_reducible refine ks [] @f4 ?_|refine kp @f4 ?_
  generalize kj initL p g=S at*
  rw[show [(b1,Obj.cells (a8 (List.replicate 32 0)) 84 (0,0)),(b2, .cells (a32 S) 227 (0,0)),(b3, .cells (a8 (List.replicate 32 0)) 84 (0,0))]= [(b1,Obj.cells (a8 (List.replicate 32 0)) 84 (0,0)),(b2, .cells (a32 S) 227 (0,0)),(b3, .cells (a8 (jI S 0)) 84 (0,0))] from by rw[YW]]
  refine Cw.loopG (G:=Nat) [24,25,28,29,30,31,32,33,34,35,36,37,38,39,40,26,27,7] (fun k=> [(7,vi k)]) (fun k=> [(b1, .cells (a8 (List.replicate 32 0)) 84 (0,0)),(b2, .cells (a32 S) 227 (0,0)),(b3, .cells (a8 (jI S k)) 84 (0,0))]) (fun k=>k≤32) (fun k=>32 - k) 0 rfl rfl ?_ ?_
  ·omega
  intro k jk hk
  refine kv ?_
  have lL:=outPre_length S k
  by_cases hk:k<32
  ·first|with_reducible refine ks [] @f4 ?_|refine kp @f4 ?_
   refine Again.mk (k+1) (by omega) (by omega) ?_ rfl
   have e: (UInt64.ofInt (24 - 8* ((k:Int)%4))).toNat=24 - 8* (k%4):=by
    rw[show(24 - 8* ((k:Int)%4))=((24 - 8* (k%4):Nat):Int) from by omega,Hi,UInt64.toNat_ofNat',Nat.mod_eq_of_lt (by omega)]
   rw[e,←EM];rfl
  ·have vb:k=32:=by omega
   subst vb
   first|with_reducible refine ks [] @f4 ?_|refine kp @f4 ?_
   refine⟨_,(ke @f4),⟨aF,bH,gI,trivial⟩, ?_⟩
   rfl
end Go.Proofs
end
namespace Go.Dig
open Go.Sx
structure Inv (s:Hs) (p:List UInt8):Prop where
 ok:s.Ok
 st:s.st=kj initL p (p.length / 64)
 many:s.many=p.length%64
 rest:s.rest.take s.many=p.drop (64* (p.length / 64))
theorem Inv.put {s:Hs} {p:List UInt8} (h:Inv s p) (x:UInt8):Inv (eX s x) (p++ [x]):=by
 obtain⟨bX,bF,sT,oY⟩:=h
 have hk:=qI x bX
 have X4:=bX.many
 have lQ:=bX.rest
 have dN:64* (p.length / 64)≤p.length:=by omega
 have sX: (s.rest.set s.many x).take (s.many+1)=p.drop (64* (p.length / 64))++ [x]:=by
  rw[List.take_add_one,List.take_set,←oY]
  congr 1
  ·rw[List.set_eq_of_length_le (by simp only[List.length_take];exact Nat.min_le_left _ _)]
  ·simp[lQ,X4]
 have aL: (p++ [x]).length=p.length+1:=by simp
 have hc:kj initL (p++ [x]) (p.length / 64)=kj initL p (p.length / 64):=JF _ _ _ _ dN
 by_cases li:s.many+1=64
 ·have e:eX s x=⟨comp s.st (s.rest.set s.many x),s.rest.set s.many x,0⟩:=by unfold eX;rw[if_pos li]
  have hd: (p.length+1) / 64=p.length / 64+1:=by omega
  have hr: (s.rest.set s.many x)=p.drop (64* (p.length / 64))++ [x]:=by
   rw[←sX,li,List.take_of_length_le (by simp[lQ])]
  refine⟨hk, ?_, ?_, ?_⟩
  ·rw[e,aL,hd]
   show comp s.st _=comp (kj initL (p++ [x]) (p.length / 64)) _
   rw[hc,←bF,hr,List.drop_append_of_le_length dN,List.take_of_length_le (by simp;omega)]
  ·rw[e,aL];show 0=_;omega
  ·rw[e,aL]
   show List.take 0 _=_
   rw[List.take_zero,List.drop_of_length_le (by rw[aL];omega)]
 ·have e:eX s x=⟨s.st,s.rest.set s.many x,s.many+1⟩:=by unfold eX;rw[if_neg li]
  have hd: (p.length+1) / 64=p.length / 64:=by omega
  refine⟨hk, ?_, ?_, ?_⟩
  ·rw[e,aL,hd,hc];exact bF
  ·rw[e,aL];show s.many+1=_;omega
  ·rw[e,aL,hd]
   show List.take (s.many+1) (s.rest.set s.many x)=_
   rw[sX,List.drop_append_of_le_length dN]
theorem Inv.puts {s:Hs} {p:List UInt8} (h:Inv s p) (l:List UInt8):Inv (dR s l) (p++l):=by
 induction l generalizing s p with
 |nil=>rw[List.append_nil];exact h
 |cons x r ih=>
  have:=ih (h.put x)
  rw[List.append_assoc] at this
  exact this
theorem Inv.zero:Inv H0 []:=⟨Ce,rfl,rfl,rfl⟩
theorem RD (p:List UInt8): (dR H0 p).st=kj initL p (p.length / 64):=(Inv.zero.puts p).st
theorem P9 (l:List (List UInt8)) (n:Nat):mn (UInt64.ofNat n) l=UInt64.ofNat (n+l.flatten.length):=by
 induction l generalizing n with
 |nil=>rfl
 |cons a r ih=>
  show mn (UInt64.ofNat n+UInt64.ofNat a.length) r=_
  rw[←UInt64.ofNat_add,ih,List.flatten_cons,List.length_append,Nat.add_assoc]
theorem Sp (m:List UInt8):hsum (dR H0 m) (UInt64.ofNat m.length)=shaR m:=by
 unfold hsum shaR
 rw[←RD]
 suffices h:qZ (dR H0 m) (UInt64.ofNat m.length)=dR H0 (padR m) by rw[h]
 have sT: (eX (dR H0 m) 128).many=(m.length+1)%64:=by
  have:=((Inv.zero.puts m).put 128).many
  rw[this];simp
 unfold qZ padR
 rw[sT,xk,xk,xk,show dR (dR H0 m) [128]=eX (dR H0 m) 128 from rfl]
theorem sumV_eq (l:List (List UInt8)):sumV l=shaR l.flatten:=by
 unfold sumV
 have:=P9 l 0
 rw[Nat.zero_add] at this
 rw[show(0:UInt64)=UInt64.ofNat 0 from rfl,this,Sp]
end Go.Dig
section
open Go Go.Proofs Go.Sx Go.StP
namespace Go.Proofs
set_option maxRecDepth 10000
set_option maxHeartbeats 400000
set_option linter.unusedSimpArgs false
theorem GlobE.new {w0 w:World} {L:aA} (hg:GlobE w0) (h:Hp w0 L w) (hn:New w0.heap.size L):GlobE w:=by
 obtain⟨e0,e1,f0,f1,h0,h1⟩:=id hg
 have:4<w0.heap.size:=(Array.getElem?_eq_some_iff.1 h1).1
 exact hg.of h fun b hb=>by have:=hn.le b hb;omega
theorem YY {k:Int} {t:List UInt8} (h:bS k t=true): (dk k t).length<100000:=by
 obtain⟨h1,h2,h3⟩:=wi h
 have hh: (jx k).length≤4:=by unfold jx;simp only[List.length_drop,List.length_take,List.length_cons,List.length_nil];omega
 have:=nY (t.length:Int)
 unfold dk eo
 rw[List.length_append,List.length_append]
 omega
theorem rW (m:List UInt8): (Dig.shaR m).length=32:=Dig.outPre_length _ _
set_option linter.defProp false
def cG:=And.intro (And.intro (And.intro (@jV) (@jY)) (And.intro (@jX) (@jW))) (And.intro (And.intro (@Sx.tup2_0) (@Sx.tup2_1)) (And.intro (@ay) (@ax)))
def idV (k:Int) (t:List UInt8):IdL:=if bS k t then⟨Dig.shaR (dk k t),rW _⟩ else id0
theorem Oa:fW (cg Tryz.prog 84) (am Tryz.prog 84) []=some (.agg (a8 id0.l)):=id (by kernel_rfl)
theorem Ax (k:Int) (t:List UInt8) (w:World) (hG:GlobE w):Rets Tryz.prog 104 #[obV k t] w (fun v D=>v= .tuple #[.agg (a8 (idV k t).l), .bool (bS k t)]∧D= []):=by
 refine Rets.enterV Tryz.func104 rfl (rs:= [.cell 2 84, .tmp 3]) Tryz.results104 Tryz.ntmps104 ?_
 refine kf ?_
 first|with_reducible refine ks [] @cG ?_|refine kp @cG ?_
 refine Ow.box rfl rfl fun b1 aQ aF=> ?_
 simp only[d9,cu,d8,aV,List.nil_append]
 refine ko @cG ?_
 refine Ow.alloc rfl rfl iV fun b2 aZ bH=> ?_
 simp only[aV,List.nil_append,List.cons_append]
 have n4:b1<b2:=ae aZ (by simp[keys])
 have r6:=id0.h
 refine ko @cG ?_
 refine Ow.callC rfl rfl Tryz.call99 (fun w' aB=>YG k t w') (fun B v D hA hB hN hS=> ?_)
 have hD:New w.heap.size D:=New.mono hB hN
 unfold idV
 cases hr:bS k t
 ·rw[hr,if_neg (by decide)] at hS
  subst hS
  have e: ((1:Int) !=0)=true:=rfl
  refine ko @cG ?_
  first|with_reducible refine ks [] (And.intro @cG @e) ?_|refine kp (And.intro @cG @e) ?_
  refine Ow.build (.agg (a8 id0.l)) rfl Oa ?_
  refine ko @cG ?_
  first|with_reducible refine ks [] @cG ?_|refine kp @cG ?_
  refine⟨_,(ke @cG),⟨aF,bH,hD⟩, ?_⟩
  rfl
 ·rw[hr,if_pos rfl] at hS
  subst hS
  have e: ((0:Int) !=0)=false:=rfl
  have fv:=YY hr
  have hzl: ∀i,i< [dk k t].length→([dk k t].getD i []).length<1099511627776:=fun i hi=>by
   obtain rfl:i=0:=by simpa using hi
   show(dk k t).length<_;omega
  refine ko @cG ?_
  first|with_reducible refine ks [] (And.intro @cG @e) ?_|refine kp (And.intro @cG @e) ?_
  refine Ow.buildSlice (e:=9) #[vs (dk k t)] rfl rfl (by kernel_rfl) fun b15 DD rQ=> ?_
  refine ko @cG ?_
  refine Ow.callFV rfl Tryz.call143 (fun w' aB=>Q2 _ b15 0 [dk k t] _ _ _ w' (hG.new aB (by exact⟨aF,bH,New.app hD ⟨rQ,trivial⟩⟩)) (StrS.lit [dk k t] rfl rfl (aB.has _ (.cells #[vs (dk k t)] 9 (0,0)) (by simp))) (by show(1:Nat)<1099511627776;omega) hzl) ?_
  rw[Dig.sumV_eq,show([dk k t]:List (List UInt8)).flatten=dk k t by simp]
  have cN:=rW (dk k t)
  refine ko @cG ?_
  first|with_reducible refine ks [] @cG ?_|refine kp @cG ?_
  refine⟨_,(ke @cG),⟨aF,bH,hD.app ⟨rQ,trivial⟩⟩, ?_⟩
  rfl
def m5 (k:Int) (t:List UInt8):List UInt8:=(if k=3 then [99] else if k=2 then [116] else [98])++eo t
theorem Eb {k:Int} {t:List UInt8} (h:bS k t=true):m5 k t=dk k t:=by
 obtain⟨h1,h2,-⟩:=wi h
 unfold m5 dk
 rcases(show k=1∨k=2∨k=3 by omega) with rfl|rfl|rfl<;>rfl
theorem K9 (k:Int) (t:List UInt8) (w:World) (ht:t.length<100000):Rets Tryz.prog 111 #[obV k t] w (fun v D=>v=vs (m5 k t)∧D= []):=by
 have tl:=xc (s:=t) (by omega)
 refine Rets.enterV Tryz.func111 rfl (rs:= [.tmp 2]) Tryz.results111 Tryz.ntmps111 ?_
 refine kf ?_
 first|with_reducible refine ks [] @cG ?_|refine kp @cG ?_
 refine Ow.box rfl rfl fun b1 aQ aF=> ?_
 simp only[d9,cu,d8,aV,List.nil_append]
 unfold m5
 by_cases h3:k=3
 ·have e2: (k==2)=false:=beq_eq_false_iff_ne.2 (by omega)
  have e3: (k==3)=true:=by simp[h3]
  rw[if_pos h3]
  refine ko (And.intro @cG (And.intro @e2 (@e3))) ?_
  first|with_reducible refine ks [] (And.intro @cG (And.intro @e2 (@e3))) ?_|refine kp (And.intro @cG (And.intro @e2 (@e3))) ?_
  refine Ow.callFV rfl Tryz.call154 (fun w' aB=>EQ t w' (by omega)) ?_
  refine ko @cG ?_
  first|with_reducible refine ks [] @cG ?_|refine kp @cG ?_
  refine⟨_,(ke @cG),⟨aF,trivial⟩, ?_⟩
  rfl
 ·have e3: (k==3)=false:=by simpa using h3
  rw[if_neg h3]
  by_cases h2:k=2
  ·have e2: (k==2)=true:=by simp[h2]
   rw[if_pos h2]
   refine ko (And.intro @cG (And.intro @e2 (@e3))) ?_
   first|with_reducible refine ks [] (And.intro @cG (And.intro @e2 (@e3))) ?_|refine kp (And.intro @cG (And.intro @e2 (@e3))) ?_
   refine Ow.callFV rfl Tryz.call154 (fun w' aB=>EQ t w' (by omega)) ?_
   refine ko @cG ?_
   first|with_reducible refine ks [] @cG ?_|refine kp @cG ?_
   refine⟨_,(ke @cG),⟨aF,trivial⟩, ?_⟩
   rfl
  ·have e2: (k==2)=false:=by simpa using h2
   rw[if_neg h2]
   refine ko (And.intro @cG (And.intro @e2 (@e3))) ?_
   first|with_reducible refine ks [] (And.intro @cG (And.intro @e2 (@e3))) ?_|refine kp (And.intro @cG (And.intro @e2 (@e3))) ?_
   refine Ow.callFV rfl Tryz.call154 (fun w' aB=>EQ t w' (by omega)) ?_
   refine ko @cG ?_
   first|with_reducible refine ks [] @cG ?_|refine kp @cG ?_
   refine⟨_,(ke @cG),⟨aF,trivial⟩, ?_⟩
   rfl
theorem xm (k:Int) (t:List UInt8) (w:World) (ht:t.length<100000):Rets Tryz.prog 55 #[obV k t] w (fun v D=>v= .agg (a8 (Dig.shaR (m5 k t)))∧D= []):=by
 have tl:=xc (s:=t) (by omega)
 have fl: (m5 k t).length<1099511627776:=by
  have nl:=nY (t.length:Int)
  unfold m5 eo;rw[List.length_append,List.length_append]
  have: ((if k=3 then [99] else if k=2 then [116] else [98]:List UInt8)).length=1:=by split<;>(try split)<;>rfl
  omega
 have cN:=rW (m5 k t)
 refine Rets.enterV Tryz.func55 rfl (rs:= [.cell 2 84]) Tryz.results55 Tryz.ntmps55 ?_
 refine kf ?_
 first|with_reducible refine ks [] @cG ?_|refine kp @cG ?_
 refine Ow.box rfl rfl fun b1 aQ aF=> ?_
 simp only[d9,cu,d8,aV,List.nil_append]
 refine ko @cG ?_
 refine Ow.alloc rfl rfl iV fun b2 aZ bH=> ?_
 simp only[aV,List.nil_append,List.cons_append]
 have n4:b1<b2:=ae aZ (by simp[keys])
 have r6:=id0.h
 refine ko @cG ?_
 refine Ow.callFV rfl Tryz.call111 (fun w' aB=>K9 k t w' ht) ?_
 refine ko @cG ?_
 refine Ow.callFV rfl Tryz.call110 (fun w' aB=>Ly _ fl w') ?_
 refine ko @cG ?_
 first|with_reducible refine ks [] @cG ?_|refine kp @cG ?_
 refine⟨_,(ke @cG),⟨aF,bH,trivial⟩, ?_⟩
 rfl
end Go.Proofs
end
section
open Go Go.Proofs Go.Sx Go.StP Go.Flo
namespace Go.Proofs
set_option maxRecDepth 10000
set_option maxHeartbeats 400000
set_option linter.unusedSimpArgs false
structure ObL where
 k:Int
 t:List UInt8
def ob0:ObL:=⟨0,[]⟩
def obC (o:ObL):List Value:= [vi o.k,vs o.t]
theorem la (o:ObL): (obC o).length=2:=rfl
theorem tG (o:ObL): (obC o).all Value.oneCell'=true:=rfl
def jZ (s:List UInt8):ObL:=⟨if eu s then frK s else 0,if eu s then(frT s).1 else []⟩
def idOf (s:List UInt8):IdL:=idV (jZ s).k (jZ s).t
def C6:List (List UInt8)→List IdL→List ObL→Option (List IdL×List ObL)
 | [],ids,os=>some (ids,os)
 |s::r,ids,os=>if eu s=true∧(ids.any fun y=>(idOf s).l==y.l)=false then C6 r (ids++ [idOf s]) (os++ [jZ s]) else none
def kw (l:List PartL):Option (List IdL×List ObL):=match allV l with
 | .ok ts=>C6 ts [] []
 | .error _=>none
end Go.Proofs
end
section
open Go Go.Proofs Go.Sx
namespace Go.Proofs
set_option maxRecDepth 10000
set_option maxHeartbeats 4000000
set_option linter.unusedSimpArgs false
def hvL:List UInt32:= [0x00000000,0x1db71064,0x3b6e20c8,0x26d930ac,0x76dc4190,0x6b6b51f4,0x4db26158,0x5005713c,0xedb88320,0xf00f9344,0xd6d6a3e8,0xcb61b38c,0x9b64c2b0,0x86d3d2d4,0xa00ae278,0xbdbdf21c]
def ni (n:UInt32):UInt32:=eN n 4^^^hvL.getD (n&&&15).toNat 0
def mM (n:UInt32):Nat→UInt32
 |0=>n
 |k+1=>ni (mM n k)
def mI (n:UInt32) (b:UInt8):UInt32:=mM (n^^^UInt32.ofNat b.toNat) 2
theorem OU (n:UInt32): (n&&&15).toNat<16:=by
 rw[UInt32.toNat_and]
 exact Nat.lt_of_le_of_lt Nat.and_le_right (by decide)
def GlobC (w:World):Prop:= ∃e f,w.heap[(2:Nat)]? =some (.cells (a32 hvL) e f)
theorem GlobC.of {w w':World} {L:aA} (h:GlobC w) (hw:Hp w L w') (hn: (2:Nat)∉keys L):GlobC w':=by
 obtain⟨e,f,h⟩:=h
 exact⟨e,f,by rw[hw.old _ (Array.getElem?_eq_some_iff.1 h).1 hn];exact h⟩
theorem TJ:hvL.length=16:=rfl
set_option linter.defProp false
def bh:=And.intro (And.intro (@ay) (@wR)) (And.intro (@wP) (And.intro (@wK) (@ax)))
theorem Nn (n:UInt32) (b:UInt8) (w:World) (hG:GlobC w):
  Rets Tryz.prog 206 #[v32 n,v8 b] w (fun v D=>v=v32 (mI n b)∧D= []):=by
 obtain⟨e,f,E6⟩:=hG
 refine Rets.enterV Tryz.func206 rfl (rs:= [.tmp 4]) Tryz.results206 Tryz.ntmps206 ?_
 refine kf ?_
 first|with_reducible refine ks [] @bh ?_|refine kp @bh ?_
 unfold mI
 generalize n^^^UInt32.ofNat b.toNat=m
 rw[show v32 m=v32 (mM m 0) from rfl]
 refine Cw.loopG (G:=Nat) [10,11,12,13,14,15,16,17,0,18,9] (fun g=> [(0,v32 (mM m g)),(9,vi g)]) (fun g=> []) (fun g=>g≤2) (fun g=>2 - g) 0 rfl rfl ?_ ?_
 ·omega
 intro g j hg
 refine kv ?_
 by_cases aD:g<2
 ·have Vr:=OU (mM m g)
  have hl:=TJ
  first|with_reducible refine ks [] (And.intro @bh @E6) ?_|refine kp (And.intro @bh @E6) ?_
  refine Again.mk (g+1) (by omega) (by omega) rfl rfl
 ·obtain rfl:g=2:=by omega
  first|with_reducible refine ks [] @bh ?_|refine kp @bh ?_
  refine⟨_,(ke @bh),trivial, ?_⟩
  rfl
def ij (n:UInt32) (s:List UInt8):UInt32:=s.foldl mI n
theorem yJ (n:UInt32) (s:List UInt8) (g:Nat) (h:g<s.length):ij n (s.take (g+1))=mI (ij n (s.take g)) (s.getD g 0):=by
 unfold ij
 rw[List.take_succ_eq_append_getElem h,List.foldl_append,List.getD_eq_getElem?_getD,List.getElem?_eq_getElem h]
 rfl
theorem OR (n:UInt32) (s:List UInt8) (w:World) (hG:GlobC w) (hs:s.length<1099511627776):
  Rets Tryz.prog 173 #[v32 n,vs s] w (fun v D=>v=v32 (~~~ (ij (~~~ n) s))∧D= []):=by
 refine Rets.enterV Tryz.func173 rfl (rs:= [.tmp 4]) Tryz.results173 Tryz.ntmps173 ?_
 refine kf ?_
 first|with_reducible refine ks [] @bh ?_|refine kp @bh ?_
 rw[show v32 (~~~ n)=v32 (ij (~~~ n) (s.take 0)) from rfl]
 refine Cw.loopG (G:=Nat) [12,13,6,14,15,16,17,18,5,19,11] (fun g=> [(5,v32 (ij (~~~ n) (s.take g))),(11,vi g)]) (fun g=> []) (fun g=>g≤s.length) (fun g=>s.length - g) 0 rfl rfl ?_ ?_
 ·omega
 intro g j hg
 refine kv ?_
 by_cases aD:g<s.length
 ·first|with_reducible refine ks [] @bh ?_|refine kp @bh ?_
  refine Ow.callFV rfl Tryz.call206 (fun w' aB=>Nn _ _ w' (GlobC.of hG aB (by simp[keys]))) ?_
  refine ko @bh ?_
  first|with_reducible refine ks [] @bh ?_|refine kp @bh ?_
  refine Again.mk (g+1) (by omega) (by omega) rfl ?_
  rw[yJ _ _ _ aD]
  rfl
 ·obtain rfl:g=s.length:=by omega
  first|with_reducible refine ks [] @bh ?_|refine kp @bh ?_
  rw[List.take_length]
  refine⟨_,(ke @bh),trivial, ?_⟩
  rfl
def crcV (s:List UInt8):UInt32:= ~~~ (ij (~~~ (0:UInt32)) s)
theorem Q3 (b:Nat) (s:List UInt8) (E:TypeId) (w:World) (hG:GlobC w) (hs:s.length<1099511627776) (ho:w.heap[b]? =some (.cells #[vs s] E (0,0))):
  Rets Tryz.prog 136 #[vsl b 0 1 1] w (fun v D=>v=v32 (crcV s)∧D= []):=by
 have hS:StrS w (vsl b 0 1 1) [s] b 0 #[vs s] E (0,0):=StrS.lit [s] rfl rfl ho
 refine Rets.enterV Tryz.func136 rfl (rs:= [.tmp 2]) Tryz.results136 Tryz.ntmps136 ?_
 refine kf ?_
 first|with_reducible refine ks [] @bh ?_|refine kp @bh ?_
 refine Cw.loopG (G:=Nat) [9,10,11,5,12,13,14,3,15,8] (fun g=> [(3,v32 (if g=0 then 0 else crcV s)),(8,vi g)]) (fun g=> []) (fun g=>g≤1) (fun g=>1 - g) 0 rfl rfl ?_ ?_
 ·omega
 intro g j hg
 refine kv ?_
 by_cases aD:g<1
 ·obtain rfl:g=0:=by omega
  have rB:=hS.get 0 (by simp)
  have bY:=hS.has (by simp)
  have Fw:=fun m=>hS.idx m 0 (by simp)
  ((try with_reducible refine Cw.go [] ?_);(try simp(disch:=(first|assumption|omega| (simp only[cT,cS,UInt64.reduceToNat];try omega))) only[↓Sx.S0,Sx.S1,Tryz.fx,bh,Nat.reduceAdd,Nat.reducePow,Int.reducePow,Nat.reduceBEq, ↓reduceIte,UInt8.reduceToNat,UInt16.reduceToNat,UInt32.reduceToNat,UInt64.reduceToNat,Int.reduceToNat,Sx.loadV_one,bY,rB,Fw]))
  refine Ow.callFV rfl Tryz.call173 (fun w' aB=>OR 0 s w' (GlobC.of hG aB (by simp[keys])) hs) ?_
  refine ko @bh ?_
  first|with_reducible refine ks [] @bh ?_|refine kp @bh ?_
  refine Again.mk 1 (by omega) (by omega) rfl rfl
 ·obtain rfl:g=1:=by omega
  first|with_reducible refine ks [] @bh ?_|refine kp @bh ?_
  refine⟨_,(ke @bh),trivial, ?_⟩
  rfl
def tI (n:UInt32) (g:Nat):List UInt8:=(List.range 4).map fun j=>if j<g then UInt8.ofNat (eN n (8*j)).toNat else 0
def sum4 (n:UInt32):List UInt8:=tI n 4
theorem Yx (n:UInt32) (g:Nat): (tI n g).length=4:=by simp[tI]
theorem KD (n:UInt32) (g:Nat) (h:g<4): (tI n g).set g (UInt8.ofNat (eN n (8*g)).toNat)=tI n (g+1):=by
 have:g=0∨g=1∨g=2∨g=3:=by omega
 rcases this with rfl|rfl|rfl|rfl<;>rfl
def kl (s:List UInt8):List UInt8:=s++sum4 (crcV s)
theorem yd (s:List UInt8) (w:World) (hG:GlobC w) (hs:s.length<1099511627776):
  Rets Tryz.prog 100 #[vs s] w (fun v D=>v=vs (kl s)∧D= []):=by
 have x6: (2:Nat)<w.heap.size:=by obtain⟨e,f,h⟩:=hG;exact(Array.getElem?_eq_some_iff.1 h).1
 refine Rets.enterV Tryz.func100 rfl (rs:= [.tmp 2]) Tryz.results100 Tryz.ntmps100 ?_
 refine kf ?_
 first|with_reducible refine ks [] @bh ?_|refine kp @bh ?_
 refine Ow.buildSlice (e:=9) #[vs s] rfl rfl (by kernel_rfl) fun b1 aQ aF=> ?_
 refine ko @bh ?_
 refine Ow.callFV rfl Tryz.call136 (fun w' aB=>Q3 b1 s _ w' (GlobC.of hG aB (by simp[keys];omega)) hs (aB.has _ _ List.mem_cons_self)) ?_
 refine ko @bh ?_
 first|with_reducible refine ks [] @bh ?_|refine kp @bh ?_
 unfold kl
 generalize crcV s=n
 refine Ow.alloc rfl rfl Tryz.zr209 fun b2 aZ bH=> ?_
 obtain⟨n4,-⟩:=aZ
 refine ko @bh ?_
 first|with_reducible refine ks [] @bh ?_|refine kp @bh ?_
 rw[show a8 (List.replicate 4 0)=a8 (tI n 0) from rfl]
 refine Cw.loopG (G:=Nat) [10,11,5,12,13,14,15,16,17,18,19,9] (fun g=> [(9,vi g)]) (fun g=> [(b1, .cells #[vs s] 9 (0,0)),(b2, .cells (a8 (tI n g)) 209 (0,0))]) (fun g=>g≤4) (fun g=>4 - g) 0 rfl rfl ?_ ?_
 ·omega
 intro g j hg
 refine kv ?_
 have gG:=Yx n g
 by_cases aD:g<4
 ·first|with_reducible refine ks [] @bh ?_|refine kp @bh ?_
  refine Again.mk (g+1) (by omega) (by omega) ?_ rfl
  rw[KD n g aD]
 ·obtain rfl:g=4:=by omega
  first|with_reducible refine ks [] @bh ?_|refine kp @bh ?_
  refine⟨_,(ke @bh),⟨aF,bH,trivial⟩, ?_⟩
  rw[List.drop_zero,List.take_of_length_le (by omega)];rfl
def dX (s:List UInt8):List UInt8×Bool:=
 if s.length<4 then([],false) else if kl (s.take (s.length - 4))=s then(s.take (s.length - 4),true) else([],false)
theorem Hr (s:List UInt8): (kl s).length=s.length+4:=by unfold kl sum4;rw[List.length_append,Yx]
theorem Ib (s:List UInt8) (w:World) (hG:GlobC w) (hs:s.length<1099511627776):
  Rets Tryz.prog 101 #[vs s] w (fun v D=>v= .tuple #[vs (dX s).1, .bool (dX s).2]∧D= []):=by
 refine Rets.enterV Tryz.func101 rfl (rs:= [.tmp 2, .tmp 3]) Tryz.results101 Tryz.ntmps101 ?_
 refine kf ?_
 first|with_reducible refine ks [] @bh ?_|refine kp @bh ?_
 unfold dX
 by_cases h4:s.length<4
 ·have e1:decide ((s.length:Int)<4)=true:=decide_eq_true (by omega)
  rw[if_pos h4]
  first|with_reducible refine ks [] (And.intro @bh @e1) ?_|refine kp (And.intro @bh @e1) ?_
  refine⟨_,(ke @bh),trivial, ?_⟩
  rfl
 ·have e1:decide ((s.length:Int)<4)=false:=decide_eq_false (by omega)
  have e2: ((s.length:Int) - 4).toNat=s.length - 4:=by omega
  rw[if_neg h4]
  first|with_reducible refine ks [] (And.intro @bh (And.intro @e1 (@e2))) ?_|refine kp (And.intro @bh (And.intro @e1 (@e2))) ?_
  refine Ow.callFV rfl Tryz.call100 (fun w' aB=>yd (s.take (s.length - 4)) w' (GlobC.of hG aB (by simp[keys])) (by rw[List.length_take];omega)) ?_
  refine ko @bh ?_
  cases hq: (kl (s.take (s.length - 4)) !=s)
  ·rw[if_pos (by simpa using hq)]
   first|with_reducible refine ks [] (And.intro @bh (And.intro @hq (@e2))) ?_|refine kp (And.intro @bh (And.intro @hq (@e2))) ?_
   refine⟨_,(ke @bh),trivial, ?_⟩
   rfl
  ·rw[if_neg (by simpa using hq)]
   first|with_reducible refine ks [] (And.intro @bh @hq) ?_|refine kp (And.intro @bh @hq) ?_
   refine⟨_,(ke @bh),trivial, ?_⟩
   rfl
end Go.Proofs
end
section
open Go Go.Proofs Go.Sx Go.StP Go.Flo
namespace Go.Proofs
set_option maxRecDepth 10000
set_option maxHeartbeats 400000
set_option linter.unusedSimpArgs false
def magB:List UInt8:= [83,80,75,49]
def s7 (s:List UInt8) (i a:Nat) (e:Int):PartL×Nat×Int:=
 (⟨decide (0< (aE s a e 200).1),if 0< (aE s a e 200).1 then(i:Int) - (aE s a e 200).1 else 0,(an s (aE s a e 200).2.1 (aE s a e 200).2.2 65536).1⟩,(an s (aE s a e 200).2.1 (aE s a e 200).2.2 65536).2)
def kQ (s:List UInt8):Nat→Nat→Nat→Int→List PartL×List Nat×Nat×Int
 |0,_,a,e=>([],[],a,e)
 |k+1,i,a,e=>if(s7 s i a e).2.2=0 then((s7 s i a e).1:: (kQ s k (i+1) (s7 s i a e).2.1 0).1,a:: (kQ s k (i+1) (s7 s i a e).2.1 0).2.1,(kQ s k (i+1) (s7 s i a e).2.1 0).2.2) else([],[],(s7 s i a e).2)
def gu (s:List UInt8):Int×Bool×Nat×Int:=
 if(az s 0 0 4).1=magB then((aE s (az s 0 0 4).2.1 (az s 0 0 4).2.2 200).1,(aE s (az s 0 0 4).2.1 (az s 0 0 4).2.2 200).2.2==0,(aE s (az s 0 0 4).2.1 (az s 0 0 4).2.2 200).2) else(0,false,(az s 0 0 4).2)
def ic (s:List UInt8):List PartL×List Nat×Nat×Int:=kQ s (gu s).1.toNat 0 (gu s).2.2.1 (gu s).2.2.2
instance:DecidableEq ObL:=fun a b=>if h:a.k=b.k∧a.t=b.t then .isTrue (by cases a;cases b;simp only at h;obtain⟨rfl,rfl⟩:=h;rfl) else .isFalse (fun e=>h (by rw[e];exact⟨rfl,rfl⟩))
def mp (l:List PartL):Nat→List ObL
 |0=> []
 |k+1=>match partV l (k:Nat) with
  | .ok s=>if eu s=true∧jZ s∉mp l k then mp l k++ [jZ s] else mp l k
  | .error _=>mp l k
def ir (b:List UInt8):List ObL:=if(gu b).2.1=true then mp (ic b).1 (ic b).1.length else []
end Go.Proofs
end
