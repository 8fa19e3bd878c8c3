/-
  Part 2 of the walk: contracts of the functions that the law reaches, and the calculus they stand on.
  No conditions.
-/
import Derived.Test.YtjjiclcgdngfdaaGreatDoorL1
import Derived.Lib.Small
import Derived.Lib.Walk
import Derived.Lib.Bytealg
import Derived.Deep.Draws
import Derived.Deep.QuietTactic
import Derived.Lib.Strings
import GoSem.Core.Float
import Derived.Laws.MakeOwn
section
open Go Go.Proofs Go.Sx Go.StP
namespace Go.Proofs
set_option maxRecDepth 10000
set_option maxHeartbeats 4000000
set_option linter.unusedSimpArgs false
set_option linter.defProp false
def k6_:=And.intro (And.intro (And.intro (@kp_) (@vu_)) (And.intro (@vi_) (@jq_))) (And.intro (And.intro (@qj_) (@qp_)) (And.intro (@zc_) (@zb_)))
theorem akz_ (a b:List UInt8): (Op.bytesLess a b||a==b)= !ltB b a:=by rw[←ark_,Bool.not_not]
theorem VK_ (v:Value) (l:List EntL) (w:World) (hv:EntS w v l) (hl:l.length<1000000) (hsh:ab0_ l):
  Rets Tryz.prog 148 #[v] w (fun v' D=>v'= .bool (kt_ l)∧D= []):=by
 obtain⟨b,off,arr,E,fz,hr⟩:=hv.row
 have ln:=hv.len
 refine Rets.enterV Tryz.func148 rfl (rs:= [.tmp 2]) Tryz.results148 Tryz.ntmps148 ?_
 refine kf ?_
 by_cases h32:32<l.length
 ·first|with_reducible refine ks [] (And.intro @k6_ @ln) ?_|refine kp (And.intro @k6_ @ln) ?_
  have:kt_ l=false:=by unfold kt_;rw[decide_eq_false (by omega),Bool.false_and]
  rw[this]
  refine⟨_,(ke @k6_),trivial, ?_⟩
  rfl
 ·first|with_reducible refine ks [] (And.intro @k6_ @ln) ?_|refine kp (And.intro @k6_ @ln) ?_
  refine Cw.loopG (G:=Nat) [7,8,9,10,13,14,15,16,17,18,19,20,21,22,23,24,25,26,27,28,29,30,31,32,33,34,35,2,36,37,38,39,40,41,42,43,44,45,46,47,48,49,50,51,11,12,3] (fun g=> [(3,vi g)]) (fun g=> []) (fun g=>g≤l.length∧ ∀i,i<g→jz_ l i=true) (fun g=>l.length - g) 0 rfl rfl ?_ ?_
  ·exact⟨Nat.zero_le _,fun i hi=>absurd hi (Nat.not_lt_zero i)⟩
  ·intro k jk hk
   refine kv ?_
   obtain⟨h1,h2⟩:=hk
   by_cases hk:k<l.length
   ·have h0:0<l.length:=by omega
    have hbl:=hr.lt h0
    have r2:=hr.has h0
    have i2:=hr.idx true k hk
    have m0: ∀n,zo_ (some (false,n)) (some (.cells arr E fz)) (off+k*34)=some (vs (l.getD k jM_).name):=fun n=>Qt_ hr hk n
    have m1: ∀n,zo_ (some (false,n)) (some (.cells arr E fz)) (off+k*34+1)=some (vi (l.getD k jM_).kind):=fun n=>ahk_ hr hk n
    have hs:=hsh k hk
    first|with_reducible refine ks [] (And.intro @k6_ (And.intro @ln (And.intro @r2 (And.intro @i2 (And.intro @m0 (@m1)))))) ?_|refine kp (And.intro @k6_ (And.intro @ln (And.intro @r2 (And.intro @i2 (And.intro @m0 (@m1)))))) ?_
    refine Ow.callFV rfl Tryz.call183 (fun w' hw'=>abU_ (l.getD k jM_).name w' hs) ?_
    cases hn:abX_ (l.getD k jM_).name
    ·have e0:jz_ l k=false:=by unfold jz_;rw[hn];rfl
     rw[xK_ hk e0]
     refine ko @k6_ ?_
     refine⟨_,(ke @k6_),trivial, ?_⟩
     rfl
    ·cases hk1:decide ((l.getD k jM_).kind<1)
     ·cases hk2:decide (2< (l.getD k jM_).kind)
      ·have hkk: ((l.getD k jM_).kind==1|| (l.getD k jM_).kind==2)=true:=by
        have q1:=of_decide_eq_false hk1
        have q2:=of_decide_eq_false hk2
        rcases(show(l.getD k jM_).kind=1∨(l.getD k jM_).kind=2 by omega) with h|h<;>rw[h]<;>rfl
       refine ko (And.intro @k6_ (And.intro @r2 (And.intro @i2 (And.intro @m0 (And.intro @m1 (And.intro @hk1 (@hk2))))))) ?_
       by_cases h0k:k=0
       ·have d1:decide ((0:Int)< (k:Int))=false:=decide_eq_false (by omega)
        have e1:jz_ l k=true:=by unfold jz_;rw[hn,hkk,h0k];rfl
        refine Cw.regionS [b] [0,1,2,3,4,5,6,8,9,10,11,12,7,13,14,15] [] (by kernel_rfl) (by kernel_rfl) (by kernel_rfl) ?_
        simp only[zp_, ↓zi_, ↓ze_, ↓zA_, ↓zz_,zf_]
        refine kq (And.intro @k6_ @d1) ?_
        exact Again.mk (k+1) (by omega) ⟨by omega,fun i hi=>by
         rcases Nat.lt_succ_iff_lt_or_eq.1 hi with h|rfl
         ·exact h2 i h
         ·exact e1⟩ rfl rfl
       ·have d1:decide ((0:Int)< (k:Int))=true:=decide_eq_true (by omega)
        have i3:qi_ (.sl (true,34)) v (some ((k:Int) - 1))=some (vp b (off+ (k - 1)*34)):=by
         rw[show(k:Int) - 1=((k - 1:Nat):Int) by omega];exact hr.idx true (k - 1) (by omega)
        have l3: ∀n,zo_ (some (false,n)) (some (.cells arr E fz)) (off+ (k - 1)*34)=some (vs (l.getD (k - 1) jM_).name):=fun n=>Qt_ hr (show k - 1<l.length by omega) n
        have ek: (k==0)=false:=beq_eq_false_iff_ne.2 h0k
        cases hl3:ltB (l.getD (k - 1) jM_).name (l.getD k jM_).name
        ·have e1:jz_ l k=false:=by unfold jz_;rw[hn,hkk,ek];exact hl3
         rw[xK_ hk e1]
         refine Cw.regionS [b] [0,1,2,3,4,5,6,8,9,10,11,12,7,13,14,15] [] (by kernel_rfl) (by kernel_rfl) (by kernel_rfl) ?_
         simp only[zp_, ↓zi_, ↓ze_, ↓zA_, ↓zz_,zf_]
         refine kq (And.intro @k6_ (And.intro @d1 (And.intro @i2 (And.intro @i3 (And.intro @r2 (And.intro @m0 (And.intro @l3 (And.intro @akz_ (@hl3))))))))) ?_
         refine⟨_,(ke @k6_),trivial, ?_⟩
         rfl
        ·have e1:jz_ l k=true:=by unfold jz_;rw[hn,hkk,ek];exact hl3
         refine Cw.regionS [b] [0,1,2,3,4,5,6,8,9,10,11,12,7,13,14,15] [] (by kernel_rfl) (by kernel_rfl) (by kernel_rfl) ?_
         simp only[zp_, ↓zi_, ↓ze_, ↓zA_, ↓zz_,zf_]
         refine kq (And.intro @k6_ (And.intro @d1 (And.intro @i2 (And.intro @i3 (And.intro @r2 (And.intro @m0 (And.intro @l3 (And.intro @akz_ (@hl3))))))))) ?_
         exact Again.mk (k+1) (by omega) ⟨by omega,fun i hi=>by
          rcases Nat.lt_succ_iff_lt_or_eq.1 hi with h|rfl
          ·exact h2 i h
          ·exact e1⟩ rfl rfl
      ·have e0:jz_ l k=false:=by
        have q2:=of_decide_eq_true hk2
        unfold jz_
        rw[hn,show((l.getD k jM_).kind==1)=false from beq_eq_false_iff_ne.2 (by omega),show((l.getD k jM_).kind==2)=false from beq_eq_false_iff_ne.2 (by omega)];rfl
       rw[xK_ hk e0]
       refine ko (And.intro @k6_ (And.intro @r2 (And.intro @i2 (And.intro @m0 (And.intro @m1 (And.intro @hk1 (@hk2))))))) ?_
       refine⟨_,(ke @k6_),trivial, ?_⟩
       rfl
     ·have e0:jz_ l k=false:=by
       have q2:=of_decide_eq_true hk1
       unfold jz_
       rw[hn,show((l.getD k jM_).kind==1)=false from beq_eq_false_iff_ne.2 (by omega),show((l.getD k jM_).kind==2)=false from beq_eq_false_iff_ne.2 (by omega)];rfl
      rw[xK_ hk e0]
      refine ko (And.intro @k6_ (And.intro @r2 (And.intro @i2 (And.intro @m0 (And.intro @m1 (@hk1)))))) ?_
      refine⟨_,(ke @k6_),trivial, ?_⟩
      rfl
   ·obtain rfl:k=l.length:=by omega
    rw[WD_ h2,show decide (l.length≤32)=true from decide_eq_true (by omega)]
    first|with_reducible refine ks [] (And.intro @k6_ @ln) ?_|refine kp (And.intro @k6_ @ln) ?_
    refine⟨_,(ke @k6_),trivial, ?_⟩
    rfl
end Go.Proofs
end
section
open Go Go.Proofs Go.Sx Go.StP
namespace Go.Proofs
set_option maxRecDepth 10000
set_option maxHeartbeats 4000000
set_option linter.unusedSimpArgs false
theorem vv_ (x:IdL): (Z7_ x).length=32:=by simp[Z7_,x.h]
theorem XE_ (x:IdL): (Z7_ x).all Value.oneCell'=true:=wg_ _
abbrev IdS (w:World) (v:Value) (l:List IdL):Prop:=SlV 32 Z7_ id0 w v l
theorem WA_ {w:World} {v:Value} {l:List IdL} {b off:Nat} {arr:Array Value} {E:TypeId} {fz:Nat×Nat} (h:RowS 32 Z7_ id0 w v l b off arr E fz) {k:Nat} (hk:k<l.length):
  zo_ (some (true,32)) (some (.cells arr E fz)) (off+k*32)=some (.agg (a8 (l.getD k id0).l)):=RowS.load h vv_ (by omega) hk
theorem ai0_ (a b:IdL):qy_ Tryz.prog .eql 84 (.agg (a8 a.l)) (.agg (a8 b.l))=some (.bool (a.l==b.l)):=
 ap2_ Tryz.underlying84 Tryz.underlying5 Tryz.ag5 (by kernel_rfl) a.l b.l ⟨a.h,b.h⟩
theorem anu_ (a b:IdL):qy_ Tryz.prog .neq 84 (.agg (a8 a.l)) (.agg (a8 b.l))=some (.bool (!(a.l==b.l))):=
 amH_ Tryz.underlying84 Tryz.underlying5 Tryz.ag5 (by kernel_rfl) a.l b.l ⟨a.h,b.h⟩
instance:DecidableEq IdL:=fun a b=>if h:a.l=b.l then .isTrue (by cases a;cases b;simp only at h;subst h;rfl) else .isFalse (fun e=>h (by rw[e]))
theorem IdL.ext' {a b:IdL} (h:a.l=b.l):a=b:=by cases a;cases b;simp only at h;subst h;rfl
def idxG (x:IdL):List IdL→Nat→Int
 | [],_=> -1
 |y::r,i=>if x.l==y.l then(i:Int) else idxG x r (i+1)
theorem akQ_ (x y:IdL) (r:List IdL) (i:Nat):idxG x (y::r) i=if x.l==y.l then(i:Int) else idxG x r (i+1):=rfl
theorem agv_ (x:IdL): ∀ (l:List IdL) (i:Nat),decide (0≤idxG x l i)=l.any fun y=>x.l==y.l
 | [],_=>rfl
 |y::r,i=>by
  unfold idxG
  rw[List.any_cons]
  cases h: (x.l==y.l)
  ·rw[if_neg (by simp),Bool.false_or];exact agv_ x r (i+1)
  ·rw[if_pos rfl,Bool.true_or,decide_eq_true (by omega)]
theorem qU_ (x:IdL) (E:TypeId) (fz:Nat×Nat):zo_ (some (true,32)) (some (.cells (a8 x.l) E fz)) 0=some (.agg (a8 x.l)):=K5_ _ E fz 32 x.h
set_option linter.defProp false
def kG_:=And.intro (And.intro (@ai0_) (@anu_)) (And.intro (@qU_) (And.intro (@zc_) (@zb_)))
theorem abg_ (v:Value) (l:List IdL) (x:IdL) (w:World) (hv:IdS w v l) (hl:l.length<1000000):
  Rets Tryz.prog 250 #[v, .agg (a8 x.l)] w (fun v' D=>v'=vi (idxG x l 0)∧D= []):=by
 obtain⟨b,off,arr,E,fz,hr⟩:=hv.row
 have ln:=hv.len
 refine Rets.enterV Tryz.func250 rfl (rs:= [.tmp 4]) Tryz.results250 Tryz.ntmps250 ?_
 refine kf ?_
 first|with_reducible refine ks [] @kG_ ?_|refine kp @kG_ ?_
 refine Ow.box rfl rfl fun b1 hb1 hw1=> ?_
 simp only[z4_,z1_,z3_,zd_,List.nil_append,List.cons_append]
 refine Ow.go rfl ?_
 simp(disch:=(first|assumption|omega| (simp only[x5_,xZ_,UInt64.reduceToNat];try omega))) only[↓Sx.S0,Sx.S1,Tryz.fx,kG_,Nat.reduceAdd,Nat.reducePow,Int.reducePow,Nat.reduceBEq, ↓reduceIte,UInt8.reduceToNat,UInt16.reduceToNat,UInt32.reduceToNat,UInt64.reduceToNat,Int.reduceToNat]
 first|with_reducible refine ks [] (And.intro @kG_ @ln) ?_|refine kp (And.intro @kG_ @ln) ?_
 refine Cw.loopG (G:=Nat) [9,10,5,11,12,13,14,15,16,17,4,18,8] (fun g=> [(8,vi g)]) (fun g=> [(b1, .cells (a8 x.l) 84 (0,0))]) (fun g=>g≤l.length∧idxG x l 0=idxG x (l.drop g) g) (fun g=>l.length - g) 0 rfl rfl ?_ ?_
 ·exact⟨Nat.zero_le _,rfl⟩
 ·intro k jk hk
  refine kv ?_
  obtain⟨h1,h2⟩:=hk
  by_cases hk:k<l.length
  ·have h0:0<l.length:=by omega
   have hbl:=hr.lt h0
   have hn1:b1≠b:=by omega
   have r2:=hr.has h0
   have i2:=hr.idx true k hk
   have l2:=WA_ hr hk
   rw[ab4_ (z:=id0) hk,akQ_] at h2
   first|with_reducible refine ks [] @kG_ ?_|refine kp @kG_ ?_
   refine Cw.regionS [b1,b] [1,2,3,0,4,5] [] (by kernel_rfl) (by kernel_rfl) (by kernel_rfl) ?_
   simp only[zp_, ↓zi_, ↓ze_, ↓zA_, ↓zz_,zf_]
   refine kq (And.intro @kG_ (And.intro @i2 (And.intro @r2 (@l2)))) ?_
   cases hq: (x.l==(l.getD k id0).l)
   ·rw[hq,if_neg (by simp)] at h2
    first|with_reducible refine ks [] (And.intro @kG_ @hq) ?_|refine kp (And.intro @kG_ @hq) ?_
    exact Again.mk (k+1) (by omega) ⟨hk,h2⟩ rfl rfl
   ·rw[hq,if_pos rfl] at h2
    rw[h2]
    first|with_reducible refine ks [] (And.intro @kG_ @hq) ?_|refine kp (And.intro @kG_ @hq) ?_
    refine⟨_,(ke @kG_),⟨hw1,trivial⟩, ?_⟩
    rfl
  ·obtain rfl:k=l.length:=by omega
   rw[List.drop_length] at h2
   rw[h2]
   first|with_reducible refine ks [] @kG_ ?_|refine kp @kG_ ?_
   refine⟨_,(ke @kG_),⟨hw1,trivial⟩, ?_⟩
   rfl
theorem XZ_ (v:Value) (l:List IdL) (x:IdL) (w:World) (hv:IdS w v l) (hl:l.length<1000000):
  Rets Tryz.prog 243 #[v, .agg (a8 x.l)] w (fun v' D=>v'= .bool (l.any fun y=>x.l==y.l)∧D= []):=by
 refine Rets.enterV Tryz.func243 rfl (rs:= [.tmp 4]) Tryz.results243 Tryz.ntmps243 ?_
 refine kf ?_
 first|with_reducible refine ks [] @kG_ ?_|refine kp @kG_ ?_
 refine Ow.box rfl rfl fun b1 hb1 hw1=> ?_
 simp only[z4_,z1_,z3_,zd_,List.nil_append,List.cons_append]
 refine Ow.go rfl ?_
 simp(disch:=(first|assumption|omega| (simp only[x5_,xZ_,UInt64.reduceToNat];try omega))) only[↓Sx.S0,Sx.S1,Tryz.fx,kG_,Nat.reduceAdd,Nat.reducePow,Int.reducePow,Nat.reduceBEq, ↓reduceIte,UInt8.reduceToNat,UInt16.reduceToNat,UInt32.reduceToNat,UInt64.reduceToNat,Int.reduceToNat]
 first|with_reducible refine ks [] @kG_ ?_|refine kp @kG_ ?_
 refine Ow.callFV rfl Tryz.call250 (fun w' hw'=>abg_ v l x w' (hv.oldN hw' ⟨hw1,trivial⟩) hl) ?_
 refine ko @kG_ ?_
 refine⟨_,(ke @kG_),⟨hw1,trivial⟩, ?_⟩
 exact congrArg Value.bool (agv_ x l 0)
end Go.Proofs
end
section
open Go Go.Proofs Go.Sx Go.StP
namespace Go.Proofs
set_option maxRecDepth 100000
set_option maxHeartbeats 400000
set_option linter.unusedSimpArgs false
structure RwL where
 id:IdL
 place:Int
 spot:Int
def rwC (r:RwL):List Value:=r.id.l.map v8++ ([vi r.place]++ ([vi r.spot]))
def rw0:RwL:=⟨id0,0,0⟩
theorem af2_ (r:RwL): (rwC r).length=34:=by simp[rwC,r.id.h]
theorem kg_ (r:RwL):Value.cells (.agg (rwC r).toArray)=(rwC r).toArray:=zd_ _
theorem aqp_ (r:RwL): (rwC r).all Value.oneCell'=true:=by
 unfold rwC
 simp only[List.all_append,List.all_cons,List.all_nil,wg_,Bool.and_true,Bool.true_and]
 rfl
theorem asU_ (r:RwL):rwC r=([]:List Value)++ ((r.id.l.map v8)++ ([vi r.place]++ ([vi r.spot]))):=by
 unfold rwC;simp only[List.append_assoc,List.nil_append,List.append_nil]
theorem Xi_ (r:RwL) (E:TypeId) (fz:Nat×Nat):zo_ (some (true,32)) (some (.cells (rwC r).toArray E fz)) 0=some (Value.agg (a8 r.id.l)):=by
 rw[asU_,v2_ _ _ _ E fz (by simp) (by simp[r.id.h])];rfl
theorem ako_ (r:RwL):rwC r=((r.id.l.map v8))++ (([vi r.place])++ ([vi r.spot])):=by
 unfold rwC;simp only[List.append_assoc,List.nil_append,List.append_nil]
theorem Xt_ (r:RwL) (n:Nat) (E:TypeId) (fz:Nat×Nat):zo_ (some (false,n)) (some (.cells (rwC r).toArray E fz)) 32=some (vi r.place):=by
 rw[ako_];exact zN_ _ _ _ n E fz (by simp[r.id.h])
theorem ajx_ (r:RwL) (x:Int) (a:Bool) (E:TypeId):zn_ (some (a,1)) (some (.cells (rwC r).toArray E (0,0))) 32 (vi x)=some (.cells (rwC {r with place:=x}).toArray E (0,0)):=by
 rw[ako_ r,ako_ {r with place:=x}];exact zy_ _ _ _ _ a _ E (by simp[r.id.h]) rfl (rfl) rfl (rfl)
theorem amf_ (r:RwL):rwC r=((r.id.l.map v8)++ ([vi r.place]))++ (([vi r.spot])++ (([]:List Value))):=by
 unfold rwC;simp only[List.append_assoc,List.nil_append,List.append_nil]
theorem J4_ (r:RwL) (n:Nat) (E:TypeId) (fz:Nat×Nat):zo_ (some (false,n)) (some (.cells (rwC r).toArray E fz)) 33=some (vi r.spot):=by
 rw[amf_];exact zN_ _ _ _ n E fz (by simp[r.id.h])
theorem akb_ (r:RwL) (x:Int) (a:Bool) (E:TypeId):zn_ (some (a,1)) (some (.cells (rwC r).toArray E (0,0))) 33 (vi x)=some (.cells (rwC {r with spot:=x}).toArray E (0,0)):=by
 rw[amf_ r,amf_ {r with spot:=x}];exact zy_ _ _ _ _ a _ E (by simp[r.id.h]) rfl (rfl) rfl (rfl)
theorem wM_ (r:RwL) (E:TypeId) (fz:Nat×Nat):zo_ (some (true,34)) (some (.cells (rwC r).toArray E fz)) 0=some (.agg (rwC r).toArray):=jG_ _ E fz 34 (by rw[List.size_toArray,af2_])
theorem anO_ (old:Array Value) (r:RwL) (a:Bool) (E:TypeId) (h:old.size=34):zn_ (some (a,34)) (some (.cells old E (0,0))) 0 (.agg (rwC r).toArray)=some (.cells (rwC r).toArray E (0,0)):=jv_ _ a old E (af2_ r) (aqp_ r) h
theorem xN_ (r r':RwL) (a:Bool) (E:TypeId):zn_ (some (a,34)) (some (.cells (rwC r').toArray E (0,0))) 0 (.agg (rwC r).toArray)=some (.cells (rwC r).toArray E (0,0)):=anO_ _ r a E (by rw[List.size_toArray,af2_])
def atZ_ (arr:Array Value) (off:Nat) (l:List UInt8):Prop:= ∀j,j<l.length→arr[off+j]? =some (v8 (l.getD j 0))
def cmpI (x y:IdL):Int:=cmpS x.l y.l
set_option linter.defProp false
def axa_:=And.intro (@zc_) (And.intro (@zb_) (@kg_))
def agH_ (a b:RwL):Int:=cmpS a.id.l b.id.l
end Go.Proofs
end
section
open Go Go.Proofs Go.Sx Go.StP
namespace Go.Proofs
set_option maxRecDepth 10000
set_option maxHeartbeats 4000000
set_option linter.unusedSimpArgs false
set_option linter.defProp false
def avm_:=And.intro (@wM_) (And.intro (@xN_) (@kg_))
structure rws_RotG where
 A:List RwL
 U:List RwL
 V:List RwL
 B:List RwL
end Go.Proofs
end
section
open Go Go.Proofs Go.Sx Go.StP
namespace Go.Proofs
set_option maxRecDepth 10000
set_option maxHeartbeats 4000000
set_option linter.unusedSimpArgs false
abbrev akX_ (a b:RwL):Bool:=StP.lt (fun r:RwL=>r.id.l) a b
abbrev K9_ (l:List RwL):Prop:=StP.Sorted (fun r:RwL=>r.id.l) l
abbrev aqr_ (l l':List RwL):Prop:=StP.St (fun r:RwL=>r.id.l) l l'
theorem Z0_ (a b:RwL):decide (agH_ a b<0)=akX_ a b:=by
 unfold agH_ cmpS akX_ StP.lt
 cases h:ltB a.id.l b.id.l
 ·rw[if_neg (by simp)]
  split<;>rfl
 ·rw[if_pos rfl];rfl
structure rws_InsG where
 S:List RwL
 R:List RwL
set_option linter.defProp false
def awj_:=And.intro (And.intro (@wM_) (@xN_)) (And.intro (@kg_) (@Z0_))
end Go.Proofs
end
section
open Go Go.Proofs Go.Sx Go.StP
namespace Go.Proofs
set_option maxRecDepth 10000
set_option maxHeartbeats 4000000
set_option linter.unusedSimpArgs false
set_option linter.defProp false
def awb_:=And.intro (And.intro (@wM_) (@xN_)) (And.intro (@kg_) (And.intro (@Z0_) (@abm_)))
end Go.Proofs
end
section
open Go Go.Proofs Go.Sx Go.StP
namespace Go.Proofs
set_option maxRecDepth 10000
set_option maxHeartbeats 4000000
set_option linter.unusedSimpArgs false
set_option linter.defProp false
def awn_:=And.intro (And.intro (@wM_) (@xN_)) (And.intro (@kg_) (And.intro (@Z0_) (@abm_)))
end Go.Proofs
end
section
open Go Go.Proofs Go.Sx Go.StP
namespace Go.Proofs
set_option maxRecDepth 10000
set_option maxHeartbeats 4000000
set_option linter.unusedSimpArgs false
def ato_ (k:Nat) (ls:List (List RwL)):Prop:= ∀x,x∈ls→x.length=k∧K9_ x
structure rws_StG where
 k:Nat
 ls:List (List RwL)
 r:List RwL
structure rws_StH where
 l2:List (List RwL)
 ls:List (List RwL)
end Go.Proofs
end
section
open Go Go.Proofs Go.Sx Go.StP
namespace Go.Proofs
set_option maxRecDepth 10000
set_option maxHeartbeats 4000000
set_option linter.unusedSimpArgs false
def rws_SortOf (l Z:List RwL):Prop:=Z.length=l.length∧K9_ Z∧aqr_ l Z
theorem rws_SortOf.eq {l Z Z':List RwL} (h:rws_SortOf l Z) (h':rws_SortOf l Z'):Z=Z':=StP.St.eq h.2.1 h'.2.1 (h.2.2.symm.trans h'.2.2)
end Go.Proofs
end
section
open Go Go.Proofs Go.Sx Go.StP
namespace Go.Proofs
set_option maxRecDepth 10000
set_option maxHeartbeats 1000000
set_option linter.unusedSimpArgs false
abbrev RwSl (w:World) (v:Value) (l:List RwL):Prop:=SlV 34 rwC rw0 w v l
def auz_ (r:RwL):Bool:= !(decide (r.place<0))&& !(decide (1099511627775<r.place))&& !(decide (r.spot<0))&& !(decide (1099511627775<r.spot))
def okTo (l:List RwL):Nat→Bool
 |0=>true
 |k+1=>okTo l k&& (decide (k=0) ||decide (cmpI (l.getD (k - 1) rw0).id (l.getD k rw0).id<0))&&auz_ (l.getD k rw0)
def auA_ (i:IdL):Nat:=(i.l.getD 0 0).toNat / 16
def fanV (l:List RwL) (d:Nat):Nat:=l.countP fun r=>decide (auA_ r.id≤d)
def fanL (l:List RwL):List Nat:=(List.range 16).map (fanV l)
def fanM (l:List RwL) (r:RwL) (g:Nat):List Nat:=(List.range 16).map fun j=>if j<g then fanV (l++ [r]) j else fanV l j
set_option linter.defProp false
def awc_:=And.intro (@zc_) (@zb_)
end Go.Proofs
end
section
open Go Go.Proofs Go.Sx Go.StP
namespace Go.Proofs
set_option maxRecDepth 10000
set_option maxHeartbeats 1000000
set_option linter.unusedSimpArgs false
structure OfG where
 k:Nat
 DG:za_
set_option linter.defProp false
def axs_:=And.intro (And.intro (And.intro (@zc_) (@zb_)) (And.intro (@kg_) (And.intro (@wM_) (@Xi_)))) (And.intro (And.intro (@Xt_) (@J4_)) (And.intro (@xN_) (And.intro (@Sx.tup2_0) (@Sx.tup2_1))))
end Go.Proofs
end
section
open Go Go.Proofs Go.Sx Go.StP
namespace Go.Proofs
set_option maxRecDepth 10000
set_option maxHeartbeats 4000000
set_option linter.unusedSimpArgs false
structure ComL where
 tree:IdL
 par:List IdL
 text:List UInt8
def q8_ (t:IdL) (p:Value) (x:List UInt8):List Value:=t.l.map v8++ ([p]++ [vs x])
theorem Zf_ (t:IdL) (p:Value) (x:List UInt8): (q8_ t p x).length=34:=by simp[q8_,t.h]
theorem aoE_ (t:IdL) (p:Value) (x:List UInt8) (hp:Value.oneCell' p=true): (q8_ t p x).all Value.oneCell'=true:=by
 unfold q8_
 simp only[List.all_append,List.all_cons,List.all_nil,wg_,hp,Bool.and_true,Bool.true_and]
 rfl
theorem kB_ (t:IdL) (p:Value) (x:List UInt8):Value.cells (.agg (q8_ t p x).toArray)=(q8_ t p x).toArray:=zd_ _
theorem wI_ (t:IdL) (p:Value) (x:List UInt8) (E:TypeId) (fz:Nat×Nat):zo_ (some (true,32)) (some (.cells (q8_ t p x).toArray E fz)) 0=some (.agg (a8 t.l)):=by
 unfold q8_;exact v2_ [] _ _ E fz rfl (by simp[t.h])
theorem wL_ (t:IdL) (p:Value) (x:List UInt8) (n:Nat) (E:TypeId) (fz:Nat×Nat):zo_ (some (false,n)) (some (.cells (q8_ t p x).toArray E fz)) 32=some p:=by
 unfold q8_;exact zN_ _ _ p n E fz (by simp[t.h])
theorem wW_ (t:IdL) (p:Value) (x:List UInt8) (n:Nat) (E:TypeId) (fz:Nat×Nat):zo_ (some (false,n)) (some (.cells (q8_ t p x).toArray E fz)) 33=some (vs x):=by
 have e:q8_ t p x=(t.l.map v8++ [p])++ ([vs x]++ []):=by unfold q8_;simp only[List.append_assoc,List.append_nil]
 rw[e];exact zN_ _ _ (vs x) n E fz (by simp[t.h])
theorem Qe_ (t:IdL) (p:Value) (x:List UInt8) (E:TypeId) (fz:Nat×Nat):zo_ (some (true,34)) (some (.cells (q8_ t p x).toArray E fz)) 0=some (.agg (q8_ t p x).toArray):=jG_ _ E fz 34 (by rw[List.size_toArray,Zf_])
theorem K1_ (old:Array Value) (t:IdL) (p:Value) (x:List UInt8) (a:Bool) (E:TypeId) (h:old.size=34) (hp:Value.oneCell' p=true):zn_ (some (a,34)) (some (.cells old E (0,0))) 0 (.agg (q8_ t p x).toArray)=some (.cells (q8_ t p x).toArray E (0,0)):=jv_ _ a old E (Zf_ t p x) (aoE_ t p x hp) h
def ZM_ (l:List IdL) (i:Nat):Bool:= !((l.take i).any fun y=>(l.getD i id0).l==y.l)
def wU_ (c:ComL):Bool:=(decide (c.par.length≤4)&&decide (c.text.length≤64))&& (List.range c.par.length).all (ZM_ c.par)
theorem agU_ {c:ComL} {k:Nat} (hk:k<c.par.length) (h:ZM_ c.par k=false):wU_ c=false:=by
 unfold wU_
 have: (List.range c.par.length).all (ZM_ c.par)=false:=by
  rw[List.all_eq_false]
  exact⟨k,List.mem_range.2 hk,by simp[h]⟩
 rw[this,Bool.and_false]
theorem ac5_ {c:ComL} (h: ∀i,i<c.par.length→ZM_ c.par i=true):wU_ c=(decide (c.par.length≤4)&&decide (c.text.length≤64)):=by
 unfold wU_
 have: (List.range c.par.length).all (ZM_ c.par)=true:=List.all_eq_true.2 fun i hi=>h i (List.mem_range.1 hi)
 rw[this,Bool.and_true]
abbrev ComS (w:World) (v:Value) (c:ComL):Prop:= ∃p,v= .agg (q8_ c.tree p c.text).toArray∧IdS w p c.par
theorem SlV.one {α:Type} {m:Nat} {enc:α→List Value} {z:α} {w:World} {v:Value} {l:List α} (h:SlV m enc z w v l):Value.oneCell' v=true∧v.cells= #[v]:=by
 obtain⟨b,off,c,arr,E,fz,-,-,⟨rfl,-,-⟩ | ⟨rfl,-,-⟩⟩:=h<;>exact⟨rfl,rfl⟩
set_option linter.defProp false
def vn_:=And.intro (And.intro (And.intro (@ai0_) (@anu_)) (And.intro (@qU_) (And.intro (@zc_) (@zb_)))) (And.intro (And.intro (@wI_) (@wL_)) (And.intro (@wW_) (And.intro (@Qe_) (@kB_))))
theorem aeI_ (v:Value) (c:ComL) (w:World) (hv:ComS w v c) (hl:c.par.length<1000000) (ht:c.text.length<1099511627776):
  Rets Tryz.prog 229 #[v] w (fun v' D=>v'= .bool (wU_ c)∧D= []):=by
 obtain⟨p,rfl,hp⟩:=hv
 obtain⟨b,off,arr,E,fz,hr⟩:=hp.row
 have ln:=hp.len
 refine Rets.enterV Tryz.func229 rfl (rs:= [.tmp 2]) Tryz.results229 Tryz.ntmps229 ?_
 refine kf ?_
 first|with_reducible refine ks [] @vn_ ?_|refine kp @vn_ ?_
 refine Ow.box rfl rfl fun bx hbx hwx=> ?_
 simp only[z4_,z1_,z3_,zd_,List.nil_append,List.cons_append]
 refine Ow.go rfl ?_
 simp(disch:=(first|assumption|omega| (simp only[x5_,xZ_,UInt64.reduceToNat];try omega))) only[↓Sx.S0,Sx.S1,Tryz.fx,vn_,Nat.reduceAdd,Nat.reducePow,Int.reducePow,Nat.reduceBEq, ↓reduceIte,UInt8.reduceToNat,UInt16.reduceToNat,UInt32.reduceToNat,UInt64.reduceToNat,Int.reduceToNat]
 first|with_reducible refine ks [] (And.intro @vn_ @ln) ?_|refine kp (And.intro @vn_ @ln) ?_
 refine Cw.loopG (G:=Nat) [9,10,11,12,4,3,13,14,15,16,17,18,2,19,8] (fun g=> [(8,vi g)]) (fun g=> [(bx, .cells (q8_ c.tree p c.text).toArray 172 (0,0))]) (fun g=>g≤c.par.length∧ ∀i,i<g→ZM_ c.par i=true) (fun g=>c.par.length - g) 0 rfl rfl ?_ ?_
 ·exact⟨Nat.zero_le _,fun i hi=>absurd hi (Nat.not_lt_zero i)⟩
 ·intro k jk hk
  refine kv ?_
  obtain⟨h1,h2⟩:=hk
  by_cases hk:k<c.par.length
  ·have h0:0<c.par.length:=by omega
   have hbl:=hr.lt h0
   have hnb:bx≠b:=by omega
   have r2:=hr.has h0
   have i2:=hr.idx true k hk
   have l2:=WA_ hr hk
   obtain⟨v3,s3,hv3,-⟩:=hp.take (show k≤c.par.length by omega) true
   first|with_reducible refine ks [6] (And.intro @vn_ (And.intro @i2 (And.intro @r2 (@l2)))) ?_|refine kp (And.intro @vn_ (And.intro @i2 (And.intro @r2 (@l2)))) ?_
   refine Ow.alloc rfl rfl Tryz.zr84 fun b4 hb4 hw4=> ?_
   simp only[zd_,List.nil_append,List.cons_append]
   obtain⟨h4,-⟩:=hb4
   have hxl:=(c.par.getD k id0).h
   refine ko @vn_ ?_
   refine Cw.regionS [bx,b4] [0,2,1,3,4,5] [] (by kernel_rfl) (by kernel_rfl) (by kernel_rfl) ?_
   simp only[zp_, ↓zi_, ↓ze_, ↓zA_, ↓zz_,zf_]
   refine kq (And.intro @vn_ @s3) ?_
   refine Ow.callFV rfl Tryz.call243 (fun w' hw'=>XZ_ v3 (c.par.take k) (c.par.getD k id0) w' (hv3.oldN hw' ⟨hwx,hw4,trivial⟩) (by rw[List.length_take];omega)) ?_
   cases hq: (c.par.take k).any fun y=>(c.par.getD k id0).l==y.l
   ·have e1:ZM_ c.par k=true:=by unfold ZM_;rw[hq];rfl
    refine kq @vn_ ?_
    refine Cw.forgetN [(bx, .cells (q8_ c.tree p c.text).toArray 172 (0,0))] (by exact⟨hwx,hw4,trivial⟩) (by intro p hp;simp only[List.mem_cons,List.not_mem_nil,or_false] at hp ⊢;all_goals (first| (rcases hp with rfl|hp<;>simp_all) | (subst hp;simp) |simp_all)) (by simp[keys]<;>omega) ?_
    first|with_reducible refine ks [] @vn_ ?_|refine kp @vn_ ?_
    exact Again.mk (k+1) (by omega) ⟨by omega,fun i hi=>by
     rcases Nat.lt_succ_iff_lt_or_eq.1 hi with h|rfl
     ·exact h2 i h
     ·exact e1⟩ rfl rfl
   ·have e1:ZM_ c.par k=false:=by unfold ZM_;rw[hq];rfl
    rw[agU_ hk e1]
    refine kq @vn_ ?_
    refine⟨_,(ke @vn_),⟨hwx,hw4,trivial⟩, ?_⟩
    rfl
  ·obtain rfl:k=c.par.length:=by omega
   rw[ac5_ h2]
   by_cases h4:c.par.length≤4
   ·have d1:decide (((c.par.length:Nat):Int)≤4)=true:=decide_eq_true (by omega)
    first|with_reducible refine ks [] (And.intro @vn_ (And.intro @ln (@d1))) ?_|refine kp (And.intro @vn_ (And.intro @ln (@d1))) ?_
    refine⟨_,(ke @vn_),⟨hwx,trivial⟩, ?_⟩
    rw[show decide (c.par.length≤4)=true from decide_eq_true h4,Bool.true_and];exact congrArg Value.bool (decide_eq_decide.2 (by omega))
   ·have d1:decide (((c.par.length:Nat):Int)≤4)=false:=decide_eq_false (by omega)
    first|with_reducible refine ks [] (And.intro @vn_ (And.intro @ln (@d1))) ?_|refine kp (And.intro @vn_ (And.intro @ln (@d1))) ?_
    refine⟨_,(ke @vn_),⟨hwx,trivial⟩, ?_⟩
    rw[show decide (c.par.length≤4)=false from decide_eq_false h4];rfl
end Go.Proofs
end
section
open Go Go.Proofs Go.Sx Go.StP
namespace Go.Proofs
set_option maxRecDepth 10000
set_option maxHeartbeats 4000000
set_option linter.unusedSimpArgs false
set_option linter.defProp false
def xU_:=And.intro (And.intro (And.intro (@ai0_) (@anu_)) (And.intro (@qU_) (And.intro (@zc_) (@zb_)))) (And.intro (And.intro (@wI_) (@wL_)) (And.intro (@wW_) (And.intro (@Qe_) (@kB_))))
theorem aoe_ {l:List IdL} {k:Nat} {x:IdL} (hk:k<l.length) (h: ((l.take k).any fun y=>x.l==y.l)=false) (h2: (x.l==(l.getD k id0).l)=false): ((l.take (k+1)).any fun y=>x.l==y.l)=false:=by
 rw[take_snoc (z:=id0) hk,List.any_append,h,Bool.false_or,List.any_cons,h2];rfl
theorem aqS_ {l:List IdL} {k i:Nat} {x:IdL} (hk:k<l.length) (hi:k<i) (h2: (x.l==(l.getD k id0).l)=true): ((l.take i).any fun y=>x.l==y.l)=true:=by
 rw[List.any_eq_true]
 refine⟨l.getD k id0, ?_,h2⟩
 rw[←akW_ (l:=l) (z:=id0) hi]
 exact ag2_ (by rw[List.length_take];omega)
theorem J3_ (v:Value) (c:ComL) (w:World) (hv:ComS w v c) (hl:c.par.length<1000000) (ht:c.text.length<1099511627776):
  Rets Tryz.prog 150 #[v] w (fun v' D=>v'= .bool (wU_ c)∧D= []):=by
 obtain⟨p,rfl,hp⟩:=hv
 obtain⟨b,off,arr,E,fz,hr⟩:=hp.row
 have ln:=hp.len
 refine Rets.enterV Tryz.func150 rfl (rs:= [.tmp 2]) Tryz.results150 Tryz.ntmps150 ?_
 refine kf ?_
 first|with_reducible refine ks [] @xU_ ?_|refine kp @xU_ ?_
 refine Ow.box rfl rfl fun bx hbx hwx=> ?_
 simp only[z4_,z1_,z3_,zd_,List.nil_append,List.cons_append]
 refine Ow.go rfl ?_
 simp(disch:=(first|assumption|omega| (simp only[x5_,xZ_,UInt64.reduceToNat];try omega))) only[↓Sx.S0,Sx.S1,Tryz.fx,xU_,Nat.reduceAdd,Nat.reducePow,Int.reducePow,Nat.reduceBEq, ↓reduceIte,UInt8.reduceToNat,UInt16.reduceToNat,UInt32.reduceToNat,UInt64.reduceToNat,Int.reduceToNat]
 by_cases h4:4<c.par.length
 ·have d1:decide (4< ((c.par.length:Nat):Int))=true:=decide_eq_true (by omega)
  first|with_reducible refine ks [] (And.intro @xU_ (And.intro @ln (@d1))) ?_|refine kp (And.intro @xU_ (And.intro @ln (@d1))) ?_
  have:wU_ c=false:=by unfold wU_;rw[show decide (c.par.length≤4)=false from decide_eq_false (by omega)];rfl
  rw[this]
  refine⟨_,(ke @xU_),⟨hwx,trivial⟩, ?_⟩
  rfl
 have d1:decide (4< ((c.par.length:Nat):Int))=false:=decide_eq_false (by omega)
 by_cases h64:64<c.text.length
 ·have d2:decide (64< ((c.text.length:Nat):Int))=true:=decide_eq_true (by omega)
  first|with_reducible refine ks [] (And.intro @xU_ (And.intro @ln (And.intro @d1 (@d2)))) ?_|refine kp (And.intro @xU_ (And.intro @ln (And.intro @d1 (@d2)))) ?_
  have:wU_ c=false:=by unfold wU_;rw[show decide (c.text.length≤64)=false from decide_eq_false (by omega),Bool.and_false];rfl
  rw[this]
  refine⟨_,(ke @xU_),⟨hwx,trivial⟩, ?_⟩
  rfl
 have d2:decide (64< ((c.text.length:Nat):Int))=false:=decide_eq_false (by omega)
 first|with_reducible refine ks [] (And.intro @xU_ (And.intro @ln (And.intro @d1 (@d2)))) ?_|refine kp (And.intro @xU_ (And.intro @ln (And.intro @d1 (@d2)))) ?_
 refine Cw.loopG (G:=Nat) [15,16,17,18,19,4,22,23,24,27,28,29,30,31,32,33,34,35,36,37,2,25,26,20,21,3] (fun g=> [(3,vi g)]) (fun g=> [(bx, .cells (q8_ c.tree p c.text).toArray 172 (0,0))]) (fun g=>g≤c.par.length∧ ∀i,i<g→ZM_ c.par i=true) (fun g=>c.par.length - g) 0 rfl rfl ?_ ?_
 ·exact⟨Nat.zero_le _,fun i hi=>absurd hi (Nat.not_lt_zero i)⟩
 ·intro i ji hi
  refine kv ?_
  obtain⟨h1,h2⟩:=hi
  by_cases hi:i<c.par.length
  ·have h0:0<c.par.length:=by omega
   have hbl:=hr.lt h0
   have hnb:bx≠b:=by omega
   have r2:=hr.has h0
   have i2:=hr.idx true i hi
   have l2:=WA_ hr hi
   first|with_reducible refine ks [] (And.intro @xU_ @ln) ?_|refine kp (And.intro @xU_ @ln) ?_
   refine Cw.loopG (G:=Nat) [22,23,24,27,28,29,30,31,32,33,34,35,36,37,2,25,26,4] (fun g=> [(4,vi g)]) (fun g=> [(bx, .cells (q8_ c.tree p c.text).toArray 172 (0,0))]) (fun g=>g≤i∧((c.par.take g).any fun y=>(c.par.getD i id0).l==y.l)=false) (fun g=>i - g) 0 rfl rfl ?_ ?_
   ·exact⟨Nat.zero_le _,rfl⟩
   ·intro k jk hk
    refine kv ?_
    obtain⟨g1,g2⟩:=hk
    by_cases hk:k<i
    ·have i3:=hr.idx true k (show k<c.par.length by omega)
     have l3:=WA_ hr (show k<c.par.length by omega)
     first|with_reducible refine ks [] @xU_ ?_|refine kp @xU_ ?_
     refine Cw.regionS [bx,b] [0,2,5,7,1,3,4,6,8,9,10] [] (by kernel_rfl) (by kernel_rfl) (by kernel_rfl) ?_
     simp only[zp_, ↓zi_, ↓ze_, ↓zA_, ↓zz_,zf_]
     refine kq (And.intro @xU_ (And.intro @i2 (And.intro @r2 (And.intro @l2 (And.intro @i3 (@l3)))))) ?_
     cases hq: ((c.par.getD i id0).l==(c.par.getD k id0).l)
     ·first|with_reducible refine ks [] (And.intro @xU_ @hq) ?_|refine kp (And.intro @xU_ @hq) ?_
      exact Again.mk (k+1) (by omega) ⟨by omega,aoe_ (by omega) g2 hq⟩ rfl rfl
     ·have e1:ZM_ c.par i=false:=by unfold ZM_;rw[aqS_ (by omega) hk hq];rfl
      rw[agU_ hi e1]
      first|with_reducible refine ks [] (And.intro @xU_ @hq) ?_|refine kp (And.intro @xU_ @hq) ?_
      refine⟨_,(ke @xU_),⟨hwx,trivial⟩, ?_⟩
      rfl
    ·obtain rfl:k=i:=by omega
     have e1:ZM_ c.par k=true:=by unfold ZM_;rw[g2];rfl
     first|with_reducible refine ks [] @xU_ ?_|refine kp @xU_ ?_
     exact Again.mk (k+1) (by omega) ⟨by omega,fun i hi=>by
      rcases Nat.lt_succ_iff_lt_or_eq.1 hi with h|rfl
      ·exact h2 i h
      ·exact e1⟩ rfl rfl
  ·obtain rfl:i=c.par.length:=by omega
   rw[ac5_ h2,show decide (c.par.length≤4)=true from decide_eq_true (by omega),show decide (c.text.length≤64)=true from decide_eq_true (by omega)]
   first|with_reducible refine ks [] (And.intro @xU_ @ln) ?_|refine kp (And.intro @xU_ @ln) ?_
   refine⟨_,(ke @xU_),⟨hwx,trivial⟩, ?_⟩
   rfl
def awD_ (a b:ComL):Bool:=(a.tree.l==b.tree.l)&& (a.text==b.text)&&decide (a.par=b.par)
end Go.Proofs
end
section
open Go Go.Proofs Go.Sx
namespace Go.Proofs
set_option maxRecDepth 10000
set_option maxHeartbeats 4000000
set_option linter.unusedSimpArgs false
theorem vz_ {n:Nat} (h:n<1099511627776):qs_ (n:Int)=n:=by unfold qs_ maxN;omega
theorem wD_: ∀ (k:Nat) (n:Int) (w:World),qs_ n≤k→
  Rets Tryz.prog 184 #[vi n] w (fun v D=>v=vs (v8_ (qs_ n))∧D= []):=by
 intro k
 induction k using Nat.strongRecOn with
 |ind k ih=>
  intro n w hk
  refine Rets.enterV Tryz.func184 rfl (rs:= [.tmp 2]) Tryz.results184 Tryz.ntmps184 ?_
  refine kf ?_
  by_cases h0:n<0
  ·have d1:decide (n<0)=true:=decide_eq_true h0
   have e:qs_ n=0:=by unfold qs_ maxN;omega
   rw[e]
   first|with_reducible refine ks [] @d1 ?_|refine kp @d1 ?_
   refine Ow.buildSlice (e:=5) #[v8 0] rfl rfl (by kernel_rfl) fun b1 hb1 hw1=> ?_
   rw[show(#[v8 0]:Array Value)=a8 [0] from rfl]
   refine ko @Nat.add_zero ?_
   first|with_reducible refine ks [] @Nat.add_zero ?_|refine kp @Nat.add_zero ?_
   refine⟨_,(ke @Nat.add_zero),⟨hw1,trivial⟩, ?_⟩
   rw[j4_ (by omega)];rfl
  ·have d1:decide (n<0)=false:=decide_eq_false h0
   generalize hm:qs_ n=m at hk ⊢
   have hm2:m≤1099511627775:=by unfold qs_ maxN at hm;omega
   by_cases h1:n>1099511627775
   ·have d2:decide (1099511627775<n)=true:=decide_eq_true h1
    have e: (1099511627775:Int)=(m:Int):=by unfold qs_ maxN at hm;omega
    first|with_reducible refine ks [5] (And.intro @d1 @d2) ?_|refine kp (And.intro @d1 @d2) ?_
    rw[e]
    by_cases h2:m<128
    ·have d3:decide ((m:Int)<128)=true:=decide_eq_true (by omega)
     rw[j4_ h2]
     first|with_reducible refine ks [] (And.intro @d1 @d3) ?_|refine kp (And.intro @d1 @d3) ?_
     generalize hc:UInt8.ofInt (m:Int)=c
     have hc':c=UInt8.ofNat m:=by rw[←hc,Za_]
     refine Ow.buildSlice (e:=5) #[v8 c] rfl rfl (by kernel_rfl) fun b1 hb1 hw1=> ?_
     rw[show(#[v8 c]:Array Value)=a8 [c] from rfl]
     have e4:List.take 1 (List.drop 0 [c])= [c]:=rfl
     refine ko @e4 ?_
     first|with_reducible refine ks [] @Nat.add_zero ?_|refine kp @Nat.add_zero ?_
     refine⟨_,(ke @Nat.add_zero),⟨hw1,trivial⟩, ?_⟩
     rw[hc'];rfl
    ·have d3:decide ((m:Int)<128)=false:=decide_eq_false (by omega)
     have ih2:=fun w=>ih (m / 128) (by omega) ((m / 128:Nat):Int) w (by rw[vz_ (by omega)];omega)
     rw[vz_ (by omega)] at ih2
     have hl2:=ky_ 6 (m / 128) (by omega) (by omega)
     rw[vS_ h2]
     first|with_reducible refine ks [] (And.intro @d1 @d3) ?_|refine kp (And.intro @d1 @d3) ?_
     refine Cw.regionK 11 (by kernel_rfl) (by kernel_rfl) ?_
     refine OwK.run [0,1,2,3,6,7] [true,true,true,true,false,false,true,true,false,false,false] 5 rfl (by kernel_rfl) (by kernel_rfl) fun k hk=> ?_
     simp only[zp_, ↓zi_, ↓ze_, ↓zA_, ↓zz_,zf_]
     simp(disch:=(first|assumption|omega| (simp only[x5_,xZ_,UInt64.reduceToNat];try omega))) only[↓Sx.S0,Sx.S1,Tryz.fx,Nat.reduceAdd,Nat.reducePow,Int.reducePow,Nat.reduceBEq, ↓reduceIte,UInt8.reduceToNat,UInt16.reduceToNat,UInt32.reduceToNat,UInt64.reduceToNat,Int.reduceToNat]
     (with_reducible refine hk _ _ _ ?_);clear hk k
     generalize hc:UInt8.ofInt ((m:Int)%128+128)=c
     have hc':c=UInt8.ofNat (m%128+128):=by rw[←hc,show((m:Int)%128+128)=((m%128+128:Nat):Int) from rfl,Za_]
     rw[show(m:Int) / 128=((m / 128:Nat):Int) from rfl]
     refine OwK.two 4 8 _ _ (by kernel_rfl) rfl rfl ?_ ?_
     ·refine Ow.buildSlice (e:=5) #[v8 c] rfl rfl (by kernel_rfl) fun b1 hb1 hw1=> ?_
      rw[show(#[v8 c]:Array Value)=a8 [c] from rfl]
      have e4:List.take 1 (List.drop 0 [c])= [c]:=rfl
      refine ko @e4 ?_
      try with_reducible refine Ow.nil ?_
      refine OwK.two 5 8 _ _ (by kernel_rfl) rfl rfl ?_ ?_
      ·refine ko @e4 ?_
       refine OwK.rest [8,9,10] [4,8] rfl (by kernel_rfl) (by kernel_rfl) ?_
       simp only[zp_, ↓zi_, ↓ze_, ↓zA_, ↓zz_,zf_]
       refine Ow.callFV rfl Tryz.call184 (fun w' hw'=>ih2 w') ?_
       refine ko @Nat.add_zero ?_
       first|with_reducible refine ks [] @Nat.add_zero ?_|refine kp @Nat.add_zero ?_
       refine⟨_,(ke @Nat.add_zero),⟨hw1,trivial⟩, ?_⟩
       rw[hc'];rfl
      ·refine Ow.callFV rfl Tryz.call184 (fun w' hw'=>ih2 w') ?_
       refine ko @Nat.add_zero ?_
       refine OwK.rest [5,9,10] [4,8] rfl (by kernel_rfl) (by kernel_rfl) ?_
       simp only[zp_, ↓zi_, ↓ze_, ↓zA_, ↓zz_,zf_]
       refine ko @e4 ?_
       first|with_reducible refine ks [] @Nat.add_zero ?_|refine kp @Nat.add_zero ?_
       refine⟨_,(ke @Nat.add_zero),⟨hw1,trivial⟩, ?_⟩
       rw[hc'];rfl
     ·refine Ow.callFV rfl Tryz.call184 (fun w' hw'=>ih2 w') ?_
      refine ko @Nat.add_zero ?_
      refine OwK.rest [4,5,9,10] [4,8] rfl (by kernel_rfl) (by kernel_rfl) ?_
      simp only[zp_, ↓zi_, ↓ze_, ↓zA_, ↓zz_,zf_]
      refine Ow.buildSlice (e:=5) #[v8 c] rfl rfl (by kernel_rfl) fun b1 hb1 hw1=> ?_
      rw[show(#[v8 c]:Array Value)=a8 [c] from rfl]
      have e4:List.take 1 (List.drop 0 [c])= [c]:=rfl
      refine ko @e4 ?_
      first|with_reducible refine ks [] @Nat.add_zero ?_|refine kp @Nat.add_zero ?_
      refine⟨_,(ke @Nat.add_zero),⟨hw1,trivial⟩, ?_⟩
      rw[hc'];rfl
   ·have d2:decide (1099511627775<n)=false:=decide_eq_false h1
    have e:n=(m:Int):=by unfold qs_ maxN at hm;omega
    subst e
    first|with_reducible refine ks [5] (And.intro @d1 @d2) ?_|refine kp (And.intro @d1 @d2) ?_
    by_cases h2:m<128
    ·have d3:decide ((m:Int)<128)=true:=decide_eq_true (by omega)
     rw[j4_ h2]
     first|with_reducible refine ks [] (And.intro @d1 @d3) ?_|refine kp (And.intro @d1 @d3) ?_
     generalize hc:UInt8.ofInt (m:Int)=c
     have hc':c=UInt8.ofNat m:=by rw[←hc,Za_]
     refine Ow.buildSlice (e:=5) #[v8 c] rfl rfl (by kernel_rfl) fun b1 hb1 hw1=> ?_
     rw[show(#[v8 c]:Array Value)=a8 [c] from rfl]
     have e4:List.take 1 (List.drop 0 [c])= [c]:=rfl
     refine ko @e4 ?_
     first|with_reducible refine ks [] @Nat.add_zero ?_|refine kp @Nat.add_zero ?_
     refine⟨_,(ke @Nat.add_zero),⟨hw1,trivial⟩, ?_⟩
     rw[hc'];rfl
    ·have d3:decide ((m:Int)<128)=false:=decide_eq_false (by omega)
     have ih2:=fun w=>ih (m / 128) (by omega) ((m / 128:Nat):Int) w (by rw[vz_ (by omega)];omega)
     rw[vz_ (by omega)] at ih2
     have hl2:=ky_ 6 (m / 128) (by omega) (by omega)
     rw[vS_ h2]
     first|with_reducible refine ks [] (And.intro @d1 @d3) ?_|refine kp (And.intro @d1 @d3) ?_
     refine Cw.regionK 11 (by kernel_rfl) (by kernel_rfl) ?_
     refine OwK.run [0,1,2,3,6,7] [true,true,true,true,false,false,true,true,false,false,false] 5 rfl (by kernel_rfl) (by kernel_rfl) fun k hk=> ?_
     simp only[zp_, ↓zi_, ↓ze_, ↓zA_, ↓zz_,zf_]
     simp(disch:=(first|assumption|omega| (simp only[x5_,xZ_,UInt64.reduceToNat];try omega))) only[↓Sx.S0,Sx.S1,Tryz.fx,Nat.reduceAdd,Nat.reducePow,Int.reducePow,Nat.reduceBEq, ↓reduceIte,UInt8.reduceToNat,UInt16.reduceToNat,UInt32.reduceToNat,UInt64.reduceToNat,Int.reduceToNat]
     (with_reducible refine hk _ _ _ ?_);clear hk k
     generalize hc:UInt8.ofInt ((m:Int)%128+128)=c
     have hc':c=UInt8.ofNat (m%128+128):=by rw[←hc,show((m:Int)%128+128)=((m%128+128:Nat):Int) from rfl,Za_]
     rw[show(m:Int) / 128=((m / 128:Nat):Int) from rfl]
     refine OwK.two 4 8 _ _ (by kernel_rfl) rfl rfl ?_ ?_
     ·refine Ow.buildSlice (e:=5) #[v8 c] rfl rfl (by kernel_rfl) fun b1 hb1 hw1=> ?_
      rw[show(#[v8 c]:Array Value)=a8 [c] from rfl]
      have e4:List.take 1 (List.drop 0 [c])= [c]:=rfl
      refine ko @e4 ?_
      try with_reducible refine Ow.nil ?_
      refine OwK.two 5 8 _ _ (by kernel_rfl) rfl rfl ?_ ?_
      ·refine ko @e4 ?_
       refine OwK.rest [8,9,10] [4,8] rfl (by kernel_rfl) (by kernel_rfl) ?_
       simp only[zp_, ↓zi_, ↓ze_, ↓zA_, ↓zz_,zf_]
       refine Ow.callFV rfl Tryz.call184 (fun w' hw'=>ih2 w') ?_
       refine ko @Nat.add_zero ?_
       first|with_reducible refine ks [] @Nat.add_zero ?_|refine kp @Nat.add_zero ?_
       refine⟨_,(ke @Nat.add_zero),⟨hw1,trivial⟩, ?_⟩
       rw[hc'];rfl
      ·refine Ow.callFV rfl Tryz.call184 (fun w' hw'=>ih2 w') ?_
       refine ko @Nat.add_zero ?_
       refine OwK.rest [5,9,10] [4,8] rfl (by kernel_rfl) (by kernel_rfl) ?_
       simp only[zp_, ↓zi_, ↓ze_, ↓zA_, ↓zz_,zf_]
       refine ko @e4 ?_
       first|with_reducible refine ks [] @Nat.add_zero ?_|refine kp @Nat.add_zero ?_
       refine⟨_,(ke @Nat.add_zero),⟨hw1,trivial⟩, ?_⟩
       rw[hc'];rfl
     ·refine Ow.callFV rfl Tryz.call184 (fun w' hw'=>ih2 w') ?_
      refine ko @Nat.add_zero ?_
      refine OwK.rest [4,5,9,10] [4,8] rfl (by kernel_rfl) (by kernel_rfl) ?_
      simp only[zp_, ↓zi_, ↓ze_, ↓zA_, ↓zz_,zf_]
      refine Ow.buildSlice (e:=5) #[v8 c] rfl rfl (by kernel_rfl) fun b1 hb1 hw1=> ?_
      rw[show(#[v8 c]:Array Value)=a8 [c] from rfl]
      have e4:List.take 1 (List.drop 0 [c])= [c]:=rfl
      refine ko @e4 ?_
      first|with_reducible refine ks [] @Nat.add_zero ?_|refine kp @Nat.add_zero ?_
      refine⟨_,(ke @Nat.add_zero),⟨hw1,trivial⟩, ?_⟩
      rw[hc'];rfl
theorem vc_ (s:List UInt8) (w:World) (hs:s.length<1099511627776):
  Rets Tryz.prog 154 #[vs s] w (fun v D=>v=vs (j2_ s)∧D= []):=by
 have hnl:=zQ_ (s.length:Int)
 refine Rets.enterV Tryz.func154 rfl (rs:= [.tmp 2]) Tryz.results154 Tryz.ntmps154 ?_
 refine kf ?_
 first|with_reducible refine ks [] @Nat.add_zero ?_|refine kp @Nat.add_zero ?_
 refine Ow.callFV rfl Tryz.call184 (fun w' hw'=>wD_ _ _ w' (Nat.le_refl _)) ?_
 refine ko @Nat.add_zero ?_
 first|with_reducible refine ks [] @Nat.add_zero ?_|refine kp @Nat.add_zero ?_
 refine⟨_,(ke @Nat.add_zero),trivial, ?_⟩
 rfl
theorem aaZ_ (x:IdL) (w:World):
  Rets Tryz.prog 185 #[.agg (a8 x.l)] w (fun v D=>v=vs x.l∧D= []):=by
 have hxl:=x.h
 refine Rets.enterV Tryz.func185 rfl (rs:= [.tmp 2]) Tryz.results185 Tryz.ntmps185 ?_
 refine kf ?_
 first|with_reducible refine ks [] @Nat.add_zero ?_|refine kp @Nat.add_zero ?_
 refine Ow.box rfl rfl fun bx hbx hwx=> ?_
 simp only[z4_,z1_,z3_,zd_,List.nil_append,List.cons_append]
 refine Ow.go rfl ?_
 simp(disch:=(first|assumption|omega| (simp only[x5_,xZ_,UInt64.reduceToNat];try omega))) only[↓Sx.S0,Sx.S1,Tryz.fx,Nat.reduceAdd,Nat.reducePow,Int.reducePow,Nat.reduceBEq, ↓reduceIte,UInt8.reduceToNat,UInt16.reduceToNat,UInt32.reduceToNat,UInt64.reduceToNat,Int.reduceToNat]
 have e4:List.take 32 (List.drop 0 x.l)=x.l:=by rw[List.drop_zero,List.take_of_length_le (by omega)]
 first|with_reducible refine ks [] @e4 ?_|refine kp @e4 ?_
 refine⟨_,(ke @Nat.add_zero),⟨hwx,trivial⟩, ?_⟩
 rfl
end Go.Proofs
end
section
open Go Go.Proofs Go.Sx Go.StP
namespace Go.Proofs
set_option maxRecDepth 10000
set_option maxHeartbeats 400000
set_option linter.unusedSimpArgs false
set_option linter.defProp false
def Ke_:=And.intro (And.intro (And.intro (@kp_) (@vu_)) (And.intro (@vi_) (@jq_))) (And.intro (And.intro (@qj_) (@qp_)) (And.intro (@zc_) (@zb_)))
def entB (e:EntL):List UInt8:=(v8_ (qs_ e.kind)++j2_ e.name)++e.id.l
def k2_ (l:List EntL):List UInt8:=(l.map entB).flatten
theorem Wg_ {l:List EntL} {k:Nat} (hk:k<l.length):k2_ (l.take (k+1))=k2_ (l.take k)++entB (l.getD k jM_):=by
 unfold k2_
 rw[List.take_succ_eq_append_getElem hk,List.map_append,List.flatten_append,List.getD_eq_getElem?_getD,List.getElem?_eq_getElem hk]
 simp
theorem aft_ {l:List EntL} {k:Nat} (hk:k<l.length):k2_ (l.take (k+1))=k2_ (l.take k)++v8_ (qs_ (l.getD k jM_).kind)++j2_ (l.getD k jM_).name++ (l.getD k jM_).id.l:=by
 rw[Wg_ hk];simp only[entB,List.append_assoc]
theorem vq_ {s:List UInt8} (h:s.length<1099511627776): (j2_ s).length<1099511627783:=by
 have:=zQ_ (s.length:Int)
 unfold j2_;rw[List.length_append];omega
theorem acF_ {l:List EntL} (hsh:ab0_ l): ∀k,k≤l.length→(k2_ (l.take k)).length≤k*1099511627830
 |0,_=>by simp[k2_]
 |k+1,hk=>by
  have ih:=acF_ hsh k (by omega)
  have h1:=vq_ (hsh k hk)
  have h2:=zQ_ (l.getD k jM_).kind
  have h3:=(l.getD k jM_).id.h
  rw[Wg_ hk]
  unfold entB
  simp only[List.length_append]
  omega
theorem WZ_ (v:Value) (l:List EntL) (w:World) (hv:EntS w v l) (hl:l.length<1000000) (hsh:ab0_ l):
  Rets Tryz.prog 149 #[v] w (fun v' D=>v'=vs (k2_ l)∧D= []):=by
 obtain⟨b,off,arr,E,fz,hr⟩:=hv.row
 have ln:=hv.len
 refine Rets.enterV Tryz.func149 rfl (rs:= [.tmp 2]) Tryz.results149 Tryz.ntmps149 ?_
 refine kf ?_
 first|with_reducible refine ks [] (And.intro @Ke_ @ln) ?_|refine kp (And.intro @Ke_ @ln) ?_
 refine Cw.loopG (G:=Nat) [5,6,7,8,11,12,13,14,15,16,17,18,19,20,21,22,23,24,25,26,27,28,29,30,31,32,3,9,10,4] (fun g=> [(3,vs (k2_ (l.take g))),(4,vi g)]) (fun g=> []) (fun g=>g≤l.length) (fun g=>l.length - g) 0 rfl rfl ?_ ?_
 ·exact Nat.zero_le _
 ·intro k jk hk
  refine kv ?_
  have h1:k≤l.length:=hk
  clear hk
  by_cases hk:k<l.length
  ·have h0:0<l.length:=by omega
   have hbl:=hr.lt h0
   have r2:=hr.has h0
   have i2:=hr.idx true k hk
   have m0: ∀n,zo_ (some (false,n)) (some (.cells arr E fz)) (off+k*34)=some (vs (l.getD k jM_).name):=fun n=>Qt_ hr hk n
   have m1: ∀n,zo_ (some (false,n)) (some (.cells arr E fz)) (off+k*34+1)=some (vi (l.getD k jM_).kind):=fun n=>ahk_ hr hk n
   have m2:zo_ (some (true,32)) (some (.cells arr E fz)) (off+k*34+2)=some (.agg (a8 (l.getD k jM_).id.l)):=am5_ hr hk
   have hs:=hsh k hk
   have t1:=acF_ hsh k h1
   have t2:=vq_ hs
   have t3:=zQ_ (l.getD k jM_).kind
   have t4:=(l.getD k jM_).id.h
   first|with_reducible refine ks [] (And.intro @Ke_ @ln) ?_|refine kp (And.intro @Ke_ @ln) ?_
   refine Cw.regionS [b] [0,1,2,3,4,8,9,10,11,15,16,17,18,5,12,19,6,7,13,14,20,21,22] [] (by kernel_rfl) (by kernel_rfl) (by kernel_rfl) ?_
   simp only[zp_, ↓zi_, ↓ze_, ↓zA_, ↓zz_,zf_]
   refine kq (And.intro @Ke_ (And.intro @r2 (And.intro @i2 (And.intro @m0 (And.intro @m1 (@m2)))))) ?_
   refine Ow.callFV rfl Tryz.call184 (fun w' hw'=>wD_ _ _ w' (Nat.le_refl _)) ?_
   refine kq (And.intro @Ke_ (And.intro @r2 (And.intro @i2 (And.intro @m0 (And.intro @m1 (@m2)))))) ?_
   refine Ow.callFV rfl Tryz.call154 (fun w' hw'=>vc_ _ w' hs) ?_
   refine kq (And.intro @Ke_ (And.intro @r2 (And.intro @i2 (And.intro @m0 (And.intro @m1 (@m2)))))) ?_
   refine Ow.callFV rfl Tryz.call185 (fun w' hw'=>aaZ_ _ w') ?_
   refine kq (And.intro @Ke_ (And.intro @r2 (And.intro @i2 (And.intro @m0 (And.intro @m1 (@m2)))))) ?_
   exact Again.mk (k+1) (by omega) (by omega) rfl (by rw[aft_ hk];rfl)
  ·obtain rfl:k=l.length:=by omega
   first|with_reducible refine ks [] (And.intro @Ke_ @ln) ?_|refine kp (And.intro @Ke_ @ln) ?_
   refine⟨_,(ke @Ke_),trivial, ?_⟩
   rw[List.take_length];rfl
def idsB (l:List IdL):List UInt8:=(l.map IdL.l).flatten
theorem ajG_ {l:List IdL} {k:Nat} (hk:k<l.length):idsB (l.take (k+1))=idsB (l.take k)++ (l.getD k id0).l:=by
 unfold idsB
 rw[List.take_succ_eq_append_getElem hk,List.map_append,List.flatten_append,List.getD_eq_getElem?_getD,List.getElem?_eq_getElem hk]
 simp
theorem agq_: ∀ (l:List IdL),(idsB l).length=l.length*32
 | []=>rfl
 |x::r=>by
  have h:=agq_ r
  have:=x.h
  unfold idsB at h ⊢
  rw[List.map_cons,List.flatten_cons,List.length_append,h,List.length_cons]
  omega
def aeg_ (c:ComL):List UInt8:=c.tree.l++v8_ (qs_ c.par.length)
def comB (c:ComL):List UInt8:=aeg_ c++idsB c.par++j2_ c.text
set_option linter.defProp false
def ZP_:=And.intro (And.intro (And.intro (@ai0_) (@anu_)) (And.intro (@qU_) (And.intro (@zc_) (@zb_)))) (And.intro (And.intro (@wI_) (@wL_)) (And.intro (@wW_) (And.intro (@Qe_) (@kB_))))
theorem KU_ (v:Value) (c:ComL) (w:World) (hv:ComS w v c) (hl:c.par.length<1000000) (ht:c.text.length<1099511627776):
  Rets Tryz.prog 151 #[v] w (fun v' D=>v'=vs (comB c)∧D= []):=by
 obtain⟨p,rfl,hp⟩:=hv
 obtain⟨b,off,arr,E,fz,hr⟩:=hp.row
 have ln:=hp.len
 have t2:=vq_ ht
 have t3:=zQ_ (c.par.length:Int)
 have t4:=c.tree.h
 have t5: (aeg_ c).length≤38:=by unfold aeg_;rw[List.length_append];omega
 refine Rets.enterV Tryz.func151 rfl (rs:= [.tmp 2]) Tryz.results151 Tryz.ntmps151 ?_
 refine kf ?_
 first|with_reducible refine ks [] @ZP_ ?_|refine kp @ZP_ ?_
 refine Ow.box rfl rfl fun bx hbx hwx=> ?_
 simp only[z4_,z1_,z3_,zd_,List.nil_append,List.cons_append]
 refine Ow.go rfl ?_
 simp(disch:=(first|assumption|omega| (simp only[x5_,xZ_,UInt64.reduceToNat];try omega))) only[↓Sx.S0,Sx.S1,Tryz.fx,ZP_,Nat.reduceAdd,Nat.reducePow,Int.reducePow,Nat.reduceBEq, ↓reduceIte,UInt8.reduceToNat,UInt16.reduceToNat,UInt32.reduceToNat,UInt64.reduceToNat,Int.reduceToNat]
 first|with_reducible refine ks [] (And.intro @ZP_ @ln) ?_|refine kp (And.intro @ZP_ @ln) ?_
 refine Cw.regionS [bx] [0,3,1,4,5,2,6,7,8] [] (by kernel_rfl) (by kernel_rfl) (by kernel_rfl) ?_
 simp only[zp_, ↓zi_, ↓ze_, ↓zA_, ↓zz_,zf_]
 refine kq (And.intro @ZP_ @ln) ?_
 refine Ow.callFV rfl Tryz.call185 (fun w' hw'=>aaZ_ _ w') ?_
 refine kq (And.intro @ZP_ @ln) ?_
 refine Ow.callFV rfl Tryz.call184 (fun w' hw'=>wD_ _ _ w' (Nat.le_refl _)) ?_
 refine kq (And.intro @ZP_ @ln) ?_
 rw[show c.tree.l++v8_ (qs_ c.par.length)=aeg_ c++idsB (c.par.take 0) by simp[aeg_,idsB]]
 refine Cw.loopG (G:=Nat) [13,14,15,16,17,20,21,22,23,24,25,26,27,3,18,19,4] (fun g=> [(3,vs (aeg_ c++idsB (c.par.take g))),(4,vi g)]) (fun g=> [(bx, .cells (q8_ c.tree p c.text).toArray 172 (0,0))]) (fun g=>g≤c.par.length) (fun g=>c.par.length - g) 0 rfl rfl ?_ ?_
 ·exact Nat.zero_le _
 ·intro k jk hk
  refine kv ?_
  have h1:k≤c.par.length:=hk
  clear hk
  have t6:=agq_ (c.par.take k)
  rw[List.length_take,Nat.min_eq_left h1] at t6
  by_cases hk:k<c.par.length
  ·have h0:0<c.par.length:=by omega
   have hbl:=hr.lt h0
   have hnb:bx≠b:=by omega
   have r2:=hr.has h0
   have i2:=hr.idx true k hk
   have l2:=WA_ hr hk
   have hxl:=(c.par.getD k id0).h
   first|with_reducible refine ks [] (And.intro @ZP_ (And.intro @ln (And.intro @r2 (And.intro @i2 (@l2))))) ?_|refine kp (And.intro @ZP_ (And.intro @ln (And.intro @r2 (And.intro @i2 (@l2))))) ?_
   refine Ow.callFV rfl Tryz.call185 (fun w' hw'=>aaZ_ _ w') ?_
   refine ko (And.intro @ZP_ (And.intro @ln (And.intro @r2 (And.intro @i2 (@l2))))) ?_
   exact Again.mk (k+1) (by omega) (by omega) rfl (by rw[ajG_ hk,←List.append_assoc];rfl)
  ·obtain rfl:k=c.par.length:=by omega
   rw[List.take_length]
   rw[List.take_length] at t6
   first|with_reducible refine ks [] (And.intro @ZP_ @ln) ?_|refine kp (And.intro @ZP_ @ln) ?_
   refine Ow.callFV rfl Tryz.call154 (fun w' hw'=>vc_ _ w' ht) ?_
   refine ko @ZP_ ?_
   refine⟨_,(ke @ZP_),⟨hwx,trivial⟩, ?_⟩
   rfl
end Go.Proofs
end
section
open Go Go.Proofs Go.Sx Go.StP
namespace Go.Proofs
set_option maxRecDepth 10000
set_option maxHeartbeats 400000
set_option linter.unusedSimpArgs false
instance:DecidableEq EntL:=fun a b=>if h:a.name=b.name∧a.kind=b.kind∧a.id.l=b.id.l then .isTrue (by cases a;cases b;simp only at h;obtain⟨rfl,rfl,h3⟩:=h;rw[IdL.ext' h3]) else .isFalse (fun e=>h (by rw[e];exact⟨rfl,rfl,rfl⟩))
theorem EntL.ext' {a b:EntL} (h: (a.name==b.name&&a.kind==b.kind&&a.id.l==b.id.l)=true):a=b:=by
 simp only[Bool.and_eq_true,beq_iff_eq] at h
 cases a;cases b;simp only at h;obtain⟨⟨rfl,rfl⟩,h3⟩:=h;rw[IdL.ext' h3]
set_option linter.defProp false
def av3_:=And.intro (And.intro (And.intro (@kp_) (@vu_)) (And.intro (@vi_) (@jq_))) (And.intro (And.intro (@qj_) (@qp_)) (And.intro (@zc_) (And.intro (@zb_) (@atH_))))
end Go.Proofs
end
section
open Go Go.Proofs Go.Sx Go.StP
namespace Go.Proofs
set_option maxRecDepth 10000
set_option maxHeartbeats 400000
set_option linter.unusedSimpArgs false
structure SoG where
 g:Nat
 Z:List EntL
 v:Value
 D:za_
set_option linter.defProp false
def avN_:=And.intro (And.intro (And.intro (@kp_) (@vu_)) (And.intro (@vi_) (@jq_))) (And.intro (And.intro (@qj_) (@qp_)) (And.intro (@zc_) (@zb_)))
end Go.Proofs
end
section
open Go Go.Proofs Go.Sx Go.StP
namespace Go.Proofs
set_option maxRecDepth 10000
set_option maxHeartbeats 400000
set_option linter.unusedSimpArgs false
def wp_ (l:List UInt8):IdL:=if h:l.length=32 then⟨l,h⟩ else id0
theorem vQ_ {l:List UInt8} (h:l.length=32): (wp_ l).l=l:=by unfold wp_;rw[dif_pos h]
theorem ZZ_ (s:List UInt8) (a:Nat) (e:Int): (idR s a e).1.length=32:=by
 unfold idR
 simp only
 split
 ·assumption
 ·simp[z32]
theorem Wq_ {s:List UInt8} {a:Nat} {e:Int} (ha:a≤s.length):a≤ (idR s a e).2.1∧(idR s a e).2.1≤s.length:=W2_ ha
theorem kQ_ {s:List UInt8} {a:Nat} {e most:Int} (ha:a≤s.length):a≤ (zU_ s a e most).2.1∧(zU_ s a e most).2.1≤s.length:=by
 have hp:=x2_ (e:=e) (most:=most) ha
 have hq:=W2_ (e:=(zH_ s a e most).2.2) (n:=(zH_ s a e most).1) hp.2
 unfold zU_
 simp only
 split
 ·exact⟨Nat.le_refl _,ha⟩
 ·exact⟨by omega,hq.2⟩
theorem Qf_ (s:List UInt8) (a:Nat) (e most:Int): (zU_ s a e most).1.length≤s.length:=by
 have: ∀ (b:Nat) (e n:Int),(jP_ s b e n).1.length≤s.length:=by
  intro b e n
  unfold jP_
  split
  ·simp
  ·split
   ·simp
   ·split
    ·simp
    ·simp only[List.length_take,List.length_drop];omega
 unfold zU_
 simp only
 split
 ·simp
 ·exact this _ _ _
theorem alU_ {s:List UInt8} {a:Nat} {e n:Int} (he:e≠0): (jP_ s a e n).2=(a,e):=by unfold jP_;rw[if_pos he]
theorem apl_ {s:List UInt8} {a:Nat} {e most:Int} (he:e≠0): (zH_ s a e most).2=(a,e):=by unfold zH_;rw[if_pos he]
theorem aaF_ {s:List UInt8} {a:Nat} {e most:Int} (he:e≠0): (zU_ s a e most).2=(a,e):=by
 unfold zU_
 simp only[apl_ he,alU_ he]
 rw[if_pos he]
theorem aki_ {s:List UInt8} {a:Nat} {e:Int} (he:e≠0): (idR s a e).2=(a,e):=by unfold idR;simp only[alU_ he]
theorem alr_ {s:List UInt8} {a:Nat} {e n:Int} (h:e≠5): (jP_ s a e n).2.2≠5:=by
 unfold jP_
 split
 ·exact h
 ·split
  ·show(2:Int)≠5;decide
  ·split
   ·show(3:Int)≠5;decide
   ·show(0:Int)≠5;decide
theorem apK_ (most:Int): ∀ (l:List UInt8) (k n x:Nat),z7_ most l k n= .error x→x≠5:=by
 intro l
 induction l with
 |nil=>intro k n x h;unfold z7_ at h;cases h;decide
 |cons c r ih=>
  intro k n x h
  unfold z7_ at h
  split at h
  ·split at h
   ·cases h;decide
   ·exact ih _ _ _ h
  ·split at h
   ·cases h;decide
   ·split at h
    ·cases h
    ·cases h;decide
theorem akU_ (most:Int): ∀ (l:List UInt8) (k n:Nat),z7_ most l k n≠ .error 0:=by
 intro l
 induction l with
 |nil=>intro k n h;unfold z7_ at h;cases h
 |cons c r ih=>
  intro k n h
  unfold z7_ at h
  split at h
  ·split at h
   ·cases h
   ·exact ih _ _ h
  ·split at h
   ·cases h
   ·split at h
    ·cases h
    ·cases h
theorem ajp_ {s:List UInt8} {a:Nat} {e most:Int} (h:e≠5): (zH_ s a e most).2.2≠5:=by
 unfold zH_
 split
 ·exact h
 ·split
  ·show(0:Int)≠5;decide
  ·rename_i x hx
   have:=apK_ _ _ _ _ _ hx
   show((x:Nat):Int)≠5
   omega
theorem apN_ {s:List UInt8} {a:Nat} {e most:Int} (h:e≠5): (zU_ s a e most).2.2≠5:=by
 unfold zU_
 simp only
 split
 ·exact alr_ (ajp_ h)
 ·exact alr_ (ajp_ h)
theorem at4_ {s:List UInt8} {a:Nat} {e:Int} (h:e≠5): (idR s a e).2.2≠5:=by unfold idR;exact alr_ h
theorem aqw_ {s:List UInt8} {a:Nat} {e most:Int} (h: (zH_ s a e most).2.2=0):a< (zH_ s a e most).2.1:=by
 unfold zH_ at h ⊢
 split
 ·rename_i he
  rw[if_pos he] at h
  exact absurd h he
 ·rename_i he
  rw[if_neg he] at h
  split
  ·rename_i n k hk
   have:=aao_ _ _ _ _ _ _ hk
   show a<a+k
   omega
  ·rename_i x hx
   rw[hx] at h
   exfalso
   have:x=0:=by have: ((x:Nat):Int)=0:=h;omega
   subst this
   exact akU_ _ _ _ _ hx
def Vb_ (s:List UInt8) (a:Nat) (e:Int):EntL×Nat×Int:=
 let p:=zH_ s a e 2
 let q:=zU_ s p.2.1 p.2.2 32
 let i:=idR s q.2.1 q.2.2
 (⟨q.1,p.1,wp_ i.1⟩,i.2)
theorem aff_ {s:List UInt8} {a:Nat} {e:Int} (ha:a≤s.length):a≤ (Vb_ s a e).2.1∧(Vb_ s a e).2.1≤s.length:=by
 have h1:=x2_ (e:=e) (most:=2) ha
 have h2:=kQ_ (e:=(zH_ s a e 2).2.2) (most:=32) h1.2
 have h3:=Wq_ (e:=(zU_ s (zH_ s a e 2).2.1 (zH_ s a e 2).2.2 32).2.2) h2.2
 unfold Vb_
 exact⟨by simp only;omega,h3.2⟩
theorem asm_ {s:List UInt8} {a:Nat} {e:Int} (h:e≠5): (Vb_ s a e).2.2≠5:=at4_ (apN_ (ajp_ h))
theorem ajr_ {s:List UInt8} {a:Nat} {e:Int} (ha:a≤s.length) (h: (Vb_ s a e).2.2=0):a< (Vb_ s a e).2.1:=by
 have h1:=x2_ (e:=e) (most:=2) ha
 have h2:=kQ_ (e:=(zH_ s a e 2).2.2) (most:=32) h1.2
 have h3:=Wq_ (e:=(zU_ s (zH_ s a e 2).2.1 (zH_ s a e 2).2.2 32).2.2) h2.2
 unfold Vb_ at h ⊢
 simp only at h ⊢
 have e2: (zU_ s (zH_ s a e 2).2.1 (zH_ s a e 2).2.2 32).2.2=0:=Decidable.byContradiction fun hn=>by rw[aki_ hn] at h;exact hn h
 have e1: (zH_ s a e 2).2.2=0:=Decidable.byContradiction fun hn=>by rw[aaF_ hn] at e2;exact hn e2
 have:=aqw_ e1
 omega
def kP_ (s:List UInt8):Nat→Nat→Int→List EntL→List EntL×Nat×Int
 |0,a,e,l=>(l,a,e)
 |n+1,a,e,l=>if e=0∧a<s.length then kP_ s n (Vb_ s a e).2.1 (Vb_ s a e).2.2 (l++ [(Vb_ s a e).1]) else(l,a,e)
theorem XY_ {s:List UInt8} {n a:Nat} {e:Int} {l:List EntL} (h:e=0∧a<s.length):kP_ s (n+1) a e l=kP_ s n (Vb_ s a e).2.1 (Vb_ s a e).2.2 (l++ [(Vb_ s a e).1]):=by rw[kP_,if_pos h]
theorem Q6_ {s:List UInt8} {n a:Nat} {e:Int} {l:List EntL} (h: ¬ (e=0∧a<s.length)):kP_ s n a e l=(l,a,e):=by
 cases n with
 |zero=>rfl
 |succ n=>rw[kP_,if_neg h]
def jN_ (s:List UInt8):List EntL×Nat×Int:=kP_ s (s.length+1) 0 0 []
structure EntsJ (s:List UInt8) (n a:Nat) (e:Int) (l:List EntL):Prop where
 go:jN_ s=kP_ s n a e l
 le:a≤s.length
 five:e≠5
 fuel:e=0→s.length<a+n
 cnt:l.length+n=s.length+1
 short: ∀i,i<l.length→(l.getD i jM_).name.length≤s.length
theorem EntsJ.init (s:List UInt8):EntsJ s (s.length+1) 0 0 []:=⟨rfl,Nat.zero_le _,by decide,fun _=>by omega,by simp,fun i hi=>by simp at hi⟩
theorem EntsJ.next {s:List UInt8} {n a:Nat} {e:Int} {l:List EntL} (h:EntsJ s n a e l) (hc:e=0∧a<s.length): ∃m,n=m+1∧EntsJ s m (Vb_ s a e).2.1 (Vb_ s a e).2.2 (l++ [(Vb_ s a e).1]):=by
 have:=h.fuel hc.1
 obtain⟨m,rfl⟩: ∃m,n=m+1:=⟨n - 1,by omega⟩
 refine⟨m,rfl,h.go.trans (XY_ hc),(aff_ h.le).2,asm_ h.five,fun h0=> ?_, ?_,fun i hi=> ?_⟩
 ·have:=ajr_ h.le h0;omega
 ·have:=h.cnt;simp only[List.length_append,List.length_cons,List.length_nil];omega
 ·by_cases hlt:i<l.length
  ·rw[aiI_ hlt];exact h.short i hlt
  ·have:i=l.length:=by simp only[List.length_append,List.length_cons,List.length_nil] at hi;omega
   subst this
   rw[ahZ_ (Nat.le_refl _),Nat.sub_self]
   exact Qf_ _ _ _ _
theorem EntsJ.done {s:List UInt8} {n a:Nat} {e:Int} {l:List EntL} (h:EntsJ s n a e l) (hc: ¬ (e=0∧a<s.length)):jN_ s=(l,a,e):=h.go.trans (Q6_ hc)
theorem EntsJ.sh {s:List UInt8} {n a:Nat} {e:Int} {l:List EntL} (h:EntsJ s n a e l) (hs:s.length<1000000):ab0_ l:=fun i hi=>by have:=h.short i hi;omega
end Go.Proofs
end
section
open Go Go.Proofs Go.Sx Go.StP
namespace Go.Proofs
set_option maxRecDepth 10000
set_option maxHeartbeats 400000
set_option linter.unusedSimpArgs false
theorem adL_:jy_ (wE_ Tryz.prog 221) (zW_ Tryz.prog 221) []=some (.agg (qQ_ jM_).toArray):=by
 rw[show wE_ Tryz.prog 221=some [(0,1),(1,1),(2,32)] from id (by kernel_rfl),aae_];rfl
theorem ajT_ (s:List UInt8):jy_ (wE_ Tryz.prog 217) (zW_ Tryz.prog 217) [(0,vs s)]=some (.agg #[vs s,vi 0,vi 0]):=by
 have hp:wE_ Tryz.prog 217=some [(0,1),(1,1),(2,1)]:=id (by kernel_rfl)
 have hz:zW_ Tryz.prog 217=some (.agg #[vs [],vi 0,vi 0]):=id (by kernel_rfl)
 rw[hp,hz];rfl
def adP_ (s:List UInt8):Option (List EntL):=if(jN_ s).2.2=0∧kt_ (jN_ s).1=true∧k2_ (jN_ s).1=s then some (jN_ s).1 else none
def akB_ (s:List UInt8) (v:Value) (D:za_):Prop:=
 match adP_ s with
 |some l=> ∃v1,v= .tuple #[v1, .bool true]∧Gr D 221 34 v1 l.length (l.map qQ_).flatten
 |none=>v= .tuple #[.slice none 0 0, .bool false]
structure EnG where
 n:Nat
 a:Nat
 e:Int
 l:List EntL
 v:Value
 D:za_
set_option linter.defProp false
def jd_:=And.intro (And.intro (And.intro (@x8_) (And.intro (@kb_) (@kh_))) (And.intro (@xh_) (And.intro (@xq_) (@jq_)))) (And.intro (And.intro (@V8_) (And.intro (@VY_) (@Ww_))) (And.intro (And.intro (@qj_) (@qp_)) (And.intro (@zc_) (@zb_))))
theorem aaQ_ (s:List UInt8) (w:World) (hs:s.length<100000):
  Rets Tryz.prog 108 #[vs s] w (XS w [] (akB_ s)):=by
 refine Rets.enterX Tryz.func108 rfl (rs:= [.tmp 2, .tmp 3]) Tryz.results108 Tryz.ntmps108 (fun p hp=>by cases hp) (by simp[keys]) ?_
 refine kf ?_
 first|with_reducible refine ks [] @jd_ ?_|refine kp @jd_ ?_
 refine Ow.build ((.agg #[vs s,vi 0,vi 0])) rfl (by kernel_rfl) ?_
 refine ko @jd_ ?_
 refine Ow.box rfl rfl fun br hbr hwr=> ?_
 simp only[z4_,z1_,z3_,zd_,List.nil_append]
 refine ko @jd_ ?_
 refine Cw.loopG (G:=EnG) [10,11,12,13,14,15,16,17,18,19,20,21,22,23,24,6,25,26,27,28,29,30,31,32,33,34,35,36,37,5] (fun q=> [(5,q.v)]) (fun q=>(br, .cells #[vs s,vi q.a,vi q.e] 217 (0,0))::q.D) (fun q=>EntsJ s q.n q.a q.e q.l∧New (br+1) q.D∧Gr q.D 221 34 q.v q.l.length (q.l.map qQ_).flatten) (fun q=>q.n) ⟨s.length+1,0,0,[], .slice none 0 0,[]⟩ rfl rfl ?_ ?_
 ·exact⟨EntsJ.init s,trivial,Gr.nl⟩
 ·intro q jq hq
  refine kv ?_
  obtain⟨n,a,e,l,v,D⟩:=q
  simp only at hq ⊢
  obtain⟨hJ,hN,hG⟩:=hq
  have hle:=hJ.le
  by_cases hc:e=0∧a<s.length
  ·obtain⟨m,rfl,hJ'⟩:=hJ.next hc
   obtain⟨he,hlt⟩:=hc
   have d1: (e==0)=true:=by simp[he]
   have d2:decide ((a:Int)< (s.length:Int))=true:=decide_eq_true (by omega)
   have hp:=x2_ (e:=e) (most:=2) hle
   have hq:=kQ_ (e:=(zH_ s a e 2).2.2) (most:=32) hp.2
   have heq:Vb_ s a e=(⟨(zU_ s (zH_ s a e 2).2.1 (zH_ s a e 2).2.2 32).1,(zH_ s a e 2).1,wp_ (idR s (zU_ s (zH_ s a e 2).2.1 (zH_ s a e 2).2.2 32).2.1 (zU_ s (zH_ s a e 2).2.1 (zH_ s a e 2).2.2 32).2.2).1⟩,(idR s (zU_ s (zH_ s a e 2).2.1 (zH_ s a e 2).2.2 32).2.1 (zU_ s (zH_ s a e 2).2.1 (zH_ s a e 2).2.2 32).2.2).2):=rfl
   have hil:=ZZ_ s (zU_ s (zH_ s a e 2).2.1 (zH_ s a e 2).2.2 32).2.1 (zU_ s (zH_ s a e 2).2.1 (zH_ s a e 2).2.2 32).2.2
   first|with_reducible refine ks [] (And.intro @jd_ (And.intro @d1 (@d2))) ?_|refine kp (And.intro @jd_ (And.intro @d1 (@d2))) ?_
   refine Ow.build (.agg (qQ_ jM_).toArray) rfl adL_ ?_
   refine ko @jd_ ?_
   refine Ow.alloc rfl rfl aae_ fun b6 hb6 hw6=> ?_
   simp only[zd_,List.nil_append,List.cons_append]
   have hr6:br<b6:=zk_ hb6 (by simp[keys])
   refine Ow.permL (M:=(b6,Obj.cells (qQ_ jM_).toArray 221 (0,0)):: (br, .cells #[vs s,vi a,vi e] 217 (0,0))::D) (by classical exact List.perm_iff_count.2 fun a=>by simp only[List.count_append,List.count_cons,List.count_nil]<;>omega) ?_
   refine ko @jd_ ?_
   refine Ow.callM rfl rfl Tryz.call146 (by simp[keys]) (fun w' hw'=>k5_ br s a e 2 w' hle (by omega) (hw'.has _ _ (List.mem_cons_of_mem _ List.mem_cons_self))) ?_
   generalize zH_ s a e 2=p at*
   obtain⟨kd,a1,e1⟩:=p
   simp only at hp hq heq hil ⊢
   refine kn ?_
   refine ko @jd_ ?_
   first|with_reducible refine ks [] @jd_ ?_|refine kp @jd_ ?_
   refine Ow.callM rfl rfl Tryz.call144 (by simp[keys]) (fun w' hw'=>wQ_ br s a1 e1 32 w' hp.2 (by omega) (hw'.has _ _ (List.mem_cons_of_mem _ List.mem_cons_self))) ?_
   generalize zU_ s a1 e1 32=q at*
   obtain⟨tt,a2,e2⟩:=q
   simp only at hq heq hil ⊢
   refine kn ?_
   refine ko @jd_ ?_
   first|with_reducible refine ks [] @jd_ ?_|refine kp @jd_ ?_
   refine Ow.callM rfl rfl Tryz.call147 (by simp[keys]) (fun w' hw'=>Jw_ br s a2 e2 w' hq.2 (by omega) (hw'.has _ _ (List.mem_cons_of_mem _ List.mem_cons_self))) ?_
   generalize idR s a2 e2=i at*
   obtain⟨il,a3,e3⟩:=i
   simp only at heq hil ⊢
   obtain⟨I,hI⟩: ∃I,wp_ il=I:=⟨_,rfl⟩
   have hiI:il=I.l:=by rw[←hI,vQ_ hil]
   rw[hI] at heq
   rw[hiI]
   refine kn ?_
   refine ko @jd_ ?_
   generalize hx: ({name:=tt,kind:=kd,id:=I}:EntL)=x
   rw[hx] at heq
   rw[heq] at hJ'
   refine Ow.buildSlice (e:=221) (qQ_ x).toArray rfl rfl (vj_ Tryz.underlying168 agp_ aae_ (by decide) (qT_ x)) fun b13 hb13 hw13=> ?_
   have hr13:br<b13:=zk_ hb13 (by simp[keys])
   refine Ow.permL (M:=D++ ((b6,Obj.cells (qQ_ x).toArray 221 (0,0)):: (br, .cells #[vs s,vi a3,vi e3] 217 (0,0)):: [(b13,Obj.cells (qQ_ x).toArray 221 (0,0))])) (by classical exact List.perm_iff_count.2 fun a=>by simp only[List.count_append,List.count_cons,List.count_nil]<;>omega) ?_
   refine ko @jd_ ?_
   refine Ow.appendX (e:=221) (k:=1) (new:=qQ_ x) (X:=D) v rfl rfl rfl rfl Tryz.underlying168 agp_ (by kernel_rfl) aae_ (by rw[qp_,List.size_toArray,qT_]) Tryz.underlying168 (by intro k h;cases h) hG (fun w' hw'=>AppX.one1 (hw'.has b13 (.cells (qQ_ x).toArray 221 (0,0)) (by simp)) (qT_ _) (Xk_ _)) (by omega) (by have:=hJ.cnt;omega) (fun B v4 D4 hA4 hB4 hbuf hk1 hk2 hlk=> ?_)
   have hB13:b13<B:=zk_ hA4 (by simp[zv_,keys])
   have hN4:New (br+1) D4:=New.of_le fun q hq=>by
    rcases hk2 q hq with h|h
    ·exact hN.le q h
    ·omega
   refine Ow.permL (M:=(br, .cells #[vs s,vi a3,vi e3] 217 (0,0)):: (D4++ [(b6,Obj.cells (qQ_ x).toArray 221 (0,0)),(b13,Obj.cells (qQ_ x).toArray 221 (0,0))])) (by classical exact List.perm_iff_count.2 fun a=>by simp only[List.count_append,List.count_cons,List.count_nil]<;>omega) ?_
   refine ko @jd_ ?_
   refine Again.mk (EnG.mk m a3 e3 (l++ [x]) v4 (D4++ [(b6,Obj.cells (qQ_ x).toArray 221 (0,0)),(b13,Obj.cells (qQ_ x).toArray 221 (0,0))])) (by show m<m+1;omega) ⟨hJ',hN4.app ⟨by omega,by omega,trivial⟩, ?_⟩ rfl rfl
   show Gr _ _ _ _ (l++ [x]).length ((l++ [x]).map qQ_).flatten
   rw[List.length_append,List.map_append,List.flatten_append,show([x].map qQ_).flatten=qQ_ x by simp]
   exact Gr.app (.inl hbuf)
  ·have hd:=hJ.done hc
   have hsh:=hJ.sh (by omega)
   have hcn:=hJ.cnt
   have hR:adP_ s=if e=0∧kt_ l=true∧k2_ l=s then some l else none:=by unfold adP_;rw[hd]
   unfold akB_
   rw[hR]
   have hNe:New w.heap.size ((br,Obj.cells #[vs s,vi a,vi e] 217 (0,0))::D):=⟨hwr,New.mono (by omega) hN⟩
   by_cases he:e=0
   ·have d1: (e==0)=true:=by simp[he]
    have d2:decide ((a:Int)< (s.length:Int))=false:=decide_eq_false (by omega)
    have hend: (if e≠0 then e else if(a:Int)< (s.length:Int) then 5 else 0)=(0:Int):=by rw[if_neg (by simp[he]),if_neg (by omega)]
    first|with_reducible refine ks [] (And.intro @jd_ (And.intro @d1 (@d2))) ?_|refine kp (And.intro @jd_ (And.intro @d1 (@d2))) ?_
    refine Ow.callFV rfl Tryz.call145 (fun w' hw'=>ZU_ br s a e w' (hw'.has _ _ (by simp))) ?_
    rw[hend]
    have d4: ((0:Int) !=0)=false:=rfl
    refine ko (And.intro @jd_ @d4) ?_
    refine Ow.callFV rfl Tryz.call148 (fun w' hw'=>VK_ v l w' (hG.slM (fun b o hm=>hw'.has b o (by simp[hm])) rfl rfl qT_) (by omega) hsh) ?_
    cases hr:kt_ l
    ·rw[if_neg (by simp)]
     refine ko @jd_ ?_
     first|with_reducible refine ks [] @jd_ ?_|refine kp @jd_ ?_
     refine⟨_,(ke @jd_), ?_⟩
     exact⟨Ext.of_new hNe,rfl⟩
    ·refine ko @jd_ ?_
     refine Ow.callFV rfl Tryz.call149 (fun w' hw'=>WZ_ v l w' (hG.slM (fun b o hm=>hw'.has b o (by simp[hm])) rfl rfl qT_) (by omega) hsh) ?_
     by_cases hb:k2_ l=s
     ·have d3: (k2_ l !=s)=false:=by simp[hb]
      rw[if_pos ⟨he,rfl,hb⟩]
      refine ko (And.intro @jd_ @d3) ?_
      first|with_reducible refine ks [] @jd_ ?_|refine kp @jd_ ?_
      refine⟨_,(ke @jd_), ?_⟩
      exact⟨Ext.of_new hNe,v,rfl,hG.keep fun b o hb ho=>by rw[Sx.look,if_neg (by have:=hN.le b (zj_ ho);omega)];exact ho⟩
     ·have d3: (k2_ l !=s)=true:=by simp[hb]
      rw[if_neg (fun h=>hb h.2.2)]
      refine ko (And.intro @jd_ @d3) ?_
      first|with_reducible refine ks [] @jd_ ?_|refine kp @jd_ ?_
      refine⟨_,(ke @jd_), ?_⟩
      exact⟨Ext.of_new hNe,rfl⟩
   ·have d1: (e==0)=false:=by simp[he]
    have d3: (e !=0)=true:=by simp[he]
    have hend: (if e≠0 then e else if(a:Int)< (s.length:Int) then 5 else 0)=e:=by rw[if_pos he]
    rw[if_neg (fun h=>he h.1)]
    first|with_reducible refine ks [] (And.intro @jd_ @d1) ?_|refine kp (And.intro @jd_ @d1) ?_
    refine Ow.callFV rfl Tryz.call145 (fun w' hw'=>ZU_ br s a e w' (hw'.has _ _ (by simp))) ?_
    rw[hend]
    refine ko (And.intro @jd_ @d3) ?_
    first|with_reducible refine ks [] @jd_ ?_|refine kp @jd_ ?_
    refine⟨_,(ke @jd_), ?_⟩
    exact⟨Ext.of_new hNe,rfl⟩
end Go.Proofs
end
section
open Go Go.Proofs Go.Sx Go.StP
namespace Go.Proofs
set_option maxRecDepth 10000
set_option maxHeartbeats 400000
set_option linter.unusedSimpArgs false
theorem ZK_ (most:Int): ∀ (l:List UInt8) (k n m k':Nat),z7_ most l k n= .ok (m,k')→(m:Int)≤most
 | [],_,_,_,_,h=>by simp[z7_] at h
 |c::r,k,n,m,k',h=>by
  unfold z7_ at h
  split at h
  ·split at h
   ·cases h
   ·exact ZK_ most r _ _ _ _ h
  ·split at h
   ·cases h
   ·split at h
    ·rename_i hh
     cases h
     exact hh.2
    ·cases h
theorem WJ_ {s:List UInt8} {a:Nat} {e most:Int} (h0:0≤most):0≤ (zH_ s a e most).1∧(zH_ s a e most).1≤most:=by
 unfold zH_
 split
 ·exact⟨Int.le_refl 0,h0⟩
 ·split
  ·rename_i n k h
   exact⟨Int.natCast_nonneg _,ZK_ most _ _ _ _ _ h⟩
  ·exact⟨Int.le_refl 0,h0⟩
def zL_ (s:List UInt8) (a:Nat) (e:Int):Nat→List IdL×Nat×Int
 |0=>([],a,e)
 |n+1=>let p:=zL_ s a e n;let i:=idR s p.2.1 p.2.2;(p.1++ [wp_ i.1],i.2)
theorem Qj_ (s:List UInt8) (a:Nat) (e:Int): ∀n,(zL_ s a e n).1.length=n
 |0=>rfl
 |n+1=>by simp only[zL_,List.length_append,List.length_cons,List.length_nil,Qj_ s a e n]
theorem QH_ {s:List UInt8} {a:Nat} {e:Int} (ha:a≤s.length): ∀n,(zL_ s a e n).2.1≤s.length
 |0=>ha
 |n+1=>(Wq_ (QH_ ha n)).2
def comN (s:List UInt8):Int×Nat×Int:=zH_ s (idR s 0 0).2.1 (idR s 0 0).2.2 4
def wf_ (s:List UInt8):List IdL×Nat×Int:=zL_ s (comN s).2.1 (comN s).2.2 (comN s).1.toNat
def comT (s:List UInt8):List UInt8×Nat×Int:=zU_ s (wf_ s).2.1 (wf_ s).2.2 64
def v9_ (s:List UInt8):ComL×Nat×Int:=(⟨wp_ (idR s 0 0).1,(wf_ s).1,(comT s).1⟩,(comT s).2)
def xw_ (s:List UInt8) (a:Nat) (e:Int):Int:=if e≠0 then e else if(a:Int)< (s.length:Int) then 5 else 0
def aeP_ (s:List UInt8):Option ComL:=if xw_ s (v9_ s).2.1 (v9_ s).2.2=0∧wU_ (v9_ s).1=true∧comB (v9_ s).1=s then some (v9_ s).1 else none
theorem ahr_ (t x:IdL) (p:Value) (y:List UInt8) (a:Bool) (E:TypeId):zn_ (some (a,32)) (some (.cells (q8_ t p y).toArray E (0,0))) 0 (.agg (a8 x.l))=some (.cells (q8_ x p y).toArray E (0,0)):=
 zy_ [] _ _ _ a _ E rfl (by simp[t.h]) (zd_ _) (by simp[x.h]) (wg_ _)
theorem aif_ (t:IdL) (p q:Value) (y:List UInt8) (a:Bool) (E:TypeId) (hq:Value.oneCell' q=true∧q.cells= #[q]):zn_ (some (a,1)) (some (.cells (q8_ t p y).toArray E (0,0))) 32 q=some (.cells (q8_ t q y).toArray E (0,0)):=
 zy_ (t.l.map v8) [p] [q] [vs y] a _ E (by simp[t.h]) rfl hq.2 rfl (by simp[hq.1])
theorem ahy_ (t:IdL) (p:Value) (y z:List UInt8) (a:Bool) (E:TypeId):zn_ (some (a,1)) (some (.cells (q8_ t p y).toArray E (0,0))) 33 (vs z)=some (.cells (q8_ t p z).toArray E (0,0)):=by
 have e: ∀y,q8_ t p y=(t.l.map v8++ [p])++ ([vs y]++ []):=fun y=>by unfold q8_;simp only[List.append_assoc,List.append_nil]
 rw[e,e];exact zy_ _ _ _ _ a _ E (by simp[t.h]) rfl rfl rfl rfl
theorem aoq_:zW_ Tryz.prog 172=some (.agg (q8_ id0 (.slice none 0 0) []).toArray):=id (by kernel_rfl)
theorem Zc_:jy_ (wE_ Tryz.prog 172) (zW_ Tryz.prog 172) []=some (.agg (q8_ id0 (.slice none 0 0) []).toArray):=by
 rw[show wE_ Tryz.prog 172=some [(0,32),(32,1),(33,1)] from id (by kernel_rfl),aoq_];rfl
theorem Kg_:zZ_ Tryz.prog 84=some (true,32):=id (by kernel_rfl)
theorem ZN_:zW_ Tryz.prog 84=some (.agg (a8 id0.l)):=id (by kernel_rfl)
end Go.Proofs
end
section
open Go Go.Proofs Go.Sx Go.StP
namespace Go.Proofs
set_option maxRecDepth 10000
set_option maxHeartbeats 400000
set_option linter.unusedSimpArgs false
theorem Qz_ {b:Nat} {x:Obj}: ∀ {D L:za_},b∉keys D→setB (D++L) b x=D++setB L b x
 | [],_,_=>rfl
 | (c,y)::r,L,h=>by
  simp only[keys,List.map_cons,List.mem_cons,not_or] at h
  rw[List.cons_append,xy_ _ _ _ _ _ (Ne.symm h.1),Qz_ (by simpa [keys] using h.2)];rfl
def alA_ (s:List UInt8) (v:Value) (D:za_):Prop:=
 match aeP_ s with
 |some c=> ∃p,v= .tuple #[.agg (q8_ c.tree p c.text).toArray, .bool true]∧Gr D 84 32 p c.par.length (c.par.map Z7_).flatten
 |none=>v= .tuple #[.agg (q8_ id0 (.slice none 0 0) []).toArray, .bool false]
theorem JV_ (b:Nat) (s:List UInt8) (a:Nat) (e:Int) (w:World) (ho:w.heap[b]? =some (.cells #[vs s,vi a,vi e] 217 (0,0))):
  Rets Tryz.prog 145 #[vp b 0] w (fun v D=>v=vi (xw_ s a e)∧D= []):=ZU_ b s a e w ho
structure CmG where
 g:Nat
 v:Value
 D:za_
set_option linter.defProp false
def q5_:=And.intro (And.intro (And.intro (@x8_) (And.intro (@kb_) (@kh_))) (And.intro (And.intro (@xh_) (@xq_)) (And.intro (@wI_) (@wL_)))) (And.intro (And.intro (@wW_) (And.intro (@Qe_) (@kB_))) (And.intro (And.intro (@ahr_) (@ahy_)) (And.intro (@zc_) (@zb_))))
theorem aas_ (s:List UInt8) (w:World) (hs:s.length<100000):
  Rets Tryz.prog 109 #[vs s] w (XS w [] (alA_ s)):=by
 refine Rets.enterX Tryz.func109 rfl (rs:= [.cell 2 172, .tmp 3]) Tryz.results109 Tryz.ntmps109 (fun p hp=>by cases hp) (by simp[keys]) ?_
 refine kf ?_
 first|with_reducible refine ks [] @q5_ ?_|refine kp @q5_ ?_
 refine Ow.alloc rfl rfl aoq_ fun b2 hb2 hw2=> ?_
 simp only[zd_,List.nil_append,List.cons_append]
 refine ko @q5_ ?_
 refine Ow.build ((.agg #[vs s,vi 0,vi 0])) rfl (by kernel_rfl) ?_
 refine ko @q5_ ?_
 refine Ow.box rfl rfl fun br hbr hwr=> ?_
 have h2r:b2<br:=zk_ hbr (by simp[keys])
 simp only[z4_,z1_,z3_,zd_,List.nil_append,List.cons_append]
 refine ko @q5_ ?_
 refine Ow.build (.agg (q8_ id0 (.slice none 0 0) []).toArray) rfl Zc_ ?_
 refine ko @q5_ ?_
 refine Ow.alloc rfl rfl aoq_ fun b5 hb5 hw5=> ?_
 simp only[zd_,List.nil_append,List.cons_append]
 have h25:b2<b5:=zk_ hb5 (by simp[keys])
 have hr5:br<b5:=zk_ hb5 (by simp[keys])
 have st5: ∀a E,zn_ (some (a,34)) (some (.cells (q8_ id0 (.slice none 0 0) []).toArray E (0,0))) 0 (.agg (q8_ id0 (.slice none 0 0) []).toArray)=some (.cells (q8_ id0 (.slice none 0 0) []).toArray E (0,0)):=fun a E=>K1_ _ _ _ _ a E (by rw[List.size_toArray,Zf_]) rfl
 refine ko (And.intro @q5_ @st5) ?_
 refine Ow.callM rfl rfl Tryz.call147 (by simp[keys]) (fun w' hw'=>Jw_ br s 0 0 w' (Nat.zero_le _) (by omega) (hw'.has _ _ (List.mem_cons_of_mem _ List.mem_cons_self))) ?_
 have ip:=Wq_ (s:=s) (a:=0) (e:=0) (Nat.zero_le _)
 have np:=x2_ (e:=(idR s 0 0).2.2) (most:=4) ip.2
 have nm:=WJ_ (s:=s) (a:=(idR s 0 0).2.1) (e:=(idR s 0 0).2.2) (most:=4) (by decide)
 obtain⟨T,hT⟩: ∃T,wp_ (idR s 0 0).1=T:=⟨_,rfl⟩
 have hiT: (idR s 0 0).1=T.l:=by rw[←hT,vQ_ (ZZ_ s 0 0)]
 have hcE:v9_ s=(⟨T,(wf_ s).1,(comT s).1⟩,(comT s).2):=by unfold v9_;rw[hT]
 rw[hiT]
 refine kn ?_
 refine ko @q5_ ?_
 refine Ow.callM rfl rfl Tryz.call146 (by simp[keys]) (fun w' hw'=>k5_ br s _ _ 4 w' ip.2 (by omega) (hw'.has _ _ (List.mem_cons_of_mem _ List.mem_cons_self))) ?_
 have hP:wf_ s=zL_ s (zH_ s (idR s 0 0).2.1 (idR s 0 0).2.2 4).2.1 (zH_ s (idR s 0 0).2.1 (idR s 0 0).2.2 4).2.2 (zH_ s (idR s 0 0).2.1 (idR s 0 0).2.2 4).1.toNat:=rfl
 generalize zH_ s (idR s 0 0).2.1 (idR s 0 0).2.2 4=nr at*
 obtain⟨cn,na,ne⟩:=nr
 simp only at np nm hP ⊢
 obtain⟨k,rfl⟩:=Int.eq_ofNat_of_zero_le nm.1
 rw[Int.toNat_natCast] at hP
 refine kn ?_
 refine ko @q5_ ?_
 refine Cw.permL (M:=(b5, .cells (q8_ T (.slice none 0 0) []).toArray 172 (0,0)):: (br, .cells #[vs s,vi na,vi ne] 217 (0,0)):: (b2, .cells (q8_ id0 (.slice none 0 0) []).toArray 172 (0,0)):: []) (by classical exact List.perm_iff_count.2 fun a=>by simp only[List.count_append,List.count_cons,List.count_nil]<;>omega) ?_
 refine Cw.loopG (G:=CmG) [17,18,19,22,23,24,25,26,27,28,20,21,7] (fun q=> [(7,vi q.g)]) (fun q=>(b5, .cells (q8_ T q.v []).toArray 172 (0,0)):: (br, .cells #[vs s,vi (zL_ s na ne q.g).2.1,vi (zL_ s na ne q.g).2.2] 217 (0,0)):: (b2, .cells (q8_ id0 (.slice none 0 0) []).toArray 172 (0,0))::q.D) (fun q=>q.g≤k∧New (b5+1) q.D∧Gr q.D 84 32 q.v q.g ((zL_ s na ne q.g).1.map Z7_).flatten) (fun q=>k - q.g) ⟨0, .slice none 0 0,[]⟩ rfl rfl ?_ ?_
 ·exact⟨Nat.zero_le _,trivial,Gr.nl⟩
 ·intro q jq hq
  refine kv ?_
  obtain⟨g,v,D⟩:=q
  simp only at hq ⊢
  obtain⟨hgk,hN,hG⟩:=hq
  have gle:=QH_ (e:=ne) np.2 g
  by_cases hlt:g<k
  ·have hgs:zL_ s na ne (g+1)=((zL_ s na ne g).1++ [wp_ (idR s (zL_ s na ne g).2.1 (zL_ s na ne g).2.2).1],(idR s (zL_ s na ne g).2.1 (zL_ s na ne g).2.2).2):=rfl
   first|with_reducible refine ks [7] @q5_ ?_|refine kp @q5_ ?_
   refine Cw.regionS [b5] [0,2,1,3,4,5,6,7] [7] (by kernel_rfl) (by kernel_rfl) (by kernel_rfl) ?_
   simp only[zp_, ↓zi_, ↓ze_, ↓zA_, ↓zz_,zf_]
   refine kq @q5_ ?_
   refine Ow.soft rfl rfl rfl ?_
   refine Ow.callM rfl rfl Tryz.call147 (by simp[keys]) (fun w' hw'=>Jw_ br s (zL_ s na ne g).2.1 (zL_ s na ne g).2.2 w' gle (by omega) (hw'.has _ _ (List.mem_cons_of_mem _ List.mem_cons_self))) ?_
   with_reducible refine Ow.nil ?_
   refine⟨fun b hb=>wl_ (by simp only[List.mem_cons,List.not_mem_nil,or_false] at hb;omega), ?_⟩
   have hil:=ZZ_ s (zL_ s na ne g).2.1 (zL_ s na ne g).2.2
   obtain⟨I,hI⟩: ∃I,wp_ (idR s (zL_ s na ne g).2.1 (zL_ s na ne g).2.2).1=I:=⟨_,rfl⟩
   have hiI: (idR s (zL_ s na ne g).2.1 (zL_ s na ne g).2.2).1=I.l:=by rw[←hI,vQ_ hil]
   rw[hI] at hgs
   have hg1: (zL_ s na ne (g+1)).1=(zL_ s na ne g).1++ [I]:=by rw[hgs]
   have hg2: (zL_ s na ne (g+1)).2=(idR s (zL_ s na ne g).2.1 (zL_ s na ne g).2.2).2:=by rw[hgs]
   rw[hiI,←hg2]
   refine kn ?_
   refine Ow.soft rfl rfl rfl ?_
   refine Ow.buildSlice (e:=84) (a8 I.l) rfl rfl (vj_ (cs:=I.l.map v8) Tryz.underlying106 Kg_ ZN_ (by decide) (by simp[I.h])) fun b13 hb13 hw13=> ?_
   have hr13:b5<b13:=zk_ hb13 (by simp[keys])
   with_reducible refine Ow.nil ?_
   refine⟨Zb_ (by simp[keys]), ?_⟩
   try simp only[List.cons_append,List.nil_append]
   refine Ow.soft rfl rfl rfl ?_
   refine Ow.permL (M:=D++ ((b5,Obj.cells (q8_ T v []).toArray 172 (0,0)):: (br,Obj.cells #[vs s,vi (zL_ s na ne (g+1)).2.1,vi (zL_ s na ne (g+1)).2.2] 217 (0,0)):: (b2,Obj.cells (q8_ id0 (.slice none 0 0) []).toArray 172 (0,0)):: [(b13,Obj.cells (a8 I.l) 84 (0,0))])) (by classical exact List.perm_iff_count.2 fun a=>by simp only[List.count_append,List.count_cons,List.count_nil]<;>omega) ?_
   refine Ow.appendX (e:=84) (k:=1) (new:=Z7_ I) (X:=D) v rfl rfl rfl rfl Tryz.underlying106 Kg_ (by kernel_rfl) ZN_ (by rw[zd_,wO_,id0.h]) Tryz.underlying106 (by intro k h;cases h) hG (fun w' hw'=>AppX.one1 (hw'.has b13 (.cells (a8 I.l) 84 (0,0)) (by simp)) (vv_ I) (XE_ I)) (by omega) (by omega) (fun B v4 D4 hA4 hB4 hbuf hk1 hk2 hlk=> ?_)
   have hB13:b13<B:=zk_ hA4 (by simp[zv_,keys])
   have hN4:New (b5+1) D4:=New.of_le fun q hq=>by
    rcases hk2 q hq with h|h
    ·exact hN.le q h
    ·omega
   have h54:b5∉keys D4:=hN4.not (by omega)
   with_reducible refine Ow.nil ?_
   refine⟨fun q hq=> ?_, ?_⟩
   ·rw[List.mem_singleton] at hq
    subst hq
    rw[w7_ h54]
    simp only[xj_]
   have hlk5: ∀M,Sx.look (D4++M) b5=Sx.look M b5:=fun M=>qf_ h54
   have hsb5: ∀M x,setB (D4++M) b5 x=D4++setB M b5 x:=fun M x=>Qz_ h54
   have st5:=fun a E=>aif_ T v v4 [] a E hbuf.cell
   refine kq (And.intro @q5_ (And.intro @hlk5 (And.intro @hsb5 (And.intro @st5 (@QW_))))) ?_
   have hst7:xG_ (zZ_ Tryz.prog 106) (D4++ [(b5,Obj.cells (q8_ T v []).toArray 172 (0,0)),(br,Obj.cells #[vs s,vi (zL_ s na ne (g+1)).2.1,vi (zL_ s na ne (g+1)).2.2] 217 (0,0)),(b2,Obj.cells (q8_ id0 (.slice none 0 0) []).toArray 172 (0,0)),(b13,Obj.cells (a8 I.l) 84 (0,0))]) (vp b5 32) v4=
     some (D4++ [(b5,Obj.cells (q8_ T v4 []).toArray 172 (0,0)),(br,Obj.cells #[vs s,vi (zL_ s na ne (g+1)).2.1,vi (zL_ s na ne (g+1)).2.2] 217 (0,0)),(b2,Obj.cells (q8_ id0 (.slice none 0 0) []).toArray 172 (0,0)),(b13,Obj.cells (a8 I.l) 84 (0,0))]):=by
    rw[Tryz.ag106,wJ_,hlk5]
    simp only[z5_,st5,QN_,hsb5,xb_]
   refine Ow.store rfl rfl rfl hst7 ?_
   refine ko @q5_ ?_
   refine Cw.permL (M:=(b5,Obj.cells (q8_ T v4 []).toArray 172 (0,0)):: (br,Obj.cells #[vs s,vi (zL_ s na ne (g+1)).2.1,vi (zL_ s na ne (g+1)).2.2] 217 (0,0)):: (b2,Obj.cells (q8_ id0 (.slice none 0 0) []).toArray 172 (0,0)):: (D4++ [(b13,Obj.cells (a8 I.l) 84 (0,0))])) (by classical exact List.perm_iff_count.2 fun a=>by simp only[List.count_append,List.count_cons,List.count_nil]<;>omega) ?_
   first|with_reducible refine ks [] @q5_ ?_|refine kp @q5_ ?_
   refine Again.mk (CmG.mk (g+1) v4 (D4++ [(b13,Obj.cells (a8 I.l) 84 (0,0))])) (by show k - (g+1)<k - g;omega) ⟨by show g+1≤k;omega,hN4.app ⟨by omega,trivial⟩, ?_⟩ rfl rfl
   show Gr _ _ _ _ (g+1) ((zL_ s na ne (g+1)).1.map Z7_).flatten
   rw[hg1,List.map_append,List.flatten_append,show([I].map Z7_).flatten=Z7_ I by simp]
   exact Gr.app (.inl hbuf)
  ·obtain rfl:g=k:=by omega
   rw[←hP] at hG
   rw[←hP] at gle
   rw[←hP]
   have tp:=kQ_ (e:=(wf_ s).2.2) (most:=64) gle
   first|with_reducible refine ks [] @q5_ ?_|refine kp @q5_ ?_
   refine Ow.callM rfl rfl Tryz.call144 (by simp[keys]) (fun w' hw'=>wQ_ br s (wf_ s).2.1 (wf_ s).2.2 64 w' gle (by omega) (hw'.has _ _ (List.mem_cons_of_mem _ List.mem_cons_self))) ?_
   refine kn ?_
   refine ko @q5_ ?_
   have hT2:comT s=zU_ s (wf_ s).2.1 (wf_ s).2.2 64:=rfl
   have htl:=Qf_ s (wf_ s).2.1 (wf_ s).2.2 64
   rw[hT2] at hcE
   generalize zU_ s (wf_ s).2.1 (wf_ s).2.2 64=tx at*
   obtain⟨tt,a3,e3⟩:=tx
   simp only at tp hcE htl ⊢
   have hPl: (wf_ s).1.length=g:=by rw[hP,Qj_]
   generalize (wf_ s).1=pl at*
   have hg4:g≤4:=by omega
   have hC: ∀w',Hp w ((b5,Obj.cells (q8_ T v tt).toArray 172 (0,0)):: (br, .cells #[vs s,vi a3,vi e3] 217 (0,0)):: (b2,Obj.cells (q8_ id0 (.slice none 0 0) []).toArray 172 (0,0))::D) w'→ComS w' (.agg (q8_ T v tt).toArray) ⟨T,pl,tt⟩:=fun w' hw'=>
    ⟨v,rfl,hG.slM (fun b o hm=>hw'.has b o (by simp[hm])) hPl rfl vv_⟩
   have hNe:New w.heap.size ((b5,Obj.cells (q8_ T v tt).toArray 172 (0,0)):: (br, .cells #[vs s,vi a3,vi e3] 217 (0,0)):: (b2,Obj.cells (q8_ id0 (.slice none 0 0) []).toArray 172 (0,0))::D):=⟨hw5,hwr,hw2,New.mono (by omega) hN⟩
   have hR:aeP_ s=if xw_ s a3 e3=0∧wU_ ⟨T,pl,tt⟩=true∧comB ⟨T,pl,tt⟩=s then some ⟨T,pl,tt⟩ else none:=by unfold aeP_;rw[hcE]
   have stz: ∀a E,zn_ (some (a,34)) (some (.cells (q8_ id0 (.slice none 0 0) []).toArray E (0,0))) 0 (.agg (q8_ id0 (.slice none 0 0) []).toArray)=some (.cells (q8_ id0 (.slice none 0 0) []).toArray E (0,0)):=st5
   unfold alA_
   rw[hR]
   refine Ow.callFV rfl Tryz.call145 (fun w' hw'=>JV_ br s a3 e3 w' (hw'.has _ _ (List.mem_cons_of_mem _ List.mem_cons_self))) ?_
   by_cases he:xw_ s a3 e3=0
   ·have d1: (xw_ s a3 e3 !=0)=false:=by simp[he]
    refine ko (And.intro @q5_ @d1) ?_
    refine Ow.callFV rfl Tryz.call150 (fun w' hw'=>J3_ _ _ w' (hC w' hw') (by show pl.length<1000000;omega) (by show tt.length<1099511627776;omega)) ?_
    cases hr:wU_ ⟨T,pl,tt⟩
    ·rw[if_neg (by simp)]
     refine ko @q5_ ?_
     refine Ow.build (.agg (q8_ id0 (.slice none 0 0) []).toArray) rfl Zc_ ?_
     refine ko (And.intro @q5_ @stz) ?_
     first|with_reducible refine ks [] @q5_ ?_|refine kp @q5_ ?_
     refine⟨_,(ke @q5_), ?_⟩
     exact⟨Ext.of_new hNe,rfl⟩
    ·refine ko @q5_ ?_
     refine Ow.callFV rfl Tryz.call151 (fun w' hw'=>KU_ _ _ w' (hC w' hw') (by show pl.length<1000000;omega) (by show tt.length<1099511627776;omega)) ?_
     by_cases hb:comB ⟨T,pl,tt⟩=s
     ·have d3: (comB ⟨T,pl,tt⟩ !=s)=false:=by simp[hb]
      have stq: ∀a E,zn_ (some (a,34)) (some (.cells (q8_ id0 (.slice none 0 0) []).toArray E (0,0))) 0 (.agg (q8_ T v tt).toArray)=some (.cells (q8_ T v tt).toArray E (0,0)):=fun a E=>K1_ _ _ _ _ a E (by rw[List.size_toArray,Zf_]) hG.cell.1
      rw[if_pos ⟨he,rfl,hb⟩]
      refine ko (And.intro @q5_ (And.intro @d3 (@stq))) ?_
      first|with_reducible refine ks [] @q5_ ?_|refine kp @q5_ ?_
      refine⟨_,(ke @q5_), ?_⟩
      refine⟨Ext.of_new ⟨hw5,hwr,hw2,New.mono (by omega) hN⟩,v,rfl, ?_⟩
      show Gr _ _ _ _ pl.length (pl.map Z7_).flatten
      rw[hPl]
      exact hG.keep fun b o hb ho=>by
       have:=hN.le b (zj_ ho)
       simp(disch:=omega) only[j6_]
       exact ho
     ·have d3: (comB ⟨T,pl,tt⟩ !=s)=true:=by simp[hb]
      rw[if_neg (fun h=>hb h.2.2)]
      refine ko (And.intro @q5_ @d3) ?_
      refine Ow.build (.agg (q8_ id0 (.slice none 0 0) []).toArray) rfl Zc_ ?_
      refine ko (And.intro @q5_ @stz) ?_
      first|with_reducible refine ks [] @q5_ ?_|refine kp @q5_ ?_
      refine⟨_,(ke @q5_), ?_⟩
      exact⟨Ext.of_new hNe,rfl⟩
   ·have d1: (xw_ s a3 e3 !=0)=true:=by simp[he]
    rw[if_neg (fun h=>he h.1)]
    refine ko (And.intro @q5_ @d1) ?_
    refine Ow.build (.agg (q8_ id0 (.slice none 0 0) []).toArray) rfl Zc_ ?_
    refine ko (And.intro @q5_ @stz) ?_
    first|with_reducible refine ks [] @q5_ ?_|refine kp @q5_ ?_
    refine⟨_,(ke @q5_), ?_⟩
    exact⟨Ext.of_new hNe,rfl⟩
end Go.Proofs
end
section
open Go Go.Proofs Go.Sx Go.StP
namespace Go.Proofs
set_option maxRecDepth 10000
set_option maxHeartbeats 400000
set_option linter.unusedSimpArgs false
def roC (r v:Value) (t:IdL) (p:Value) (y:List UInt8):List Value:= [r]++ ([v]++q8_ t p y)
theorem WR_ (r v:Value) (t:IdL) (p:Value) (y:List UInt8) (n:Nat) (E:TypeId) (fz:Nat×Nat):zo_ (some (false,n)) (some (.cells (roC r v t p y).toArray E fz)) 0=some r:=zN_ [] _ r n E fz rfl
theorem aab_ (r v:Value) (t:IdL) (p:Value) (y:List UInt8) (n:Nat) (E:TypeId) (fz:Nat×Nat):zo_ (some (false,n)) (some (.cells (roC r v t p y).toArray E fz)) 1=some v:=by
 unfold roC;exact zN_ [r] _ v n E fz rfl
theorem aaj_ (r v:Value) (t:IdL) (p:Value) (y:List UInt8) (E:TypeId) (fz:Nat×Nat):zo_ (some (true,34)) (some (.cells (roC r v t p y).toArray E fz)) 2=some (.agg (q8_ t p y).toArray):=by
 have e:roC r v t p y= [r,v]++ (q8_ t p y++ []):=by unfold roC;simp
 rw[e];exact v2_ [r,v] _ _ E fz rfl (Zf_ _ _ _)
theorem aa6_ (r v:Value) (t:IdL) (p:Value) (y:List UInt8) (n:Nat) (E:TypeId) (fz:Nat×Nat):zo_ (some (false,n)) (some (.cells (roC r v t p y).toArray E fz)) 34=some p:=by
 have e:roC r v t p y=([r,v]++t.l.map v8)++ ([p]++ [vs y]):=by unfold roC q8_;simp
 rw[e];exact zN_ _ _ p n E fz (by simp[t.h])
theorem akC_ (r v q:Value) (t:IdL) (p:Value) (y:List UInt8) (a:Bool) (E:TypeId) (hq:Value.oneCell' q=true∧q.cells= #[q]):zn_ (some (a,1)) (some (.cells (roC r v t p y).toArray E (0,0))) 1 q=some (.cells (roC r q t p y).toArray E (0,0)):=by
 unfold roC
 exact zy_ [r] [v] [q] _ a _ E rfl rfl hq.2 rfl (by simp[hq.1])
theorem alb_ (r v:Value) (t x:IdL) (p:Value) (y:List UInt8) (a:Bool) (E:TypeId):zn_ (some (a,32)) (some (.cells (roC r v t p y).toArray E (0,0))) 2 (.agg (a8 x.l))=some (.cells (roC r v x p y).toArray E (0,0)):=by
 have e: ∀t,roC r v t p y= [r,v]++ (t.l.map v8++ ([p]++ [vs y])):=fun t=>by unfold roC q8_;simp
 rw[e,e];exact zy_ [r,v] _ _ _ a _ E rfl (by simp[t.h]) (zd_ _) (by simp[x.h]) (wg_ _)
theorem ah0_ (r v:Value) (t:IdL) (p q:Value) (y:List UInt8) (a:Bool) (E:TypeId) (hq:Value.oneCell' q=true∧q.cells= #[q]):zn_ (some (a,1)) (some (.cells (roC r v t p y).toArray E (0,0))) 34 q=some (.cells (roC r v t q y).toArray E (0,0)):=by
 have e: ∀p,roC r v t p y=([r,v]++t.l.map v8)++ ([p]++ [vs y]):=fun p=>by unfold roC q8_;simp
 rw[e,e];exact zy_ _ [p] [q] [vs y] a _ E (by simp[t.h]) rfl hq.2 rfl (by simp[hq.1])
theorem ah8_ (r v:Value) (t:IdL) (p:Value) (y z:List UInt8) (a:Bool) (E:TypeId):zn_ (some (a,1)) (some (.cells (roC r v t p y).toArray E (0,0))) 35 (vs z)=some (.cells (roC r v t p z).toArray E (0,0)):=by
 have e: ∀y,roC r v t p y=(([r,v]++t.l.map v8)++ [p])++ ([vs y]++ []):=fun y=>by unfold roC q8_;simp
 rw[e,e];exact zy_ _ _ _ _ a _ E (by simp[t.h]) rfl rfl rfl rfl
theorem ahP_ (k:Int) (t:List UInt8):jy_ (wE_ Tryz.prog 221) (zW_ Tryz.prog 221) [(1,vi k),(0,vs t)]=some (.agg (qQ_ ⟨t,k,id0⟩).toArray):=by
 rw[show wE_ Tryz.prog 221=some [(0,1),(1,1),(2,32)] from id (by kernel_rfl),aae_];rfl
theorem Zp_ (b:Nat) (s:List UInt8) (a:Nat) (e:Int) (w:World) (ho:w.heap[b]? =some (.cells #[vs s,vi a,vi e] 250 (0,0))):
  Rets Tryz.prog 142 #[vp b 0] w (fun v D=>v=vi (xw_ s a e)∧D= []):=ajj_ b s a e w ho
set_option linter.defProp false
def kE_:=And.intro (And.intro (And.intro (And.intro (@x8_) (@kb_)) (And.intro (@kh_) (@xh_))) (And.intro (And.intro (@xq_) (@WR_)) (And.intro (@aab_) (@aaj_)))) (And.intro (And.intro (And.intro (@aa6_) (@jq_)) (And.intro (@V8_) (@VY_))) (And.intro (And.intro (@Ww_) (@qj_)) (And.intro (@qp_) (And.intro (@zc_) (@zb_)))))
theorem akx_ {w:World} {a b:Nat} {x y:Obj} (h:w.heap[a]? =some x) (h':w.heap[b]? =some y): ∀p:Nat×Obj,p∈ [(a,x),(b,y)]→w.heap[p.1]? =some p.2:=by
 intro p hp
 simp only[List.mem_cons,List.not_mem_nil,or_false] at hp
 rcases hp with rfl|rfl<;>assumption
structure EnH where
 n:Nat
 a:Nat
 e:Int
 l:List EntL
 v:Value
 D:za_
 H:za_
def ao9_ (bo bw:Nat) (s:List UInt8) (v:Value) (D:za_):Prop:=
 v= .bool (xw_ s (jN_ s).2.1 (jN_ s).2.2==0&&kt_ (jN_ s).1)∧ ∃v1,Sx.look D bo=some (.cells (roC (vp bw 0) v1 id0 (.slice none 0 0) []).toArray 271 (0,0))∧Gr D 221 34 v1 (jN_ s).1.length ((jN_ s).1.map qQ_).flatten
theorem ae9_ (bo bw:Nat) (s:List UInt8) (w:World) (hs:s.length<100000) (hne:bo≠bw)
  (ho:w.heap[bo]? =some (.cells (roC (vp bw 0) (.slice none 0 0) id0 (.slice none 0 0) []).toArray 271 (0,0))) (hr:w.heap[bw]? =some (.cells #[vs s,vi 0,vi 0] 250 (0,0))):
  Rets Tryz.prog 202 #[vp bo 0] w (XS w [(bo, .cells (roC (vp bw 0) (.slice none 0 0) id0 (.slice none 0 0) []).toArray 271 (0,0)),(bw, .cells #[vs s,vi 0,vi 0] 250 (0,0))] (ao9_ bo bw s)):=by
 have hob:bo<w.heap.size:=(Array.getElem?_eq_some_iff.1 ho).1
 have hwb:bw<w.heap.size:=(Array.getElem?_eq_some_iff.1 hr).1
 refine Rets.enterX Tryz.func202 rfl (rs:= [.tmp 2]) Tryz.results202 Tryz.ntmps202 (akx_ ho hr) (by simp[keys,hne]) ?_
 refine kf ?_
 first|with_reducible refine ks [] @kE_ ?_|refine kp @kE_ ?_
 refine Cw.loopG (G:=EnH) [4,5,6,7,8,9,10,11,12,13,14,15,16,17,18,19,20,3,21,22,23,24,25,26,27,28,29,30,31,32,33,34,35,36] (fun q=> []) (fun q=>q.H) (fun q=>EntsJ s q.n q.a q.e q.l∧New w.heap.size q.D∧Gr q.D 221 34 q.v q.l.length (q.l.map qQ_).flatten∧((bo,Obj.cells (roC (vp bw 0) q.v id0 (.slice none 0 0) []).toArray 271 (0,0)):: (bw, .cells #[vs s,vi q.a,vi q.e] 250 (0,0))::q.D).Perm q.H) (fun q=>q.n) ⟨s.length+1,0,0,[], .slice none 0 0,[],[(bo,Obj.cells (roC (vp bw 0) (.slice none 0 0) id0 (.slice none 0 0) []).toArray 271 (0,0)),(bw, .cells #[vs s,vi 0,vi 0] 250 (0,0))]⟩ rfl rfl ?_ ?_
 ·exact⟨EntsJ.init s,trivial,Gr.nl,List.Perm.refl _⟩
 ·intro q jq hq
  refine kv ?_
  obtain⟨n,a,e,l,v,D,H0⟩:=q
  simp only at hq ⊢
  obtain⟨hJ,hN,hG,hPm⟩:=hq
  refine Cw.permL hPm ?_
  clear hPm
  have hle:=hJ.le
  first|with_reducible refine ks [3] @kE_ ?_|refine kp @kE_ ?_
  refine Ow.callFV rfl Tryz.call142 (fun w' hw'=>Zp_ bw s a e w' (hw'.has _ _ (List.mem_cons_of_mem _ List.mem_cons_self))) ?_
  by_cases hc:e=0∧a<s.length
  ·obtain⟨m,rfl,hJ'⟩:=hJ.next hc
   obtain⟨he,hlt⟩:=hc
   have h5:xw_ s a e=5:=by unfold xw_;rw[if_neg (by simp[he]),if_pos (by omega)]
   have d1: (xw_ s a e==5)=true:=by simp[h5]
   refine ko (And.intro @kE_ @d1) ?_
   have hp:=x2_ (e:=e) (most:=2) hle
   have hq:=kQ_ (e:=(zH_ s a e 2).2.2) (most:=32) hp.2
   have heq:Vb_ s a e=(⟨(zU_ s (zH_ s a e 2).2.1 (zH_ s a e 2).2.2 32).1,(zH_ s a e 2).1,wp_ (idR s (zU_ s (zH_ s a e 2).2.1 (zH_ s a e 2).2.2 32).2.1 (zU_ s (zH_ s a e 2).2.1 (zH_ s a e 2).2.2 32).2.2).1⟩,(idR s (zU_ s (zH_ s a e 2).2.1 (zH_ s a e 2).2.2 32).2.1 (zU_ s (zH_ s a e 2).2.1 (zH_ s a e 2).2.2 32).2.2).2):=rfl
   have hil:=ZZ_ s (zU_ s (zH_ s a e 2).2.1 (zH_ s a e 2).2.2 32).2.1 (zU_ s (zH_ s a e 2).2.1 (zH_ s a e 2).2.2 32).2.2
   refine Cw.regionD [bo] [12] 11 3 221 12 _ rfl (by kernel_rfl) (by kernel_rfl) rfl (by kernel_rfl) aae_ (fun hD=> ?_)
   simp only[List.replicate_succ,List.replicate_zero]
   refine OwD.run [0,1,2,3,5,6,7,8] [true,true,true,true,false,true,true,true,true,false,false,false,false] 4 rfl hD (by kernel_rfl) fun k hk=> ?_
   simp only[zp_, ↓zi_, ↓ze_, ↓zA_, ↓zz_,zf_]
   simp(disch:=(first|assumption|omega| (simp only[x5_,xZ_,UInt64.reduceToNat];try omega))) only[↓Sx.S0,Sx.S1,Tryz.fx,kE_,Nat.reduceAdd,Nat.reducePow,Int.reducePow,Nat.reduceBEq, ↓reduceIte,UInt8.reduceToNat,UInt16.reduceToNat,UInt32.reduceToNat,UInt64.reduceToNat,Int.reduceToNat,Md.next_sofnil,Md.next_sofnil]
   (with_reducible refine hk _ _ _ ?_);clear hk k
   refine OwD.soft 4 _ hD rfl (by kernel_rfl) (fun E hE=> ?_)
   refine Ow.callM rfl rfl Tryz.call179 (by simp[keys]) (fun w' hw'=>ww_ bw s a e 2 w' hle (by omega) (hw'.has _ _ (by simp))) ?_
   generalize zH_ s a e 2=p at*
   obtain⟨kd,a1,e1⟩:=p
   simp only at hp hq heq hil ⊢
   refine kn ?_
   with_reducible refine Ow.nil ?_
   refine⟨(bo,Obj.cells (roC (vp bw 0) v id0 (.slice none 0 0) []).toArray 271 (0,0)):: (bw, .cells #[vs s,vi a1,vi e1] 250 (0,0))::D,(by classical exact List.perm_iff_count.2 fun a=>by simp only[List.count_append,List.count_cons,List.count_nil]<;>omega),fun r hr=> ?_, ?_⟩
   ·rw[List.mem_singleton.1 hr]
    simp only[xj_]
   simp only[List.set_cons_zero,List.set_cons_succ,ws_,JR_,JU_]
   refine OwD.soft 9 _ hD rfl (by kernel_rfl) (fun E hE=> ?_)
   refine Ow.callM rfl rfl Tryz.call141 (by simp[keys]) (fun w' hw'=>Q1_ bw s a1 e1 32 w' hp.2 (by omega) (hw'.has _ _ (by simp))) ?_
   generalize zU_ s a1 e1 32=q at*
   obtain⟨tt,a2,e2⟩:=q
   simp only at hq heq hil ⊢
   refine kn ?_
   with_reducible refine Ow.nil ?_
   refine⟨(bo,Obj.cells (roC (vp bw 0) v id0 (.slice none 0 0) []).toArray 271 (0,0)):: (bw, .cells #[vs s,vi a2,vi e2] 250 (0,0))::D,(by classical exact List.perm_iff_count.2 fun a=>by simp only[List.count_append,List.count_cons,List.count_nil]<;>omega),fun r hr=> ?_, ?_⟩
   ·rw[List.mem_singleton.1 hr]
    simp only[xj_]
   simp only[List.set_cons_zero,List.set_cons_succ,ws_,JR_,JU_]
   refine OwD.soft 10 _ hD rfl (by kernel_rfl) (fun E hE=> ?_)
   refine Ow.build (.agg (qQ_ ⟨tt,kd,id0⟩).toArray) rfl (ahP_ kd tt) ?_
   with_reducible refine Ow.nil ?_
   refine⟨_,List.Perm.refl _,fun _ _=>rfl, ?_⟩
   simp only[List.set_cons_zero,List.set_cons_succ,ws_,JR_,JU_]
   refine OwD.real [12] rfl hD (by kernel_rfl) (by kernel_rfl) (by kernel_rfl) (by kernel_rfl) (fun r hr=>by rw[List.mem_singleton.1 hr];exact .inl (by simp[keys])) ?_
   simp only[zp_, ↓zi_, ↓ze_, ↓zA_, ↓zz_,zf_]
   intro b3 hw3 hbL
   simp only[JR_,JU_]
   have hst3:=qj_ ⟨tt,kd,id0⟩ jM_
   refine Ow.store rfl rfl rfl (L':=((bo,Obj.cells (roC (vp bw 0) v id0 (.slice none 0 0) []).toArray 271 (0,0)):: (bw, .cells #[vs s,vi a2,vi e2] 250 (0,0))::D)++ [(b3, .cells (qQ_ ⟨tt,kd,id0⟩).toArray 221 (0,0))]) ?_ ?_
   ·simp only[z4_,z1_,z3_]
    rw[Tryz.ag221,wJ_,Kn_ hbL,zd_,hst3,QN_,Wt_ hbL]
    exact []
   refine ko @kE_ ?_
   refine Cw.permL (M:=(b3, .cells (qQ_ ⟨tt,kd,id0⟩).toArray 221 (0,0)):: (bo,Obj.cells (roC (vp bw 0) v id0 (.slice none 0 0) []).toArray 271 (0,0)):: (bw, .cells #[vs s,vi a2,vi e2] 250 (0,0))::D) (by classical exact List.perm_iff_count.2 fun a=>by simp only[List.count_append,List.count_cons,List.count_nil]<;>omega) ?_
   have hb3o:bo≠b3:=by simp[keys] at hbL;omega
   have hb3w:bw≠b3:=by simp[keys] at hbL;omega
   first|with_reducible refine ks [] @kE_ ?_|refine kp @kE_ ?_
   refine Ow.callM rfl rfl Tryz.call227 (by simp[keys]) (fun w' hw'=>W5_ bw s a2 e2 w' hq.2 (by omega) (hw'.has _ _ (by simp))) ?_
   generalize idR s a2 e2=i at*
   obtain⟨il,a3,e3⟩:=i
   simp only at heq hil ⊢
   obtain⟨I,hI⟩: ∃I,wp_ il=I:=⟨_,rfl⟩
   have hiI:il=I.l:=by rw[←hI,vQ_ hil]
   rw[hI] at heq
   rw[hiI]
   refine kn ?_
   refine ko @kE_ ?_
   generalize hx: ({name:=tt,kind:=kd,id:=I}:EntL)=x
   rw[hx] at heq
   rw[heq] at hJ'
   refine Cw.regionS [bo,b3] [0,1,2,3,4,5,6,7,8,9,10] [10] (by kernel_rfl) (by kernel_rfl) (by kernel_rfl) ?_
   simp only[zp_, ↓zi_, ↓ze_, ↓zA_, ↓zz_,zf_]
   refine kq @kE_ ?_
   refine Ow.soft rfl rfl rfl ?_
   refine Ow.buildSlice (e:=221) (qQ_ x).toArray rfl rfl (vj_ Tryz.underlying168 agp_ aae_ (by decide) (qT_ x)) fun b13 hb13 hw13=> ?_
   have h3d:b3<b13:=zk_ hb13 (by simp[keys])
   with_reducible refine Ow.nil ?_
   refine⟨Zb_ (by simp[keys]), ?_⟩
   try simp only[List.cons_append,List.nil_append]
   refine Ow.soft rfl rfl rfl ?_
   refine Ow.permL (M:=D++ [(b3,Obj.cells (qQ_ x).toArray 221 (0,0)),(bo,Obj.cells (roC (vp bw 0) v id0 (.slice none 0 0) []).toArray 271 (0,0)),(bw, .cells #[vs s,vi a3,vi e3] 250 (0,0)),(b13,Obj.cells (qQ_ x).toArray 221 (0,0))]) (by classical exact List.perm_iff_count.2 fun a=>by simp only[List.count_append,List.count_cons,List.count_nil]<;>omega) ?_
   refine Ow.appendX (e:=221) (k:=1) (new:=qQ_ x) (X:=D) v rfl rfl rfl rfl Tryz.underlying168 agp_ (by kernel_rfl) aae_ (by rw[qp_,List.size_toArray,qT_]) Tryz.underlying168 (by intro k h;cases h) hG (fun w' hw'=>AppX.one1 (hw'.has b13 (.cells (qQ_ x).toArray 221 (0,0)) (by simp)) (qT_ _) (Xk_ _)) (by omega) (by have:=hJ.cnt;omega) (fun B v4 D4 hA4 hB4 hbuf hk1 hk2 hlk=> ?_)
   have hB3:b3<B:=zk_ hA4 (by simp[zv_,keys])
   have hN4:New w.heap.size D4:=New.of_le fun q hq=>by
    rcases hk2 q hq with h|h
    ·exact hN.le q h
    ·omega
   have ho4:bo∉keys D4:=hN4.not hob
   have h34:b3∉keys D4:=fun hm=>by
    rcases hk2 b3 hm with h|h
    ·exact hbL (by simp only[keys,List.map_cons,List.mem_cons];exact .inr (.inr h))
    ·omega
   with_reducible refine Ow.nil ?_
   refine⟨fun q hq=> ?_, ?_⟩
   ·simp only[List.mem_cons,List.not_mem_nil,or_false] at hq
    rcases hq with rfl|rfl
    ·rw[w7_ ho4]
     simp(disch:=omega) only[xj_,Ji_]
    ·rw[w7_ h34]
     simp(disch:=omega) only[xj_,Ji_]
   have hlko: ∀M,Sx.look (D4++M) bo=Sx.look M bo:=fun M=>qf_ ho4
   have hsbo: ∀M x,setB (D4++M) bo x=D4++setB M bo x:=fun M x=>Qz_ ho4
   have st1:=fun a E=>akC_ (vp bw 0) v v4 id0 (.slice none 0 0) [] a E hbuf.cell
   have hst7:xG_ (zZ_ Tryz.prog 168) (D4++ [(b3,Obj.cells (qQ_ x).toArray 221 (0,0)),(bo,Obj.cells (roC (vp bw 0) v id0 (.slice none 0 0) []).toArray 271 (0,0)),(bw, .cells #[vs s,vi a3,vi e3] 250 (0,0)),(b13,Obj.cells (qQ_ x).toArray 221 (0,0))]) (vp bo 1) v4=some (D4++ [(b3,Obj.cells (qQ_ x).toArray 221 (0,0)),(bo,Obj.cells (roC (vp bw 0) v4 id0 (.slice none 0 0) []).toArray 271 (0,0)),(bw, .cells #[vs s,vi a3,vi e3] 250 (0,0)),(b13,Obj.cells (qQ_ x).toArray 221 (0,0))]):=by
    rw[Tryz.ag168,wJ_,hlko]
    simp(disch:=omega) only[z5_,j6_,st1,QN_,hsbo,xb_,xy_]
   refine kq @kE_ ?_
   refine Ow.store rfl rfl rfl hst7 ?_
   refine ko @kE_ ?_
   refine Again.mk (EnH.mk m a3 e3 (l++ [x]) v4 (D4++ [(b3,Obj.cells (qQ_ x).toArray 221 (0,0)),(b13,Obj.cells (qQ_ x).toArray 221 (0,0))]) _) (by show m<m+1;omega) ⟨hJ',hN4.app ⟨by omega,by omega,trivial⟩, ?_, ?_⟩ rfl rfl
   ·show Gr _ _ _ _ (l++ [x]).length ((l++ [x]).map qQ_).flatten
    rw[List.length_append,List.map_append,List.flatten_append,show([x].map qQ_).flatten=qQ_ x by simp]
    exact Gr.app (.inl hbuf)
   ·exact(by classical exact List.perm_iff_count.2 fun a=>by simp only[List.count_append,List.count_cons,List.count_nil]<;>omega)
  ·have hd:=hJ.done hc
   have hsh:=hJ.sh (by omega)
   have hcn:=hJ.cnt
   have h5:xw_ s a e≠5:=by
    unfold xw_
    by_cases he:e=0
    ·rw[if_neg (by simp[he]),if_neg (by omega)];decide
    ·rw[if_pos he];exact hJ.five
   have d1: (xw_ s a e==5)=false:=by simpa using h5
   have hE:Ext w [(bo,Obj.cells (roC (vp bw 0) (.slice none 0 0) id0 (.slice none 0 0) []).toArray 271 (0,0)),(bw,Obj.cells #[vs s,vi 0,vi 0] 250 (0,0))] ((bo,Obj.cells (roC (vp bw 0) v id0 (.slice none 0 0) []).toArray 271 (0,0)):: (bw,Obj.cells #[vs s,vi a,vi e] 250 (0,0))::D):=by
    refine⟨fun c hc=> ?_,fun c hc=> ?_⟩
    ·simp only[keys,List.map_cons,List.map_nil,List.mem_cons,List.not_mem_nil,or_false] at hc ⊢
     rcases hc with h|h|h
     ·exact .inl (.inl h)
     ·exact .inl (.inr h)
     ·exact .inr (hN.le c h)
    ·simp only[keys,List.map_cons,List.map_nil,List.mem_cons,List.not_mem_nil,or_false] at hc ⊢
     rcases hc with h|h
     ·exact .inl h
     ·exact .inr (.inl h)
   have hF:Gr ((bo,Obj.cells (roC (vp bw 0) v id0 (.slice none 0 0) []).toArray 271 (0,0)):: (bw,Obj.cells #[vs s,vi a,vi e] 250 (0,0))::D) 221 34 v l.length (l.map qQ_).flatten:=hG.keep fun b o hb ho=>by
    have:=hN.le b (zj_ ho)
    simp(disch:=omega) only[j6_]
    exact ho
   unfold ao9_
   rw[hd]
   refine ko (And.intro @kE_ @d1) ?_
   refine Ow.callFV rfl Tryz.call142 (fun w' hw'=>Zp_ bw s a e w' (hw'.has _ _ (List.mem_cons_of_mem _ List.mem_cons_self))) ?_
   by_cases he:xw_ s a e=0
   ·have d2: (xw_ s a e==0)=true:=by simp[he]
    rw[d2]
    refine ko (And.intro @kE_ @d2) ?_
    refine Ow.callFV rfl Tryz.call228 (fun w' hw'=>abk_ v l w' (hG.slM (fun b o hm=>hw'.has b o (by simp[hm])) rfl rfl qT_) (by omega) hsh) ?_
    refine ko @kE_ ?_
    first|with_reducible refine ks [] @kE_ ?_|refine kp @kE_ ?_
    refine⟨_,(ke @kE_), ?_⟩
    exact⟨hE,rfl,v,by simp only[z5_],hF⟩
   ·have d2: (xw_ s a e==0)=false:=by simpa using he
    rw[d2]
    refine ko (And.intro @kE_ @d2) ?_
    first|with_reducible refine ks [] @kE_ ?_|refine kp @kE_ ?_
    refine⟨_,(ke @kE_), ?_⟩
    exact⟨hE,rfl,v,by simp only[z5_],hF⟩
end Go.Proofs
end
section
open Go Go.Proofs Go.Sx Go.StP
namespace Go.Proofs
set_option maxRecDepth 10000
set_option maxHeartbeats 400000
set_option linter.unusedSimpArgs false
set_option linter.defProp false
def k7_:=And.intro (And.intro (And.intro (@x8_) (And.intro (@kb_) (@kh_))) (And.intro (And.intro (@xh_) (@xq_)) (And.intro (@WR_) (@aab_)))) (And.intro (And.intro (@aaj_) (And.intro (@aa6_) (@alb_))) (And.intro (And.intro (@ah8_) (@kB_)) (And.intro (@zc_) (@zb_))))
structure CmH where
 g:Nat
 v:Value
 D:za_
 H:za_
def arL_ (bo bw:Nat) (s:List UInt8) (v:Value) (D:za_):Prop:=
 v= .bool (xw_ s (v9_ s).2.1 (v9_ s).2.2==0&&wU_ (v9_ s).1)∧ ∃p,Sx.look D bo=some (.cells (roC (vp bw 0) (.slice none 0 0) (v9_ s).1.tree p (v9_ s).1.text).toArray 271 (0,0))∧Gr D 84 32 p (v9_ s).1.par.length ((v9_ s).1.par.map Z7_).flatten
theorem aiQ_ (bo bw:Nat) (s:List UInt8) (w:World) (hs:s.length<100000) (hne:bo≠bw)
  (ho:w.heap[bo]? =some (.cells (roC (vp bw 0) (.slice none 0 0) id0 (.slice none 0 0) []).toArray 271 (0,0))) (hr:w.heap[bw]? =some (.cells #[vs s,vi 0,vi 0] 250 (0,0))):
  Rets Tryz.prog 203 #[vp bo 0] w (XS w [(bo,Obj.cells (roC (vp bw 0) (.slice none 0 0) id0 (.slice none 0 0) []).toArray 271 (0,0)),(bw,Obj.cells #[vs s,vi 0,vi 0] 250 (0,0))] (arL_ bo bw s)):=by
 have hob:bo<w.heap.size:=(Array.getElem?_eq_some_iff.1 ho).1
 have hwb:bw<w.heap.size:=(Array.getElem?_eq_some_iff.1 hr).1
 refine Rets.enterX Tryz.func203 rfl (rs:= [.tmp 2]) Tryz.results203 Tryz.ntmps203 (akx_ ho hr) (by simp[keys,hne]) ?_
 refine kf ?_
 first|with_reducible refine ks [] @k7_ ?_|refine kp @k7_ ?_
 refine Ow.callM rfl rfl Tryz.call227 (by simp[keys]) (fun w' hw'=>W5_ bw s 0 0 w' (Nat.zero_le _) (by omega) (hw'.has _ _ (List.mem_cons_of_mem _ List.mem_cons_self))) ?_
 have ip:=Wq_ (s:=s) (a:=0) (e:=0) (Nat.zero_le _)
 have np:=x2_ (e:=(idR s 0 0).2.2) (most:=4) ip.2
 have nm:=WJ_ (s:=s) (a:=(idR s 0 0).2.1) (e:=(idR s 0 0).2.2) (most:=4) (by decide)
 obtain⟨T,hT⟩: ∃T,wp_ (idR s 0 0).1=T:=⟨_,rfl⟩
 have hiT: (idR s 0 0).1=T.l:=by rw[←hT,vQ_ (ZZ_ s 0 0)]
 have hcE:v9_ s=(⟨T,(wf_ s).1,(comT s).1⟩,(comT s).2):=by unfold v9_;rw[hT]
 rw[hiT]
 refine kn ?_
 refine ko @k7_ ?_
 refine Ow.callM rfl rfl Tryz.call179 (by simp[keys]) (fun w' hw'=>ww_ bw s _ _ 4 w' ip.2 (by omega) (hw'.has _ _ (List.mem_cons_of_mem _ List.mem_cons_self))) ?_
 have hP:wf_ s=zL_ s (zH_ s (idR s 0 0).2.1 (idR s 0 0).2.2 4).2.1 (zH_ s (idR s 0 0).2.1 (idR s 0 0).2.2 4).2.2 (zH_ s (idR s 0 0).2.1 (idR s 0 0).2.2 4).1.toNat:=rfl
 generalize zH_ s (idR s 0 0).2.1 (idR s 0 0).2.2 4=nr at*
 obtain⟨cn,na,ne⟩:=nr
 simp only at np nm hP ⊢
 obtain⟨k,rfl⟩:=Int.eq_ofNat_of_zero_le nm.1
 rw[Int.toNat_natCast] at hP
 refine kn ?_
 refine ko @k7_ ?_
 refine Cw.loopG (G:=CmH) [18,19,20,21,22,23,24,25,26,27,28,29,30,31,32,33,34,35,17] (fun q=> [(17,vi q.g)]) (fun q=>q.H) (fun q=>q.g≤k∧New w.heap.size q.D∧Gr q.D 84 32 q.v q.g ((zL_ s na ne q.g).1.map Z7_).flatten∧((bo,Obj.cells (roC (vp bw 0) (.slice none 0 0) T q.v []).toArray 271 (0,0)):: (bw,Obj.cells #[vs s,vi (zL_ s na ne q.g).2.1,vi (zL_ s na ne q.g).2.2] 250 (0,0))::q.D).Perm q.H) (fun q=>k - q.g) ⟨0, .slice none 0 0,[],[(bo,Obj.cells (roC (vp bw 0) (.slice none 0 0) T (.slice none 0 0) []).toArray 271 (0,0)),(bw,Obj.cells #[vs s,vi na,vi ne] 250 (0,0))]⟩ rfl rfl ?_ ?_
 ·exact⟨Nat.zero_le _,trivial,Gr.nl,List.Perm.refl _⟩
 ·intro q jq hq
  refine kv ?_
  obtain⟨g,v,D,H0⟩:=q
  simp only at hq ⊢
  obtain⟨hgk,hN,hG,hPm⟩:=hq
  refine Cw.permL hPm ?_
  clear hPm
  have gle:=QH_ (e:=ne) np.2 g
  by_cases hlt:g<k
  ·have hgs:zL_ s na ne (g+1)=((zL_ s na ne g).1++ [wp_ (idR s (zL_ s na ne g).2.1 (zL_ s na ne g).2.2).1],(idR s (zL_ s na ne g).2.1 (zL_ s na ne g).2.2).2):=rfl
   first|with_reducible refine ks [] @k7_ ?_|refine kp @k7_ ?_
   refine Cw.regionS [bo] [0,1,2,3,4,6,7,8,5,9,10,11,12,13,14,15,16] [16] (by kernel_rfl) (by kernel_rfl) (by kernel_rfl) ?_
   simp only[zp_, ↓zi_, ↓ze_, ↓zA_, ↓zz_,zf_]
   refine kq @k7_ ?_
   refine Ow.soft rfl rfl rfl ?_
   refine Ow.callM rfl rfl Tryz.call227 (by simp[keys]) (fun w' hw'=>W5_ bw s (zL_ s na ne g).2.1 (zL_ s na ne g).2.2 w' gle (by omega) (hw'.has _ _ (List.mem_cons_of_mem _ List.mem_cons_self))) ?_
   with_reducible refine Ow.nil ?_
   refine⟨fun b hb=>wl_ (by simp only[List.mem_cons,List.not_mem_nil,or_false] at hb;omega), ?_⟩
   have hil:=ZZ_ s (zL_ s na ne g).2.1 (zL_ s na ne g).2.2
   obtain⟨I,hI⟩: ∃I,wp_ (idR s (zL_ s na ne g).2.1 (zL_ s na ne g).2.2).1=I:=⟨_,rfl⟩
   have hiI: (idR s (zL_ s na ne g).2.1 (zL_ s na ne g).2.2).1=I.l:=by rw[←hI,vQ_ hil]
   rw[hI] at hgs
   have hg1: (zL_ s na ne (g+1)).1=(zL_ s na ne g).1++ [I]:=by rw[hgs]
   have hg2: (zL_ s na ne (g+1)).2=(idR s (zL_ s na ne g).2.1 (zL_ s na ne g).2.2).2:=by rw[hgs]
   rw[hiI,←hg2]
   refine kn ?_
   refine Ow.soft rfl rfl rfl ?_
   refine Ow.buildSlice (e:=84) (a8 I.l) rfl rfl (vj_ (cs:=I.l.map v8) Tryz.underlying106 Kg_ ZN_ (by decide) (by simp[I.h])) fun b13 hb13 hw13=> ?_
   with_reducible refine Ow.nil ?_
   refine⟨Zb_ (by simp[keys]), ?_⟩
   try simp only[List.cons_append,List.nil_append]
   refine Ow.soft rfl rfl rfl ?_
   refine Ow.permL (M:=D++ [(bo,Obj.cells (roC (vp bw 0) (.slice none 0 0) T v []).toArray 271 (0,0)),(bw,Obj.cells #[vs s,vi (zL_ s na ne (g+1)).2.1,vi (zL_ s na ne (g+1)).2.2] 250 (0,0)),(b13,Obj.cells (a8 I.l) 84 (0,0))]) (by classical exact List.perm_iff_count.2 fun a=>by simp only[List.count_append,List.count_cons,List.count_nil]<;>omega) ?_
   refine Ow.appendX (e:=84) (k:=1) (new:=Z7_ I) (X:=D) v rfl rfl rfl rfl Tryz.underlying106 Kg_ (by kernel_rfl) ZN_ (by rw[zd_,wO_,id0.h]) Tryz.underlying106 (by intro k h;cases h) hG (fun w' hw'=>AppX.one1 (hw'.has b13 (.cells (a8 I.l) 84 (0,0)) (by simp)) (vv_ I) (XE_ I)) (by omega) (by omega) (fun B v4 D4 hA4 hB4 hbuf hk1 hk2 hlk=> ?_)
   have hN4:New w.heap.size D4:=New.of_le fun q hq=>by
    rcases hk2 q hq with h|h
    ·exact hN.le q h
    ·omega
   have ho4:bo∉keys D4:=hN4.not hob
   with_reducible refine Ow.nil ?_
   refine⟨fun q hq=> ?_, ?_⟩
   ·rw[List.mem_singleton] at hq
    subst hq
    rw[w7_ ho4]
    simp only[xj_]
   have hlko: ∀M,Sx.look (D4++M) bo=Sx.look M bo:=fun M=>qf_ ho4
   have hsbo: ∀M x,setB (D4++M) bo x=D4++setB M bo x:=fun M x=>Qz_ ho4
   have st1:=fun a E=>ah0_ (vp bw 0) (.slice none 0 0) T v v4 [] a E hbuf.cell
   have hst7:xG_ (zZ_ Tryz.prog 106) (D4++ [(bo,Obj.cells (roC (vp bw 0) (.slice none 0 0) T v []).toArray 271 (0,0)),(bw,Obj.cells #[vs s,vi (zL_ s na ne (g+1)).2.1,vi (zL_ s na ne (g+1)).2.2] 250 (0,0)),(b13,Obj.cells (a8 I.l) 84 (0,0))]) (vp bo 34) v4=some (D4++ [(bo,Obj.cells (roC (vp bw 0) (.slice none 0 0) T v4 []).toArray 271 (0,0)),(bw,Obj.cells #[vs s,vi (zL_ s na ne (g+1)).2.1,vi (zL_ s na ne (g+1)).2.2] 250 (0,0)),(b13,Obj.cells (a8 I.l) 84 (0,0))]):=by
    rw[Tryz.ag106,wJ_,hlko]
    simp(disch:=omega) only[z5_,j6_,st1,QN_,hsbo,xb_,xy_]
   refine kq @k7_ ?_
   refine Ow.store rfl rfl rfl hst7 ?_
   refine ko @k7_ ?_
   refine Again.mk (CmH.mk (g+1) v4 (D4++ [(b13,Obj.cells (a8 I.l) 84 (0,0))]) _) (by show k - (g+1)<k - g;omega) ⟨by show g+1≤k;omega,hN4.app ⟨by omega,trivial⟩, ?_, ?_⟩ rfl rfl
   ·show Gr _ _ _ _ (g+1) ((zL_ s na ne (g+1)).1.map Z7_).flatten
    rw[hg1,List.map_append,List.flatten_append,show([I].map Z7_).flatten=Z7_ I by simp]
    exact Gr.app (.inl hbuf)
   ·exact(by classical exact List.perm_iff_count.2 fun a=>by simp only[List.count_append,List.count_cons,List.count_nil]<;>omega)
  ·obtain rfl:g=k:=by omega
   rw[←hP] at hG
   rw[←hP] at gle
   rw[←hP]
   have tp:=kQ_ (e:=(wf_ s).2.2) (most:=64) gle
   first|with_reducible refine ks [] @k7_ ?_|refine kp @k7_ ?_
   refine Ow.callM rfl rfl Tryz.call141 (by simp[keys]) (fun w' hw'=>Q1_ bw s (wf_ s).2.1 (wf_ s).2.2 64 w' gle (by omega) (hw'.has _ _ (List.mem_cons_of_mem _ List.mem_cons_self))) ?_
   refine kn ?_
   refine ko @k7_ ?_
   have hT2:comT s=zU_ s (wf_ s).2.1 (wf_ s).2.2 64:=rfl
   have htl:=Qf_ s (wf_ s).2.1 (wf_ s).2.2 64
   rw[hT2] at hcE
   generalize zU_ s (wf_ s).2.1 (wf_ s).2.2 64=tx at*
   obtain⟨tt,a3,e3⟩:=tx
   simp only at tp hcE htl ⊢
   have hPl: (wf_ s).1.length=g:=by rw[hP,Qj_]
   generalize (wf_ s).1=pl at*
   have hC: ∀w',Hp w ((bo,Obj.cells (roC (vp bw 0) (.slice none 0 0) T v tt).toArray 271 (0,0)):: (bw,Obj.cells #[vs s,vi a3,vi e3] 250 (0,0))::D) w'→ComS w' (.agg (q8_ T v tt).toArray) ⟨T,pl,tt⟩:=fun w' hw'=>
    ⟨v,rfl,hG.slM (fun b o hm=>hw'.has b o (by simp[hm])) hPl rfl vv_⟩
   have hE:Ext w [(bo,Obj.cells (roC (vp bw 0) (.slice none 0 0) id0 (.slice none 0 0) []).toArray 271 (0,0)),(bw,Obj.cells #[vs s,vi 0,vi 0] 250 (0,0))] ((bo,Obj.cells (roC (vp bw 0) (.slice none 0 0) T v tt).toArray 271 (0,0)):: (bw,Obj.cells #[vs s,vi a3,vi e3] 250 (0,0))::D):=by
    refine⟨fun c hc=> ?_,fun c hc=> ?_⟩
    ·simp only[keys,List.map_cons,List.map_nil,List.mem_cons,List.not_mem_nil,or_false] at hc ⊢
     rcases hc with h|h|h
     ·exact .inl (.inl h)
     ·exact .inl (.inr h)
     ·exact .inr (hN.le c h)
    ·simp only[keys,List.map_cons,List.map_nil,List.mem_cons,List.not_mem_nil,or_false] at hc ⊢
     rcases hc with h|h
     ·exact .inl h
     ·exact .inr (.inl h)
   have hF:Gr ((bo,Obj.cells (roC (vp bw 0) (.slice none 0 0) T v tt).toArray 271 (0,0)):: (bw,Obj.cells #[vs s,vi a3,vi e3] 250 (0,0))::D) 84 32 v pl.length (pl.map Z7_).flatten:=by
    rw[hPl]
    exact hG.keep fun b o hb ho=>by
     have:=hN.le b (zj_ ho)
     simp(disch:=omega) only[j6_]
     exact ho
   unfold arL_
   rw[hcE]
   refine Ow.callFV rfl Tryz.call142 (fun w' hw'=>Zp_ bw s a3 e3 w' (hw'.has _ _ (List.mem_cons_of_mem _ List.mem_cons_self))) ?_
   by_cases he:xw_ s a3 e3=0
   ·have d2: (xw_ s a3 e3==0)=true:=by simp[he]
    rw[d2]
    refine ko (And.intro @k7_ @d2) ?_
    refine Ow.callFV rfl Tryz.call229 (fun w' hw'=>aeI_ _ _ w' (hC w' hw') (by show pl.length<1000000;omega) (by show tt.length<1099511627776;omega)) ?_
    refine ko @k7_ ?_
    first|with_reducible refine ks [] @k7_ ?_|refine kp @k7_ ?_
    refine⟨_,(ke @k7_), ?_⟩
    exact⟨hE,rfl,v,by simp only[z5_],hF⟩
   ·have d2: (xw_ s a3 e3==0)=false:=by simpa using he
    rw[d2]
    refine ko (And.intro @k7_ @d2) ?_
    first|with_reducible refine ks [] @k7_ ?_|refine kp @k7_ ?_
    refine⟨_,(ke @k7_), ?_⟩
    exact⟨hE,rfl,v,by simp only[z5_],hF⟩
end Go.Proofs
end
section
open Go Go.Proofs Go.Sx Go.StP
namespace Go.Proofs
set_option maxRecDepth 10000
set_option maxHeartbeats 400000
set_option linter.unusedSimpArgs false
theorem ae8_ (v:Value) (w:World):Rets Tryz.prog 201 #[v] w (fun v' D=>v'= .bool true∧D= []):=by
 refine Rets.enterV Tryz.func201 rfl (rs:= [.tmp 2]) Tryz.results201 Tryz.ntmps201 ?_
 refine kf ?_
 first|with_reducible refine ks [] @Nat.add_zero ?_|refine kp @Nat.add_zero ?_
 refine⟨_,(ke @Nat.add_zero),trivial, ?_⟩
 rfl
abbrev obV (k:Int) (t:List UInt8):Value:= .agg #[vi k,vs t]
theorem qb_ (k:Int) (t:List UInt8) (E:TypeId) (fz:Nat×Nat):zo_ (some (true,2)) (some (.cells #[vi k,vs t] E fz)) 0=some (obV k t):=(rfl)
theorem zP_ (k:Int) (t:List UInt8) (n:Nat) (E:TypeId) (fz:Nat×Nat):zo_ (some (false,n)) (some (.cells #[vi k,vs t] E fz)) 0=some (vi k):=(rfl)
theorem zO_ (k:Int) (t:List UInt8) (n:Nat) (E:TypeId) (fz:Nat×Nat):zo_ (some (false,n)) (some (.cells #[vi k,vs t] E fz)) 1=some (vs t):=(rfl)
theorem zS_ (k k':Int) (t t':List UInt8) (a:Bool) (E:TypeId):zn_ (some (a,2)) (some (.cells #[vi k',vs t'] E (0,0))) 0 (obV k t)=some (.cells #[vi k,vs t] E (0,0)):=(rfl)
set_option linter.defProp false
def jK_:=And.intro (And.intro (@qb_) (And.intro (@zP_) (@zO_))) (And.intro (@zS_) (And.intro (@zc_) (@zb_)))
def fnV (k:Nat):Value:= .func (.func k) #[] #[]
def fnsV:Array Value:= #[.nilFunc,fnV 201,fnV 202,fnV 203]
abbrev T4:TypeId:=269
theorem akY_:jy_ (wE_ Tryz.prog T4) (zW_ Tryz.prog T4) [(1,fnV 201),(2,fnV 202),(3,fnV 203)]=some (.agg fnsV):=by
 have hp:wE_ Tryz.prog T4=some [(0,1),(1,1),(2,1),(3,1)]:=id (by kernel_rfl)
 have hz:zW_ Tryz.prog T4=some (.agg #[.nilFunc, .nilFunc, .nilFunc, .nilFunc]):=id (by kernel_rfl)
 rw[hp,hz];rfl
theorem atF_:zW_ Tryz.prog T4=some (.agg #[.nilFunc, .nilFunc, .nilFunc, .nilFunc]):=id (by kernel_rfl)
theorem akR_ (a:Bool) (E:TypeId):zn_ (some (a,4)) (some (.cells #[.nilFunc, .nilFunc, .nilFunc, .nilFunc] E (0,0))) 0 (.agg fnsV)=some (.cells fnsV E (0,0)):=(rfl)
theorem anV_ (x:Value) (hx:x.cells= #[x]):jy_ (wE_ Tryz.prog 271) (zW_ Tryz.prog 271) [(0,x)]=some (.agg (roC x (.slice none 0 0) id0 (.slice none 0 0) []).toArray):=by
 have hp:wE_ Tryz.prog 271=some [(0,1),(1,1),(2,34)]:=id (by kernel_rfl)
 have hz:zW_ Tryz.prog 271=some (.agg (roC (.pointer none) (.slice none 0 0) id0 (.slice none 0 0) []).toArray):=id (by kernel_rfl)
 rw[hp,hz]
 simp only[jy_,XN_,List.getElem?_cons_zero,hx]
 rfl
def xu_ (k:Int) (t:List UInt8):Bool:=
 if 1≤k∧k≤3∧t.length≤4096 then
  (if k=1 then true else if k=2 then(xw_ t (jN_ t).2.1 (jN_ t).2.2==0&&kt_ (jN_ t).1) else(xw_ t (v9_ t).2.1 (v9_ t).2.2==0&&wU_ (v9_ t).1))
 else false
def RdS (k:Int) (t:List UInt8) (v:Value) (D:za_):Prop:=
 ∃p,v= .tuple #[p, .bool (xu_ k t)]∧(1≤k∧k≤3∧t.length≤4096→ ∃bo bw v1 c1 x1 y1,p=vp bo 0∧Sx.look D bo=some (.cells (roC (vp bw 0) v1 c1 x1 y1).toArray 271 (0,0))∧
  (k=2→Gr D 221 34 v1 (jN_ t).1.length ((jN_ t).1.map qQ_).flatten)∧
  (k=3→c1=(v9_ t).1.tree∧y1=(v9_ t).1.text∧Gr D 84 32 x1 (v9_ t).1.par.length ((v9_ t).1.par.map Z7_).flatten)∧(k≠2→v1= .slice none 0 0))
theorem air_ (k:Int) (t:List UInt8) (w:World):Rets Tryz.prog 169 #[obV k t] w (XS w [] (RdS k t)):=by
 refine Rets.enterX Tryz.func169 rfl (rs:= [.tmp 2, .tmp 3]) Tryz.results169 Tryz.ntmps169 (fun p hp=>by cases hp) (by simp[keys]) ?_
 refine kf ?_
 first|with_reducible refine ks [] @jK_ ?_|refine kp @jK_ ?_
 refine Ow.box rfl rfl fun b1 hb1 hw1=> ?_
 simp only[z4_,z1_,z3_,zd_,List.nil_append]
 refine ko @jK_ ?_
 refine Ow.build (.agg fnsV) rfl akY_ ?_
 refine ko @jK_ ?_
 refine Ow.alloc rfl rfl atF_ fun b4 hb4 hw4=> ?_
 simp only[zd_,List.nil_append,List.cons_append]
 have h14:b1<b4:=zk_ hb4 (by simp[keys])
 refine ko (And.intro @jK_ @akR_) ?_
 by_cases h1:k<1
 ·have d1:decide (k<1)=true:=decide_eq_true h1
  have e:xu_ k t=false:=by unfold xu_;rw[if_neg (by omega)]
  first|with_reducible refine ks [] (And.intro @jK_ @d1) ?_|refine kp (And.intro @jK_ @d1) ?_
  refine⟨_,(ke @jK_), ?_⟩
  exact⟨Ext.of_new ⟨hw1,hw4,trivial⟩, .pointer none,by rw[e];rfl,fun h=>absurd h.1 (by omega)⟩
 ·have d1:decide (k<1)=false:=decide_eq_false h1
  by_cases h2:3<k
  ·have d2:decide (3<k)=true:=decide_eq_true h2
   have e:xu_ k t=false:=by unfold xu_;rw[if_neg (by omega)]
   first|with_reducible refine ks [] (And.intro @jK_ (And.intro @d1 (@d2))) ?_|refine kp (And.intro @jK_ (And.intro @d1 (@d2))) ?_
   refine⟨_,(ke @jK_), ?_⟩
   exact⟨Ext.of_new ⟨hw1,hw4,trivial⟩, .pointer none,by rw[e];rfl,fun h=>absurd h.2.1 (by omega)⟩
  ·have d2:decide (3<k)=false:=decide_eq_false h2
   by_cases h3:4096<t.length
   ·have d3:decide (4096< (t.length:Int))=true:=decide_eq_true (by omega)
    have e:xu_ k t=false:=by unfold xu_;rw[if_neg (by omega)]
    first|with_reducible refine ks [] (And.intro @jK_ (And.intro @d1 (And.intro @d2 (@d3)))) ?_|refine kp (And.intro @jK_ (And.intro @d1 (And.intro @d2 (@d3)))) ?_
    refine⟨_,(ke @jK_), ?_⟩
    exact⟨Ext.of_new ⟨hw1,hw4,trivial⟩, .pointer none,by rw[e];rfl,fun h=>absurd h.2.2 (by omega)⟩
   ·have d3:decide (4096< (t.length:Int))=false:=decide_eq_false (by omega)
    first|with_reducible refine ks [] (And.intro @jK_ (And.intro @d1 (And.intro @d2 (@d3)))) ?_|refine kp (And.intro @jK_ (And.intro @d1 (And.intro @d2 (@d3)))) ?_
    refine Ow.callF rfl rfl Tryz.call138 (S:=fun B v D=> ∃b',B≤b'∧v=vp b' 0∧D= [(b', .cells #[vs t,vi 0,vi 0] 250 (0,0))]) (fun w' hw'=>abw_ t w') ?_
    rintro B v D hab hB ⟨bw,hbw,rfl,rfl⟩
    obtain⟨h1B,h4B,-⟩:=hab
    refine⟨_,Mrg.fresh (by intro q hq;simp only[keys,List.map_cons,List.map_nil,List.mem_singleton] at hq;omega), ?_⟩
    simp only[List.cons_append,List.nil_append]
    refine ko @jK_ ?_
    refine Ow.build (.agg (roC (vp bw 0) (.slice none 0 0) id0 (.slice none 0 0) []).toArray) rfl (anV_ _ rfl) ?_
    refine ko @jK_ ?_
    refine Ow.box rfl rfl fun bo hbo hwo=> ?_
    simp only[z4_,z1_,z3_,zd_,List.nil_append,List.cons_append]
    have hobw:bo≠bw:=by have:=zk_ hbo (show bw∈keys _ by simp[keys]);omega
    rcases(show k=1∨k=2∨k=3 by omega) with rfl|rfl|rfl
    ·have lf: ∀n E fz,zo_ (some (false,n)) (some (.cells fnsV E fz)) 1=some (fnV 201):=fun _ _ _=>rfl
     have e:xu_ 1 t=true:=by unfold xu_;rw[if_pos (by omega)];rfl
     refine ko (And.intro @jK_ @lf) ?_
     refine Ow.callV rfl rfl Tryz.call201 (fun w' hw'=>by have:=ae8_ (vp bo 0) w';simpa [z4_,z3_,z1_] using this) ?_
     refine ko @jK_ ?_
     first|with_reducible refine ks [] @jK_ ?_|refine kp @jK_ ?_
     refine⟨_,(ke @jK_), ?_⟩
     refine⟨Ext.of_new ⟨hw1,hw4,by omega,hwo,trivial⟩,vp bo 0,by rw[e];rfl,fun h=>⟨bo,bw, .slice none 0 0,id0, .slice none 0 0,[],rfl, ?_,fun h=>absurd h (by decide),fun h=>absurd h (by decide),fun _=>rfl⟩⟩
     have hb1o:b1≠bo:=by have:=zk_ hbo (show b1∈keys _ by simp[keys]);omega
     have hb4o:b4≠bo:=by have:=zk_ hbo (show b4∈keys _ by simp[keys]);omega
     simp(disch:=omega) only[z5_,j6_]
    ·have lf: ∀n E fz,zo_ (some (false,n)) (some (.cells fnsV E fz)) 2=some (fnV 202):=fun _ _ _=>rfl
     have e:xu_ 2 t=(xw_ t (jN_ t).2.1 (jN_ t).2.2==0&&kt_ (jN_ t).1):=by unfold xu_;rw[if_pos (by omega)];rfl
     refine ko (And.intro @jK_ @lf) ?_
     refine Ow.permL (M:= [(bo,Obj.cells (roC (vp bw 0) (.slice none 0 0) id0 (.slice none 0 0) []).toArray 271 (0,0)),(bw,Obj.cells #[vs t,vi 0,vi 0] 250 (0,0))]++ [(b1,Obj.cells #[vi 2,vs t] 82 (0,0)),(b4,Obj.cells fnsV 269 (0,0))]) (by classical exact List.perm_iff_count.2 fun a=>by simp only[List.count_append,List.count_cons,List.count_nil]<;>omega) ?_
     refine Ow.callFnX (b:=vp bo 0) (X:= [(bo,Obj.cells (roC (vp bw 0) (.slice none 0 0) id0 (.slice none 0 0) []).toArray 271 (0,0)),(bw,Obj.cells #[vs t,vi 0,vi 0] 250 (0,0))]) (Y:= [(b1,Obj.cells #[vi 2,vs t] 82 (0,0)),(b4,Obj.cells fnsV 269 (0,0))]) rfl rfl rfl rfl rfl Tryz.call202 (fun w' hw' hX hn=>ae9_ bo bw t w' (by omega) hobw (hX _ List.mem_cons_self) (hX _ (List.mem_cons_of_mem _ List.mem_cons_self))) (fun v D hC hS=> ?_)
     obtain⟨rfl,v1,hl1,hg1⟩:=hS
     have hNX:New w.heap.size (D++ [(b1,Obj.cells #[vi 2,vs t] 82 (0,0)),(b4,Obj.cells fnsV 269 (0,0))]):=by
      refine New.of_le fun c hc=> ?_
      rw[zv_,List.mem_append] at hc
      rcases hc with hc|hc
      ·rcases hC.new c hc with h| ⟨-,h⟩
       ·simp only[keys,List.map_cons,List.map_nil,List.mem_cons,List.not_mem_nil,or_false] at h;omega
       ·exact h
      ·simp only[keys,List.map_cons,List.map_nil,List.mem_cons,List.not_mem_nil,or_false] at hc;omega
     refine ko @jK_ ?_
     first|with_reducible refine ks [] @jK_ ?_|refine kp @jK_ ?_
     refine⟨_,(ke @jK_), ?_⟩
     exact⟨Ext.of_new hNX,vp bo 0,by rw[e];rfl,fun _=>⟨bo,bw,v1,_,_,_,rfl,zu_ hl1,fun _=>hg1.app,fun h=>absurd h (by decide),fun h=>absurd rfl h⟩⟩
    ·have lf: ∀n E fz,zo_ (some (false,n)) (some (.cells fnsV E fz)) 3=some (fnV 203):=fun _ _ _=>rfl
     have e:xu_ 3 t=(xw_ t (v9_ t).2.1 (v9_ t).2.2==0&&wU_ (v9_ t).1):=by unfold xu_;rw[if_pos (by omega)];rfl
     refine ko (And.intro @jK_ @lf) ?_
     refine Ow.permL (M:= [(bo,Obj.cells (roC (vp bw 0) (.slice none 0 0) id0 (.slice none 0 0) []).toArray 271 (0,0)),(bw,Obj.cells #[vs t,vi 0,vi 0] 250 (0,0))]++ [(b1,Obj.cells #[vi 3,vs t] 82 (0,0)),(b4,Obj.cells fnsV 269 (0,0))]) (by classical exact List.perm_iff_count.2 fun a=>by simp only[List.count_append,List.count_cons,List.count_nil]<;>omega) ?_
     refine Ow.callFnX (b:=vp bo 0) (X:= [(bo,Obj.cells (roC (vp bw 0) (.slice none 0 0) id0 (.slice none 0 0) []).toArray 271 (0,0)),(bw,Obj.cells #[vs t,vi 0,vi 0] 250 (0,0))]) (Y:= [(b1,Obj.cells #[vi 3,vs t] 82 (0,0)),(b4,Obj.cells fnsV 269 (0,0))]) rfl rfl rfl rfl rfl Tryz.call203 (fun w' hw' hX hn=>aiQ_ bo bw t w' (by omega) hobw (hX _ List.mem_cons_self) (hX _ (List.mem_cons_of_mem _ List.mem_cons_self))) (fun v D hC hS=> ?_)
     obtain⟨rfl,p1,hl1,hg1⟩:=hS
     have hNX:New w.heap.size (D++ [(b1,Obj.cells #[vi 3,vs t] 82 (0,0)),(b4,Obj.cells fnsV 269 (0,0))]):=by
      refine New.of_le fun c hc=> ?_
      rw[zv_,List.mem_append] at hc
      rcases hc with hc|hc
      ·rcases hC.new c hc with h| ⟨-,h⟩
       ·simp only[keys,List.map_cons,List.map_nil,List.mem_cons,List.not_mem_nil,or_false] at h;omega
       ·exact h
      ·simp only[keys,List.map_cons,List.map_nil,List.mem_cons,List.not_mem_nil,or_false] at hc;omega
     refine ko @jK_ ?_
     first|with_reducible refine ks [] @jK_ ?_|refine kp @jK_ ?_
     refine⟨_,(ke @jK_), ?_⟩
     exact⟨Ext.of_new hNX,vp bo 0,by rw[e];rfl,fun _=>⟨bo,bw,_,_,p1,_,rfl,zu_ hl1,fun h=>absurd h (by decide),fun _=>⟨rfl,rfl,hg1.app⟩,fun _=>rfl⟩⟩
end Go.Proofs
end
section
open Go Go.Proofs Go.Sx Go.StP
namespace Go.Proofs
set_option maxRecDepth 10000
set_option maxHeartbeats 400000
set_option linter.unusedSimpArgs false
set_option linter.defProp false
def aeo_:=And.intro (And.intro (And.intro (@qb_) (@zP_)) (And.intro (@zO_) (@zS_))) (And.intro (And.intro (@Sx.tup2_0) (@Sx.tup2_1)) (And.intro (@zc_) (@zb_)))
theorem Kz_ (k:Int) (t:List UInt8) (w:World):Rets Tryz.prog 132 #[obV k t] w (fun v D=>v= .bool (xu_ k t)∧D= []):=by
 refine Rets.enterV Tryz.func132 rfl (rs:= [.tmp 2]) Tryz.results132 Tryz.ntmps132 ?_
 refine kf ?_
 first|with_reducible refine ks [] @aeo_ ?_|refine kp @aeo_ ?_
 refine Ow.box rfl rfl fun b1 hb1 hw1=> ?_
 simp only[z4_,z1_,z3_,zd_,List.nil_append]
 refine ko @aeo_ ?_
 refine Ow.callC rfl rfl Tryz.call169 (fun w' hw'=>air_ k t w') (fun B v D hA hB hN hS=> ?_)
 obtain⟨p,rfl,-⟩:=hS
 refine ko @aeo_ ?_
 first|with_reducible refine ks [] @aeo_ ?_|refine kp @aeo_ ?_
 refine⟨_,(ke @aeo_),⟨hw1,New.mono hB hN⟩, ?_⟩
 rfl
def aws_ (k:Int) (t:List UInt8) (ok:Bool):Int:=if ok&&xu_ k t then k else 0
def awL_ (k:Int) (t:List UInt8) (ok:Bool):List UInt8:=if ok&&xu_ k t then t else []
def awk_ (k:Int) (t:List UInt8) (ok:Bool):Int:=if ok&&xu_ k t then 0 else 1
theorem zrOb:zW_ Tryz.prog 82=some (obV 0 []):=id (by kernel_rfl)
theorem kH_:jy_ (wE_ Tryz.prog 82) (zW_ Tryz.prog 82) []=some (obV 0 []):=by
 have hp:wE_ Tryz.prog 82=some [(0,1),(1,1)]:=id (by kernel_rfl)
 rw[hp,zrOb];rfl
theorem acw_ (k:Int) (t:List UInt8):jy_ (wE_ Tryz.prog 82) (zW_ Tryz.prog 82) [(0,vi k),(1,vs t)]=some (obV k t):=by
 have hp:wE_ Tryz.prog 82=some [(0,1),(1,1)]:=id (by kernel_rfl)
 rw[hp,zrOb];rfl
end Go.Proofs
end
section
open Go Go.Proofs Go.Sx Go.StP
namespace Go.Proofs
set_option maxRecDepth 10000
set_option maxHeartbeats 400000
set_option linter.unusedSimpArgs false
set_option linter.defProp false
def avM_:=And.intro (And.intro (And.intro (@qb_) (And.intro (@zP_) (@zO_))) (And.intro (@zS_) (And.intro (@Sx.tup2_0) (@Sx.tup2_1)))) (And.intro (And.intro (@wI_) (And.intro (@wL_) (@wW_))) (And.intro (And.intro (@Qe_) (@kB_)) (And.intro (@zc_) (@zb_))))
theorem BldAt.zeroE (b:Nat) {L:za_} (h:Sx.look L b=some (.cells #[.pointer none, .slice none 0 0] 204 (0,0))):BldAt b [] L:=
 ⟨_,_,h, .inl rfl, .nl,fun h=>by cases h⟩
theorem zrWr:zW_ Tryz.prog 204=some (.agg #[.pointer none, .slice none 0 0]):=id (by kernel_rfl)
theorem Came.newE {w0:World} {L X D:za_} {b:Nat} (hC:Came w0 L X D) (hN:New (b+1) X) (hb:b∈keys L):New (b+1) D:=New.of_le fun c hc=>by
 rcases hC.new c hc with h| ⟨h,-⟩
 ·exact hN.le c h
 ·have:=zk_ h hb;omega
end Go.Proofs
end
section
open Go Go.Proofs Go.Sx Go.StP
namespace Go.Proofs
set_option maxRecDepth 10000
set_option maxHeartbeats 400000
set_option linter.unusedSimpArgs false
set_option linter.defProp false
def awU_:=And.intro (And.intro (And.intro (@qb_) (And.intro (@zP_) (@zO_))) (And.intro (And.intro (@zS_) (@Sx.tup2_0)) (And.intro (@Sx.tup2_1) (@kp_)))) (And.intro (And.intro (@vu_) (And.intro (@vi_) (@jq_))) (And.intro (And.intro (@qj_) (@qp_)) (And.intro (@zc_) (@zb_))))
structure WrG where
 g:Nat
 D:za_
end Go.Proofs
end
section
open Go Go.Proofs Go.Sx Go.StP
namespace Go.Proofs
set_option maxRecDepth 10000
set_option maxHeartbeats 400000
set_option linter.unusedSimpArgs false
theorem Z5_ {k:Int} {t:List UInt8} (h:xu_ k t=true):1≤k∧k≤3∧t.length≤4096:=by
 unfold xu_ at h
 split at h
 ·assumption
 ·cases h
set_option linter.defProp false
def avq_:=And.intro (And.intro (And.intro (@qb_) (@zP_)) (And.intro (@zO_) (And.intro (@zS_) (@Sx.tup2_0)))) (And.intro (And.intro (@Sx.tup2_1) (And.intro (@WR_) (@aab_))) (And.intro (@aaj_) (And.intro (@zc_) (@zb_))))
def awJ_ (k:Int) (t:List UInt8) (v:Value) (D:za_):Prop:=
 if xu_ k t=true∧k=2 then∃v1,v= .tuple #[v1,vi 0]∧Gr D 221 34 v1 (jN_ t).1.length ((jN_ t).1.map qQ_).flatten else v= .tuple #[.slice none 0 0,vi 1]
def avJ_ (k:Int) (t:List UInt8) (v:Value) (D:za_):Prop:=
 if xu_ k t=true∧k=3 then∃p,v= .tuple #[.agg (q8_ (v9_ t).1.tree p (v9_ t).1.text).toArray,vi 0]∧Gr D 84 32 p (v9_ t).1.par.length ((v9_ t).1.par.map Z7_).flatten else v= .tuple #[.agg (q8_ id0 (.slice none 0 0) []).toArray,vi 1]
end Go.Proofs
end
section
open Go Go.Proofs Go.Sx Go.StP
namespace Go.Proofs
set_option maxRecDepth 10000
set_option maxHeartbeats 400000
set_option linter.unusedSimpArgs false
set_option linter.defProp false
def wk_:=And.intro (And.intro (And.intro (@qb_) (@zP_)) (And.intro (@zO_) (@zS_))) (And.intro (And.intro (@Sx.tup2_0) (@Sx.tup2_1)) (And.intro (@zc_) (@zb_)))
def wK_ (k:Int):List UInt8:=(([32,98,116,99]:List UInt8).take (k+1).toNat).drop k.toNat
def qB_ (k:Int) (t:List UInt8):List UInt8:=wK_ k++j2_ t
theorem XS_ (k:Int) (t:List UInt8) (w:World):Rets Tryz.prog 99 #[obV k t] w (XS w [] (fun v _=>v=if xu_ k t then .tuple #[vs (qB_ k t),vi 0] else .tuple #[vs [],vi 1])):=by
 refine Rets.enterX Tryz.func99 rfl (rs:= [.tmp 2, .tmp 3]) Tryz.results99 Tryz.ntmps99 (fun p hp=>by cases hp) (by simp[keys]) ?_
 refine kf ?_
 first|with_reducible refine ks [] @wk_ ?_|refine kp @wk_ ?_
 refine Ow.box rfl rfl fun b1 hb1 hw1=> ?_
 simp only[z4_,z1_,z3_,zd_,List.nil_append]
 refine ko @wk_ ?_
 refine Ow.callFV rfl Tryz.call132 (fun w' hw'=>Kz_ k t w') ?_
 cases hr:xu_ k t
 ·refine ko @wk_ ?_
  first|with_reducible refine ks [] @wk_ ?_|refine kp @wk_ ?_
  refine⟨_,(ke @wk_), ?_⟩
  exact⟨Ext.of_new ⟨hw1,trivial⟩,rfl⟩
 ·obtain⟨hk1,hk3,htl⟩:=Z5_ hr
  have hhl: (wK_ k).length≤4:=by unfold wK_;simp only[List.length_drop,List.length_take,List.length_cons,List.length_nil];omega
  refine ko @wk_ ?_
  refine Ow.alloc rfl rfl zrWr fun b4 hb4 hw4=> ?_
  simp only[zd_,List.nil_append,List.cons_append]
  have h14:b1<b4:=zk_ hb4 (by simp[keys])
  refine Ow.permL (M:= [(b4,Obj.cells #[.pointer none, .slice none 0 0] 204 (0,0))]++ [(b1,Obj.cells #[vi k,vs t] 82 (0,0))]) (by classical exact List.perm_iff_count.2 fun a=>by simp only[List.count_append,List.count_cons,List.count_nil]<;>omega) ?_
  have hB0:BldAt b4 [] [(b4,Obj.cells #[.pointer none, .slice none 0 0] 204 (0,0))]:=BldAt.zeroE b4 (z5_ _ _ _)
  have hN0:New (b1+1) [(b4,Obj.cells #[.pointer none, .slice none 0 0] 204 (0,0))]:=⟨by omega,trivial⟩
  generalize [(b4,Obj.cells #[.pointer none, .slice none 0 0] 204 (0,0))]=D0 at hB0 hN0 ⊢
  have rdc: ∀ {D},New (b1+1) D→ ∀M,zE_ w (D++ (b1,Obj.cells #[vi k,vs t] 82 (0,0))::M) b1=some (.cells #[vi k,vs t] 82 (0,0)):=fun hn M=>zh_ (by rw[qf_ (hn.not (by omega))];exact z5_ _ _ _)
  have r0:=rdc hN0
  have hsl:jx_ .str (vs ([32,98,116,99]:List UInt8)) (some (some k)) (some (some (k+1)))=some (vs (wK_ k)):=ZB_ _ _ _ ⟨by omega,by omega,by simp only[List.length_cons,List.length_nil];omega⟩
  refine ko (And.intro @wk_ (And.intro @r0 (@hsl))) ?_
  refine Ow.buildSlice (e:=9) #[vs (wK_ k)] rfl rfl (by kernel_rfl) fun b14 hb14 hw14=> ?_
  have h114:b1<b14:=zk_ hb14 (by simp[keys])
  have hD14:b14∉keys D0:=fun hm=>Nat.lt_irrefl _ (zk_ hb14 (by rw[zv_];exact List.mem_append_left _ hm))
  refine ko @wk_ ?_
  refine Ow.callX (Y:= [(b1,Obj.cells #[vi k,vs t] 82 (0,0)),(b14,Obj.cells #[vs (wK_ k)] 9 (0,0))]) (by simp) rfl rfl Tryz.call133 (fun w' hw' hX hn=>adi_ b4 D0 _ _ b14 0 [wK_ k] _ _ _ w' hB0 hX hn (StrS.lit [wK_ k] rfl rfl (hw'.has _ _ (List.mem_append_right _ List.mem_cons_self))) (fun _=>hD14) (by simp;omega) (by simp)) (fun u0 E0 hC0 hS0=> ?_)
  obtain⟨rfl,hB0'⟩:=hS0
  have hN0':=Came.newE hC0 hN0 (by simp[keys])
  have hB1:=hB0'.app (Y:= [(b14,Obj.cells #[vs (wK_ k)] 9 (0,0))])
  have hN1:=hN0'.app (show New (b1+1) [(b14,Obj.cells #[vs (wK_ k)] 9 (0,0))] from⟨by omega,trivial⟩)
  refine Ow.permL (M:=(E0++ [(b14,Obj.cells #[vs (wK_ k)] 9 (0,0))])++ [(b1,Obj.cells #[vi k,vs t] 82 (0,0))]) (by classical exact List.perm_iff_count.2 fun a=>by simp only[List.count_append,List.count_cons,List.count_nil]<;>omega) ?_
  generalize E0++ [(b14,Obj.cells #[vs (wK_ k)] 9 (0,0))]=F1 at hB1 hN1 ⊢
  simp only[List.flatten_cons,List.flatten_nil,List.append_nil,List.nil_append] at hB1
  have r1:=rdc hN1
  refine ko (And.intro @wk_ @r1) ?_
  have htx:vd_ [t]=j2_ t:=by simp[vd_]
  have tll:=vq_ (s:=t) (by omega)
  have tnl: (j2_ t).length=(v8_ (qs_ t.length)).length+t.length:=by unfold j2_;rw[List.length_append]
  have nl1:=zQ_ (t.length:Int)
  refine Ow.buildSlice (e:=9) #[vs t] rfl rfl (by kernel_rfl) fun b18 hb18 hw18=> ?_
  have h118:b1<b18:=zk_ hb18 (by simp[keys])
  have hD18:b18∉keys F1:=fun hm=>Nat.lt_irrefl _ (zk_ hb18 (by rw[zv_];exact List.mem_append_left _ hm))
  refine ko @wk_ ?_
  refine Ow.callX (Y:= [(b1,Obj.cells #[vi k,vs t] 82 (0,0)),(b18,Obj.cells #[vs t] 9 (0,0))]) (by simp) rfl rfl Tryz.call134 (fun w' hw' hX hn=>ahT_ b4 F1 _ _ b18 0 [t] _ _ _ w' hB1 hX hn (StrS.lit [t] rfl rfl (hw'.has _ _ (List.mem_append_right _ List.mem_cons_self))) (fun _=>hD18) (by rw[htx];omega) (by simp)) (fun u1 E1 hC1 hS1=> ?_)
  obtain⟨rfl,hB1'⟩:=hS1
  have hN1':=Came.newE hC1 hN1 (by simp[keys])
  have hB2:=hB1'.app (Y:= [(b18,Obj.cells #[vs t] 9 (0,0))])
  have hN2:=hN1'.app (show New (b1+1) [(b18,Obj.cells #[vs t] 9 (0,0))] from⟨by omega,trivial⟩)
  refine Ow.permL (M:=(E1++ [(b18,Obj.cells #[vs t] 9 (0,0))])++ [(b1,Obj.cells #[vi k,vs t] 82 (0,0))]) (by classical exact List.perm_iff_count.2 fun a=>by simp only[List.count_append,List.count_cons,List.count_nil]<;>omega) ?_
  generalize E1++ [(b18,Obj.cells #[vs t] 9 (0,0))]=F2 at hB2 hN2 ⊢
  rw[htx] at hB2
  refine ko @wk_ ?_
  refine Ow.callX (Y:= [(b1,Obj.cells #[vi k,vs t] 82 (0,0))]) (by simp) rfl rfl Tryz.call135 (fun w' hw' hX hn=>adj_ b4 F2 _ w' hB2 hX hn (by rw[List.length_append];omega)) (fun v5 D5 hC5 hS5=> ?_)
  obtain rfl:=hS5
  have hN5:=Came.newE hC5 hN2 (by simp[keys])
  refine ko @wk_ ?_
  first|with_reducible refine ks [] @wk_ ?_|refine kp @wk_ ?_
  refine⟨_,(ke @wk_), ?_⟩
  exact⟨Ext.of_new ((New.mono (by omega) hN5).app ⟨hw1,trivial⟩),rfl⟩
end Go.Proofs
end
section
open Go Go.Proofs Go.Sx Go.StP
namespace Go.Proofs
set_option maxRecDepth 10000
set_option maxHeartbeats 400000
set_option linter.unusedSimpArgs false
set_option linter.defProp false
def kK_:=And.intro (And.intro (And.intro (@qb_) (@zP_)) (And.intro (@zO_) (@zS_))) (And.intro (And.intro (@Sx.tup2_0) (@Sx.tup2_1)) (And.intro (@kB_) (And.intro (@zc_) (@zb_))))
def QB_ (k:Int) (t:List UInt8):Bool:=if 4096<t.length then false else if k=2 then(adP_ t).isSome else if k=3 then(aeP_ t).isSome else k==1
theorem XO_ (k:Int) (t:List UInt8) (w:World):Rets Tryz.prog 54 #[obV k t] w (fun v D=>v= .bool (QB_ k t)∧D= []):=by
 refine Rets.enterV Tryz.func54 rfl (rs:= [.tmp 2]) Tryz.results54 Tryz.ntmps54 ?_
 refine kf ?_
 first|with_reducible refine ks [] @kK_ ?_|refine kp @kK_ ?_
 refine Ow.box rfl rfl fun b1 hb1 hw1=> ?_
 simp only[z4_,z1_,z3_,zd_,List.nil_append]
 refine ko @kK_ ?_
 unfold QB_
 by_cases h3:4096<t.length
 ·have d1:decide (4096< (t.length:Int))=true:=decide_eq_true (by omega)
  rw[if_pos h3]
  first|with_reducible refine ks [] (And.intro @kK_ @d1) ?_|refine kp (And.intro @kK_ @d1) ?_
  refine⟨_,(ke @kK_),⟨hw1,trivial⟩, ?_⟩
  rfl
 ·have d1:decide (4096< (t.length:Int))=false:=decide_eq_false (by omega)
  rw[if_neg h3]
  by_cases h2:k=2
  ·subst h2
   rw[if_pos rfl]
   first|with_reducible refine ks [] (And.intro @kK_ @d1) ?_|refine kp (And.intro @kK_ @d1) ?_
   refine Ow.callC rfl rfl Tryz.call108 (fun w' hw'=>aaQ_ t w' (by omega)) (fun B v D hA hB hN hS=> ?_)
   obtain⟨p,b,rfl,hb⟩: ∃p b,v= .tuple #[p, .bool b]∧(adP_ t).isSome=b:=by
    unfold akB_ at hS
    cases h:adP_ t with
    |none=>rw[h] at hS;exact⟨_,_,hS,rfl⟩
    |some l=>rw[h] at hS;obtain⟨v1,rfl,-⟩:=hS;exact⟨_,_,rfl,rfl⟩
   rw[hb]
   refine ko @kK_ ?_
   first|with_reducible refine ks [] @kK_ ?_|refine kp @kK_ ?_
   refine⟨_,(ke @kK_),⟨hw1,New.mono hB hN⟩, ?_⟩
   rfl
  ·have d2: (k==2)=false:=by simpa using h2
   rw[if_neg h2]
   by_cases h4:k=3
   ·subst h4
    rw[if_pos rfl]
    first|with_reducible refine ks [] (And.intro @kK_ (And.intro @d1 (@d2))) ?_|refine kp (And.intro @kK_ (And.intro @d1 (@d2))) ?_
    refine Ow.callC rfl rfl Tryz.call109 (fun w' hw'=>aas_ t w' (by omega)) (fun B v D hA hB hN hS=> ?_)
    obtain⟨c,p,x,b,rfl,hp,hb⟩: ∃c p x b,v= .tuple #[.agg (q8_ c p x).toArray, .bool b]∧Value.oneCell' p=true∧(aeP_ t).isSome=b:=by
     unfold alA_ at hS
     cases h:aeP_ t with
     |none=>rw[h] at hS;exact⟨_,_,_,_,hS,rfl,rfl⟩
     |some l=>rw[h] at hS;obtain⟨v1,rfl,hg⟩:=hS;exact⟨_,_,_,_,rfl,hg.cell.1,rfl⟩
    rw[hb]
    have stq: ∀a E,zn_ (some (a,34)) (some (.cells (q8_ id0 (.slice none 0 0) []).toArray E (0,0))) 0 (.agg (q8_ c p x).toArray)=some (.cells (q8_ c p x).toArray E (0,0)):=fun a E=>K1_ _ _ _ _ a E (by rw[List.size_toArray,Zf_]) hp
    refine ko @kK_ ?_
    refine Ow.alloc rfl rfl aoq_ fun b5 hb5 hw5=> ?_
    simp only[zd_,List.nil_append,List.cons_append]
    refine Ow.permL (M:=(b5,Obj.cells (q8_ id0 (.slice none 0 0) []).toArray 172 (0,0)):: (b1,Obj.cells #[vi 3,vs t] 82 (0,0))::D) (by classical exact List.perm_iff_count.2 fun a=>by simp only[List.count_append,List.count_cons,List.count_nil]<;>omega) ?_
    refine ko (And.intro @kK_ @stq) ?_
    first|with_reducible refine ks [] @kK_ ?_|refine kp @kK_ ?_
    refine⟨_,(ke @kK_),⟨hw5,hw1,New.mono hB hN⟩, ?_⟩
    rfl
   ·have d3: (k==3)=false:=by simpa using h4
    rw[if_neg h4]
    first|with_reducible refine ks [] (And.intro @kK_ (And.intro @d1 (And.intro @d2 (@d3)))) ?_|refine kp (And.intro @kK_ (And.intro @d1 (And.intro @d2 (@d3)))) ?_
    refine⟨_,(ke @kK_),⟨hw1,trivial⟩, ?_⟩
    rfl
end Go.Proofs
end
section
open Go Go.Proofs Go.Sx Go.StP
namespace Go.Proofs
set_option maxRecDepth 10000
set_option maxHeartbeats 400000
set_option linter.unusedSimpArgs false
theorem ale_ (n:Nat):0< (v8_ n).length:=by
 by_cases h:n<128
 ·rw[j4_ h];simp
 ·rw[vS_ h];simp
theorem af3_ (most:Int): ∀ (l:List UInt8) (k acc m k':Nat),z7_ most l k acc= .ok (m,k')→ ∃n,l=v8_ n++l.drop (k' - k)∧m=acc+n*128^k∧(0<k→0<n)∧k<k':=by
 intro l
 induction l with
 |nil=>intro k acc m k' h;simp[z7_] at h
 |cons c r ih=>
  intro k acc m k' h
  unfold z7_ at h
  have hcl:=c.toNat_lt
  split at h
  ·rename_i hc
   split at h
   ·cases h
   ·obtain⟨n,h1,h2,h3,h4⟩:=ih _ _ _ _ h
    have hn:=h3 (by omega)
    refine⟨c.toNat%128+128*n, ?_, ?_,fun _=>by omega,by omega⟩
    ·rw[vS_ (by omega),show(c.toNat%128+128*n) / 128=n by omega,show(c.toNat%128+128*n)%128+128=c.toNat by omega]
     rw[show k' - k=(k' - (k+1))+1 by omega,List.drop_succ_cons,List.cons_append,←h1]
     simp
    ·rw[h2,Nat.pow_succ,Nat.add_mul,Nat.add_assoc]
     congr 2
     rw[Nat.mul_comm 128 n,Nat.mul_assoc,Nat.mul_comm (128^k) 128]
  ·rename_i hc
   split at h
   ·cases h
   ·rename_i hz
    split at h
    ·cases h
     refine⟨c.toNat, ?_, ?_,fun hk=>by omega,by omega⟩
     ·rw[j4_ (by omega),Nat.add_sub_cancel_left]
      simp
     ·rw[Nat.mod_eq_of_lt (by omega)]
    ·cases h
theorem Zm_ {n:Nat} (h:n≤1099511627775):qs_ (n:Int)=n:=vz_ (by omega)
theorem JK_ (most:Int): ∀ (l:List UInt8) (k n m k':Nat),z7_ most l k n= .ok (m,k')→m≤1099511627775
 | [],_,_,_,_,h=>by simp[z7_] at h
 |c::r,k,n,m,k',h=>by
  unfold z7_ at h
  split at h
  ·split at h
   ·cases h
   ·exact JK_ most r _ _ _ _ h
  ·split at h
   ·cases h
   ·split at h
    ·rename_i hh
     cases h
     exact hh.1
    ·cases h
theorem Jd_ {s:List UInt8} {a:Nat} {most:Int} (h: (zH_ s a 0 most).2.2=0): ∃n:Nat,(zH_ s a 0 most).1=(n:Int)∧n≤1099511627775∧(n:Int)≤most∧s.drop a=v8_ n++s.drop (zH_ s a 0 most).2.1:=by
 unfold zH_ at h ⊢
 rw[if_neg (by simp)] at h ⊢
 cases hg:z7_ most (s.drop a) 0 0 with
 |ok p=>
  obtain⟨m,k⟩:=p
  obtain⟨n,h1,h2,-,-⟩:=af3_ _ _ _ _ _ _ hg
  obtain rfl:m=n:=by rw[h2];simp
  refine⟨m,rfl,JK_ _ _ _ _ _ _ hg,ZK_ _ _ _ _ _ _ hg, ?_⟩
  rw[Nat.sub_zero,List.drop_drop] at h1
  exact h1
 |error x=>
  rw[hg] at h
  exfalso
  have:x=0:=by have: ((x:Nat):Int)=0:=h;omega
  subst this
  exact akU_ _ _ _ _ hg
theorem V1_ {s:List UInt8} {a:Nat} {n:Int} (ha:a≤s.length) (h: (jP_ s a 0 n).2.2=0):0≤n∧(jP_ s a 0 n).1.length=n.toNat∧s.drop a=(jP_ s a 0 n).1++s.drop (jP_ s a 0 n).2.1:=by
 unfold jP_ at h ⊢
 rw[if_neg (by simp)] at h ⊢
 split at h
 ·exact absurd (show(2:Int)=0 from h) (by decide)
 ·rename_i h1
  rw[if_neg h1]
  split at h
  ·exact absurd (show(3:Int)=0 from h) (by decide)
  ·rename_i h2
   rw[if_neg h2]
   refine⟨by omega, ?_, ?_⟩
   ·simp only[List.length_take,List.length_drop];omega
   ·simp only
    rw[←List.drop_drop,List.take_append_drop]
theorem KF_ {s:List UInt8} {a:Nat} {most:Int} (ha:a≤s.length) (h: (zU_ s a 0 most).2.2=0): ((zU_ s a 0 most).1.length:Int)≤most∧s.drop a=j2_ (zU_ s a 0 most).1++s.drop (zU_ s a 0 most).2.1:=by
 have hle:=x2_ (e:=0) (most:=most) ha
 have e1: (zH_ s a 0 most).2.2=0:=Decidable.byContradiction fun hn=>by
  unfold zU_ at h
  simp only[alU_ hn] at h
  rw[if_pos hn] at h
  exact hn h
 obtain⟨n,hn,hb,hm,hd⟩:=Jd_ e1
 unfold zU_ at h ⊢
 simp only at h ⊢
 generalize zH_ s a 0 most=p at*
 obtain⟨p1,p2,p3⟩:=p
 simp only at e1 hn hd hle h ⊢
 subst e1 hn
 have e2: (jP_ s p2 0 (n:Int)).2.2=0:=Decidable.byContradiction fun hh=>by rw[if_pos hh] at h;exact hh h
 rw[if_neg (by simp[e2])]
 obtain⟨-,hl,hr⟩:=V1_ hle.2 e2
 rw[Int.toNat_natCast] at hl
 refine⟨by rw[hl];exact hm, ?_⟩
 unfold j2_
 rw[hl,Zm_ hb,List.append_assoc,←hr]
 exact hd
theorem XR_ {s:List UInt8} {a:Nat} (ha:a≤s.length) (h: (idR s a 0).2.2=0):s.drop a=(wp_ (idR s a 0).1).l++s.drop (idR s a 0).2.1:=by
 have e2: (jP_ s a 0 32).2.2=0:=h
 obtain⟨-,hl,hr⟩:=V1_ ha e2
 rw[vQ_ (ZZ_ s a 0)]
 unfold idR
 simp only
 have hl': (jP_ s a 0 32).1.length=32:=hl
 rw[if_pos hl']
 exact hr
theorem ahK_ {s:List UInt8} {a:Nat} (ha:a≤s.length) (h: (Vb_ s a 0).2.2=0):s.drop a=entB (Vb_ s a 0).1++s.drop (Vb_ s a 0).2.1:=by
 have hq:=x2_ (e:=0) (most:=2) ha
 unfold Vb_ at h ⊢
 simp only at h ⊢
 have e1: (zH_ s a 0 2).2.2=0:=Decidable.byContradiction fun hn=>by
  rw[aki_ (by rw[aaF_ hn];exact hn),aaF_ hn] at h;exact hn h
 obtain⟨n,hn,hb,-,hd⟩:=Jd_ e1
 generalize zH_ s a 0 2=p at*
 obtain⟨p1,p2,p3⟩:=p
 simp only at e1 hn hd hq h ⊢
 subst e1 hn
 have ht:=kQ_ (e:=0) (most:=32) hq.2
 have e2: (zU_ s p2 0 32).2.2=0:=Decidable.byContradiction fun hn=>by rw[aki_ hn] at h;exact hn h
 obtain⟨-,hd2⟩:=KF_ hq.2 e2
 generalize zU_ s p2 0 32=q at*
 obtain⟨q1,q2,q3⟩:=q
 simp only at e2 hd2 ht h ⊢
 subst e2
 have hd3:=XR_ ht.2 h
 unfold entB
 simp only
 rw[Zm_ hb,List.append_assoc,List.append_assoc,←hd3,←hd2]
 exact hd
theorem ahX_ (l:List EntL) (x:EntL):k2_ (l++ [x])=k2_ l++entB x:=by unfold k2_;simp
theorem JC_ {s:List UInt8}: ∀ (n a:Nat) (e:Int) (l:List EntL),a≤s.length→(e=0→s=k2_ l++s.drop a)→((kP_ s n a e l).2.2=0→s=k2_ (kP_ s n a e l).1++s.drop (kP_ s n a e l).2.1)
 |0,_,_,_,_,h=>h
 |n+1,a,e,l,ha,h=>by
  by_cases hc:e=0∧a<s.length
  ·rw[XY_ hc]
   refine JC_ n _ _ _ (aff_ ha).2 fun h0=> ?_
   obtain⟨rfl,-⟩:=hc
   rw[ahX_,List.append_assoc,←ahK_ ha h0]
   exact h rfl
  ·rw[Q6_ hc]
   exact h
theorem XV_ {s:List UInt8} {a:Nat} {e:Int} (h:xw_ s a e=0):e=0∧s.length≤a:=by
 unfold xw_ at h
 split at h
 ·rename_i he;exact absurd h he
 ·rename_i he
  split at h
  ·exact absurd h (by decide)
  ·exact⟨Decidable.byContradiction he,by omega⟩
theorem aeQ_ {s:List UInt8} (h:xw_ s (jN_ s).2.1 (jN_ s).2.2=0):k2_ (jN_ s).1=s:=by
 obtain⟨h1,h2⟩:=XV_ h
 have:=JC_ (s:=s) (s.length+1) 0 0 [] (Nat.zero_le _) (fun _=>by simp[k2_]) h1
 rw[show kP_ s (s.length+1) 0 0 []=jN_ s from rfl,List.drop_eq_nil_of_le h2,List.append_nil] at this
 exact this.symm
theorem Kp_ {s:List UInt8}: ∀ (n a:Nat) (e:Int) (l:List EntL),a≤s.length→(e=0→s.length<a+n)→(kP_ s n a e l).2.2=0→s.length≤ (kP_ s n a e l).2.1
 |0,a,e,l,ha,hf,h=>by have:=hf h;show s.length≤a;omega
 |n+1,a,e,l,ha,hf,h=>by
  by_cases hc:e=0∧a<s.length
  ·rw[XY_ hc] at h ⊢
   refine Kp_ n _ _ _ (aff_ ha).2 (fun h0=> ?_) h
   obtain⟨rfl,-⟩:=hc
   have:=ajr_ ha h0
   have:=hf rfl
   omega
  ·rw[Q6_ hc] at h ⊢
   have h':e=0:=h
   exact Decidable.byContradiction fun hn=>hc ⟨h',by have hn': ¬s.length≤a:=hn;omega⟩
theorem ab3_ (s:List UInt8): (xw_ s (jN_ s).2.1 (jN_ s).2.2=0)↔(jN_ s).2.2=0:=by
 refine⟨fun h=>(XV_ h).1,fun h=> ?_⟩
 have:=Kp_ (s:=s) (s.length+1) 0 0 [] (Nat.zero_le _) (fun _=>by omega) h
 have h2:s.length≤ (jN_ s).2.1:=this
 unfold xw_
 rw[if_neg (by simp[h]),if_neg (by omega)]
theorem aj2_ (l:List IdL) (x:IdL):idsB (l++ [x])=idsB l++x.l:=by unfold idsB;simp
theorem X9_ {s:List UInt8} {a:Nat} (ha:a≤s.length): ∀n,(zL_ s a 0 n).2.2=0→s.drop a=idsB (zL_ s a 0 n).1++s.drop (zL_ s a 0 n).2.1
 |0,_=>by simp[zL_,idsB]
 |n+1,h=>by
  unfold zL_ at h ⊢
  simp only at h ⊢
  have e1: (zL_ s a 0 n).2.2=0:=Decidable.byContradiction fun hn=>by rw[aki_ hn] at h;exact hn h
  have ih:=X9_ ha n e1
  have hl:=QH_ (e:=0) ha n
  generalize zL_ s a 0 n=p at*
  obtain⟨p1,p2,p3⟩:=p
  simp only at e1 ih hl h ⊢
  subst e1
  rw[aj2_,List.append_assoc,←XR_ hl h]
  exact ih
theorem alP_ {s:List UInt8} {a:Nat} {e:Int} (he:e≠0): ∀n,(zL_ s a e n).2=(a,e)
 |0=>rfl
 |n+1=>by
  have ih:=alP_ (s:=s) (a:=a) he n
  unfold zL_
  simp only
  rw[ih,aki_ he]
theorem ah4_ {s:List UInt8} (h:xw_ s (v9_ s).2.1 (v9_ s).2.2=0):comB (v9_ s).1=s:=by
 obtain⟨h1,h2⟩:=XV_ h
 have ip:=Wq_ (s:=s) (a:=0) (e:=0) (Nat.zero_le _)
 have np:=x2_ (e:=(idR s 0 0).2.2) (most:=4) ip.2
 unfold v9_ at h1 h2 ⊢
 simp only at h1 h2 ⊢
 have e3: (wf_ s).2.2=0:=Decidable.byContradiction fun hn=>by unfold comT at h1;rw[aaF_ hn] at h1;exact hn h1
 have e2: (comN s).2.2=0:=Decidable.byContradiction fun hn=>by unfold wf_ at e3;rw[alP_ hn] at e3;exact hn e3
 have e1: (idR s 0 0).2.2=0:=Decidable.byContradiction fun hn=>by unfold comN at e2;rw[apl_ hn] at e2;exact hn e2
 have d1:=XR_ (Nat.zero_le _) e1
 rw[e1] at np
 have hcN:comN s=zH_ s (idR s 0 0).2.1 0 4:=by unfold comN;rw[e1]
 rw[hcN] at e2
 obtain⟨n,hn,hb,-,d2⟩:=Jd_ e2
 have hcP:wf_ s=zL_ s (comN s).2.1 0 n:=by unfold wf_;rw[hcN,e2,hn,Int.toNat_natCast]
 have hp: (comN s).2.1≤s.length:=by rw[hcN];exact np.2
 rw[hcP] at e3
 have d3:=X9_ hp n e3
 have hpl: (wf_ s).1.length=n:=by rw[hcP,Qj_]
 have hcT:comT s=zU_ s (wf_ s).2.1 0 64:=by unfold comT;rw[hcP,e3]
 have hle: (wf_ s).2.1≤s.length:=by rw[hcP];exact QH_ hp n
 rw[hcT] at h1
 obtain⟨-,d4⟩:=KF_ hle h1
 rw[←hcT] at d4
 rw[←hcP] at d3
 rw[←hcN] at d2
 unfold comB aeg_
 simp only
 rw[hpl,Zm_ hb]
 rw[List.drop_eq_nil_of_le h2,List.append_nil] at d4
 rw[List.append_assoc,List.append_assoc,←d4,←d3,←d2,←d1]
 rfl
theorem w5_ (k:Int) (t:List UInt8):xu_ k t=QB_ k t:=by
 unfold xu_ QB_
 by_cases h4:4096<t.length
 ·rw[if_neg (by omega),if_pos h4]
 ·rw[if_neg h4]
  by_cases h2:k=2
  ·subst h2
   rw[if_pos (by omega),if_neg (by decide),if_pos rfl,if_pos rfl]
   unfold adP_
   by_cases hz:xw_ t (jN_ t).2.1 (jN_ t).2.2=0
   ·have:=aeQ_ hz
    have h1:=(ab3_ t).1 hz
    rw[hz]
    cases ho:kt_ (jN_ t).1
    ·rw[if_neg (fun h=>by cases h.2.1)];rfl
    ·rw[if_pos ⟨h1,rfl,this⟩];rfl
   ·have h': ¬ (jN_ t).2.2=0:=fun h=>hz ((ab3_ t).2 h)
    simp[hz,h']
  ·by_cases h3:k=3
   ·subst h3
    rw[if_pos (by omega),if_neg (by decide),if_neg (by decide),if_neg (by decide),if_pos rfl]
    unfold aeP_
    by_cases hz:xw_ t (v9_ t).2.1 (v9_ t).2.2=0
    ·have:=ah4_ hz
     cases ho:wU_ (v9_ t).1<;>simp[hz,this]
    ·simp[hz]
   ·rw[if_neg h2,if_neg h3]
    by_cases h1:k=1
    ·subst h1
     rw[if_pos (by omega)];rfl
    ·rw[if_neg (by omega)]
     simp[h1,h2]
theorem adI_ (most:Int) (r:List UInt8): ∀ (n k acc:Nat),(0<k→0<n)→k+ (v8_ n).length≤6→acc+n*128^k≤1099511627775→((acc+n*128^k:Nat):Int)≤most→
  z7_ most (v8_ n++r) k acc= .ok (acc+n*128^k,k+ (v8_ n).length):=by
 intro n
 induction n using Nat.strongRecOn with
 |ind n ih=>
  intro k acc hk hl hs hm
  by_cases h:n<128
  ·rw[j4_ h,List.cons_append,List.nil_append,z7_]
   have hc: (UInt8.ofNat n).toNat=n:=by rw[UInt8.toNat_ofNat'];omega
   rw[hc,Nat.mod_eq_of_lt h,if_neg (by omega),if_neg (by omega),if_pos ⟨hs,hm⟩]
   rfl
  ·have hb:=vS_ h
   rw[hb] at hl ⊢
   rw[List.cons_append,z7_]
   have hc: (UInt8.ofNat (n%128+128)).toNat=n%128+128:=by rw[UInt8.toNat_ofNat'];omega
   have hp:=ale_ (n / 128)
   rw[List.length_cons] at hl
   have e:acc+ (n%128+128)%128*128^k+n / 128*128^ (k+1)=acc+n*128^k:=by
    have h1: (n%128+128)%128=n%128:=by omega
    rw[h1,Nat.pow_succ,Nat.add_assoc]
    congr 1
    have h2:n / 128* (128^k*128)=(n / 128*128)*128^k:=by rw[Nat.mul_comm (128^k),Nat.mul_assoc]
    rw[h2,←Nat.add_mul]
    congr 1
    omega
   rw[hc,if_pos (by omega),if_neg (by omega),ih (n / 128) (by omega) (k+1) _ (fun _=>by omega) (by omega) (by rw[e];exact hs) (by rw[e];exact hm),e,List.length_cons]
   congr 2
   omega
theorem alv_ (A r:List UInt8) (n:Nat) (most:Int) (hn:n≤1099511627775) (hm: (n:Int)≤most):zH_ (A++ (v8_ n++r)) A.length 0 most=((n:Int),A.length+ (v8_ n).length,0):=by
 have hl:=ky_ 6 n (by omega) (by omega)
 have h:=adI_ most r n 0 0 (fun h=>absurd h (Nat.lt_irrefl 0)) (by omega) (by simpa using hn) (by simpa using hm)
 simp only[Nat.pow_zero,Nat.mul_one,Nat.zero_add] at h
 exact KM_ rfl (by rw[List.drop_left];exact h)
theorem ak0_ (A x r:List UInt8):jP_ (A++ (x++r)) A.length 0 (x.length:Int)=(x,A.length+x.length,0):=by
 unfold jP_
 rw[if_neg (by simp),if_neg (by omega),if_neg (by simp only[List.length_append];omega),List.drop_left,Int.toNat_natCast,List.take_left]
theorem aiv_ (A t r:List UInt8) (most:Int) (hn:t.length≤1099511627775) (hm: (t.length:Int)≤most):zU_ (A++ (j2_ t++r)) A.length 0 most=(t,A.length+ (j2_ t).length,0):=by
 have h1:=alv_ A (t++r) t.length most hn hm
 have h2:=ak0_ (A++v8_ t.length) t r
 unfold zU_ j2_
 rw[Zm_ (by omega)]
 rw[List.append_assoc,h1]
 simp only
 rw[List.append_assoc,List.length_append] at h2
 rw[h2]
 simp only[ne_eq,not_true_eq_false, ↓reduceIte,List.length_append,Nat.add_assoc]
def asP_ (l:List EntL):Prop:= ∀x,x∈l→0≤x.kind∧x.kind≤2∧x.name.length≤32
end Go.Proofs
end
section
open Go Go.Proofs Go.Sx Go.StP
namespace Go.Proofs
set_option maxRecDepth 10000
set_option maxHeartbeats 400000
set_option linter.unusedSimpArgs false
theorem afe_ (s:List UInt8) (c:UInt8) (w:World): (callFunc 231 #[vs s,v8 c]).run Tryz.prog w= .ok (.value (vi (Lib.indexByte s c))) w:=by
 rw[run_callFunc_extern Tryz.func231 (by kernel_rfl) (by kernel_rfl) (by kernel_rfl) (e:=Extern.BytealgIndexByte.indexByte) (by kernel_rfl)]
 have h:=Lib.run_indexByteString (P:=Tryz.prog) ⟨s.toArray⟩ (c.toNat:Int) w
 have e: ((c.toNat:Int)).toNat.toUInt8=c:=by simp
 rw[e] at h
 show((Extern.BytealgIndexByte.indexByte #[.string ⟨s.toArray⟩, .int .u8 (c.toNat:Int)]).run Tryz.prog w).andThen _=_
 rw[h];rfl
theorem VB_ (s:List UInt8) (c:UInt8) (w:World):Rets Tryz.prog 207 #[vs s,v8 c] w (fun v D=>v=vi (Lib.indexByte s c)∧D= []):=by
 refine Rets.enterV Tryz.func207 rfl (rs:= [.tmp 4]) Tryz.results207 Tryz.ntmps207 ?_
 refine kf ?_
 first|with_reducible refine ks [] @Nat.add_zero ?_|refine kp @Nat.add_zero ?_
 refine Ow.callExt rfl rfl (fun w=>afe_ s c w) ?_
 refine ko @Nat.add_zero ?_
 first|with_reducible refine ks [] @Nat.add_zero ?_|refine kp @Nat.add_zero ?_
 refine⟨_,(ke @Nat.add_zero),trivial, ?_⟩
 rfl
def idxT (s:List UInt8):List UInt8→Int
 | []=>0
 |c::_=>Lib.indexByte s c
theorem Kl_ (s x:List UInt8) (w:World) (hx:x.length≤1) (hs:2≤s.length) (_hsl:s.length<1099511627776):Rets Tryz.prog 175 #[vs s,vs x] w (fun v D=>v=vi (idxT s x)∧D= []):=by
 refine Rets.enterV Tryz.func175 rfl (rs:= [.tmp 4]) Tryz.results175 Tryz.ntmps175 ?_
 refine kf ?_
 match x,hx with
 | [],_=>
  have d1: (((([]:List UInt8).length:Nat):Int)==0)=true:=rfl
  first|with_reducible refine ks [] @d1 ?_|refine kp @d1 ?_
  refine⟨_,(ke @Nat.add_zero),trivial, ?_⟩
  rfl
 | [c],_=>
  have d1: ((([c]:List UInt8).length:Int)==0)=false:=rfl
  have d2: ([c]==s)=false:=beq_eq_false_iff_ne.2 fun e=>by rw[←e] at hs;simp at hs
  have d3: ((([c]:List UInt8).length:Int)==1)=true:=rfl
  have i0: ([c]:List UInt8).getD 0 0=c:=rfl
  first|with_reducible refine ks [] (And.intro @d1 (And.intro @d2 (And.intro @d3 (@i0)))) ?_|refine kp (And.intro @d1 (And.intro @d2 (And.intro @d3 (@i0)))) ?_
  refine Ow.callFV rfl Tryz.call207 (fun w' hw'=>VB_ s c w') ?_
  refine ko @Nat.add_zero ?_
  first|with_reducible refine ks [] @Nat.add_zero ?_|refine kp @Nat.add_zero ?_
  refine⟨_,(ke @Nat.add_zero),trivial, ?_⟩
  rfl
theorem aiE_ (s x:List UInt8) (w:World) (hx:x.length≤1) (hs:2≤s.length) (hsl:s.length<1099511627776):Rets Tryz.prog 139 #[vs s,vs x] w (fun v D=>v=vi (idxT s x)∧D= []):=by
 refine Rets.enterV Tryz.func139 rfl (rs:= [.tmp 4]) Tryz.results139 Tryz.ntmps139 ?_
 refine kf ?_
 first|with_reducible refine ks [] @Nat.add_zero ?_|refine kp @Nat.add_zero ?_
 refine Ow.callFV rfl Tryz.call175 (fun w' hw'=>Kl_ s x w' hx hs hsl) ?_
 refine ko @Nat.add_zero ?_
 first|with_reducible refine ks [] @Nat.add_zero ?_|refine kp @Nat.add_zero ?_
 refine⟨_,(ke @Nat.add_zero),trivial, ?_⟩
 rfl
abbrev letL:List UInt8:= [32,98,116,99]
def frR (s:List UInt8):List UInt8×Nat×Int:=jP_ s 0 0 1
def frT (s:List UInt8):List UInt8×Nat×Int:=zU_ s (frR s).2.1 (frR s).2.2 4096
def frK (s:List UInt8):Int:=idxT letL (frR s).1
def Xc_ (s:List UInt8):Bool:=xw_ s (frT s).2.1 (frT s).2.2==0&&xu_ (frK s) (frT s).1
theorem arz_ (s:List UInt8): (frR s).1.length≤1:=by
 unfold frR jP_
 rw[if_neg (by simp),if_neg (by decide)]
 split
 ·simp
 ·simp only[List.length_take,Int.toNat_one];omega
def apr_ (s:List UInt8) (v:Value):Prop:=v= .tuple #[obV (if Xc_ s then frK s else 0) (if Xc_ s then(frT s).1 else []),vi (if Xc_ s then 0 else 2)]
set_option linter.defProp false
def xL_:=And.intro (And.intro (And.intro (@qb_) (@zP_)) (And.intro (@zO_) (@zS_))) (And.intro (And.intro (@Sx.tup2_0) (@Sx.tup2_1)) (And.intro (@zc_) (@zb_)))
theorem ahH_ (s:List UInt8) (w:World) (hs:s.length<1099511627776):Rets Tryz.prog 103 #[vs s] w (fun v D=>apr_ s v∧D= []):=by
 refine Rets.enterV Tryz.func103 rfl (rs:= [.cell 2 82, .tmp 3]) Tryz.results103 Tryz.ntmps103 ?_
 refine kf ?_
 first|with_reducible refine ks [] @xL_ ?_|refine kp @xL_ ?_
 refine Ow.alloc rfl rfl zrOb fun b2 hb2 hw2=> ?_
 simp only[zd_,List.nil_append,List.cons_append]
 refine ko @xL_ ?_
 refine Ow.callF rfl rfl Tryz.call138 (S:=fun B v D=> ∃b',B≤b'∧v=vp b' 0∧D= [(b', .cells #[vs s,vi 0,vi 0] 250 (0,0))]) (fun w' hw'=>abw_ s w') ?_
 rintro B v D hab hB ⟨bw,hbw,rfl,rfl⟩
 obtain⟨h2B,-⟩:=hab
 refine⟨_,Mrg.fresh (by intro q hq;simp only[keys,List.map_cons,List.map_nil,List.mem_singleton] at hq;omega), ?_⟩
 simp only[List.cons_append,List.nil_append]
 refine Ow.permL (M:= [(bw, .cells #[vs s,vi 0,vi 0] 250 (0,0)),(b2,Obj.cells #[vi 0,vs []] 82 (0,0))]) (by classical exact List.perm_iff_count.2 fun a=>by simp only[List.count_append,List.count_cons,List.count_nil]<;>omega) ?_
 have hne:bw≠b2:=by omega
 refine ko @xL_ ?_
 first|with_reducible refine ks [] @xL_ ?_|refine kp @xL_ ?_
 refine Ow.callM rfl rfl Tryz.call140 (by simp[keys]) (fun w' hw'=>KI_ bw s 0 0 1 w' (Nat.zero_le _) (by omega) (hw'.has _ _ List.mem_cons_self)) ?_
 have r1:=W2_ (s:=s) (a:=0) (e:=0) (n:=1) (Nat.zero_le _)
 have r2:=arz_ s
 have hT:frT s=zU_ s (frR s).2.1 (frR s).2.2 4096:=rfl
 have hK:frK s=idxT letL (frR s).1:=rfl
 have hO:Xc_ s=(xw_ s (frT s).2.1 (frT s).2.2==0&&xu_ (frK s) (frT s).1):=rfl
 unfold apr_
 rw[show jP_ s 0 0 1=frR s from rfl] at r1 ⊢
 generalize frR s=p at*
 obtain⟨x,a1,e1⟩:=p
 simp only at r1 r2 hT hK ⊢
 refine kn ?_
 refine ko @xL_ ?_
 refine Ow.callFV rfl Tryz.call139 (fun w' hw'=>aiE_ letL x w' r2 (by decide) (by decide)) ?_
 rw[←hK]
 refine ko @xL_ ?_
 refine Ow.callM rfl rfl Tryz.call141 (by simp[keys]) (fun w' hw'=>Q1_ bw s a1 e1 4096 w' r1.2 (by omega) (hw'.has _ _ List.mem_cons_self)) ?_
 rw[←hT]
 generalize frT s=q at*
 obtain⟨tt,a2,e2⟩:=q
 simp only at hO ⊢
 refine kn ?_
 refine ko @xL_ ?_
 refine Ow.build (obV (frK s) tt) rfl (acw_ _ tt) ?_
 refine ko @xL_ ?_
 refine Ow.alloc rfl rfl zrOb fun b5 hb5 hw5=> ?_
 simp only[zd_,List.nil_append,List.cons_append]
 have h5w:bw<b5:=zk_ hb5 (by simp[keys])
 have h52:b2<b5:=zk_ hb5 (by simp[keys])
 refine ko @xL_ ?_
 refine Ow.callFV rfl Tryz.call142 (fun w' hw'=>Zp_ bw s a2 e2 w' (hw'.has _ _ List.mem_cons_self)) ?_
 by_cases he:xw_ s a2 e2=0
 ·have d1: (xw_ s a2 e2 !=0)=false:=by simp[he]
  have d1': (xw_ s a2 e2==0)=true:=by simp[he]
  rw[d1',Bool.true_and] at hO
  refine ko (And.intro @xL_ @d1) ?_
  refine Ow.callFV rfl Tryz.call132 (fun w' hw'=>Kz_ (frK s) tt w') ?_
  rw[hO]
  cases hr:xu_ (frK s) tt
  ·refine ko @xL_ ?_
   refine Ow.build (obV 0 []) rfl kH_ ?_
   refine ko @xL_ ?_
   first|with_reducible refine ks [] @xL_ ?_|refine kp @xL_ ?_
   refine⟨_,(ke @xL_),⟨by omega,hw2,hw5,trivial⟩, ?_⟩
   rfl
  ·refine ko @xL_ ?_
   first|with_reducible refine ks [] @xL_ ?_|refine kp @xL_ ?_
   refine⟨_,(ke @xL_),⟨by omega,hw2,hw5,trivial⟩, ?_⟩
   rfl
 ·have d1: (xw_ s a2 e2 !=0)=true:=by simpa using he
  have d1': (xw_ s a2 e2==0)=false:=by simpa using he
  rw[d1',Bool.false_and] at hO
  rw[hO]
  refine ko (And.intro @xL_ @d1) ?_
  refine Ow.build (obV 0 []) rfl kH_ ?_
  refine ko @xL_ ?_
  first|with_reducible refine ks [] @xL_ ?_|refine kp @xL_ ?_
  refine⟨_,(ke @xL_),⟨by omega,hw2,hw5,trivial⟩, ?_⟩
  rfl
end Go.Proofs
end
section
open Go Go.Proofs Go.Sx Go.StP
namespace Go.Proofs
set_option maxRecDepth 10000
set_option maxHeartbeats 400000
set_option linter.unusedSimpArgs false
def fkC (c:UInt8):Int:=if c=98 then 1 else if c=116 then 2 else if c=99 then 3 else 0
def lfT (r:List UInt8):List UInt8×Nat×Int:=zU_ r 0 0 4096
def lfK (s:List UInt8):Int:=match s with| []=>0|c::_=>fkC c
def lfOk (s:List UInt8):Bool:=lfK s !=0&&xw_ (s.drop 1) (lfT (s.drop 1)).2.1 (lfT (s.drop 1)).2.2==0&&QB_ (lfK s) (lfT (s.drop 1)).1
def apk_ (s:List UInt8) (v:Value):Prop:=v= .tuple #[obV (if lfOk s then lfK s else 0) (if lfOk s then(lfT (s.drop 1)).1 else []), .bool (lfOk s)]
theorem ac3_ (k k':Int) (t:List UInt8) (a:Bool) (E:TypeId):zn_ (some (a,1)) (some (.cells #[vi k',vs t] E (0,0))) 0 (vi k)=some (.cells #[vi k,vs t] E (0,0)):=(rfl)
theorem acY_ (k:Int) (t t':List UInt8) (a:Bool) (E:TypeId):zn_ (some (a,1)) (some (.cells #[vi k,vs t'] E (0,0))) 1 (vs t)=some (.cells #[vi k,vs t] E (0,0)):=(rfl)
set_option linter.defProp false
def qC_:=And.intro (And.intro (And.intro (@qb_) (@zP_)) (And.intro (@zO_) (And.intro (@zS_) (@ac3_)))) (And.intro (And.intro (@acY_) (@Sx.tup2_0)) (And.intro (@Sx.tup2_1) (And.intro (@zc_) (@zb_))))
theorem aiw_ (s:List UInt8) (w:World) (hs:s.length<1099511627776):Rets Tryz.prog 106 #[vs s] w (fun v D=>apk_ s v∧D= []):=by
 refine Rets.enterV Tryz.func106 rfl (rs:= [.cell 2 82, .tmp 3]) Tryz.results106 Tryz.ntmps106 ?_
 refine kf ?_
 first|with_reducible refine ks [1000004] @qC_ ?_|refine kp @qC_ ?_
 refine Ow.alloc rfl rfl zrOb fun b2 hb2 hw2=> ?_
 simp only[zd_,List.nil_append,List.cons_append]
 refine ko @qC_ ?_
 by_cases hl:s.length=0
 ·obtain rfl:s= []:=List.eq_nil_of_length_eq_zero hl
  have d1: (((([]:List UInt8).length:Nat):Int)==0)=true:=rfl
  first|with_reducible refine ks [] (And.intro @qC_ @d1) ?_|refine kp (And.intro @qC_ @d1) ?_
  refine Ow.build (obV 0 []) rfl kH_ ?_
  refine ko @qC_ ?_
  first|with_reducible refine ks [] @qC_ ?_|refine kp @qC_ ?_
  refine⟨_,(ke @qC_),⟨hw2,trivial⟩, ?_⟩
  rfl
 ·have d1: ((s.length:Int)==0)=false:=beq_eq_false_iff_ne.2 (by omega)
  obtain⟨c,r,rfl⟩: ∃c r,s=c::r:=by cases s with|nil=>exact absurd rfl hl|cons c r=>exact⟨c,r,rfl⟩
  have hd1: (c::r).drop 1=r:=rfl
  have g0: (c::r).getD 0 0=c:=rfl
  have hlen: (c::r).length=r.length+1:=rfl
  have hrl:r.length<1099511627775:=by omega
  first|with_reducible refine ks [] (And.intro @qC_ @d1) ?_|refine kp (And.intro @qC_ @d1) ?_
  refine Ow.build (obV 0 []) rfl kH_ ?_
  refine ko @qC_ ?_
  refine Ow.alloc rfl rfl zrOb fun b4 hb4 hw4=> ?_
  simp only[zd_,List.nil_append,List.cons_append]
  have h24:b2<b4:=zk_ hb4 (by simp[keys])
  have ht:=kQ_ (s:=r) (a:=0) (e:=0) (most:=4096) (Nat.zero_le _)
  have hLT:lfT r=zU_ r 0 0 4096:=rfl
  have hO:lfOk (c::r)=(fkC c !=0&&xw_ r (lfT r).2.1 (lfT r).2.2==0&&QB_ (fkC c) (lfT r).1):=rfl
  have hK:lfK (c::r)=fkC c:=rfl
  unfold apk_
  rw[hK,hd1]
  have htx: (zU_ r 0 0 4096).1.length≤r.length:=Qf_ _ _ _ _
  have hf0:fkC c=0∨fkC c=1∨fkC c=2∨fkC c=3:=by
   unfold fkC;split<;>(try split)<;>(try split)<;>simp
  refine ko @qC_ ?_
  first|with_reducible refine ks [1000004] (And.intro @qC_ @g0) ?_|refine kp (And.intro @qC_ @g0) ?_
  refine Cw.cut (G:=Int) 40 (fun g=> [(0,vs (c::r)),(2,vp b2 0),(3, .bool false),(4,vp b4 0)]) (fun g=> [(b2,Obj.cells #[vi 0,vs []] 82 (0,0)),(b4,Obj.cells #[vi g,vs []] 82 (0,0))]) (fun g=>g=fkC c∧g≠0) ?_ ?_
  ·by_cases c1:c=98
   ·subst c1
    first|with_reducible refine ks [] (And.intro @qC_ @g0) ?_|refine kp (And.intro @qC_ @g0) ?_
    exact CutM.mk 1 ⟨rfl,by decide⟩ rfl rfl
   ·have e1: (c==98)=false:=by simpa using c1
    by_cases c2:c=116
    ·subst c2
     first|with_reducible refine ks [] (And.intro @qC_ (And.intro @e1 (@g0))) ?_|refine kp (And.intro @qC_ (And.intro @e1 (@g0))) ?_
     exact CutM.mk 2 ⟨rfl,by decide⟩ rfl rfl
    ·have e2: (c==116)=false:=by simpa using c2
     by_cases c3:c=99
     ·subst c3
      first|with_reducible refine ks [] (And.intro @qC_ (And.intro @e1 (And.intro @e2 (@g0)))) ?_|refine kp (And.intro @qC_ (And.intro @e1 (And.intro @e2 (@g0)))) ?_
      exact CutM.mk 3 ⟨rfl,by decide⟩ rfl rfl
     ·have e3: (c==99)=false:=by simpa using c3
      have hk:fkC c=0:=by unfold fkC;rw[if_neg c1,if_neg c2,if_neg c3]
      rw[hk] at hO ⊢
      rw[hO]
      first|with_reducible refine ks [] (And.intro @qC_ (And.intro @e1 (And.intro @e2 (And.intro @e3 (@g0))))) ?_|refine kp (And.intro @qC_ (And.intro @e1 (And.intro @e2 (And.intro @e3 (@g0))))) ?_
      refine Ow.build (obV 0 []) rfl kH_ ?_
      refine ko @qC_ ?_
      first|with_reducible refine ks [] @qC_ ?_|refine kp @qC_ ?_
      refine⟨_,(ke @qC_),⟨hw2,hw4,trivial⟩, ?_⟩
      rfl
  ·intro g j hg
   simp only[asH_,ast_,pin,JR_,JU_,Nat.reduceAdd]
   obtain⟨rfl,hk0⟩:=hg
   have d0: (fkC c !=0)=true:=by simpa using hk0
   rw[d0,Bool.true_and] at hO
   generalize fkC c=k at hO ⊢
   first|with_reducible refine ks [] (And.intro @qC_ @hd1) ?_|refine kp (And.intro @qC_ @hd1) ?_
   refine Ow.build (.agg #[vs r,vi 0,vi 0]) rfl (ajT_ r) ?_
   refine ko @qC_ ?_
   refine Ow.box rfl rfl fun br hbr hwr=> ?_
   have h2r:b2<br:=zk_ hbr (by simp[keys])
   have h4r:b4<br:=zk_ hbr (by simp[keys])
   simp only[z4_,z1_,z3_,zd_,List.nil_append,List.cons_append]
   refine ko @qC_ ?_
   refine Ow.callM rfl rfl Tryz.call144 (by simp[keys]) (fun w' hw'=>wQ_ br r 0 0 4096 w' (Nat.zero_le _) (by omega) (hw'.has _ _ (by simp))) ?_
   rw[←hLT] at ht htx ⊢
   generalize lfT r=q at*
   obtain⟨tt,a2,e2⟩:=q
   simp only at hO ht htx ⊢
   refine kn ?_
   refine ko @qC_ ?_
   refine Ow.callFV rfl Tryz.call145 (fun w' hw'=>JV_ br r a2 e2 w' (hw'.has _ _ (by simp))) ?_
   by_cases he:xw_ r a2 e2=0
   ·have d5: (xw_ r a2 e2 !=0)=false:=by simp[he]
    have d6: (xw_ r a2 e2==0)=true:=by simp[he]
    rw[d6,Bool.true_and] at hO
    rw[hO]
    refine ko (And.intro @qC_ @d5) ?_
    refine Ow.callFV rfl Tryz.call54 (fun w' hw'=>XO_ k tt w') ?_
    cases hr:QB_ k tt
    ·refine ko @qC_ ?_
     refine Ow.build (obV 0 []) rfl kH_ ?_
     refine ko @qC_ ?_
     first|with_reducible refine ks [] @qC_ ?_|refine kp @qC_ ?_
     refine⟨_,(ke @qC_),⟨hw2,hw4,hwr,trivial⟩, ?_⟩
     rfl
    ·refine ko @qC_ ?_
     first|with_reducible refine ks [] @qC_ ?_|refine kp @qC_ ?_
     refine⟨_,(ke @qC_),⟨hw2,hw4,hwr,trivial⟩, ?_⟩
     rfl
   ·have d5: (xw_ r a2 e2 !=0)=true:=by simpa using he
    have d6: (xw_ r a2 e2==0)=false:=by simpa using he
    rw[d6,Bool.false_and] at hO
    rw[hO]
    refine ko (And.intro @qC_ @d5) ?_
    refine Ow.build (obV 0 []) rfl kH_ ?_
    refine ko @qC_ ?_
    first|with_reducible refine ks [] @qC_ ?_|refine kp @qC_ ?_
    refine⟨_,(ke @qC_),⟨hw2,hw4,hwr,trivial⟩, ?_⟩
    rfl
end Go.Proofs
end
namespace Go.Flo
open Go Ieee
abbrev F (n:Int):Nat:=FloatKind.f64.nearest n
def dat (n:Int):Datum:= .number (decide (n<0)) (n.natAbs*2^ (52 - n.natAbs.log2)) ((n.natAbs.log2:Int) - 52)
def plc (n:Int):Int:=if n=0 then -1074 else(n.natAbs.log2:Int) - 52
def mag (n:Int):Nat:=if n=0 then 0 else n.natAbs*2^ (52 - n.natAbs.log2)
end Go.Flo
namespace Go.Sx
open Go Go.Flo
def fl (n:Int):Value:= .float .f64 (F n)
def cx (a b:Int):Value:= .complex .f64 (F a) (F b)
section
variable {P:Program} {w0:World} {f:Fr} {L:za_} {N:Fr→za_→Prop} {ops:Array Oper} {rest:List Oper} {md:Md}
 {d:Option Tmp} {ty:TypeId} {ps:String} {af:Array Edge} {g:Option (Nat×Bool)}
theorem Ow.real {x:Operand} {ts:Array TypeId} {a b:Int} (hs:zq_ ops f ⟨d, .call ⟨.builtin .real, #[x],ts⟩,ty,ps,af,g⟩=false) (hx:ev f x=cx a b)
  (hn:Ow P w0 ops md.next rest (qG_ f d (fl a)) L N):Ow P w0 ops md (⟨d, .call ⟨.builtin .real, #[x],ts⟩,ty,ps,af,g⟩::rest) f L N:=by
 refine Ow.calm rfl rfl hs (fun w hw=> .inl ⟨fl a,w,L, ?_,hw,rfl,rfl⟩) hn
 simp only[execOp,resolve,Sem.run_bind,Sem.run_pure,Result.andThen_ok,invoke,builtin,List.map_toArray,List.map_cons,List.map_nil,hx]
 rfl
theorem Ow.imag {x:Operand} {ts:Array TypeId} {a b:Int} (hs:zq_ ops f ⟨d, .call ⟨.builtin .imag, #[x],ts⟩,ty,ps,af,g⟩=false) (hx:ev f x=cx a b)
  (hn:Ow P w0 ops md.next rest (qG_ f d (fl b)) L N):Ow P w0 ops md (⟨d, .call ⟨.builtin .imag, #[x],ts⟩,ty,ps,af,g⟩::rest) f L N:=by
 refine Ow.calm rfl rfl hs (fun w hw=> .inl ⟨fl b,w,L, ?_,hw,rfl,rfl⟩) hn
 simp only[execOp,resolve,Sem.run_bind,Sem.run_pure,Result.andThen_ok,invoke,builtin,List.map_toArray,List.map_cons,List.map_nil,hx]
 rfl
end
end Go.Sx
namespace Go.Sx
open Go Go.Flo
theorem adg_ (P:Program) (t:TypeId) (a b:Int):qy_ P .eql t (fl a) (fl b)=none:=by
 show(qn_ (P.underlying t) (fl a) (fl b)).map _=none
 unfold qn_ fl
 split<;>simp_all
theorem K3_ (P:Program) (t:TypeId) (a b a' b':Int):qy_ P .eql t (cx a b) (cx a' b')=none:=by
 show(qn_ (P.underlying t) (cx a b) (cx a' b')).map _=none
 unfold qn_ cx
 split<;>simp_all
section
variable {P:Program} {w0:World} {st:Bool} {f:Fr} {L:za_} {md:Md} {d:Option Tmp} {ty:TypeId} {ps:String} {af:Array Edge} {g:Option (Nat×Bool)} {go:Fr→za_→Prop} {stop:Prop}
theorem aaP_ (a:Array Operand) (t:Array TypeId):vcB P w0 st md ⟨d, .call ⟨.builtin .real,a,t⟩,ty,ps,af,g⟩ f L go stop=stop:=(rfl)
theorem aaa_ (a:Array Operand) (t:Array TypeId):vcB P w0 st md ⟨d, .call ⟨.builtin .imag,a,t⟩,ty,ps,af,g⟩ f L go stop=stop:=(rfl)
theorem kw_ (a:Array Operand) (t:Array TypeId):vcB P w0 st md ⟨d, .call ⟨.builtin .complex,a,t⟩,ty,ps,af,g⟩ f L go stop=stop:=(rfl)
end
end Go.Sx
section
open Go Go.Proofs Go.Sx Go.StP Go.Flo
namespace Go.Proofs
set_option maxRecDepth 10000
set_option maxHeartbeats 400000
set_option linter.unusedSimpArgs false
structure PcL where
 a:Nat
 n:Nat
 x:List UInt8
def pc0:PcL:=⟨0,0,[]⟩
def pcC (p:PcL):List Value:= [cx p.a p.n,vs p.x]
def PcB (p:PcL):Prop:=p.a≤4099∧p.n≤4099
def cpV (p:PcL) (b:Int):Option (Nat×Nat):=if 1≤p.n∧p.n≤4099∧p.x= []∧(p.a:Int)≤b - p.n then some (p.a,p.n) else none
def arU_ (p:PcL) (b:Int):Nat:=if p.a=0∧p.n=0∧p.x.length≤4099 then p.x.length else match cpV p b with|some q=>q.2|none=>0
def sumP (b:Int) (l:List PcL):Nat:=(l.map fun p=>arU_ p b).sum
def anyZ (b:Int) (l:List PcL):Bool:=l.any fun p=>arU_ p b==0
def chkV (b:Int) (l:List PcL):Int×Int:=if b<0∨4099<b then(0,1) else if anyZ b l=true then(0,1) else if 4099<sumP b l then(0,19) else((sumP b l:Nat),0)
def pcT (base:List UInt8) (p:PcL):List UInt8:=match cpV p base.length with|some q=>(base.drop q.1).take q.2++p.x|none=>p.x
def txtP (base:List UInt8) (l:List PcL):List UInt8:=(l.map (pcT base)).flatten
def pcR (d:List UInt8) (a:Nat):PcL×Nat×Int:=
 if(zH_ d a 0 8199).1%2=1 then
  (⟨(zH_ d (zH_ d a 0 8199).2.1 (zH_ d a 0 8199).2.2 4099).1.toNat,((zH_ d a 0 8199).1 / 2).toNat,[]⟩,(zH_ d (zH_ d a 0 8199).2.1 (zH_ d a 0 8199).2.2 4099).2)
 else(⟨0,0,(jP_ d (zH_ d a 0 8199).2.1 (zH_ d a 0 8199).2.2 ((zH_ d a 0 8199).1 / 2)).1⟩,(jP_ d (zH_ d a 0 8199).2.1 (zH_ d a 0 8199).2.2 ((zH_ d a 0 8199).1 / 2)).2)
def pcsF (d:List UInt8):Nat→Nat→List PcL×Nat×Int
 |0,a=>([],a,0)
 |k+1,a=>if a<d.length then(if(pcR d a).2.2=0 then((pcR d a).1:: (pcsF d k (pcR d a).2.1).1,(pcsF d k (pcR d a).2.1).2) else([(pcR d a).1],(pcR d a).2)) else([],a,0)
def pcs (d:List UInt8) (a:Nat):List PcL×Nat×Int:=pcsF d (d.length - a) a
def abN_ (d:List UInt8):Option (Nat×List PcL):=
 if(zH_ d (zH_ d 0 0 4099).2.1 (zH_ d 0 0 4099).2.2 4099).2.2≠0 then none
 else if(pcs d (zH_ d (zH_ d 0 0 4099).2.1 (zH_ d 0 0 4099).2.2 4099).2.1).2.2≠0 then none
 else if chkV (zH_ d 0 0 4099).1 (pcs d (zH_ d (zH_ d 0 0 4099).2.1 (zH_ d 0 0 4099).2.2 4099).2.1).1=((zH_ d (zH_ d 0 0 4099).2.1 (zH_ d 0 0 4099).2.2 4099).1,0) then some ((zH_ d 0 0 4099).1.toNat,(pcs d (zH_ d (zH_ d 0 0 4099).2.1 (zH_ d 0 0 4099).2.2 4099).2.1).1)
 else none
def asD_ (base d:List UInt8):List UInt8×Int:=
 match abN_ d with
 |none=>([],2)
 |some p=>if p.1≠base.length then([],19) else(txtP base p.2,0)
end Go.Proofs
end
section
open Go Go.Proofs Go.Sx Go.StP Go.Flo
namespace Go.Proofs
set_option maxRecDepth 10000
set_option maxHeartbeats 400000
set_option linter.unusedSimpArgs false
set_option linter.defProp false
def awu_:=And.intro (@zc_) (And.intro (@zb_) (@adg_))
theorem xJ_ (p:PcL) (E:TypeId) (n:Nat):zo_ (some (false,n)) (some (.cells (pcC p).toArray E (0,0))) 0=some (cx p.a p.n):=(rfl)
theorem xF_ (p:PcL) (E:TypeId) (n:Nat):zo_ (some (false,n)) (some (.cells (pcC p).toArray E (0,0))) 1=some (vs p.x):=(rfl)
theorem k3_ (p:PcL) (E:TypeId):zo_ (some (true,2)) (some (.cells (pcC p).toArray E (0,0))) 0=some (.agg (pcC p).toArray):=jG_ _ E (0,0) 2 rfl
theorem xI_ (p:PcL):Value.cells (.agg (pcC p).toArray)=(pcC p).toArray:=zd_ _
def cpO (p:PcL) (b:Int):Value:=match cpV p b with
 |some q=> .tuple #[vi q.1,vi q.2, .bool true]
 |none=> .tuple #[vi 0,vi 0, .bool false]
theorem cxz: (Value.complex FloatKind.f64 0 0)=cx 0 0:=id (by kernel_rfl)
set_option linter.defProp false
def aw7_:=And.intro (And.intro (And.intro (And.intro (@zc_) (@zb_)) (And.intro (@xJ_) (@xF_))) (And.intro (And.intro (@k3_) (@xI_)) (And.intro (@K3_) (@cxz)))) (And.intro (And.intro (And.intro (@aaP_) (@aaa_)) (And.intro (@kw_) (@Sx.tup2_0))) (And.intro (And.intro (@Sx.tup2_1) (@Sx.tup3_0)) (And.intro (@Sx.tup3_1) (@Sx.tup3_2))))
abbrev PcSl (w:World) (v:Value) (l:List PcL):Prop:=SlV 2 pcC pc0 w v l
def BndP (l:List PcL):Prop:= ∀g,g<l.length→PcB (l.getD g pc0)∧(l.getD g pc0).x.length<9223372036854775808
end Go.Proofs
end
section
open Go Go.Proofs Go.Sx Go.StP Go.Flo
namespace Go.Proofs
set_option maxRecDepth 10000
set_option maxHeartbeats 400000
set_option linter.unusedSimpArgs false
def pcAt (p:PcL) (b:Int):Nat×Nat:=match cpV p b with|some q=>q|none=>(0,0)
structure TxG where
 g:Nat
 D:za_
 E:za_
set_option linter.defProp false
def awQ_:=And.intro (And.intro (And.intro (@zc_) (@zb_)) (And.intro (@xJ_) (And.intro (@xF_) (@k3_)))) (And.intro (And.intro (@xI_) (And.intro (@Sx.tup2_0) (@Sx.tup2_1))) (And.intro (@Sx.tup3_0) (And.intro (@Sx.tup3_1) (@Sx.tup3_2))))
end Go.Proofs
end
namespace Go.Sx
open Go
section
variable {α:Type} {m:Nat} {enc:α→List Value} {z:α}
end
section
variable {P:Program} {w0:World} {f:Fr} {L:za_} {N:Fr→za_→Prop} {ops:Array Oper} {rest:List Oper} {md:Md} {d:Option Tmp} {ty:TypeId} {ps:String} {af:Array Edge} {g:Option (Nat×Bool)}
theorem Ow.makeSlice {t e:TypeId} {m:Bool×Nat} {z:Value} {x y:Operand} {n c:Nat} {md':Md} (he:md.turn=some md') (hs:zq_ ops f ⟨d, .makeSlice t x y,ty,ps,af,g⟩=false)
  (hu:P.underlying t=some (.slice e)) (hm:zZ_ P e=some m) (hi:k0_ P e=true) (hz:zW_ P e=some z) (hx:ev f x=vi n) (hy:ev f y=vi c) (hnc:n≤c) (hbig:c≤2^38)
  (hn: ∀b,jS_ L b→w0.heap.size≤b→Ow P w0 ops md' rest (qG_ f d (vsl b 0 n c)) (L++ [(b, .cells (madeCells z.cells (c*m.2)) e (0,0))]) N):
  Ow P w0 ops md (⟨d, .makeSlice t x y,ty,ps,af,g⟩::rest) f L N:=by
 refine Ow.step he rfl hs fun w hw=> .inl ⟨vsl w.heap.size 0 n c,w.alloc (.cells (madeCells z.cells (c*m.2)) e (0,0)),_, ?_,hw.alloc _,hn _ (z2_ fun b hb=>hw.lt hb) hw.size⟩
 obtain⟨i,hie,-,hb⟩:=wN_ hi hbig
 have hiz:i.zero=some z:=by
  unfold zW_ at hz
  rw[hie] at hz
  exact hz
 have him:i.size=m.2:=by
  unfold zZ_ at hm
  rw[hie] at hm
  split at hm
  ·rename_i h1 h2
   cases h2
   cases hm
   rfl
  ·cases hm
 have hbb: (i.bytes:Int)* (c:Int)≤281474976710656:=by
  have: ((i.bytes*c:Nat):Int)≤281474976710656:=by rw[Nat.mul_comm];exact Int.ofNat_le.2 hb
  rwa [Int.natCast_mul] at this
 have hr:=run_make (P:=P) w t e i z hu hie hiz .i64 .i64 (n:Int) (c:Int) (by omega) (by omega) hbb (by omega)
 simp only[Int.toNat_natCast,him] at hr
 show(execOp (ev f) _).run P w=_
 simp only[execOp,Sem.run_bind]
 rw[hx,hy]
 show((Instr.makeSlice t (.int .i64 (n:Int)) (.int .i64 (c:Int))).run P w).andThen _=_
 rw[hr]
 rfl
theorem Ow.appendXG {ts tx e:TypeId} {m:Bool×Nat} {z:Value} {s x:Operand} {n k:Nat} {cs new:List Value} {dx:TypeDesc} {md':Md} {X Y:za_} (sv:Value) (hL:L=X++Y) (hsv:ev f s=sv) (he:md.turn=some md')
  (hs:zq_ ops f ⟨d, .call ⟨.builtin .append, #[s,x], #[ts,tx]⟩,ty,ps,af,g⟩=false)
  (hu:P.underlying ts=some (.slice e)) (hm:zZ_ P e=some m) (hi:k0_ P e=true) (hz:zW_ P e=some z) (hzs:z.cells.size=m.2) (hux:P.underlying tx=some dx) (hnx: ∀k,dx≠ .int k)
  (hB:Gr X e m.2 sv n cs) (hX: ∀w,Hp w0 L w→AppX P w m.2 (ev f x) k new) (hbig:2* (n+k)+768≤2^38)
  (hn: ∀B v' D,jS_ L B→w0.heap.size≤B→Gr D e m.2 v' (n+k) (cs++new)→(∀c,c∈keys X→c∈keys D)→(∀c,c∈keys D→c∈keys X∨B≤c)→(∀c o,slB sv≠some c→look X c=some o→look D c=some o)→Ow P w0 ops md' rest (qG_ f d v') (D++Y) N):
  Ow P w0 ops md (⟨d, .call ⟨.builtin .append, #[s,x], #[ts,tx]⟩,ty,ps,af,g⟩::rest) f L N:=by
 subst hL
 refine Ow.step he rfl hs fun w hw=> ?_
 have hp:=hw.part
 have hA:jS_ (X++Y) w.heap.size:=z2_ fun b hb=>hw.lt hb
 have fin: ∀v' w' D,(Builtin.append_ #[ts,tx] ty #[sv,ev f x]).run P w= .ok v' w'→Hp w D w'→Gr D e m.2 v' (n+k) (cs++new)→(∀c,c∈keys X→c∈keys D)→(∀c,c∈keys D→c∈keys X∨w.heap.size≤c)→(∀c o,slB sv≠some c→look X c=some o→look D c=some o)→
   (∃v w' L',(execOp (ev f) ⟨d, .call ⟨.builtin .append, #[s,x], #[ts,tx]⟩,ty,ps,af,g⟩).run P w= .ok (.value v) w'∧Hp w0 L' w'∧Ow P w0 ops md' rest (qG_ f d v) L' N):=by
  intro v' w' D hr hD hb h1 h2 h3
  refine⟨v',w',D++Y, ?_,hw.join hD h1 h2,hn w.heap.size v' D hA hw.size hb h1 h2 h3⟩
  simp only[execOp,resolve,Sem.run_bind,Sem.run_pure,Result.andThen_ok,invoke,builtin,List.map_toArray,List.map_cons,List.map_nil,hsv]
  rw[hr]
  rfl
 rcases hB with hB| ⟨rfl,rfl,b,rfl,hlk⟩
 ·obtain⟨v',w',D,hr,hD,hb,hg,-⟩:=Jm_ (w0:=w) (L:=X) (ty:=ty) (x:=ev f x) hp hu hm hi hz hzs hux hnx hB (fun w2 hw2=>hX w2 (by
   refine hw.join hw2 (fun c hc=>hc) (fun c hc=> .inl hc))) hbig
  exact .inl (fin v' w' D hr hD (.inl hb) hg.keys (fun c hc=>(hg.new c hc).imp id And.right) hg.look)
 ·rcases wG_ (w0:=w) (L:=X) (ty:=ty) (b:=b) (x:=ev f x) hp hu hm hi hz hzs hux hnx (fun w2 hw2=>hX w2 (by
   refine hw.join hw2 (fun c hc=>hc) (fun c hc=> .inl hc))) hbig with⟨h0,hr⟩ | ⟨-,v',w',D,hr,hD,hb,hg,-⟩
  ·subst h0
   have hnw:=(hX w hw).size
   obtain rfl:new= []:=List.eq_nil_of_length_eq_zero (by rw[hnw,Nat.zero_mul])
   exact .inl (fin _ w X hr hp (.inr ⟨rfl,rfl,b,rfl,hlk⟩) (fun c hc=>hc) (fun c hc=> .inl hc) (fun c o _ hl=>hl))
  ·exact .inl (fin v' w' D hr hD (.inl hb) hg.keys (fun c hc=>(hg.new c hc).imp id And.right) (fun c o _ hl=>hg.look c o (by simp[slB]) hl))
end
theorem New.perm {n:Nat} {D D':za_} (h:New n D) (hp:D.Perm D'):New n D':=New.of_le fun c hc=>h.le c ((hp.map Prod.fst).mem_iff.2 hc)
end Go.Sx
section
open Go Go.Proofs Go.Sx Go.StP Go.Flo
namespace Go.Proofs
set_option maxRecDepth 10000
set_option maxHeartbeats 400000
set_option linter.unusedSimpArgs false
def dB (d:List UInt8):Int×Nat×Int:=zH_ d 0 0 4099
def dM (d:List UInt8):Int×Nat×Int:=zH_ d (dB d).2.1 (dB d).2.2 4099
structure EG where
 lab:Nat
 br:Nat
 a:Nat
 e:Int
 out:List PcL
 v:Value
 D:za_
def drO (d:List UInt8) (a e:Int):Obj:= .cells #[vs d,vi a,vi e] 250 (0,0)
def EJ (d:List UInt8) (n:Nat) (g:EG):Prop:=
 (g.lab=1∧n≤g.br∧New n g.D∧g.br∉keys g.D∧Gr g.D 311 2 g.v g.out.length (g.out.map pcC).flatten∧g.a≤d.length∧BndP g.out∧g.out.length≤4099∧
  ((g.e≠0∧abN_ d=none)∨(g.e=0∧(dM d).2.2=0∧pcs d (dM d).2.1=(g.out++ (pcs d g.a).1,(pcs d g.a).2))))∨
 (g.lab=0∧n≤g.br∧New n g.D∧g.br∉keys g.D∧Gr g.D 311 2 g.v g.out.length (g.out.map pcC).flatten∧BndP g.out∧g.out.length≤4099∧(dM d).2.2=0∧pcs d (dM d).2.1=(g.out,d.length,0))∨
 (g.lab=2∧New n g.D∧abN_ d=none)
def EH (d:List UInt8) (g:EG):za_:=match g.lab with
 |1=>(g.br,drO d g.a g.e)::g.D
 |0=>(g.br,drO d g.a g.e)::g.D
 |_=>g.D
def ES (d:List UInt8) (g:EG):List (Nat×Value):=match g.lab with
 |1=> [(5,vp g.br 0),(6,vi (dB d).1),(7,vi (dM d).1),(8,g.v)]
 |0=> [(6,vi (dB d).1),(7,vi (dM d).1),(8,g.v)]
 |_=> []
def EL (g:EG):Nat:=match g.lab with
 |1=>1
 |0=>0
 |_=>2
def au4_ (d:List UInt8) (v:Value) (D:za_):Prop:=match abN_ d with
 |some p=> ∃x,v= .tuple #[vi p.1,x,vi 0]∧BndP p.2∧p.2.length≤4099∧p.1≤4099∧GrI D 311 2 x p.2.length (p.2.map pcC).flatten
 |none=>v= .tuple #[vi 0, .slice none 0 0,vi 2]
def pcE (d:List UInt8) (a:Nat) (e:Int):PcL×Nat×Int:=
 if(zH_ d a e 8199).1%2=1 then
  (⟨(zH_ d (zH_ d a e 8199).2.1 (zH_ d a e 8199).2.2 4099).1.toNat,((zH_ d a e 8199).1 / 2).toNat,[]⟩,(zH_ d (zH_ d a e 8199).2.1 (zH_ d a e 8199).2.2 4099).2)
 else(⟨0,0,(jP_ d (zH_ d a e 8199).2.1 (zH_ d a e 8199).2.2 ((zH_ d a e 8199).1 / 2)).1⟩,(jP_ d (zH_ d a e 8199).2.1 (zH_ d a e 8199).2.2 ((zH_ d a e 8199).1 / 2)).2)
set_option linter.defProp false
def av0_:=And.intro (And.intro (And.intro (@zc_) (And.intro (@zb_) (@xJ_))) (And.intro (@xF_) (And.intro (@k3_) (@xI_)))) (And.intro (And.intro (@Sx.tup2_0) (And.intro (@Sx.tup2_1) (@Sx.tup3_0))) (And.intro (@Sx.tup3_1) (And.intro (@Sx.tup3_2) (@kw_))))
end Go.Proofs
end
section
open Go Go.Proofs Go.Sx Go.StP Go.Flo
namespace Go.Proofs
set_option maxRecDepth 10000
set_option maxHeartbeats 400000
set_option linter.unusedSimpArgs false
set_option linter.defProp false
def aw1_:=And.intro (And.intro (And.intro (@zc_) (@zb_)) (And.intro (@xJ_) (And.intro (@xF_) (@k3_)))) (And.intro (And.intro (@xI_) (And.intro (@Sx.tup2_0) (@Sx.tup2_1))) (And.intro (@Sx.tup3_0) (And.intro (@Sx.tup3_1) (@Sx.tup3_2))))
end Go.Proofs
end
section
open Go Go.Proofs Go.Sx Go.StP Go.Flo
namespace Go.Proofs
set_option maxRecDepth 10000
set_option maxHeartbeats 400000
set_option linter.unusedSimpArgs false
structure PartL where
 d:Bool
 b:Int
 x:List UInt8
def Q9_:PartL:=⟨false,0,[]⟩
def xa_ (p:PartL):List Value:= [.bool p.d,vi p.b,vs p.x]
theorem akt_ (p:PartL): (xa_ p).all Value.oneCell'=true:=rfl
def ak7_ (l:List PartL):Nat→Nat→Except Int (List Nat)
 |0,_=> .error 11
 |k+1,at_=>
  if(l.getD at_ Q9_).d=true then
   (if(l.getD at_ Q9_).b<0∨(at_:Int)≤ (l.getD at_ Q9_).b then .error 2
   else if k=0 then .error 11
   else(ak7_ l k (l.getD at_ Q9_).b.toNat).map (at_:: ·))
  else if(l.getD at_ Q9_).b≠0 then .error 2 else .ok [at_]
def aoO_ (l:List PartL) (at_:Int):Except Int (List Nat):=
 if 200<l.length∨at_<0∨(l.length:Int)≤at_ then .error 1 else ak7_ l 5 at_.toNat
def KC_ (p:PartL) (base:List UInt8):List UInt8×Int:=if p.d=true then asD_ base p.x else if 4099<p.x.length then([],19) else(p.x,0)
def asY_ (l:List PartL):List Nat→Except Int (List UInt8)
 | []=> .ok []
 |a::p=>(asY_ l p).bind fun s=>if(KC_ (l.getD a Q9_) s).2=0 then .ok (KC_ (l.getD a Q9_) s).1 else .error (KC_ (l.getD a Q9_) s).2
def partV (l:List PartL) (at_:Int):Except Int (List UInt8):=(aoO_ l at_).bind (asY_ l)
def asx_ (l:List PartL):Nat→Except Int (List (List UInt8))
 |0=> .ok []
 |k+1=>(asx_ l k).bind fun ts=>(partV l (k:Nat)).map fun s=>ts++ [s]
def allV (l:List PartL):Except Int (List (List UInt8)):=if 200<l.length then .error 1 else asx_ l l.length
end Go.Proofs
end
section
open Go Go.Proofs Go.Sx Go.StP Go.Flo
namespace Go.Proofs
set_option maxRecDepth 10000
set_option maxHeartbeats 400000
set_option linter.unusedSimpArgs false
def natC (n:Nat):List Value:= [vi n]
abbrev au7_ (w:World) (v:Value) (l:List PartL):Prop:=SlV 3 xa_ Q9_ w v l
theorem jH_ (p:PartL) (E:TypeId) (n:Nat):zo_ (some (false,n)) (some (.cells (xa_ p).toArray E (0,0))) 0=some (.bool p.d):=(rfl)
theorem jC_ (p:PartL) (E:TypeId) (n:Nat):zo_ (some (false,n)) (some (.cells (xa_ p).toArray E (0,0))) 1=some (vi p.b):=(rfl)
theorem jD_ (p:PartL) (E:TypeId) (n:Nat):zo_ (some (false,n)) (some (.cells (xa_ p).toArray E (0,0))) 2=some (vs p.x):=(rfl)
theorem jk_ (p:PartL):Value.cells (.agg (xa_ p).toArray)=(xa_ p).toArray:=zd_ _
theorem V7_ (p q:PartL) (E:TypeId):zn_ (some (true,3)) (some (.cells (xa_ q).toArray E (0,0))) 0 (.agg (xa_ p).toArray)=some (.cells (xa_ p).toArray E (0,0)):=
 jv_ (xa_ p) (n:=3) true (xa_ q).toArray E rfl (akt_ p) rfl
structure PaG where
 lab:Nat
 at_:Nat
 out:List Nat
 v:Value
 b7:Nat
 q:PartL
 e:Int
 D:za_
def PaJ (l:List PartL) (a0:Int) (n:Nat) (g:PaG):Prop:=
 (g.lab=1∧n≤g.b7∧New n g.D∧g.b7∉keys g.D∧Gr g.D 3 1 g.v g.out.length (g.out.map natC).flatten∧g.at_<l.length∧l.length≤200∧g.out.length≤4∧
  aoO_ l a0=(ak7_ l (5 - g.out.length) g.at_).map (g.out++ ·))∨
 (g.lab=0∧New n g.D∧aoO_ l a0= .error g.e)
def PaH (g:PaG):za_:=match g.lab with
 |1=>(g.b7, .cells (xa_ g.q).toArray 279 (0,0))::g.D
 |_=>g.D
def PaS (g:PaG):List (Nat×Value):=match g.lab with
 |1=> [(1,vi g.at_),(6,g.v),(7,vp g.b7 0),(8,vi 1)]
 |_=> [(8,vi g.e)]
def PaL (g:PaG):Nat:=match g.lab with
 |1=>1
 |_=>0
def awo_ (l:List PartL) (a0:Int) (v:Value) (D:za_):Prop:=match aoO_ l a0 with
 | .ok p=> ∃x,v= .tuple #[x,vi 0]∧p.length≤5∧GrI D 3 1 x p.length (p.map natC).flatten
 | .error e=>v= .tuple #[.slice none 0 0,vi e]
set_option linter.defProp false
def av8_:=And.intro (And.intro (And.intro (@zc_) (@zb_)) (And.intro (@jH_) (@jC_))) (And.intro (And.intro (@jD_) (@jk_)) (And.intro (@Sx.tup2_0) (@Sx.tup2_1)))
end Go.Proofs
end
section
open Go Go.Proofs Go.Sx Go.StP Go.Flo
namespace Go.Proofs
set_option maxRecDepth 10000
set_option maxHeartbeats 400000
set_option linter.unusedSimpArgs false
def BndL (l:List PartL):Prop:= ∀g,g<l.length→(l.getD g Q9_).x.length<9223372036854775808
set_option linter.defProp false
def awh_:=And.intro (And.intro (And.intro (@zc_) (@zb_)) (And.intro (@jH_) (@jC_))) (And.intro (And.intro (@jD_) (@jk_)) (And.intro (@Sx.tup2_0) (@Sx.tup2_1)))
def axq_ (r:Except Int (List UInt8)):Value:=match r with
 | .ok s=> .tuple #[vs s,vi 0]
 | .error e=> .tuple #[vs [],vi e]
end Go.Proofs
end
section
open Go Go.Proofs Go.Sx Go.StP Go.Flo
namespace Go.Proofs
set_option maxRecDepth 10000
set_option maxHeartbeats 400000
set_option linter.unusedSimpArgs false
def asl_:Nat→List (List UInt8)→List (Int×List UInt8)
 |_,[]=> []
 |i,t::ts=>((i:Int),t)::asl_ (i+1) ts
def tabT (ts:List (List UInt8)):List (Int×List UInt8):=asl_ 0 ts
abbrev MapT (o:Obj) (ts:List (List UInt8)):Prop:=w0_ vi vs o (tabT ts)
theorem alx_ (v:Value) (E:TypeId) (n:Nat):zo_ (some (false,n)) (some (.cells #[v] E (0,0))) 0=some v:=(rfl)
set_option linter.defProp false
def awH_:=And.intro (And.intro (And.intro (@zc_) (@zb_)) (And.intro (@alx_) (@jH_))) (And.intro (And.intro (@jC_) (@jD_)) (And.intro (@jk_) (And.intro (@Sx.tup2_0) (@Sx.tup2_1))))
end Go.Proofs
end
section
open Go Go.Proofs Go.Sx Go.StP Go.Flo
namespace Go.Proofs
set_option maxRecDepth 10000
set_option maxHeartbeats 400000
set_option linter.unusedSimpArgs false
def strC (s:List UInt8):List Value:= [vs s]
theorem agL_ (s:List UInt8): (strC s).length=1:=rfl
structure AlG where
 ts:List (List UInt8)
 v:Value
 o:Obj
 D:za_
def AllS (l:List PartL) (v:Value) (D:za_):Prop:=match allV l with
 | .ok ts=> ∃x,v= .tuple #[x,vi 0]∧GrI D 9 1 x ts.length (ts.map strC).flatten
 | .error e=>v= .tuple #[.slice none 0 0,vi e]
theorem aim_ (b:Nat) (E:TypeId) (x:Value):zn_ (some (false,1)) (some (.cells #[x] E (0,0))) 0 (vm b)=some (.cells #[vm b] E (0,0)):=(rfl)
set_option linter.defProp false
def axl_:=And.intro (And.intro (@zc_) (And.intro (@zb_) (@alx_))) (And.intro (@aim_) (And.intro (@Sx.tup2_0) (@Sx.tup2_1)))
end Go.Proofs
end
namespace Go.Dig
open Go.Sx
def hexL:List UInt8:= [48,49,50,51,52,53,54,55,56,57,97,98,99,100,101,102]
def ji_ (b:UInt8):Int:=if 48≤b.toNat∧b.toNat≤57 then(b.toNat:Int) - 48 else if 97≤b.toNat∧b.toNat≤102 then(b.toNat:Int) - 97+10 else -1
theorem aqP_ (b:UInt8) (g:Nat) (hg:g<16) (h: (hexL.getD g 0==b)=true):ji_ b=g:=by
 have: ∀i:Fin 16,ji_ (hexL.getD i.val 0)=(i.val:Int):=by decide+kernel
 have h1:=this ⟨g,hg⟩
 rw[beq_iff_eq] at h
 rw[←h];exact h1
theorem aqx_ (b:UInt8) (hne: ∀i,i<16→hexL.getD i 0≠b):ji_ b= -1:=by
 have key: ∀n:Fin 256,ji_ (UInt8.ofNat n.val)= -1∨ ∃i:Fin 16,hexL.getD i.val 0=UInt8.ofNat n.val:=by decide+kernel
 have hb:UInt8.ofNat b.toNat=b:=by simp
 have:=key ⟨b.toNat,b.toNat_lt⟩
 simp only[hb] at this
 rcases this with h| ⟨i,hi⟩
 ·exact h
 ·exact absurd hi (hne i.val i.isLt)
def hexD (n:Nat):UInt8:=hexL.getD n 0
def hexB (b:UInt8):List UInt8:= [hexD (b.toNat / 16),hexD (b.toNat%16)]
def qa_ (id:List UInt8):List UInt8:=id.flatMap hexB
def JM_ (id:List UInt8) (g:Nat):List UInt8:=qa_ (id.take g)++List.replicate (64 - 2*g) 0
theorem ja_ (id:List UInt8): (qa_ id).length=2*id.length:=by
 induction id with
 |nil=>rfl
 |cons b r ih=>simp only[qa_,List.flatMap_cons,List.length_append] at ih ⊢;rw[ih];simp[hexB];omega
theorem QT_ (id:List UInt8) (g:Nat) (h:id.length=32) (hg:g≤32): (JM_ id g).length=64:=by
 simp[JM_,ja_,h];omega
theorem ae4_ (id:List UInt8) (g:Nat) (h:id.length=32) (hg:g<32) (x y:UInt8) (hx:x=hexD ((id.getD g 0).toNat / 16)) (hy:y=hexD ((id.getD g 0).toNat%16)):
  ((JM_ id g).set (2*g) x).set (2*g+1) y=JM_ id (g+1):=by
 have hl: (qa_ (id.take g)).length=2*g:=by rw[ja_];simp;omega
 have hr:List.replicate (64 - 2*g) (0:UInt8)=0::0::List.replicate (64 - 2* (g+1)) 0:=by
  have:64 - 2*g=(64 - 2* (g+1))+1+1:=by omega
  rw[this];rfl
 have ht:id.take (g+1)=id.take g++ [id.getD g 0]:=by
  rw[List.take_add_one]
  simp[List.getD_eq_getElem?_getD,h,hg]
 have key: ∀ (p q:List UInt8) (a b:UInt8),((p++a::b::q).set p.length x).set (p.length+1) y=p++x::y::q:=by
  intro p q a b
  induction p with
  |nil=>rfl
  |cons c r ih=>simp only[List.cons_append,List.length_cons,List.set_cons_succ,ih]
 unfold JM_
 rw[ht,hr,←hl,key]
 simp[qa_,hexB,hx,hy]
theorem aik_ (id:List UInt8) (h:id.length=32):JM_ id 32=qa_ id:=by
 simp[JM_,List.take_of_length_le (show id.length≤32 by omega)]
theorem ap1_ (b:UInt8): (vr_ b 4).toNat<16:=by
 have:=b.toNat_lt
 rw[vr_,UInt8.toNat_ofNat'];omega
theorem aoa_ (b:UInt8): (b&&&15).toNat<16:=by
 rw[UInt8.toNat_and]
 exact Nat.lt_of_le_of_lt Nat.and_le_right (by decide)
theorem are_ (b:UInt8):hexL.getD (vr_ b 4).toNat 0=hexD (b.toNat / 16):=by
 have:=b.toNat_lt
 rw[vr_,UInt8.toNat_ofNat',Nat.mod_eq_of_lt (by omega)];rfl
theorem am8_ (b:UInt8):hexL.getD (b&&&15).toNat 0=hexD (b.toNat%16):=by
 rw[UInt8.toNat_and]
 have:b.toNat&&& (15:UInt8).toNat=b.toNat%16:=Nat.and_two_pow_sub_one_eq_mod b.toNat 4
 rw[this];rfl
theorem akM_ (id:List UInt8) (g:Nat) (h:id.length=32) (hg:g<32):qa_ (id.take (g+1))=qa_ (id.take g)++ [hexD ((id.getD g 0).toNat / 16)]++ [hexD ((id.getD g 0).toNat%16)]:=by
 have ht:id.take (g+1)=id.take g++ [id.getD g 0]:=by
  rw[List.take_add_one]
  simp[List.getD_eq_getElem?_getD,h,hg]
 rw[ht];simp[qa_,hexB]
theorem alD_ (n:Nat) (h:n<16): (hexL.take (n+1)).drop n= [hexD n]:=by
 have: ∀i:Fin 16,(hexL.take (i.val+1)).drop i.val= [hexD i.val]:=by decide+kernel
 exact this ⟨n,h⟩
def ZD_ (l:List UInt8) (n:Nat):List UInt8:=(List.range n).map fun i=>UInt8.ofInt (ji_ (l.getD (2*i) 0)*16+ji_ (l.getD (2*i+1) 0))
def JY_ (l:List UInt8):Bool:=l.length==64&&l.all fun c=>decide (0≤ji_ c)
def wP_ (l:List UInt8):List UInt8:=if JY_ l then ZD_ l 32 else List.replicate 32 0
def kY_ (l:List UInt8) (g:Nat):List UInt8:=ZD_ l g++List.replicate (32 - g) 0
theorem XK_ (l:List UInt8) (g:Nat) (hg:g≤32): (kY_ l g).length=32:=by simp[kY_,ZD_];omega
theorem aah_ (l:List UInt8) (g:Nat) (hg:g<32) (x:UInt8) (hx:x=UInt8.ofInt (ji_ (l.getD (2*g) 0)*16+ji_ (l.getD (2*g+1) 0))): (kY_ l g).set g x=kY_ l (g+1):=by
 have hr:List.replicate (32 - g) (0:UInt8)=0::List.replicate (32 - (g+1)) 0:=by
  have:32 - g=(32 - (g+1))+1:=by omega
  rw[this];rfl
 have hl: (ZD_ l g).length=g:=by simp[ZD_]
 have key: ∀ (p q:List UInt8) (a:UInt8),(p++a::q).set p.length x=p++x::q:=by
  intro p q a
  induction p with
  |nil=>rfl
  |cons c r ih=>simp only[List.cons_append,List.length_cons,List.set_cons_succ,ih]
 unfold kY_
 rw[hr]
 have:=key (ZD_ l g) (List.replicate (32 - (g+1)) 0) 0
 rw[hl] at this
 rw[this]
 simp[ZD_,List.range_succ,hx]
theorem ab7_ (b:UInt8): -1≤ji_ b∧ji_ b≤15:=by unfold ji_;repeat' split<;>omega
theorem agb_ (l:List UInt8) (i:Nat) (hl:l.length=64) (hi:i<64) (h:ji_ (l.getD i 0)<0):JY_ l=false:=by
 unfold JY_
 rw[Bool.and_eq_false_iff]
 right
 rw[Bool.eq_false_iff]
 intro ha
 rw[List.all_eq_true] at ha
 have hm:l.getD i 0∈l:=by
  rw[List.getD_eq_getElem?_getD,List.getElem?_eq_getElem (by omega)]
  exact List.getElem_mem _
 have:=ha _ hm
 simp only[decide_eq_true_eq] at this
 omega
theorem aa4_ (l:List UInt8) (hl:l.length=64) (h: ∀i,i<64→0≤ji_ (l.getD i 0)):JY_ l=true:=by
 unfold JY_
 rw[Bool.and_eq_true]
 refine⟨by simp[hl], ?_⟩
 rw[List.all_eq_true]
 intro c hc
 obtain⟨i,hi,rfl⟩:=List.mem_iff_getElem.1 hc
 have:=h i (by omega)
 rw[List.getD_eq_getElem?_getD,List.getElem?_eq_getElem hi] at this
 simpa using this
theorem acR_ (l:List UInt8) (hl: ¬l.length=64):JY_ l=false:=by
 unfold JY_
 rw[Bool.and_eq_false_iff]
 left;simpa using hl
theorem nib (a b:Int) (ha:0≤a) (hb:0≤b) (hb':b≤15): (((a*16).toNat|||b.toNat:Nat):Int)=a*16+b:=by
 obtain⟨n,rfl⟩:=Int.eq_ofNat_of_zero_le ha
 obtain⟨m,rfl⟩:=Int.eq_ofNat_of_zero_le hb
 have e: ((n:Int)*16).toNat=n<<<4:=by rw[Nat.shiftLeft_eq];omega
 rw[e,Int.toNat_natCast,←Nat.shiftLeft_add_eq_or_of_lt (by omega:m<2^4),Nat.shiftLeft_eq]
 omega
def refB (l:List UInt8) (i k:Nat):UInt8:=
 if 2*k+1<i then UInt8.ofInt (ji_ (l.getD (2*k) 0)*16+ji_ (l.getD (2*k+1) 0)) else if 2*k<i then UInt8.ofInt (ji_ (l.getD (2*k) 0)) else 0
def auT_ (l:List UInt8) (i:Nat):List UInt8:=(List.range 32).map (refB l i)
def rgt (x:UInt32) (n:UInt64):UInt32:=zT_ x n.toNat|||xd_ x (32 - n).toNat
def rol (x:UInt32) (k:Int):UInt32:=xd_ x (UInt64.ofInt k&&&31).toNat|||zT_ x (32 - (UInt64.ofInt k&&&31)).toNat
def akL_ (x:UInt32) (a b c:Int):UInt32:=rol x (-a)^^^rol x (-b)^^^zT_ x c.toNat
def ajv_ (x:UInt32) (a b c:Int):UInt32:=rol x (-a)^^^rol x (-b)^^^rol x (-c)
def S1 (e:UInt32):UInt32:=rgt e 6^^^rgt e 11^^^rgt e 25
def S0 (a:UInt32):UInt32:=rgt a 2^^^rgt a 13^^^rgt a 22
def s1 (y:UInt32):UInt32:=rgt y 17^^^rgt y 19^^^zT_ y 10
def s0 (x:UInt32):UInt32:=rgt x 7^^^rgt x 18^^^zT_ x 3
theorem rol6 (x:UInt32):rol x (-6)=rgt x 6:=by unfold rol rgt;rw[UInt32.or_comm];rfl
theorem atN_ (x:UInt32):rol x (-11)=rgt x 11:=by unfold rol rgt;rw[UInt32.or_comm];rfl
theorem atP_ (x:UInt32):rol x (-25)=rgt x 25:=by unfold rol rgt;rw[UInt32.or_comm];rfl
theorem rol2 (x:UInt32):rol x (-2)=rgt x 2:=by unfold rol rgt;rw[UInt32.or_comm];rfl
theorem auk_ (x:UInt32):rol x (-13)=rgt x 13:=by unfold rol rgt;rw[UInt32.or_comm];rfl
theorem atA_ (x:UInt32):rol x (-22)=rgt x 22:=by unfold rol rgt;rw[UInt32.or_comm];rfl
theorem atB_ (x:UInt32):rol x (-17)=rgt x 17:=by unfold rol rgt;rw[UInt32.or_comm];rfl
theorem aun_ (x:UInt32):rol x (-19)=rgt x 19:=by unfold rol rgt;rw[UInt32.or_comm];rfl
theorem rol7 (x:UInt32):rol x (-7)=rgt x 7:=by unfold rol rgt;rw[UInt32.or_comm];rfl
theorem at5_ (x:UInt32):rol x (-18)=rgt x 18:=by unfold rol rgt;rw[UInt32.or_comm];rfl
theorem at6_ (x:UInt32):ajv_ x 6 11 25=S1 x:=by unfold ajv_ S1;rw[rol6,atN_,atP_]
theorem atz_ (x:UInt32):ajv_ x 2 13 22=S0 x:=by unfold ajv_ S0;rw[rol2,auk_,atA_]
theorem at2_ (x:UInt32):akL_ x 17 19 10=s1 x:=by unfold akL_ s1;rw[atB_,aun_];rfl
theorem at0_ (x:UInt32):akL_ x 7 18 3=s0 x:=by unfold akL_ s0;rw[rol7,at5_];rfl
def kL:List UInt32:= [1116352408,1899447441,3049323471,3921009573,961987163,1508970993,2453635748,2870763221,3624381080,310598401,607225278,1426881987,1925078388,2162078206,2614888103,3248222580,3835390401,4022224774,264347078,604807628,770255983,1249150122,1555081692,1996064986,2554220882,2821834349,2952996808,3210313671,3336571891,3584528711,113926993,338241895,666307205,773529912,1294757372,1396182291,1695183700,1986661051,2177026350,2456956037,2730485921,2820302411,3259730800,3345764771,3516065817,3600352804,4094571909,275423344,430227734,506948616,659060556,883997877,958139571,1322822218,1537002063,1747873779,1955562222,2024104815,2227730452,2361852424,2428436474,2756734187,3204031479,3329325298]
def initL:List UInt32:= [1779033703,3144134277,1013904242,2773480762,1359893119,2600822924,528734635,1541459225]
def anc_ (b:List UInt8) (i:Nat):UInt32:=
 UInt32.ofNat (b.getD (4*i) 0).toNat*16777216+UInt32.ofNat (b.getD (4*i+1) 0).toNat*65536+UInt32.ofNat (b.getD (4*i+2) 0).toNat*256+UInt32.ofNat (b.getD (4*i+3) 0).toNat
def WC_ (b:List UInt8) (i:Nat):List UInt32:=(List.range 64).map fun j=>if j<i then anc_ b j else 0
theorem vT_ (b:List UInt8) (i:Nat): (WC_ b i).length=64:=by simp[WC_]
theorem abM_ (b:List UInt8) (i:Nat): (WC_ b i).set i (anc_ b i)=WC_ b (i+1):=by
 apply List.ext_getElem
 ·simp[WC_]
 intro k hk1 hk2
 have hk:k<64:=by simpa [WC_] using hk2
 rw[List.getElem_set]
 by_cases h:i=k
 ·subst h;simp[WC_]
 ·rw[if_neg h]
  simp only[WC_,List.getElem_map,List.getElem_range]
  by_cases h1:k<i
  ·rw[if_pos h1,if_pos (by omega)]
  ·rw[if_neg h1,if_neg (by omega)]
theorem ab1_ (b:List UInt8):WC_ b 0=List.replicate 64 0:=by
 apply List.ext_getElem
 ·simp[WC_]
 intro k hk1 hk2
 simp only[WC_,List.getElem_map,List.getElem_range,List.getElem_replicate]
 rw[if_neg (by omega)]
def anZ_ (w:List UInt32) (g:Nat):List UInt32:=w.set g (s1 (w.getD (g - 2) 0)+w.getD (g - 7) 0+s0 (w.getD (g - 15) 0)+w.getD (g - 16) 0)
def wGo (w:List UInt32):Nat→List UInt32
 |0=>w
 |n+1=>anZ_ (wGo w n) (16+n)
theorem Wo_ (w:List UInt32) (n:Nat): (wGo w n).length=w.length:=by
 induction n with
 |zero=>rfl
 |succ n ih=>simp[wGo,anZ_,ih]
def wAll (b:List UInt8):List UInt32:=wGo (WC_ b 16) 48
theorem XX_ (b:List UInt8): (wAll b).length=64:=by rw[wAll,Wo_,vT_]
def aqV_ (s:List UInt32) (k w:UInt32):List UInt32:=
 let t:=s.getD 7 0+S1 (s.getD 4 0)+ (s.getD 4 0&&&s.getD 5 0||| ~~~ s.getD 4 0&&&s.getD 6 0)+k+w
 let u:=S0 (s.getD 0 0)+ (s.getD 0 0&&&s.getD 1 0|||s.getD 0 0&&&s.getD 2 0|||s.getD 1 0&&&s.getD 2 0)
 [t+u,s.getD 0 0,s.getD 1 0,s.getD 2 0,s.getD 3 0+t,s.getD 4 0,s.getD 5 0,s.getD 6 0]
def rGo (st w:List UInt32):Nat→List UInt32
 |0=>st
 |n+1=>aqV_ (rGo st w n) (kL.getD n 0) (w.getD n 0)
theorem ahA_ (st w:List UInt32) (n:Nat) (h:st.length=8): (rGo st w n).length=8:=by
 cases n with
 |zero=>exact h
 |succ n=>rfl
def x6_ (st s:List UInt32) (i:Nat):List UInt32:=(List.range 8).map fun j=>if j<i then st.getD j 0+s.getD j 0 else st.getD j 0
theorem QS_ (st s:List UInt32) (i:Nat): (x6_ st s i).length=8:=by simp[x6_]
theorem aip_ (st s:List UInt32) (i j:Nat) (hj:j<8): (x6_ st s i).getD j 0=if j<i then st.getD j 0+s.getD j 0 else st.getD j 0:=by
 simp[x6_,List.getD_eq_getElem?_getD,hj]
theorem ae2_ (st s:List UInt32) (i:Nat): (x6_ st s i).set i (st.getD i 0+s.getD i 0)=x6_ st s (i+1):=by
 apply List.ext_getElem
 ·simp[x6_]
 intro k hk1 hk2
 rw[List.getElem_set]
 by_cases h:i=k
 ·subst h;simp[x6_]
 ·rw[if_neg h]
  simp only[x6_,List.getElem_map,List.getElem_range]
  by_cases h1:k<i
  ·rw[if_pos h1,if_pos (by omega)]
  ·rw[if_neg h1,if_neg (by omega)]
theorem aea_ (st s:List UInt32) (h:st.length=8):x6_ st s 0=st:=by
 apply List.ext_getElem
 ·simp[x6_,h]
 intro k hk1 hk2
 simp[x6_,List.getD_eq_getElem?_getD,hk2]
def comp (st:List UInt32) (b:List UInt8):List UInt32:=x6_ st (rGo st (wAll b) 64) 8
theorem Z4_ (st:List UInt32) (b:List UInt8): (comp st b).length=8:=QS_ _ _ _
def ZG_ (st:List UInt32) (m:List UInt8):Nat→List UInt32
 |0=>st
 |n+1=>comp (ZG_ st m n) ((m.drop (64*n)).take 64)
theorem acc_ (st:List UInt32) (m:List UInt8) (n:Nat) (h:st.length=8): (ZG_ st m n).length=8:=by
 cases n with
 |zero=>exact h
 |succ n=>exact Z4_ _ _
theorem acq_ (st:List UInt32) (m x:List UInt8) (n:Nat) (h:64*n≤m.length):ZG_ st (m++x) n=ZG_ st m n:=by
 induction n with
 |zero=>rfl
 |succ n ih=>
  simp only[ZG_]
  rw[ih (by omega),List.drop_append_of_le_length (by omega),List.take_append_of_le_length (by simp;omega)]
def we_ (bg:Bool) (st:List UInt32) (rest:List UInt8) (many:Int) (taken:UInt64):List Value:=
 .bool bg:: (st.map (fun x=>Value.int .u32 (x.toNat:Int))++ (rest.map (fun x=>Value.int .u8 (x.toNat:Int))++ [vi many,v64 taken]))
def zR_ (bg:Bool) (st:List UInt32) (rest:List UInt8) (many:Int) (taken:UInt64):Array Value:=(we_ bg st rest many taken).toArray
section
variable {bg:Bool} {st:List UInt32} {rest:List UInt8} {many:Int} {taken:UInt64} {E:TypeId}
theorem jT_ (h:st.length=8∧rest.length=64): (zR_ bg st rest many taken).size=75:=by simp[zR_,we_,h]
theorem ajC_: (zR_ bg st rest many taken)[0]? =some (.bool bg):=rfl
theorem akF_ (k:Nat) (hk:k<8) (h:st.length=8): (zR_ bg st rest many taken)[1+k]? =some (v32 (st.getD k 0)):=by
 have:1+k=k+1:=by omega
 rw[this,zR_,List.getElem?_toArray,we_,List.getElem?_cons_succ,List.getElem?_append_left (by simp;omega)]
 simp[v32,List.getD_eq_getElem?_getD,h,hk]
theorem acU_ (k:Nat) (hk:k<64) (h:st.length=8∧rest.length=64): (zR_ bg st rest many taken)[9+k]? =some (v8 (rest.getD k 0)):=by
 have:9+k=(8+k)+1:=by omega
 rw[this,zR_,List.getElem?_toArray,we_,List.getElem?_cons_succ,List.getElem?_append_right (by simp;omega),List.getElem?_append_left (by simp;omega)]
 have e:8+k - (List.map (fun x:UInt32=>Value.int .u32 (x.toNat:Int)) st).length=k:=by simp;omega
 rw[e]
 simp[v8,List.getD_eq_getElem?_getD,h,hk]
theorem ajV_ (h:st.length=8∧rest.length=64): (zR_ bg st rest many taken)[73]? =some (vi many):=by
 rw[zR_,List.getElem?_toArray,we_,List.getElem?_cons_succ,List.getElem?_append_right (by simp;omega),List.getElem?_append_right (by simp;omega)]
 simp[h]
theorem akf_ (h:st.length=8∧rest.length=64): (zR_ bg st rest many taken)[74]? =some (v64 taken):=by
 rw[zR_,List.getElem?_toArray,we_,List.getElem?_cons_succ,List.getElem?_append_right (by simp;omega),List.getElem?_append_right (by simp;omega)]
 simp[h]
theorem w6_ (n:Nat):zo_ (some (false,n)) (some (.cells (zR_ bg st rest many taken) E (0,0))) 0=some (.bool bg):=ajC_
theorem Zl_ (n k:Nat) (h:k<8∧st.length=8):zo_ (some (false,n)) (some (.cells (zR_ bg st rest many taken) E (0,0))) (1+k)=some (v32 (st.getD k 0)):=akF_ k h.1 h.2
theorem w2_ (n k:Nat) (h:k<64∧st.length=8∧rest.length=64):zo_ (some (false,n)) (some (.cells (zR_ bg st rest many taken) E (0,0))) (9+k)=some (v8 (rest.getD k 0)):=acU_ k h.1 h.2
theorem vO_ (n j k:Nat) (h:j+k<64∧st.length=8∧rest.length=64):zo_ (some (false,n)) (some (.cells (zR_ bg st rest many taken) E (0,0))) (9+j+k)=some (v8 (rest.getD (j+k) 0)):=by
 rw[Nat.add_assoc];exact acU_ (j+k) h.1 h.2
theorem Ze_ (n:Nat) (h:st.length=8∧rest.length=64):zo_ (some (false,n)) (some (.cells (zR_ bg st rest many taken) E (0,0))) 73=some (vi many):=ajV_ h
theorem Zo_ (n:Nat) (h:st.length=8∧rest.length=64):zo_ (some (false,n)) (some (.cells (zR_ bg st rest many taken) E (0,0))) 74=some (v64 taken):=akf_ h
theorem v3_ (h:st.length=8∧rest.length=64):zo_ (some (true,8)) (some (.cells (zR_ bg st rest many taken) E (0,0))) 1=some (.agg (a32 st)):=by
 have hs:1+8≤ (zR_ bg st rest many taken).size:=by rw[jT_ h];omega
 simp only[zo_,hs, ↓reduceIte]
 congr 2
 rw[zR_,a32,we_]
 simp only[List.extract_toArray,List.extract_eq_take_drop]
 congr 1
 simp[h]
theorem kN_ (h:st.length=8∧rest.length=64):zo_ (some (true,75)) (some (.cells (zR_ bg st rest many taken) E (0,0))) 0=some (.agg (zR_ bg st rest many taken)):=jG_ _ _ _ _ (jT_ h)
theorem aoi_: (zR_ bg st rest many taken).toList.all Value.oneCell'=true:=by
 simp[zR_,we_,Value.oneCell',vi,v64]
theorem xg_ (old:Array Value) (h:st.length=8∧rest.length=64∧old.size=75):zn_ (some (true,75)) (some (.cells old E (0,0))) 0 (.agg (zR_ bg st rest many taken))=some (.cells (zR_ bg st rest many taken) E (0,0)):=
 Ql_ _ _ _ _ _ ⟨jT_ ⟨h.1,h.2.1⟩,h.2.2⟩ aoi_
theorem wt_ (i:Nat) (v:Value): (zR_ bg st rest many taken).setIfInBounds i v=((we_ bg st rest many taken).set i v).toArray:=by simp[zR_]
theorem vU_ (b:Bool) (h:st.length=8∧rest.length=64):zn_ (some (false,1)) (some (.cells (zR_ bg st rest many taken) E (0,0))) 0 (.bool b)=some (.cells (zR_ b st rest many taken) E (0,0)):=by
 rw[kx_ _ _ _ _ _ (by rw[jT_ h];omega) rfl rfl,wt_];rfl
theorem vF_ (k:Nat) (x:UInt32) (h:k<8∧st.length=8∧rest.length=64):zn_ (some (false,1)) (some (.cells (zR_ bg st rest many taken) E (0,0))) (1+k) (v32 x)=some (.cells (zR_ bg (st.set k x) rest many taken) E (0,0)):=by
 have e:1+k=k+1:=by omega
 rw[kx_ _ _ _ _ _ (by rw[jT_ h.2];omega) rfl rfl,wt_,e,we_,List.set_cons_succ,List.set_append_left _ _ (by simp;omega)]
 simp only[zR_,we_,List.map_set];rfl
theorem v0_ (k:Nat) (x:UInt8) (h:k<64∧st.length=8∧rest.length=64):zn_ (some (false,1)) (some (.cells (zR_ bg st rest many taken) E (0,0))) (9+k) (v8 x)=some (.cells (zR_ bg st (rest.set k x) many taken) E (0,0)):=by
 have e:9+k=(8+k)+1:=by omega
 rw[kx_ _ _ _ _ _ (by rw[jT_ h.2];omega) rfl rfl,wt_,e,we_,List.set_cons_succ,List.set_append_right _ _ (by simp;omega),List.set_append_left _ _ (by simp;omega)]
 have e2:8+k - (List.map (fun x:UInt32=>Value.int .u32 (x.toNat:Int)) st).length=k:=by simp;omega
 rw[e2]
 simp only[zR_,we_,List.map_set];rfl
theorem vN_ (m:Int) (h:st.length=8∧rest.length=64):zn_ (some (false,1)) (some (.cells (zR_ bg st rest many taken) E (0,0))) 73 (vi m)=some (.cells (zR_ bg st rest m taken) E (0,0)):=by
 rw[kx_ _ _ _ _ _ (by rw[jT_ h];omega) rfl rfl,wt_,we_,List.set_cons_succ,List.set_append_right _ _ (by simp;omega),List.set_append_right _ _ (by simp;omega)]
 simp[zR_,we_,h]
theorem vK_ (t:UInt64) (h:st.length=8∧rest.length=64):zn_ (some (false,1)) (some (.cells (zR_ bg st rest many taken) E (0,0))) 74 (v64 t)=some (.cells (zR_ bg st rest many t) E (0,0)):=by
 rw[kx_ _ _ _ _ _ (by rw[jT_ h];omega) rfl rfl,wt_,we_,List.set_cons_succ,List.set_append_right _ _ (by simp;omega),List.set_append_right _ _ (by simp;omega)]
 simp[zR_,we_,h]
theorem kX_ (st':List UInt32) (h:st.length=8∧rest.length=64∧st'.length=8):zn_ (some (true,8)) (some (.cells (zR_ bg st rest many taken) E (0,0))) 1 (.agg (a32 st'))=some (.cells (zR_ bg st' rest many taken) E (0,0)):=by
 have hs:1+8≤ (zR_ bg st rest many taken).size:=by rw[jT_ ⟨h.1,h.2.1⟩];omega
 have hp:QX_ (zR_ bg st rest many taken) 1 (a32 st').toList=zR_ bg st' rest many taken:=by
  have:=ad0_ (a32 st').toList [.bool bg] (st.map fun x=>Value.int .u32 (x.toNat:Int)) (rest.map (fun x=>Value.int .u8 (x.toNat:Int))++ [vi many,v64 taken]) (by simp[a32,h])
  simpa [zR_,we_,a32] using this
 have h1: (a32 st').size=8:=by rw[Qx_];exact h.2.2
 simp only[zn_,zd_,h1,hs,Nat.le_refl,true_or,akc_,and_self, ↓reduceIte,hp]
end
def acc (b:List UInt8) (i:Nat):Nat→UInt32
 |0=>0
 |k+1=>xd_ (acc b i k) 8|||UInt32.ofNat (b.getD (4*i+k) 0).toNat
theorem Xj_ (x:UInt32) (c:UInt8) (h:x.toNat<16777216): (xd_ x 8|||UInt32.ofNat c.toNat).toNat=x.toNat*256+c.toNat:=by
 have hc:=c.toNat_lt
 rw[UInt32.toNat_or,xd_,UInt32.toNat_ofNat',UInt32.toNat_ofNat',Nat.mod_eq_of_lt (by omega),Nat.mod_eq_of_lt (by omega),←Nat.shiftLeft_eq,←Nat.shiftLeft_add_eq_or_of_lt (by omega:c.toNat<2^8),Nat.shiftLeft_eq]
theorem amB_ (b:List UInt8) (i:Nat):acc b i 4=anc_ b i:=by
 have h0:=(b.getD (4*i) 0).toNat_lt
 have h1:=(b.getD (4*i+1) 0).toNat_lt
 have h2:=(b.getD (4*i+2) 0).toNat_lt
 have h3:=(b.getD (4*i+3) 0).toNat_lt
 have e1: (acc b i 1).toNat=(b.getD (4*i) 0).toNat:=by
  have:=Xj_ 0 (b.getD (4*i+0) 0) (by decide)
  simpa [acc] using this
 have l1: (acc b i 1).toNat<16777216:=by omega
 have e2: (acc b i 2).toNat=(acc b i 1).toNat*256+ (b.getD (4*i+1) 0).toNat:=Xj_ _ _ l1
 have l2: (acc b i 2).toNat<16777216:=by omega
 have e3: (acc b i 3).toNat=(acc b i 2).toNat*256+ (b.getD (4*i+2) 0).toNat:=Xj_ _ _ l2
 have l3: (acc b i 3).toNat<16777216:=by omega
 have e4: (acc b i 4).toNat=(acc b i 3).toNat*256+ (b.getD (4*i+3) 0).toNat:=Xj_ _ _ l3
 apply UInt32.toNat.inj
 rw[e4,e3,e2,e1]
 unfold anc_
 simp only[UInt32.toNat_add,UInt32.toNat_mul,UInt32.toNat_ofNat']
 have k1: (16777216:UInt32).toNat=16777216:=rfl
 have k2: (65536:UInt32).toNat=65536:=rfl
 have k3: (256:UInt32).toNat=256:=rfl
 rw[k1,k2,k3]
 omega
theorem ajc_ (b:List UInt8) (g:Nat):WC_ b g=(WC_ b g).set g (acc b g 0):=by
 apply List.ext_getElem
 ·simp
 intro k hk1 hk2
 rw[List.getElem_set]
 by_cases h:g=k
 ·subst h;simp[WC_,acc]
 ·rw[if_neg h]
theorem jE_ {α:Type} (l:List α) (i:Nat) (x d:α) (h:i<l.length): (l.set i x).getD i d=x:=by
 simp[List.getD_eq_getElem?_getD,h]
def wG (b:List UInt8) (g:Nat):List UInt32:=wGo (WC_ b 16) (g - 16)
theorem acB_ (b:List UInt8) (g:Nat): (wG b g).length=64:=by rw[wG,Wo_,vT_]
theorem ajE_ (b:List UInt8) (g:Nat) (h:16≤g):wG b (g+1)=anZ_ (wG b g) g:=by
 unfold wG
 have:g+1 - 16=(g - 16)+1:=by omega
 rw[this]
 show anZ_ _ (16+ (g - 16))=_
 rw[show 16+ (g - 16)=g from by omega]
theorem apd_ (b:List UInt8):wG b 64=wAll b:=rfl
theorem agw_ (b:List UInt8):WC_ b 16=wG b 16:=rfl
theorem asV_ (a b c:UInt32): (a&&&b^^^ ~~~a&&&c)=(a&&&b||| ~~~a&&&c):=by
 apply UInt32.toBitVec_inj.1
 simp only[UInt32.toBitVec_xor,UInt32.toBitVec_or,UInt32.toBitVec_and,UInt32.toBitVec_not]
 ext i hi
 simp only[BitVec.getElem_xor,BitVec.getElem_or,BitVec.getElem_and,BitVec.getElem_not]
 cases a.toBitVec[i]<;>simp
theorem aqD_ (a b c:UInt32): (a&&&b^^^a&&&c^^^b&&&c)=(a&&&b|||a&&&c|||b&&&c):=by
 apply UInt32.toBitVec_inj.1
 simp only[UInt32.toBitVec_xor,UInt32.toBitVec_or,UInt32.toBitVec_and]
 ext i hi
 simp only[BitVec.getElem_xor,BitVec.getElem_or,BitVec.getElem_and]
 cases a.toBitVec[i]<;>cases b.toBitVec[i]<;>simp
def Glob (w:World):Prop:= ∃e0 e1 f0 f1,w.heap[0]? =some (.cells (a32 initL) e0 f0)∧w.heap[1]? =some (.cells (a32 kL) e1 f1)
theorem Glob.of {w0 w:World} {L:za_} (hg:Glob w0) (h:Hp w0 L w) (hk: ∀b,b∈keys L→1<b):Glob w:=by
 obtain⟨e0,e1,f0,f1,h0,h1⟩:=hg
 refine⟨e0,e1,f0,f1, ?_, ?_⟩
 ·rw[h.old 0 (Array.getElem?_eq_some_iff.1 h0).1 (fun hm=>by have:=hk 0 hm;omega)];exact h0
 ·rw[h.old 1 (Array.getElem?_eq_some_iff.1 h1).1 (fun hm=>by have:=hk 1 hm;omega)];exact h1
structure Hs where
 st:List UInt32
 rest:List UInt8
 many:Nat
structure Hs.Ok (s:Hs):Prop where
 st:s.st.length=8
 rest:s.rest.length=64
 many:s.many<64
def Jb_ (s:Hs) (x:UInt8):Hs:=
 if s.many+1=64 then⟨comp s.st (s.rest.set s.many x),s.rest.set s.many x,0⟩ else⟨s.st,s.rest.set s.many x,s.many+1⟩
theorem WO_ {s:Hs} (x:UInt8) (h:s.Ok): (Jb_ s x).Ok:=by
 unfold Jb_
 split
 ·exact⟨Z4_ _ _,by simp[h.rest],by show(0:Nat)<64;omega⟩
 ·exact⟨h.st,by simp[h.rest],by show s.many+1<64;have:=h.many;omega⟩
def je_ (s:Hs) (l:List UInt8):Hs:=l.foldl Jb_ s
theorem v1_ {s:Hs} (l:List UInt8) (h:s.Ok): (je_ s l).Ok:=by
 induction l generalizing s with
 |nil=>exact h
 |cons x r ih=>exact ih (WO_ x h)
theorem j5_ (s:Hs) (a b:List UInt8):je_ s (a++b)=je_ (je_ s a) b:=List.foldl_append
theorem k8_ {α:Type} (l:List α) (g:Nat) (d:α) (h:g<l.length):l.take (g+1)=l.take g++ [l.getD g d]:=by
 rw[List.take_add_one]
 simp[List.getD_eq_getElem?_getD,h]
theorem We_ (s:Hs) (l:List UInt8) (g:Nat) (h:g<l.length):je_ s (l.take (g+1))=Jb_ (je_ s (l.take g)) (l.getD g 0):=by
 rw[k8_ l g 0 h,j5_];rfl
def ZC_ (bg:Bool) (s:Hs):Hs:=if bg then s else{s with st:=initL}
theorem abz_ {s:Hs} (bg:Bool) (h:s.Ok): (ZC_ bg s).Ok:=by
 unfold ZC_;split
 ·exact h
 ·exact⟨rfl,h.rest,h.many⟩
def k4_ (s:Hs) (taken:UInt64):Array Value:=zR_ true s.st s.rest s.many taken
def vw_ (t:UInt64) (l:List (List UInt8)):UInt64:=l.foldl (fun t a=>t+UInt64.ofNat a.length) t
theorem ae0_ (t:UInt64) (l:List (List UInt8)) (g:Nat) (h:g<l.length):vw_ t (l.take (g+1))=vw_ t (l.take g)+UInt64.ofNat (l.getD g []).length:=by
 rw[k8_ l g [] h,vw_,List.foldl_append];rfl
theorem act_ (l:List (List UInt8)) (g:Nat) (h:g<l.length): (l.take (g+1)).flatten=(l.take g).flatten++l.getD g []:=by
 rw[k8_ l g [] h,List.flatten_append];simp
theorem loadV_one (cs:Array Value) (E:TypeId) (fz:Nat×Nat) (n i:Nat):zo_ (some (false,n)) (some (.cells cs E fz)) i=cs[i]? :=(rfl)
structure Strs (w:World) (v:Value) (l:List (List UInt8)):Prop where
 nil_or: (l= []∧v= .slice none 0 0)∨ ∃b off c arr E fz,v=vsl b off l.length c∧w.heap[b]? =some (.cells arr E fz)∧ ∀i,i<l.length→arr[off+i]? =some (vs (l.getD i []))
end Go.Dig
section
open Go Go.Proofs Go.Sx Go.Dig
namespace Go.Proofs
set_option maxRecDepth 10000
set_option maxHeartbeats 4000000
set_option linter.unusedSimpArgs false
def GlobE (w:World):Prop:= ∃e0 e1 f0 f1,w.heap[3]? =some (.cells (a32 initL) e0 f0)∧w.heap[4]? =some (.cells (a32 kL) e1 f1)
theorem GlobE.of {w0 w:World} {L:za_} (hg:GlobE w0) (h:Hp w0 L w) (hk: ∀b,b∈keys L→4<b):GlobE w:=by
 obtain⟨e0,e1,f0,f1,h0,h1⟩:=hg
 refine⟨e0,e1,f0,f1, ?_, ?_⟩
 ·rw[h.old _ (Array.getElem?_eq_some_iff.1 h0).1 (fun hm=>by have:=hk _ hm;omega)];exact h0
 ·rw[h.old _ (Array.getElem?_eq_some_iff.1 h1).1 (fun hm=>by have:=hk _ hm;omega)];exact h1
theorem wF_ (x:UInt32) (k:Int) (w:World):Rets Tryz.prog 251 #[v32 x,vi k] w (fun v D=>v=v32 (rol x k)∧D= []):=by
 refine Rets.enterV Tryz.func251 rfl (rs:= [.tmp 4]) Tryz.results251 Tryz.ntmps251 ?_
 refine kf ?_
 first|with_reducible refine ks [] @Nat.add_zero ?_|refine kp @Nat.add_zero ?_
 refine⟨_,(ke @Nat.add_zero),trivial, ?_⟩
 rfl
theorem jl_ (x:UInt32) (n:UInt64) (w:World):Rets Tryz.prog 186 #[v32 x,v64 n] w (fun v D=>v=v32 (rgt x n)∧D= []):=by
 refine Rets.enterV Tryz.func186 rfl (rs:= [.tmp 4]) Tryz.results186 Tryz.ntmps186 ?_
 refine kf ?_
 first|with_reducible refine ks [] @Nat.add_zero ?_|refine kp @Nat.add_zero ?_
 refine⟨_,(ke @Nat.add_zero),trivial, ?_⟩
 rfl
theorem aco_ (x:UInt32) (a b c:Int) (ha:0≤a∧a≤64) (hb:0≤b∧b≤64) (hc:0≤c∧c≤64) (w:World):Rets Tryz.prog 244 #[v32 x,vi a,vi b,vi c] w (fun v D=>v=v32 (akL_ x a b c)∧D= []):=by
 refine Rets.enterV Tryz.func244 rfl (rs:= [.tmp 8]) Tryz.results244 Tryz.ntmps244 ?_
 refine kf ?_
 first|with_reducible refine ks [] @Nat.add_zero ?_|refine kp @Nat.add_zero ?_
 refine Cw.regionO [0,1,2,4,5,6,9,10,11,3,7,8,12,13] [] rfl (by kernel_rfl) (by kernel_rfl) ?_
 simp only[zp_, ↓zi_, ↓ze_, ↓zA_, ↓zz_,zf_]
 refine kq @Nat.add_zero ?_
 refine Ow.callFV rfl Tryz.call251 (fun w' hw'=>wF_ _ _ w') ?_
 refine kq @Nat.add_zero ?_
 refine Ow.callFV rfl Tryz.call251 (fun w' hw'=>wF_ _ _ w') ?_
 refine kq @Nat.add_zero ?_
 first|with_reducible refine ks [] @Nat.add_zero ?_|refine kp @Nat.add_zero ?_
 refine⟨_,(ke @Nat.add_zero),trivial, ?_⟩
 rfl
theorem ac0_ (x:UInt32) (a b c:Int) (ha:0≤a∧a≤64) (hb:0≤b∧b≤64) (hc:0≤c∧c≤64) (w:World):Rets Tryz.prog 245 #[v32 x,vi a,vi b,vi c] w (fun v D=>v=v32 (ajv_ x a b c)∧D= []):=by
 refine Rets.enterV Tryz.func245 rfl (rs:= [.tmp 8]) Tryz.results245 Tryz.ntmps245 ?_
 refine kf ?_
 first|with_reducible refine ks [] @Nat.add_zero ?_|refine kp @Nat.add_zero ?_
 refine Ow.callFV rfl Tryz.call251 (fun w' hw'=>wF_ _ _ w') ?_
 refine ko @Nat.add_zero ?_
 refine Ow.callFV rfl Tryz.call251 (fun w' hw'=>wF_ _ _ w') ?_
 refine ko @Nat.add_zero ?_
 refine Ow.callFV rfl Tryz.call251 (fun w' hw'=>wF_ _ _ w') ?_
 refine ko @Nat.add_zero ?_
 first|with_reducible refine ks [] @Nat.add_zero ?_|refine kp @Nat.add_zero ?_
 refine⟨_,(ke @Nat.add_zero),trivial, ?_⟩
 rfl
theorem aeh_ (w:World):Rets Tryz.prog 187 #[] w (fun v D=>v= .agg (a32 kL)∧D= []):=by
 refine Rets.enterV Tryz.func187 rfl (rs:= [.cell 0 256]) Tryz.results187 Tryz.ntmps187 ?_
 refine kf ?_
 first|with_reducible refine ks [] @Nat.add_zero ?_|refine kp @Nat.add_zero ?_
 have hkl:kL.length=64:=rfl
 refine Ow.alloc rfl rfl Tryz.zr256 fun b1 _ hw1=> ?_
 refine ko @Nat.add_zero ?_
 first|with_reducible refine ks [] @Nat.add_zero ?_|refine kp @Nat.add_zero ?_
 refine Ow.build (.agg (a32 kL)) rfl (by kernel_rfl) ?_
 refine ko @Nat.add_zero ?_
 first|with_reducible refine ks [] @Nat.add_zero ?_|refine kp @Nat.add_zero ?_
 refine⟨_,(ke @Nat.add_zero),⟨hw1,trivial⟩, ?_⟩
 rfl
end Go.Proofs
end
section
open Go Go.Proofs Go.Sx Go.Dig
namespace Go.Proofs
set_option maxRecDepth 10000
set_option maxHeartbeats 4000000
set_option linter.unusedSimpArgs false
set_option linter.defProp false
def qq_:=And.intro (And.intro (And.intro (And.intro (@w6_) (@Zl_)) (And.intro (@w2_) (@vO_))) (And.intro (And.intro (@Ze_) (@Zo_)) (And.intro (@v3_) (@kN_)))) (And.intro (And.intro (And.intro (@xg_) (@vU_)) (And.intro (@vF_) (@v0_))) (And.intro (And.intro (@vN_) (@vK_)) (And.intro (@kX_) (@jE_))))
theorem ajJ_ (b:Nat) (bg:Bool) (st:List UInt32) (rest:List UInt8) (many:Int) (taken:UInt64) (w:World) (hG:GlobE w) (hb:4<b) (hs:st.length=8) (hr:rest.length=64)
  (ho:w.heap[b]? =some (.cells (zR_ bg st rest many taken) 254 (0,0))):
  Rets Tryz.prog 233 #[vp b 0] w (fun v D=> ∃o,D= [(b,o)]∧v= .tuple #[]∧o= .cells (zR_ bg (comp st rest) rest 0 taken) 254 (0,0)):=by
 obtain⟨e0,e1,f0,f1,h0,h1⟩:=hG
 have hbl:=(Array.getElem?_eq_some_iff.1 ho).1
 have hkl:kL.length=64:=rfl
 refine Rets.enterM Tryz.func233 rfl (rs:= []) Tryz.results233 Tryz.ntmps233 ho ?_
 refine kf ?_
 first|with_reducible refine ks [] @qq_ ?_|refine kp @qq_ ?_
 refine Ow.alloc rfl rfl Tryz.zr256 fun b1 hb1 hw1=> ?_
 obtain⟨h01,-⟩:=hb1
 refine ko @qq_ ?_
 first|with_reducible refine ks [] @qq_ ?_|refine kp @qq_ ?_
 rw[←ab1_ rest]
 refine Cw.loopG (G:=Nat) [14,15,3,16,17,18,19,20,21,22,23,24,25,26,27,28,29,5,30,31,32,33,34,35,36,37,38,39,40,13] (fun g=> [(13,vi g)]) (fun g=> [(b, .cells (zR_ bg st rest many taken) 254),(b1, .cells (a32 (WC_ rest g)) 256)]) (fun g=>g≤16) (fun g=>16 - g) 0 rfl rfl ?_ ?_
 ·omega
 intro g j hg
 refine kv ?_
 have hlen:=vT_ rest g
 by_cases hlt:g<16
 ·first|with_reducible refine ks [] @qq_ ?_|refine kp @qq_ ?_
  rw[ajc_ rest g]
  refine Cw.loopG (G:=Nat) [27,28,29,5,30,31,32,33,34,35,36,37,38,39,26] (fun k=> [(26,vi k)]) (fun k=> [(b, .cells (zR_ bg st rest many taken) 254 (0,0)),(b1, .cells (a32 ((WC_ rest g).set g (acc rest g k))) 256 (0,0))]) (fun k=>k≤4) (fun k=>4 - k) 0 rfl rfl ?_ ?_
  ·omega
  intro k jk hk
  refine kv ?_
  by_cases hk4:k<4
  ·first|with_reducible refine ks [] @qq_ ?_|refine kp @qq_ ?_
   exact Again.mk (k+1) (by omega) (by omega) rfl rfl
  ·have hk:k=4:=by omega
   subst hk
   first|with_reducible refine ks [] @qq_ ?_|refine kp @qq_ ?_
   refine Again.mk (g+1) (by omega) (by omega) ?_ rfl
   rw[amB_,abM_]
 ·have hg16:g=16:=by omega
  subst hg16
  first|with_reducible refine ks [] @qq_ ?_|refine kp @qq_ ?_
  rw[agw_]
  refine Cw.loopG (G:=Nat) [41,42,45,46,47,48,49,50,51,52,53,54,55,56,57,58,59,60,61,62,63,64,65,66,67,43,44,6] (fun g=> [(6,vi g)]) (fun g=> [(b, .cells (zR_ bg st rest many taken) 254 (0,0)),(b1, .cells (a32 (wG rest g)) 256)]) (fun g=>16≤g∧g≤64) (fun g=>64 - g) 16 rfl rfl ?_ ?_
  ·omega
  intro g j hg
  refine kv ?_
  obtain⟨hg1,hg2⟩:=hg
  have hlen:=acB_ rest g
  by_cases hlt:g<64
  ·first|with_reducible refine ks [] @qq_ ?_|refine kp @qq_ ?_
   refine Cw.regionO [0,1,2,3,6,7,8,11,12,13,17,18,19,4,9,14,20,5,10,15,16,21,22,23] [23] rfl (by kernel_rfl) (by kernel_rfl) ?_
   simp only[zp_, ↓zi_, ↓ze_, ↓zA_, ↓zz_,zf_]
   refine kq @qq_ ?_
   refine Ow.callFV rfl Tryz.call244 (fun w' hw'=>aco_ _ _ _ _ (by omega) (by omega) (by omega) w') ?_
   refine kq @qq_ ?_
   refine Ow.callFV rfl Tryz.call244 (fun w' hw'=>aco_ _ _ _ _ (by omega) (by omega) (by omega) w') ?_
   refine kq @qq_ ?_
   refine Ow.store rfl rfl rfl (ke @qq_) ?_
   refine ko @qq_ ?_
   first|with_reducible refine ks [] @qq_ ?_|refine kp @qq_ ?_
   refine Again.mk (g+1) (by omega) (by omega) ?_ rfl
   rw[ajE_ rest g hg1,at2_,at0_];rfl
  ·have hg64:g=64:=by omega
   subst hg64
   rw[apd_]
   have hwl:=XX_ rest
   first|with_reducible refine ks [] (And.intro @qq_ @h1) ?_|refine kp (And.intro @qq_ @h1) ?_
   refine Ow.alloc rfl rfl Tryz.zr227 fun b2 hb2 hw2=> ?_
   obtain⟨h02,h12,-⟩:=hb2
   refine ko (And.intro @qq_ @h1) ?_
   first|with_reducible refine ks [] (And.intro @qq_ @h1) ?_|refine kp (And.intro @qq_ @h1) ?_
   refine Cw.loopG (G:=Nat) [74,75,76,8,9,77,78,79,80,81,82,83,84,85,86,87,88,89,90,91,92,93,94,95,96,97,98,99,100,101,10,102,103,104,105,106,107,108,109,110,111,112,113,114,115,116,117,118,119,120,121,122,11,123,124,125,126,127,128,129,130,131,132,133,134,135,136,137,138,139,140,141,142,143,73] (fun g=> [(73,vi g)]) (fun g=> [(b, .cells (zR_ bg st rest many taken) 254 (0,0)),(b1, .cells (a32 (wAll rest)) 256),(b2, .cells (a32 (rGo st (wAll rest) g)) 227)]) (fun g=>g≤64) (fun g=>64 - g) 0 rfl rfl ?_ ?_
   ·omega
   ·intro g j hg
    refine kv ?_
    have hrl:=ahA_ st (wAll rest) g hs
    by_cases hlt:g<64
    ·first|with_reducible refine ks [] @qq_ ?_|refine kp @qq_ ?_
     refine Cw.regionO [0,2,6,8,11,14,19,21,22,1,3,7,9,10,12,13,15,16,17,23,4,5,18,20,24,25] [] rfl (by kernel_rfl) (by kernel_rfl) ?_
     simp only[zp_, ↓zi_, ↓ze_, ↓zA_, ↓zz_,zf_]
     refine kq @qq_ ?_
     refine Ow.callFV rfl Tryz.call245 (fun w' hw'=>ac0_ _ _ _ _ (by omega) (by omega) (by omega) w') ?_
     refine kq @qq_ ?_
     first|with_reducible refine ks [] @qq_ ?_|refine kp @qq_ ?_
     refine Cw.regionO [0,3,5,8,10,14,16,1,4,6,7,9,11,12,13,15,17,18,19,2,20,21] [] rfl (by kernel_rfl) (by kernel_rfl) ?_
     simp only[zp_, ↓zi_, ↓ze_, ↓zA_, ↓zz_,zf_]
     refine kq @qq_ ?_
     refine Ow.callFV rfl Tryz.call245 (fun w' hw'=>ac0_ _ _ _ _ (by omega) (by omega) (by omega) w') ?_
     refine kq @qq_ ?_
     first|with_reducible refine ks [] @qq_ ?_|refine kp @qq_ ?_
     rw[at6_,atz_,asV_,aqD_]
     refine Ow.build (.agg (a32 (aqV_ (rGo st (wAll rest) g) (kL.getD g 0) ((wAll rest).getD g 0)))) rfl (by kernel_rfl) ?_
     have hrl2: (aqV_ (rGo st (wAll rest) g) (kL.getD g 0) ((wAll rest).getD g 0)).length=8:=rfl
     refine ko @qq_ ?_
     first|with_reducible refine ks [] @qq_ ?_|refine kp @qq_ ?_
     exact Again.mk (g+1) (by omega) (by omega) rfl rfl
    ·have hg64:g=64:=by omega
     subst hg64
     first|with_reducible refine ks [] @qq_ ?_|refine kp @qq_ ?_
     rw[←aea_ st (rGo st (wAll rest) 64) hs]
     refine Cw.loopG (G:=Nat) [145,146,12,147,148,149,150,151,152,153,154,155,156,157,158,159,160,144] (fun k=> [(144,vi k)]) (fun k=> [(b, .cells (zR_ bg (x6_ st (rGo st (wAll rest) 64) k) rest many taken) 254 (0,0)),(b1, .cells (a32 (wAll rest)) 256),(b2, .cells (a32 (rGo st (wAll rest) 64)) 227)]) (fun k=>k≤8) (fun k=>8 - k) 0 rfl rfl ?_ ?_
     ·omega
     intro k jk hk
     refine kv ?_
     have hal:=QS_ st (rGo st (wAll rest) 64) k
     by_cases hk8:k<8
     ·first|with_reducible refine ks [] @qq_ ?_|refine kp @qq_ ?_
      refine Cw.regionO [0,1,2,3,4,6,7,10,11,5,8,9,12,13] [13] rfl (by kernel_rfl) (by kernel_rfl) ?_
      simp only[zp_, ↓zi_, ↓ze_, ↓zA_, ↓zz_,zf_]
      refine kq @qq_ ?_
      refine Ow.store rfl rfl rfl (ke @qq_) ?_
      refine ko @qq_ ?_
      first|with_reducible refine ks [] @qq_ ?_|refine kp @qq_ ?_
      refine Again.mk (k+1) (by omega) (by omega) ?_ rfl
      rw[←ae2_,aip_ _ _ _ _ (by omega),if_neg (by omega)]
     ·have hk8':k=8:=by omega
      subst hk8'
      first|with_reducible refine ks [] @qq_ ?_|refine kp @qq_ ?_
      refine⟨_,_,_,(ke @qq_),rfl,⟨hw1,hw2,trivial⟩, ?_⟩
      exact⟨rfl,rfl⟩
end Go.Proofs
end
section
open Go Go.Proofs Go.Sx Go.Dig
namespace Go.Proofs
set_option maxRecDepth 10000
set_option maxHeartbeats 1000000
set_option linter.unusedSimpArgs false
theorem K6_ (n:Nat):UInt64.ofInt (n:Int)=UInt64.ofNat n:=by
 apply UInt64.toNat.inj
 rw[show UInt64.ofInt (n:Int)=UInt64.ofNat ((n:Int)%2^64).toNat from rfl,UInt64.toNat_ofNat',UInt64.toNat_ofNat']
 omega
theorem aq5_ (b o:Nat):qy_ Tryz.prog .eql 275 (vp b o) (.pointer none)=some (.bool false):=by
 simp[qy_,eqX,qk_,qn_,Tryz.underlying275,vp]
theorem ami_:qy_ Tryz.prog .eql 275 (.pointer none) (.pointer none)=some (.bool true):=by
 simp[qy_,eqX,qk_,qn_,Tryz.underlying275]
theorem amp_ (b o:Nat):qy_ Tryz.prog .neq 275 (vp b o) (.pointer none)=some (.bool true):=by
 simp[qy_,eqX,qk_,qn_,Tryz.underlying275,vp]
theorem afL_:qy_ Tryz.prog .neq 275 (.pointer none) (.pointer none)=some (.bool false):=by
 simp[qy_,eqX,qk_,qn_,Tryz.underlying275]
set_option linter.defProp false
def jn_:=And.intro (And.intro (And.intro (And.intro (@w6_) (@Zl_)) (And.intro (@w2_) (And.intro (@vO_) (@Ze_)))) (And.intro (And.intro (@Zo_) (@v3_)) (And.intro (@kN_) (And.intro (@xg_) (@vU_))))) (And.intro (And.intro (And.intro (@vF_) (@v0_)) (And.intro (@vN_) (And.intro (@vK_) (@kX_)))) (And.intro (And.intro (@jE_) (@aq5_)) (And.intro (@ami_) (And.intro (@amp_) (@afL_)))))
theorem Wz_ (b:Nat) (bg:Bool) (st:List UInt32) (rest:List UInt8) (many:Int) (taken:UInt64) (w:World) (hG:GlobE w) (hb:4<b) (hs:st.length=8) (hr:rest.length=64)
  (ho:w.heap[b]? =some (.cells (zR_ bg st rest many taken) 254 (0,0))):
  Rets Tryz.prog 211 #[vp b 0] w (fun v D=> ∃o,D= [(b,o)]∧v= .tuple #[]∧o= .cells (zR_ true (if bg then st else initL) rest many taken) 254 (0,0)):=by
 obtain⟨e0,e1,f0,f1,h0,h1⟩:=hG
 have hil:initL.length=8:=rfl
 refine Rets.enterM Tryz.func211 rfl (rs:= []) Tryz.results211 Tryz.ntmps211 ho ?_
 refine kf ?_
 cases bg
 ·first|with_reducible refine ks [] (And.intro @jn_ @h0) ?_|refine kp (And.intro @jn_ @h0) ?_
  refine⟨_,_,_,(ke @jn_),rfl,trivial, ?_⟩
  exact⟨rfl,rfl⟩
 ·first|with_reducible refine ks [] (And.intro @jn_ @h0) ?_|refine kp (And.intro @jn_ @h0) ?_
  refine⟨_,_,_,(ke @jn_),rfl,trivial, ?_⟩
  exact⟨rfl,rfl⟩
theorem J6_ (b:Nat) (s:Hs) (taken:UInt64) (x:UInt8) (w:World) (hG:GlobE w) (hb:4<b) (hs:s.Ok)
  (ho:w.heap[b]? =some (.cells (k4_ s taken) 254 (0,0))):
  Rets Tryz.prog 212 #[vp b 0,v8 x] w (fun v D=> ∃o,D= [(b,o)]∧v= .tuple #[]∧o= .cells (k4_ (Jb_ s x) taken) 254 (0,0)):=by
 obtain⟨st,rest,many⟩:=s
 obtain⟨hst,hrt,hmn⟩:=hs
 simp only[k4_] at ho hst hrt hmn ⊢
 refine Rets.enterM Tryz.func212 rfl (rs:= []) Tryz.results212 Tryz.ntmps212 ho ?_
 refine kf ?_
 first|with_reducible refine ks [] @jn_ ?_|refine kp @jn_ ?_
 refine Cw.regionO [0,1,2,3,5,6,7,4,8,9] [9] rfl (by kernel_rfl) (by kernel_rfl) ?_
 simp only[zp_, ↓zi_, ↓ze_, ↓zA_, ↓zz_,zf_]
 refine kq @jn_ ?_
 refine Ow.store rfl rfl rfl (ke @jn_) ?_
 refine ko @jn_ ?_
 first|with_reducible refine ks [] @jn_ ?_|refine kp @jn_ ?_
 unfold Jb_
 by_cases h64:many+1=64
 ·simp only[h64, ↓reduceIte]
  have h64': (many:Int)+1=64:=by omega
  have h63:many=63:=by omega
  subst h63
  rw[asS_ _ _ _ _ _ _ (by omega)]
  first|with_reducible refine ks [] @jn_ ?_|refine kp @jn_ ?_
  refine Ow.callM rfl rfl Tryz.call233 (by simp[keys]) (fun w' hw'=>ajJ_ _ _ _ _ _ _ w' (GlobE.of hG hw' (by simp[keys];omega)) hb hst (by simp[hrt]) (hw'.has _ _ List.mem_cons_self)) ?_
  refine ko @jn_ ?_
  first|with_reducible refine ks [] @jn_ ?_|refine kp @jn_ ?_
  refine⟨_,_,_,(ke @jn_),rfl,trivial, ?_⟩
  exact⟨rfl,rfl⟩
 ·rw[ask_ _ _ _ _ _ _ (by omega)]
  simp only[h64, ↓reduceIte]
  first|with_reducible refine ks [] @jn_ ?_|refine kp @jn_ ?_
  refine⟨_,_,_,(ke @jn_),rfl,trivial, ?_⟩
  exact⟨rfl,by rw[if_neg h64];simp⟩
theorem adu_ (b:Nat) (bg:Bool) (s:Hs) (taken:UInt64) (x:Value) (b2 off:Nat) (l:List (List UInt8)) (arr:Array Value) (E:TypeId) (fz:Nat×Nat) (w:World) (hG:GlobE w) (hb:4<b) (hs:s.Ok) (hne:0<l.length→b≠b2)
  (hS:StrS w x l b2 off arr E fz) (hn:l.length<1099511627776) (hz: ∀i,i<l.length→(l.getD i []).length<1099511627776)
  (ho:w.heap[b]? =some (.cells (zR_ bg s.st s.rest s.many taken) 254 (0,0))):
  Rets Tryz.prog 180 #[vp b 0,x] w (fun v D=> ∃o,D= [(b,o)]∧v= .tuple #[]∧o= .cells (k4_ (je_ (ZC_ bg s) l.flatten) (vw_ taken l)) 254 (0,0)):=by
 obtain⟨e0,e1,f0,f1,h0,h1⟩:=id hG
 obtain⟨st,rest,many⟩:=s
 obtain⟨hst,hrt,hmn⟩:=id hs
 simp only[k4_] at ho hst hrt hmn ⊢
 refine Rets.enterM Tryz.func180 rfl (rs:= []) Tryz.results180 Tryz.ntmps180 ho ?_
 refine kf ?_
 first|with_reducible refine ks [] @jn_ ?_|refine kp @jn_ ?_
 refine Ow.callM rfl rfl Tryz.call211 (by simp[keys]) (fun w' hw'=>Wz_ _ _ _ _ _ _ w' (GlobE.of hG hw' (by simp[keys];omega)) hb hst hrt (hw'.has _ _ List.mem_cons_self)) ?_
 refine ko @jn_ ?_
 ((try with_reducible refine Cw.go [] ?_);(try simp(disch:=(first|assumption|omega| (simp only[x5_,xZ_,UInt64.reduceToNat];try omega))) only[↓Sx.S0,Sx.S1,Tryz.fx,jn_,Nat.reduceAdd,Nat.reducePow,Int.reducePow,Nat.reduceBEq, ↓reduceIte,UInt8.reduceToNat,UInt16.reduceToNat,UInt32.reduceToNat,UInt64.reduceToNat,Int.reduceToNat,hS.len]))
 have e:zR_ true (if bg=true then st else initL) rest many taken=k4_ (je_ (ZC_ bg ⟨st,rest,many⟩) (l.take 0).flatten) (vw_ taken (l.take 0)):=by cases bg<;>rfl
 rw[e]
 have hok0:=abz_ bg hs
 generalize ZC_ bg ⟨st,rest,many⟩=S0 at*
 refine Cw.loopG (G:=Nat) [14,15,16,5,17,18,19,20,21,6,22,23,24,25,26,27,28,29,30,31,32,33,34,35,36,37,38,13] (fun g=> [(13,vi g)]) (fun g=> [(b, .cells (k4_ (je_ S0 (l.take g).flatten) (vw_ taken (l.take g))) 254 (0,0))]) (fun g=>g≤l.length) (fun g=>l.length - g) 0 rfl rfl ?_ ?_
 ·omega
 intro g j hg
 refine kv ?_
 by_cases hlt:g<l.length
 ·have hlg:=hS.get g hlt
  have hb2:=hS.has (by omega)
  have hne2:=hne (by omega)
  have hzg:=hz g hlt
  ((try with_reducible refine Cw.go [] ?_);(try simp(disch:=(first|assumption|omega| (simp only[x5_,xZ_,UInt64.reduceToNat];try omega))) only[↓Sx.S0,Sx.S1,Tryz.fx,jn_,Nat.reduceAdd,Nat.reducePow,Int.reducePow,Nat.reduceBEq, ↓reduceIte,UInt8.reduceToNat,UInt16.reduceToNat,UInt32.reduceToNat,UInt64.reduceToNat,Int.reduceToNat,Sx.loadV_one,hb2,hlg,hS.idx]))
  have hok:=v1_ (l.take g).flatten hok0
  rw[show k4_ (je_ S0 (l.take g).flatten) (vw_ taken (l.take g))=k4_ (je_ (je_ S0 (l.take g).flatten) ((l.getD g []).take 0)) (vw_ taken (l.take g)) from rfl]
  refine Cw.loopG (G:=Nat) [20,21,6,22,23,24,25,26,27,19] (fun k=> [(19,vi k)]) (fun k=> [(b, .cells (k4_ (je_ (je_ S0 (l.take g).flatten) ((l.getD g []).take k)) (vw_ taken (l.take g))) 254 (0,0))]) (fun k=>k≤ (l.getD g []).length) (fun k=>(l.getD g []).length - k) 0 rfl rfl ?_ ?_
  ·omega
  intro k jk hk
  refine kv ?_
  by_cases hlk:k< (l.getD g []).length
  ·first|with_reducible refine ks [] @jn_ ?_|refine kp @jn_ ?_
   refine Ow.callM rfl rfl Tryz.call212 (by simp[keys]) (fun w' hw'=>J6_ _ _ _ _ w' (GlobE.of hG hw' (by simp[keys];omega)) hb (v1_ _ hok) (hw'.has _ _ List.mem_cons_self)) ?_
   refine ko @jn_ ?_
   first|with_reducible refine ks [] @jn_ ?_|refine kp @jn_ ?_
   refine Again.mk (k+1) (by omega) (by omega) ?_ rfl
   rw[We_ _ _ _ hlk]
  ·have hke:k=(l.getD g []).length:=by omega
   subst hke
   have hok2:=v1_ (l.getD g []) hok
   have hok3:=hok2.st
   have hok4:=hok2.rest
   rw[List.take_length]
   unfold k4_
   first|with_reducible refine ks [] @jn_ ?_|refine kp @jn_ ?_
   refine Again.mk (g+1) (by omega) (by omega) ?_ rfl
   rw[act_ _ _ hlt,j5_,ae0_ _ _ _ hlt,show UInt64.ofInt ((l.getD g []).length:Int)=UInt64.ofNat (l.getD g []).length from K6_ _]
 ·have hge:g=l.length:=by omega
  subst hge
  first|with_reducible refine ks [] @jn_ ?_|refine kp @jn_ ?_
  rw[List.take_length]
  refine⟨_,_,_,(ke @jn_),rfl,trivial, ?_⟩
  exact⟨rfl,rfl⟩
end Go.Proofs
end
namespace Go.Dig
open Go.Sx
def ve_ (m:Nat):Nat:=(120 - m)%64
def lenB (t:UInt64) (g:Nat):UInt8:=UInt8.ofNat (jZ_ (8*t) (56 - 8*g)).toNat
def len8 (t:UInt64):List UInt8:=(List.range 8).map (lenB t)
def outB (st:List UInt32) (j:Nat):UInt8:=UInt8.ofNat (zT_ (st.getD (j / 4) 0) (24 - 8* (j%4))).toNat
def xp_ (st:List UInt32) (k:Nat):List UInt8:=(List.range 32).map fun j=>if j<k then outB st j else 0
def ahb_ (s:Hs) (taken:UInt64):Hs:=je_ (je_ (Jb_ s 128) (List.replicate (ve_ (Jb_ s 128).many) 0)) (len8 taken)
def hsum (s:Hs) (taken:UInt64):List UInt8:=xp_ (ahb_ s taken).st 32
def H0:Hs:=⟨initL,List.replicate 64 0,0⟩
theorem as4_:H0.Ok:=⟨rfl,by simp[H0],by show(0:Nat)<64;omega⟩
def sumV (l:List (List UInt8)):List UInt8:=hsum (je_ H0 l.flatten) (vw_ 0 l)
theorem alE_ {s:Hs} (x:UInt8) (h:s.Ok): (Jb_ s x).many=(s.many+1)%64:=by
 have:=h.many
 unfold Jb_
 split
 ·show 0=_;omega
 ·show s.many+1=_;omega
theorem ail_ {s:Hs} (l:List UInt8) (h:s.Ok): (je_ s l).many=(s.many+l.length)%64:=by
 induction l generalizing s with
 |nil=>have:=h.many;show s.many=_;simp;omega
 |cons x r ih=>
  show(je_ (Jb_ s x) r).many=_
  rw[ih (WO_ x h),alE_ x h,List.length_cons];omega
theorem akk_ (s:Hs) (x:UInt8) (j:Nat):je_ s (List.replicate (j+1) x)=Jb_ (je_ s (List.replicate j x)) x:=by
 rw[List.replicate_succ',j5_];rfl
theorem outPre_length (st:List UInt32) (k:Nat): (xp_ st k).length=32:=by simp[xp_]
theorem KQ_ (st:List UInt32):xp_ st 0=List.replicate 32 0:=by
 apply List.ext_getElem
 ·simp[xp_]
 intro k hk1 hk2
 simp only[xp_,List.getElem_map,List.getElem_range,List.getElem_replicate]
 rw[if_neg (by omega)]
theorem kJ_ (st:List UInt32) (k:Nat): (xp_ st k).set k (outB st k)=xp_ st (k+1):=by
 apply List.ext_getElem
 ·simp[xp_]
 intro j hk1 hk2
 rw[List.getElem_set]
 by_cases h:k=j
 ·subst h;simp[xp_]
 ·rw[if_neg h]
  simp only[xp_,List.getElem_map,List.getElem_range]
  by_cases h1:j<k
  ·rw[if_pos h1,if_pos (by omega)]
  ·rw[if_neg h1,if_neg (by omega)]
theorem aaT_ (st:List UInt32) (i r:Nat) (h:r<4):outB st (4*i+r)=UInt8.ofNat (zT_ (st.getD i 0) (24 - 8*r)).toNat:=by
 unfold outB
 rw[show(4*i+r) / 4=i by omega,show(4*i+r)%4=r by omega]
theorem abI_ (x:UInt32):zT_ x 0=x:=by
 apply UInt32.toNat.inj
 have:=x.toNat_lt
 rw[zT_,UInt32.toNat_ofNat']
 simp
theorem afO_ (st:List UInt32) (i:Nat):
  ((((xp_ st (4*i)).set (4*i) (UInt8.ofNat (zT_ (st.getD i 0) 24).toNat)).set (4*i+1) (UInt8.ofNat (zT_ (st.getD i 0) 16).toNat)).set (4*i+2) (UInt8.ofNat (zT_ (st.getD i 0) 8).toNat)).set (4*i+3) (UInt8.ofNat (st.getD i 0).toNat)=xp_ st (4* (i+1)):=by
 have h0:=aaT_ st i 0 (by omega)
 have h1:=aaT_ st i 1 (by omega)
 have h2:=aaT_ st i 2 (by omega)
 have h3:=aaT_ st i 3 (by omega)
 rw[Nat.add_zero] at h0
 rw[show 24 - 8*3=0 from rfl,abI_] at h3
 rw[←h3,←h2,←h1,←h0,kJ_,kJ_,kJ_,kJ_]
 rw[show 4* (i+1)=4*i+1+1+1+1 by omega]
theorem X0_ (t:UInt64): (len8 t).length=8:=by simp[len8]
theorem alT_ (t:UInt64) (g:Nat) (h:g<8): (len8 t).getD g 0=lenB t g:=by simp[len8,List.getD_eq_getElem?_getD,h]
end Go.Dig
section
open Go Go.Proofs Go.Sx Go.Dig
namespace Go.Proofs
set_option maxRecDepth 10000
set_option maxHeartbeats 1000000
set_option linter.unusedSimpArgs false
set_option linter.defProp false
def js_:=And.intro (And.intro (And.intro (And.intro (@w6_) (@Zl_)) (And.intro (@w2_) (And.intro (@vO_) (@Ze_)))) (And.intro (And.intro (@Zo_) (@v3_)) (And.intro (@kN_) (And.intro (@xg_) (@vU_))))) (And.intro (And.intro (And.intro (@vF_) (@v0_)) (And.intro (@vN_) (And.intro (@vK_) (@kX_)))) (And.intro (And.intro (@jE_) (@aq5_)) (And.intro (@ami_) (And.intro (@amp_) (@afL_)))))
theorem apf_:zW_ Tryz.prog 254=some (.agg (zR_ false (List.replicate 8 0) (List.replicate 64 0) 0 0)):=id (by kernel_rfl)
theorem Wk_ (bg:Bool) (st:List UInt32) (rest:List UInt8) (many:Int) (taken:UInt64):Value.cells (.agg (zR_ bg st rest many taken))=zR_ bg st rest many taken:=zd_ _
theorem ZF_ {bg bg':Bool} {st st':List UInt32} {rest rest':List UInt8} {many many':Int} {taken taken':UInt64} {E:TypeId} (h:st.length=8∧rest.length=64∧st'.length=8∧rest'.length=64):
  zn_ (some (true,75)) (some (.cells (zR_ bg' st' rest' many' taken') E (0,0))) 0 (.agg (zR_ bg st rest many taken))=some (.cells (zR_ bg st rest many taken) E (0,0)):=
 xg_ _ ⟨h.1,h.2.1,jT_ h.2.2⟩
theorem ajA_ (b:Nat) (bg:Bool) (s:Hs) (taken:UInt64) (w:World) (hG:GlobE w) (hb:4<b) (hs:s.Ok)
  (ho:w.heap[b]? =some (.cells (zR_ bg s.st s.rest s.many taken) 254 (0,0))):
  Rets Tryz.prog 181 #[vp b 0] w (fun v D=>v= .agg (a8 (hsum (ZC_ bg s) taken))∧D= []):=by
 obtain⟨e0,e1,f0,f1,h0,h1⟩:=id hG
 obtain⟨st,rest,many⟩:=s
 obtain⟨hst,hrt,hmn⟩:=id hs
 simp only at ho hst hrt hmn ⊢
 refine Rets.enterV Tryz.func181 rfl (rs:= [.cell 2 84]) Tryz.results181 Tryz.ntmps181 ?_
 refine kf ?_
 first|with_reducible refine ks [] @js_ ?_|refine kp @js_ ?_
 refine Ow.alloc rfl rfl Tryz.zr84 fun b1 hb1 hw1=> ?_
 refine ko @js_ ?_
 first|with_reducible refine ks [] @js_ ?_|refine kp @js_ ?_
 refine Ow.alloc rfl rfl apf_ fun b2 hb2 hw2=> ?_
 obtain⟨h12,-⟩:=hb2
 have hbl:=(Array.getElem?_eq_some_iff.1 ho).1
 rw[Wk_]
 refine ko @js_ ?_
 first|with_reducible refine ks [] (And.intro @js_ (And.intro @ho (@ZF_))) ?_|refine kp (And.intro @js_ (And.intro @ho (@ZF_))) ?_
 refine Ow.callM rfl rfl Tryz.call211 (by simp[keys]) (fun w' hw'=>Wz_ _ _ _ _ _ _ w' (GlobE.of hG hw' (by simp[keys];omega)) (by omega) hst hrt (hw'.has _ _ (List.mem_cons_of_mem _ List.mem_cons_self))) ?_
 refine ko @js_ ?_
 first|with_reducible refine ks [] @js_ ?_|refine kp @js_ ?_
 have e:zR_ true (if bg=true then st else initL) rest many taken=k4_ (ZC_ bg ⟨st,rest,many⟩) taken:=by cases bg<;>rfl
 rw[e]
 have hok0:=abz_ bg hs
 generalize ZC_ bg ⟨st,rest,many⟩=S0 at*
 refine Ow.callM rfl rfl Tryz.call212 (by simp[keys]) (fun w' hw'=>J6_ _ _ _ 128 w' (GlobE.of hG hw' (by simp[keys];omega)) (by omega) hok0 (hw'.has _ _ (List.mem_cons_of_mem _ List.mem_cons_self))) ?_
 refine ko @js_ ?_
 have hok1:=WO_ 128 hok0
 have ep:ahb_ S0 taken=je_ (je_ (Jb_ S0 128) (List.replicate (ve_ (Jb_ S0 128).many) 0)) (len8 taken):=rfl
 unfold hsum
 rw[ep]
 generalize Jb_ S0 128=S1 at*
 first|with_reducible refine ks [] @js_ ?_|refine kp @js_ ?_
 rw[show k4_ S1 taken=k4_ (je_ S1 (List.replicate 0 0)) taken from rfl]
 have hz: (S1.many+ve_ S1.many)%64=56∧ve_ S1.many<64:=by have:=hok1.many;unfold ve_;omega
 refine Cw.loopG (G:=Nat) [15,16,17,18] (fun g=> []) (fun g=> [(b1, .cells (a8 (List.replicate 32 0)) 84 (0,0)),(b2, .cells (k4_ (je_ S1 (List.replicate g 0)) taken) 254 (0,0))]) (fun g=>g≤ve_ S1.many) (fun g=>ve_ S1.many - g) 0 rfl rfl ?_ ?_
 ·omega
 intro g j hg
 refine kv ?_
 have hokg:=v1_ (List.replicate g 0) hok1
 have hm:=ail_ (List.replicate g 0) hok1
 rw[List.length_replicate] at hm
 have hg1:=hokg.st
 have hg2:=hokg.rest
 by_cases hlt:g<ve_ S1.many
 ·have hzz: (S1.many+g)%64≠56:=by have:=hok1.many;unfold ve_ at hlt;omega
  unfold k4_
  first|with_reducible refine ks [] @js_ ?_|refine kp @js_ ?_
  refine Ow.callM rfl rfl Tryz.call212 (by simp[keys]) (fun w' hw'=>J6_ _ _ _ 0 w' (GlobE.of hG hw' (by simp[keys];omega)) (by omega) hokg (hw'.has _ _ (List.mem_cons_of_mem _ List.mem_cons_self))) ?_
  refine ko @js_ ?_
  first|with_reducible refine ks [] @js_ ?_|refine kp @js_ ?_
  refine Again.mk (g+1) (by omega) (by omega) ?_ rfl
  rw[akk_];rfl
 ·have hge:g=ve_ S1.many:=by omega
  subst hge
  unfold k4_
  first|with_reducible refine ks [] @js_ ?_|refine kp @js_ ?_
  generalize je_ S1 (List.replicate (ve_ S1.many) 0)=S2 at*
  rw[show zR_ true S2.st S2.rest S2.many taken=k4_ (je_ S2 ((len8 taken).take 0)) taken from rfl]
  have h8:=X0_ taken
  refine Cw.loopG (G:=Nat) [19,20,23,24,25,26,27,28,29,21,22,4] (fun k=> [(4,vi (56 - 8*k))]) (fun k=> [(b1, .cells (a8 (List.replicate 32 0)) 84 (0,0)),(b2, .cells (k4_ (je_ S2 ((len8 taken).take k)) taken) 254 (0,0))]) (fun k=>k≤8) (fun k=>8 - k) 0 rfl rfl ?_ ?_
  ·omega
  intro k jk hk
  refine kv ?_
  have hokk:=v1_ ((len8 taken).take k) hokg
  have hk1:=hokk.st
  have hk2:=hokk.rest
  by_cases hk8:k<8
  ·unfold k4_
   first|with_reducible refine ks [] @js_ ?_|refine kp @js_ ?_
   rw[show(56 - 8* (k:Int)).toNat=56 - 8*k from by omega]
   refine Ow.callM rfl rfl Tryz.call212 (by simp[keys]) (fun w' hw'=>J6_ _ _ _ (lenB taken k) w' (GlobE.of hG hw' (by simp[keys];omega)) (by omega) hokk (hw'.has _ _ (List.mem_cons_of_mem _ List.mem_cons_self))) ?_
   refine ko @js_ ?_
   first|with_reducible refine ks [] @js_ ?_|refine kp @js_ ?_
   refine Again.mk (k+1) (by omega) (by omega) ?_ ?_
   ·rw[We_ _ _ _ (by omega),alT_ _ _ hk8];rfl
   ·rw[show(56 - 8* ((k+1:Nat):Int))=56 - 8* (k:Int) - 8 from by omega];rfl
  ·have hke:k=8:=by omega
   subst hke
   first|with_reducible refine ks [] @js_ ?_|refine kp @js_ ?_
   rw[List.take_of_length_le (show(len8 taken).length≤8 by omega)] at*
   generalize je_ S2 (len8 taken)=S3 at*
   refine Ow.alloc rfl rfl Tryz.zr84 fun b3 hb3 hw3=> ?_
   obtain⟨h13,h23,-⟩:=hb3
   unfold k4_
   refine ko @js_ ?_
   first|with_reducible refine ks [] @js_ ?_|refine kp @js_ ?_
   rw[show a8 (List.replicate 32 0)=a8 (xp_ S3.st (4*0)) from by rw[KQ_]]
   have h3s:=(v1_ (len8 taken) hokg).st
   have hS3:S3.st.length=8:=hk1
   refine Cw.loopG (G:=Nat) [33,34,35,6,7,36,37,38,39,40,41,42,43,44,45,46,47,48,49,50,51,52,53,54,55,56,57,58,59,60,61,62,32] (fun i=> [(32,vi i)]) (fun i=> [(b1, .cells (a8 (xp_ S3.st (4*0))) 84 (0,0)),(b2, .cells (zR_ true S3.st S3.rest S3.many taken) 254 (0,0)),(b3, .cells (a8 (xp_ S3.st (4*i))) 84 (0,0))]) (fun i=>i≤8) (fun i=>8 - i) 0 rfl rfl ?_ ?_
   ·omega
   intro i ji hi
   refine kv ?_
   have hol:=outPre_length S3.st (4*i)
   have hol0:=outPre_length S3.st (4*0)
   by_cases hi8:i<8
   ·first|with_reducible refine ks [] @js_ ?_|refine kp @js_ ?_
    refine Again.mk (i+1) (by omega) (by omega) ?_ rfl
    rw[afO_]
   ·have hie:i=8:=by omega
    subst hie
    first|with_reducible refine ks [] @js_ ?_|refine kp @js_ ?_
    rw[show 4*8=32 from rfl]
    refine⟨_,(ke @js_),⟨hw1,hw2,hw3,trivial⟩, ?_⟩
    rfl
end Go.Proofs
end
section
open Go Go.Proofs Go.Sx Go.Dig
namespace Go.Proofs
set_option maxRecDepth 10000
set_option maxHeartbeats 1000000
set_option linter.unusedSimpArgs false
set_option linter.defProp false
def Z3_:=And.intro (And.intro (And.intro (And.intro (@w6_) (@Zl_)) (And.intro (@w2_) (And.intro (@vO_) (@Ze_)))) (And.intro (And.intro (@Zo_) (@v3_)) (And.intro (@kN_) (And.intro (@xg_) (@vU_))))) (And.intro (And.intro (And.intro (@vF_) (@v0_)) (And.intro (@vN_) (And.intro (@vK_) (@kX_)))) (And.intro (And.intro (@jE_) (@aq5_)) (And.intro (@ami_) (And.intro (@amp_) (@afL_)))))
theorem aly_ (x:Value) (b2 off:Nat) (l:List (List UInt8)) (arr:Array Value) (E:TypeId) (fz:Nat×Nat) (w:World) (hG:GlobE w)
  (hS:StrS w x l b2 off arr E fz) (hn:l.length<1099511627776) (hz: ∀i,i<l.length→(l.getD i []).length<1099511627776):
  Rets Tryz.prog 143 #[x] w (fun v D=>v= .agg (a8 (sumV l))∧D= []):=by
 obtain⟨e0,e1,f0,f1,h0,h1⟩:=id hG
 have hg1:4<w.heap.size:=(Array.getElem?_eq_some_iff.1 h1).1
 have hbl:0<l.length→b2<w.heap.size:=fun h=>(Array.getElem?_eq_some_iff.1 (hS.has h)).1
 refine Rets.enterV Tryz.func143 rfl (rs:= [.cell 2 84]) Tryz.results143 Tryz.ntmps143 ?_
 refine kf ?_
 first|with_reducible refine ks [] @Z3_ ?_|refine kp @Z3_ ?_
 refine Ow.alloc rfl rfl Tryz.zr84 fun b1 hb1 hw1=> ?_
 refine ko @Z3_ ?_
 first|with_reducible refine ks [] @Z3_ ?_|refine kp @Z3_ ?_
 refine Ow.alloc rfl rfl apf_ fun b3 hb3 hw3=> ?_
 obtain⟨h13,-⟩:=hb3
 rw[Wk_]
 refine ko @Z3_ ?_
 first|with_reducible refine ks [] @Z3_ ?_|refine kp @Z3_ ?_
 refine Ow.callM rfl rfl Tryz.call180 (by simp[keys]) (fun w' hw'=>adu_ _ _ ⟨List.replicate 8 0,List.replicate 64 0,0⟩ _ _ _ _ _ _ _ _ w' (GlobE.of hG hw' (by simp[keys];omega)) (by omega) ⟨by simp,by simp,by simp⟩ (fun h=>by have:=hbl h;omega) (hS.old hw' (fun h=>by have:=hbl h;simp[keys];omega)) hn hz (hw'.has _ _ (List.mem_cons_of_mem _ List.mem_cons_self))) ?_
 refine ko @Z3_ ?_
 first|with_reducible refine ks [] @Z3_ ?_|refine kp @Z3_ ?_
 have hok:=v1_ l.flatten as4_
 have e:ZC_ false ⟨List.replicate 8 0,List.replicate 64 0,0⟩=H0:=rfl
 rw[e]
 refine Ow.callFV rfl Tryz.call181 (fun w' hw'=>ajA_ _ true _ _ w' (GlobE.of hG hw' (by simp[keys];omega)) (by omega) hok (hw'.has _ _ (List.mem_cons_of_mem _ List.mem_cons_self))) ?_
 have hsl: (hsum (ZC_ true (je_ H0 l.flatten)) (vw_ 0 l)).length=32:=outPre_length _ _
 refine ko @Z3_ ?_
 first|with_reducible refine ks [] @Z3_ ?_|refine kp @Z3_ ?_
 refine⟨_,(ke @Z3_),⟨hw1,hw3,trivial⟩, ?_⟩
 rfl
end Go.Proofs
end
namespace Go.Dig
open Go.Sx
def quoN (t:UInt64):Nat→UInt64
 |0=>t
 |n+1=>quoN t n / 256
theorem aiX_ (t:UInt64) (n:Nat): (quoN t n).toNat=t.toNat / 256^n:=by
 induction n with
 |zero=>simp[quoN]
 |succ n ih=>
  show(quoN t n / 256).toNat=_
  rw[UInt64.toNat_div,ih,Nat.pow_succ,Nat.div_div_eq_div_mul];rfl
def arq_ (t:UInt64) (j:Nat):UInt8:=UInt8.ofNat (jZ_ t (56 - 8*j)).toNat
theorem anT_ (t:UInt64) (i:Nat) (h:i<8):UInt8.ofNat (quoN t i%256).toNat=arq_ t (7 - i):=by
 apply UInt8.toNat.inj
 unfold arq_
 rw[UInt8.toNat_ofNat',UInt8.toNat_ofNat',UInt64.toNat_mod,aiX_,jZ_,UInt64.toNat_ofNat']
 have e:56 - 8* (7 - i)=8*i:=by omega
 have ht:=t.toNat_lt
 have hd:t.toNat / 2^ (8*i)≤t.toNat:=Nat.div_le_self _ _
 rw[e,Nat.mod_eq_of_lt (a:=t.toNat / 2^ (8*i)) (by omega)]
 have e2:256^i=2^ (8*i):=by rw[Nat.pow_mul]
 rw[e2,show(256:UInt64).toNat=256 from rfl]
 omega
def jL_ (t:UInt64) (i:Nat):List UInt8:=(List.range 8).map fun j=>if 8≤j+i then arq_ t j else 0
theorem VG_ (t:UInt64) (i:Nat): (jL_ t i).length=8:=by simp[jL_]
theorem ac1_ (t:UInt64):jL_ t 0=List.replicate 8 0:=by
 apply List.ext_getElem
 ·simp[jL_]
 intro k hk1 hk2
 have:k<8:=by simpa [jL_] using hk1
 simp only[jL_,List.getElem_map,List.getElem_range,List.getElem_replicate]
 rw[if_neg (by omega)]
theorem acO_ (t:UInt64) (i:Nat) (h:i<8): (jL_ t i).set (7 - i) (UInt8.ofNat (quoN t i%256).toNat)=jL_ t (i+1):=by
 rw[anT_ t i h]
 apply List.ext_getElem
 ·simp[jL_]
 intro j hj1 hj2
 have hj:j<8:=by simpa [jL_] using hj2
 rw[List.getElem_set]
 by_cases h1:7 - i=j
 ·rw[if_pos h1]
  simp only[jL_,List.getElem_map,List.getElem_range]
  rw[if_pos (by omega),h1]
 ·rw[if_neg h1]
  simp only[jL_,List.getElem_map,List.getElem_range]
  by_cases h2:8≤j+i
  ·rw[if_pos h2,if_pos (by omega)]
  ·rw[if_neg h2,if_neg (by omega)]
theorem ad2_ (t:UInt64):jL_ (8*t) 8=len8 t:=by
 unfold jL_ len8
 apply List.map_congr_left
 intro j hj
 rw[if_pos (by omega)];rfl
def padR (m:List UInt8):List UInt8:=m++ [128]++List.replicate (ve_ ((m.length+1)%64)) 0++len8 (UInt64.ofNat m.length)
theorem VZ_ (n:Nat): (n+ve_ (n%64))%64=56∧ve_ (n%64)<64:=by unfold ve_;omega
theorem afi_ (m:List UInt8): (padR m).length%64=0∧(padR m).length≤m.length+72:=by
 have:=VZ_ (m.length+1)
 simp only[padR,List.length_append,List.length_replicate,X0_,List.length_cons,List.length_nil]
 omega
def shaR (m:List UInt8):List UInt8:=xp_ (ZG_ initL (padR m) ((padR m).length / 64)) 32
theorem aiJ_ (st s:List UInt32):x6_ st s 8= [st.getD 0 0+s.getD 0 0,st.getD 1 0+s.getD 1 0,st.getD 2 0+s.getD 2 0,st.getD 3 0+s.getD 3 0,st.getD 4 0+s.getD 4 0,st.getD 5 0+s.getD 5 0,st.getD 6 0+s.getD 6 0,st.getD 7 0+s.getD 7 0]:=rfl
end Go.Dig
section
open Go Go.Proofs Go.Sx Go.Dig
namespace Go.Proofs
set_option maxRecDepth 10000
set_option maxHeartbeats 1000000
set_option linter.unusedSimpArgs false
set_option linter.defProp false
def zK_:= @jE_
theorem K0_ (m:List UInt8) (hm:m.length<1099511627776) (w:World):
  Rets Tryz.prog 152 #[vs m] w (fun v D=>v=vs (padR m)∧D= []):=by
 refine Rets.enterV Tryz.func152 rfl (rs:= [.tmp 2]) Tryz.results152 Tryz.ntmps152 ?_
 refine kf ?_
 first|with_reducible refine ks [] @zK_ ?_|refine kp @zK_ ?_
 have hz:=VZ_ (m.length+1)
 rw[show m++ [128]=m++ [128]++List.replicate 0 0 from(List.append_nil _).symm]
 refine Cw.loopG (G:=Nat) [9,10,11,12,13,14,3] (fun g=> [(3,vs (m++ [128]++List.replicate g 0))]) (fun g=> []) (fun g=>g≤ve_ ((m.length+1)%64)) (fun g=>ve_ ((m.length+1)%64) - g) 0 rfl rfl ?_ ?_
 ·omega
 intro g j hg
 refine kv ?_
 have hl: (m++ [128]++List.replicate g 0).length=m.length+1+g:=by simp;omega
 by_cases hlt:g<ve_ ((m.length+1)%64)
 ·have h56: (m.length+1+g)%64≠56:=by unfold ve_ at*;omega
  first|with_reducible refine ks [] (And.intro @zK_ @hl) ?_|refine kp (And.intro @zK_ @hl) ?_
  refine Again.mk (g+1) (by omega) (by omega) rfl ?_
  rw[show m++ [128]++List.replicate (g+1) 0=m++ [128]++List.replicate g 0++ [0] from by rw[List.replicate_succ'];simp]
  rfl
 ·have hge:g=ve_ ((m.length+1)%64):=by omega
  subst hge
  first|with_reducible refine ks [] (And.intro @zK_ @hl) ?_|refine kp (And.intro @zK_ @hl) ?_
  refine Ow.alloc rfl rfl Tryz.zr255 fun b1 hb1 hw1=> ?_
  rw[show UInt64.ofInt (m.length:Int)=UInt64.ofNat m.length from K6_ _]
  refine ko @zK_ ?_
  first|with_reducible refine ks [] @zK_ ?_|refine kp @zK_ ?_
  generalize ht:UInt64.ofNat m.length*8=t
  rw[←ac1_ t]
  refine Cw.loopG (G:=Nat) [19,20,23,24,25,26,27,28,29,30,4,21,22,6] (fun i=> [(4,v64 (quoN t i)),(6,vi i)]) (fun i=> [(b1, .cells (a8 (jL_ t i)) 255 (0,0))]) (fun i=>i≤8) (fun i=>8 - i) 0 rfl rfl ?_ ?_
  ·omega
  intro i ji hi
  refine kv ?_
  have htl:=VG_ t i
  by_cases hi8:i<8
  ·first|with_reducible refine ks [] @zK_ ?_|refine kp @zK_ ?_
   refine Again.mk (i+1) (by omega) (by omega) ?_ rfl
   rw[acO_ t i hi8]
  ·have hie:i=8:=by omega
   subst hie
   first|with_reducible refine ks [] @zK_ ?_|refine kp @zK_ ?_
   rw[List.drop_zero,List.take_of_length_le (show(jL_ t 8).length≤8 by omega),←ht,UInt64.mul_comm,ad2_]
   refine⟨_,(ke @zK_),⟨hw1,trivial⟩, ?_⟩
   rfl
theorem ahG_ (st:List UInt32) (blk:List UInt8) (hst:st.length=8) (hbk:blk.length=64) (w:World):
  Rets Tryz.prog 153 #[.agg (a32 st),vs blk] w (fun v D=>v= .agg (a32 (comp st blk))∧D= []):=by
 have hkl:kL.length=64:=rfl
 refine Rets.enterV Tryz.func153 rfl (rs:= [.cell 4 227]) Tryz.results153 Tryz.ntmps153 ?_
 refine kf ?_
 first|with_reducible refine ks [] @zK_ ?_|refine kp @zK_ ?_
 refine Ow.box rfl rfl fun b1 hb1 hw1=> ?_
 refine ko @zK_ ?_
 refine Ow.alloc rfl rfl Tryz.zr227 fun b2 hb2 hw2=> ?_
 obtain⟨h12,-⟩:=hb2
 refine ko @zK_ ?_
 first|with_reducible refine ks [] @zK_ ?_|refine kp @zK_ ?_
 refine Ow.alloc rfl rfl Tryz.zr256 fun b3 hb3 hw3=> ?_
 obtain⟨h13,h23,-⟩:=hb3
 refine ko @zK_ ?_
 first|with_reducible refine ks [] @zK_ ?_|refine kp @zK_ ?_
 rw[←ab1_ blk]
 refine Cw.loopG (G:=Nat) [22,23,26,27,28,29,30,31,32,33,34,35,36,37,38,39,40,41,42,43,44,45,46,47,48,49,50,51,52,53,54,55,56,24,25,6] (fun g=> [(6,vi g)]) (fun g=> [(b1, .cells (a32 st) 227 (0,0)),(b2, .cells (a32 (List.replicate 8 0)) 227 (0,0)),(b3, .cells (a32 (WC_ blk g)) 256 (0,0))]) (fun g=>g≤16) (fun g=>16 - g) 0 rfl rfl ?_ ?_
 ·omega
 intro g j hg
 refine kv ?_
 have hlen:=vT_ blk g
 by_cases hlt:g<16
 ·first|with_reducible refine ks [] @zK_ ?_|refine kp @zK_ ?_
  refine Cw.regionO [0,1,2,3,4,5,6,7,8,9,10,11,12,13,14,15,16,17,18,19,20,21,22,23,24,25,26,27,28,29,30,31] [31] rfl (by kernel_rfl) (by kernel_rfl) ?_
  simp only[zp_, ↓zi_, ↓ze_, ↓zA_, ↓zz_,zf_]
  refine kq @zK_ ?_
  refine Ow.store rfl rfl rfl (ke @zK_) ?_
  refine ko @zK_ ?_
  first|with_reducible refine ks [] @zK_ ?_|refine kp @zK_ ?_
  exact Again.mk (g+1) (by omega) (by omega) (by rw[←abM_];rfl) rfl
 ·have hg16:g=16:=by omega
  subst hg16
  first|with_reducible refine ks [] @zK_ ?_|refine kp @zK_ ?_
  rw[agw_]
  refine Cw.loopG (G:=Nat) [57,58,61,62,63,64,65,66,67,68,8,9,69,70,71,72,73,74,75,76,77,78,79,80,81,82,83,84,85,86,87,88,89,90,91,92,93,94,95,96,97,59,60,7] (fun g=> [(7,vi g)]) (fun g=> [(b1, .cells (a32 st) 227 (0,0)),(b2, .cells (a32 (List.replicate 8 0)) 227 (0,0)),(b3, .cells (a32 (wG blk g)) 256 (0,0))]) (fun g=>16≤g∧g≤64) (fun g=>64 - g) 16 rfl rfl ?_ ?_
  ·omega
  intro g j hg
  refine kv ?_
  obtain⟨hg1,hg2⟩:=hg
  have hlen:=acB_ blk g
  by_cases hlt:g<64
  ·first|with_reducible refine ks [] @zK_ ?_|refine kp @zK_ ?_
   refine Cw.regionO [0,1,2,4,5,6,3,8,7,9] [] rfl (by kernel_rfl) (by kernel_rfl) ?_
   simp only[zp_, ↓zi_, ↓ze_, ↓zA_, ↓zz_,zf_]
   refine kq @zK_ ?_
   first|with_reducible refine ks [] @zK_ ?_|refine kp @zK_ ?_
   refine Cw.regionO [0,1,3,6,7,9,10,11,14,16,19,20,23,24,25,12,26,2,4,5,8,13,15,17,18,21,22,27,28,29] [29] rfl (by kernel_rfl) (by kernel_rfl) ?_
   simp only[zp_, ↓zi_, ↓ze_, ↓zA_, ↓zz_,zf_]
   refine kq @zK_ ?_
   refine Ow.callFV rfl Tryz.call186 (fun w' hw'=>jl_ _ 17 w') ?_
   refine kq @zK_ ?_
   refine Ow.callFV rfl Tryz.call186 (fun w' hw'=>jl_ _ 19 w') ?_
   refine kq @zK_ ?_
   refine Ow.callFV rfl Tryz.call186 (fun w' hw'=>jl_ _ 7 w') ?_
   refine kq @zK_ ?_
   refine Ow.callFV rfl Tryz.call186 (fun w' hw'=>jl_ _ 18 w') ?_
   refine kq @zK_ ?_
   refine Ow.store rfl rfl rfl (ke @zK_) ?_
   refine ko @zK_ ?_
   first|with_reducible refine ks [] @zK_ ?_|refine kp @zK_ ?_
   exact Again.mk (g+1) (by omega) (by omega) (by rw[ajE_ blk g hg1];rfl) rfl
  ·have hg64:g=64:=by omega
   subst hg64
   rw[apd_]
   have hwl:=XX_ blk
   first|with_reducible refine ks [] @zK_ ?_|refine kp @zK_ ?_
   refine Ow.callFV rfl Tryz.call187 (fun w' hw'=>aeh_ w') ?_
   refine ko @zK_ ?_
   refine Ow.alloc rfl rfl Tryz.zr256 fun b4 hb4 hw4=> ?_
   obtain⟨h14,h24,h34,-⟩:=hb4
   refine ko @zK_ ?_
   first|with_reducible refine ks [] @zK_ ?_|refine kp @zK_ ?_
   refine Cw.regionO [0,2,4,6,1,8,3,9,5,10,7,11] [] rfl (by kernel_rfl) (by kernel_rfl) ?_
   simp only[zp_, ↓zi_, ↓ze_, ↓zA_, ↓zz_,zf_]
   refine kq @zK_ ?_
   first|with_reducible refine ks [] @zK_ ?_|refine kp @zK_ ?_
   refine Cw.regionO [0,2,4,6,1,8,3,9,5,10,7,11] [] rfl (by kernel_rfl) (by kernel_rfl) ?_
   simp only[zp_, ↓zi_, ↓ze_, ↓zA_, ↓zz_,zf_]
   refine kq @zK_ ?_
   first|with_reducible refine ks [] @zK_ ?_|refine kp @zK_ ?_
   generalize hw:wAll blk=W at*
   refine Cw.loopG (G:=Nat) [115,116,119,120,121,122,123,124,125,126,127,128,129,130,131,132,133,134,135,136,137,138,139,140,141,142,143,144,145,20,146,147,148,149,150,151,152,153,154,155,156,157,158,159,160,161,162,163,164,165,21,166,18,167,17,168,16,169,170,171,15,172,14,173,13,174,12,175,176,177,11,117,118,19] (fun g=> [(19,vi g),(11,v32 ((rGo st W g).getD 0 0)),(12,v32 ((rGo st W g).getD 1 0)),(13,v32 ((rGo st W g).getD 2 0)),(14,v32 ((rGo st W g).getD 3 0)),(15,v32 ((rGo st W g).getD 4 0)),(16,v32 ((rGo st W g).getD 5 0)),(17,v32 ((rGo st W g).getD 6 0)),(18,v32 ((rGo st W g).getD 7 0))]) (fun g=> [(b1, .cells (a32 st) 227 (0,0)),(b2, .cells (a32 (List.replicate 8 0)) 227 (0,0)),(b3, .cells (a32 W) 256 (0,0)),(b4, .cells (a32 kL) 256 (0,0))]) (fun g=>g≤64) (fun g=>64 - g) 0 rfl rfl ?_ ?_
   ·omega
   ·intro g j hg
    refine kv ?_
    by_cases hlt:g<64
    ·first|with_reducible refine ks [] @zK_ ?_|refine kp @zK_ ?_
     refine Cw.regionO [0,1,3,6,10,11,12,13,14,15,16,17,19,20,23,24,21,25,2,4,5,7,8,9,18,22,26,27] [] rfl (by kernel_rfl) (by kernel_rfl) ?_
     simp only[zp_, ↓zi_, ↓ze_, ↓zA_, ↓zz_,zf_]
     refine kq @zK_ ?_
     refine Ow.callFV rfl Tryz.call186 (fun w' hw'=>jl_ _ 6 w') ?_
     refine kq @zK_ ?_
     refine Ow.callFV rfl Tryz.call186 (fun w' hw'=>jl_ _ 11 w') ?_
     refine kq @zK_ ?_
     refine Ow.callFV rfl Tryz.call186 (fun w' hw'=>jl_ _ 25 w') ?_
     refine kq @zK_ ?_
     first|with_reducible refine ks [] @zK_ ?_|refine kp @zK_ ?_
     refine Ow.callFV rfl Tryz.call186 (fun w' hw'=>jl_ _ 2 w') ?_
     refine ko @zK_ ?_
     refine Ow.callFV rfl Tryz.call186 (fun w' hw'=>jl_ _ 13 w') ?_
     refine ko @zK_ ?_
     refine Ow.callFV rfl Tryz.call186 (fun w' hw'=>jl_ _ 22 w') ?_
     refine ko @zK_ ?_
     first|with_reducible refine ks [] @zK_ ?_|refine kp @zK_ ?_
     exact Again.mk (g+1) (by omega) (by omega) rfl rfl
    ·have hg64:g=64:=by omega
     subst hg64
     first|with_reducible refine ks [] @zK_ ?_|refine kp @zK_ ?_
     have hcomp:comp st blk=x6_ st (rGo st W 64) 8:=by rw[←hw];rfl
     rw[hcomp]
     generalize rGo st W 64=R at*
     rw[aiJ_]
     refine Ow.build (.agg (a32 [st.getD 0 0+R.getD 0 0,st.getD 1 0+R.getD 1 0,st.getD 2 0+R.getD 2 0,st.getD 3 0+R.getD 3 0,st.getD 4 0+R.getD 4 0,st.getD 5 0+R.getD 5 0,st.getD 6 0+R.getD 6 0,st.getD 7 0+R.getD 7 0])) rfl (by kernel_rfl) ?_
     refine ko @zK_ ?_
     first|with_reducible refine ks [] @zK_ ?_|refine kp @zK_ ?_
     refine⟨_,(ke @zK_),⟨hw1,hw2,hw3,hw4,trivial⟩, ?_⟩
     rfl
end Go.Proofs
end
section
open Go Go.Proofs Go.Sx Go.Dig
namespace Go.Proofs
set_option maxRecDepth 10000
set_option maxHeartbeats 1000000
set_option linter.unusedSimpArgs false
set_option linter.defProp false
def j9_:= @jE_
theorem afS_ (m:List UInt8) (hm:m.length<1099511627776) (w:World):
  Rets Tryz.prog 110 #[vs m] w (fun v D=>v= .agg (a8 (shaR m))∧D= []):=by
 refine Rets.enterV Tryz.func110 rfl (rs:= [.cell 2 84]) Tryz.results110 Tryz.ntmps110 ?_
 refine kf ?_
 first|with_reducible refine ks [] @j9_ ?_|refine kp @j9_ ?_
 refine Ow.alloc rfl rfl Tryz.zr84 fun b1 hb1 hw1=> ?_
 refine ko @j9_ ?_
 first|with_reducible refine ks [] @j9_ ?_|refine kp @j9_ ?_
 refine Ow.callFV rfl Tryz.call152 (fun w' hw'=>K0_ m hm w') ?_
 have hp:=afi_ m
 unfold shaR
 generalize padR m=p at*
 refine ko @j9_ ?_
 first|with_reducible refine ks [] @j9_ ?_|refine kp @j9_ ?_
 refine Ow.build (.agg (a32 initL)) rfl (by kernel_rfl) ?_
 refine ko @j9_ ?_
 refine Ow.alloc rfl rfl Tryz.zr227 fun b2 hb2 hw2=> ?_
 obtain⟨h12,-⟩:=hb2
 have hil:initL.length=8:=rfl
 refine ko @j9_ ?_
 first|with_reducible refine ks [] @j9_ ?_|refine kp @j9_ ?_
 rw[show a32 initL=a32 (ZG_ initL p 0) from rfl]
 refine Cw.loopG (G:=Nat) [11,12,13,14,17,18,19,20,21,22,23,15,16,5] (fun g=> [(5,vi (64*g))]) (fun g=> [(b1, .cells (a8 (List.replicate 32 0)) 84 (0,0)),(b2, .cells (a32 (ZG_ initL p g)) 227 (0,0))]) (fun g=>64*g≤p.length) (fun g=>p.length - 64*g) 0 rfl rfl ?_ ?_
 ·omega
 intro g j hg
 refine kv ?_
 have hcl:=acc_ initL p g rfl
 by_cases hlt:64*g<p.length
 ·first|with_reducible refine ks [] @j9_ ?_|refine kp @j9_ ?_
  refine Cw.regionO [1,2,3,4,5,0,6,7] [7] rfl (by kernel_rfl) (by kernel_rfl) ?_
  simp only[zp_, ↓zi_, ↓ze_, ↓zA_, ↓zz_,zf_]
  refine kq @j9_ ?_
  rw[show List.drop (64*g) (List.take (64*g+64) p)=(p.drop (64*g)).take 64 from by rw[List.drop_take];congr 1;omega]
  refine Ow.callFV rfl Tryz.call153 (fun w' hw'=>ahG_ _ _ hcl (by simp;omega) w') ?_
  have hcl2:=Z4_ (ZG_ initL p g) ((p.drop (64*g)).take 64)
  refine kq @j9_ ?_
  refine Ow.store rfl rfl rfl (ke @j9_) ?_
  refine ko @j9_ ?_
  first|with_reducible refine ks [] @j9_ ?_|refine kp @j9_ ?_
  exact Again.mk (g+1) (by omega) (by omega) rfl (by rw[show 64* ((g+1:Nat):Int)=64* (g:Int)+64 from by omega];rfl)
 ·have hge:g=p.length / 64:=by omega
  first|with_reducible refine ks [] @j9_ ?_|refine kp @j9_ ?_
  rw[←hge]
  refine Ow.alloc rfl rfl Tryz.zr84 fun b3 hb3 hw3=> ?_
  obtain⟨h13,h23,-⟩:=hb3
  refine ko @j9_ ?_
  first|with_reducible refine ks [] @j9_ ?_|refine kp @j9_ ?_
  generalize ZG_ initL p g=S at*
  rw[show [(b1,Obj.cells (a8 (List.replicate 32 0)) 84 (0,0)),(b2, .cells (a32 S) 227 (0,0)),(b3, .cells (a8 (List.replicate 32 0)) 84 (0,0))]= [(b1,Obj.cells (a8 (List.replicate 32 0)) 84 (0,0)),(b2, .cells (a32 S) 227 (0,0)),(b3, .cells (a8 (xp_ S 0)) 84 (0,0))] from by rw[KQ_]]
  refine Cw.loopG (G:=Nat) [24,25,28,29,30,31,32,33,34,35,36,37,38,39,40,26,27,7] (fun k=> [(7,vi k)]) (fun k=> [(b1, .cells (a8 (List.replicate 32 0)) 84 (0,0)),(b2, .cells (a32 S) 227 (0,0)),(b3, .cells (a8 (xp_ S k)) 84 (0,0))]) (fun k=>k≤32) (fun k=>32 - k) 0 rfl rfl ?_ ?_
  ·omega
  intro k jk hk
  refine kv ?_
  have hol:=outPre_length S k
  by_cases hk:k<32
  ·first|with_reducible refine ks [] @j9_ ?_|refine kp @j9_ ?_
   refine Again.mk (k+1) (by omega) (by omega) ?_ rfl
   have e: (UInt64.ofInt (24 - 8* ((k:Int)%4))).toNat=24 - 8* (k%4):=by
    rw[show(24 - 8* ((k:Int)%4))=((24 - 8* (k%4):Nat):Int) from by omega,K6_,UInt64.toNat_ofNat',Nat.mod_eq_of_lt (by omega)]
   rw[e,←kJ_];rfl
  ·have hke:k=32:=by omega
   subst hke
   first|with_reducible refine ks [] @j9_ ?_|refine kp @j9_ ?_
   refine⟨_,(ke @j9_),⟨hw1,hw2,hw3,trivial⟩, ?_⟩
   rfl
end Go.Proofs
end
namespace Go.Dig
open Go.Sx
structure Inv (s:Hs) (p:List UInt8):Prop where
 ok:s.Ok
 st:s.st=ZG_ initL p (p.length / 64)
 many:s.many=p.length%64
 rest:s.rest.take s.many=p.drop (64* (p.length / 64))
theorem Inv.put {s:Hs} {p:List UInt8} (h:Inv s p) (x:UInt8):Inv (Jb_ s x) (p++ [x]):=by
 obtain⟨hok,hst,hmany,hrest⟩:=h
 have hk:=WO_ x hok
 have hm64:=hok.many
 have hrl:=hok.rest
 have hle:64* (p.length / 64)≤p.length:=by omega
 have htake: (s.rest.set s.many x).take (s.many+1)=p.drop (64* (p.length / 64))++ [x]:=by
  rw[List.take_add_one,List.take_set,←hrest]
  congr 1
  ·rw[List.set_eq_of_length_le (by simp only[List.length_take];exact Nat.min_le_left _ _)]
  ·simp[hrl,hm64]
 have hlen: (p++ [x]).length=p.length+1:=by simp
 have hc:ZG_ initL (p++ [x]) (p.length / 64)=ZG_ initL p (p.length / 64):=acq_ _ _ _ _ hle
 by_cases h64:s.many+1=64
 ·have e:Jb_ s x=⟨comp s.st (s.rest.set s.many x),s.rest.set s.many x,0⟩:=by unfold Jb_;rw[if_pos h64]
  have hd: (p.length+1) / 64=p.length / 64+1:=by omega
  have hr: (s.rest.set s.many x)=p.drop (64* (p.length / 64))++ [x]:=by
   rw[←htake,h64,List.take_of_length_le (by simp[hrl])]
  refine⟨hk, ?_, ?_, ?_⟩
  ·rw[e,hlen,hd]
   show comp s.st _=comp (ZG_ initL (p++ [x]) (p.length / 64)) _
   rw[hc,←hst,hr,List.drop_append_of_le_length hle,List.take_of_length_le (by simp;omega)]
  ·rw[e,hlen];show 0=_;omega
  ·rw[e,hlen]
   show List.take 0 _=_
   rw[List.take_zero,List.drop_of_length_le (by rw[hlen];omega)]
 ·have e:Jb_ s x=⟨s.st,s.rest.set s.many x,s.many+1⟩:=by unfold Jb_;rw[if_neg h64]
  have hd: (p.length+1) / 64=p.length / 64:=by omega
  refine⟨hk, ?_, ?_, ?_⟩
  ·rw[e,hlen,hd,hc];exact hst
  ·rw[e,hlen];show s.many+1=_;omega
  ·rw[e,hlen,hd]
   show List.take (s.many+1) (s.rest.set s.many x)=_
   rw[htake,List.drop_append_of_le_length hle]
theorem Inv.puts {s:Hs} {p:List UInt8} (h:Inv s p) (l:List UInt8):Inv (je_ s l) (p++l):=by
 induction l generalizing s p with
 |nil=>rw[List.append_nil];exact h
 |cons x r ih=>
  have:=ih (h.put x)
  rw[List.append_assoc] at this
  exact this
theorem Inv.zero:Inv H0 []:=⟨as4_,rfl,rfl,rfl⟩
theorem aor_ (p:List UInt8): (je_ H0 p).st=ZG_ initL p (p.length / 64):=(Inv.zero.puts p).st
theorem ak3_ (l:List (List UInt8)) (n:Nat):vw_ (UInt64.ofNat n) l=UInt64.ofNat (n+l.flatten.length):=by
 induction l generalizing n with
 |nil=>rfl
 |cons a r ih=>
  show vw_ (UInt64.ofNat n+UInt64.ofNat a.length) r=_
  rw[←UInt64.ofNat_add,ih,List.flatten_cons,List.length_append,Nat.add_assoc]
theorem ap0_ (m:List UInt8):hsum (je_ H0 m) (UInt64.ofNat m.length)=shaR m:=by
 unfold hsum shaR
 rw[←aor_]
 suffices h:ahb_ (je_ H0 m) (UInt64.ofNat m.length)=je_ H0 (padR m) by rw[h]
 have hmany: (Jb_ (je_ H0 m) 128).many=(m.length+1)%64:=by
  have:=((Inv.zero.puts m).put 128).many
  rw[this];simp
 unfold ahb_ padR
 rw[hmany,j5_,j5_,j5_,show je_ (je_ H0 m) [128]=Jb_ (je_ H0 m) 128 from rfl]
theorem sumV_eq (l:List (List UInt8)):sumV l=shaR l.flatten:=by
 unfold sumV
 have:=ak3_ l 0
 rw[Nat.zero_add] at this
 rw[show(0:UInt64)=UInt64.ofNat 0 from rfl,this,ap0_]
end Go.Dig
section
open Go Go.Proofs Go.Sx Go.StP
namespace Go.Proofs
set_option maxRecDepth 10000
set_option maxHeartbeats 400000
set_option linter.unusedSimpArgs false
theorem GlobE.new {w0 w:World} {L:za_} (hg:GlobE w0) (h:Hp w0 L w) (hn:New w0.heap.size L):GlobE w:=by
 obtain⟨e0,e1,f0,f1,h0,h1⟩:=id hg
 have:4<w0.heap.size:=(Array.getElem?_eq_some_iff.1 h1).1
 exact hg.of h fun b hb=>by have:=hn.le b hb;omega
theorem ZY_ {k:Int} {t:List UInt8} (h:xu_ k t=true): (qB_ k t).length<100000:=by
 obtain⟨h1,h2,h3⟩:=Z5_ h
 have hh: (wK_ k).length≤4:=by unfold wK_;simp only[List.length_drop,List.length_take,List.length_cons,List.length_nil];omega
 have:=zQ_ (t.length:Int)
 unfold qB_ j2_
 rw[List.length_append,List.length_append]
 omega
theorem Qr_ (m:List UInt8): (Dig.shaR m).length=32:=Dig.outPre_length _ _
set_option linter.defProp false
def zt_:=And.intro (And.intro (And.intro (@qb_) (@zP_)) (And.intro (@zO_) (@zS_))) (And.intro (And.intro (@Sx.tup2_0) (@Sx.tup2_1)) (And.intro (@zc_) (@zb_)))
def idV (k:Int) (t:List UInt8):IdL:=if xu_ k t then⟨Dig.shaR (qB_ k t),Qr_ _⟩ else id0
theorem ajF_:jy_ (wE_ Tryz.prog 84) (zW_ Tryz.prog 84) []=some (.agg (a8 id0.l)):=id (by kernel_rfl)
theorem agQ_ (k:Int) (t:List UInt8) (w:World) (hG:GlobE w):Rets Tryz.prog 104 #[obV k t] w (fun v D=>v= .tuple #[.agg (a8 (idV k t).l), .bool (xu_ k t)]∧D= []):=by
 refine Rets.enterV Tryz.func104 rfl (rs:= [.cell 2 84, .tmp 3]) Tryz.results104 Tryz.ntmps104 ?_
 refine kf ?_
 first|with_reducible refine ks [] @zt_ ?_|refine kp @zt_ ?_
 refine Ow.box rfl rfl fun b1 hb1 hw1=> ?_
 simp only[z4_,z1_,z3_,zd_,List.nil_append]
 refine ko @zt_ ?_
 refine Ow.alloc rfl rfl ZN_ fun b2 hb2 hw2=> ?_
 simp only[zd_,List.nil_append,List.cons_append]
 have h12:b1<b2:=zk_ hb2 (by simp[keys])
 have hi0:=id0.h
 refine ko @zt_ ?_
 refine Ow.callC rfl rfl Tryz.call99 (fun w' hw'=>XS_ k t w') (fun B v D hA hB hN hS=> ?_)
 have hD:New w.heap.size D:=New.mono hB hN
 unfold idV
 cases hr:xu_ k t
 ·rw[hr,if_neg (by decide)] at hS
  subst hS
  have e: ((1:Int) !=0)=true:=rfl
  refine ko @zt_ ?_
  first|with_reducible refine ks [] (And.intro @zt_ @e) ?_|refine kp (And.intro @zt_ @e) ?_
  refine Ow.build (.agg (a8 id0.l)) rfl ajF_ ?_
  refine ko @zt_ ?_
  first|with_reducible refine ks [] @zt_ ?_|refine kp @zt_ ?_
  refine⟨_,(ke @zt_),⟨hw1,hw2,hD⟩, ?_⟩
  rfl
 ·rw[hr,if_pos rfl] at hS
  subst hS
  have e: ((0:Int) !=0)=false:=rfl
  have hfl:=ZY_ hr
  have hzl: ∀i,i< [qB_ k t].length→([qB_ k t].getD i []).length<1099511627776:=fun i hi=>by
   obtain rfl:i=0:=by simpa using hi
   show(qB_ k t).length<_;omega
  refine ko @zt_ ?_
  first|with_reducible refine ks [] (And.intro @zt_ @e) ?_|refine kp (And.intro @zt_ @e) ?_
  refine Ow.buildSlice (e:=9) #[vs (qB_ k t)] rfl rfl (by kernel_rfl) fun b15 hb15 hw15=> ?_
  refine ko @zt_ ?_
  refine Ow.callFV rfl Tryz.call143 (fun w' hw'=>aly_ _ b15 0 [qB_ k t] _ _ _ w' (hG.new hw' (by exact⟨hw1,hw2,New.app hD ⟨hw15,trivial⟩⟩)) (StrS.lit [qB_ k t] rfl rfl (hw'.has _ (.cells #[vs (qB_ k t)] 9 (0,0)) (by simp))) (by show(1:Nat)<1099511627776;omega) hzl) ?_
  rw[Dig.sumV_eq,show([qB_ k t]:List (List UInt8)).flatten=qB_ k t by simp]
  have hsl:=Qr_ (qB_ k t)
  refine ko @zt_ ?_
  first|with_reducible refine ks [] @zt_ ?_|refine kp @zt_ ?_
  refine⟨_,(ke @zt_),⟨hw1,hw2,hD.app ⟨hw15,trivial⟩⟩, ?_⟩
  rfl
def wx_ (k:Int) (t:List UInt8):List UInt8:=(if k=3 then [99] else if k=2 then [116] else [98])++j2_ t
theorem Kq_ {k:Int} {t:List UInt8} (h:xu_ k t=true):wx_ k t=qB_ k t:=by
 obtain⟨h1,h2,-⟩:=Z5_ h
 unfold wx_ qB_
 rcases(show k=1∨k=2∨k=3 by omega) with rfl|rfl|rfl<;>rfl
theorem Ks_ (k:Int) (t:List UInt8) (w:World) (ht:t.length<100000):Rets Tryz.prog 111 #[obV k t] w (fun v D=>v=vs (wx_ k t)∧D= []):=by
 have tl:=vq_ (s:=t) (by omega)
 refine Rets.enterV Tryz.func111 rfl (rs:= [.tmp 2]) Tryz.results111 Tryz.ntmps111 ?_
 refine kf ?_
 first|with_reducible refine ks [] @zt_ ?_|refine kp @zt_ ?_
 refine Ow.box rfl rfl fun b1 hb1 hw1=> ?_
 simp only[z4_,z1_,z3_,zd_,List.nil_append]
 unfold wx_
 by_cases h3:k=3
 ·have e2: (k==2)=false:=beq_eq_false_iff_ne.2 (by omega)
  have e3: (k==3)=true:=by simp[h3]
  rw[if_pos h3]
  refine ko (And.intro @zt_ (And.intro @e2 (@e3))) ?_
  first|with_reducible refine ks [] (And.intro @zt_ (And.intro @e2 (@e3))) ?_|refine kp (And.intro @zt_ (And.intro @e2 (@e3))) ?_
  refine Ow.callFV rfl Tryz.call154 (fun w' hw'=>vc_ t w' (by omega)) ?_
  refine ko @zt_ ?_
  first|with_reducible refine ks [] @zt_ ?_|refine kp @zt_ ?_
  refine⟨_,(ke @zt_),⟨hw1,trivial⟩, ?_⟩
  rfl
 ·have e3: (k==3)=false:=by simpa using h3
  rw[if_neg h3]
  by_cases h2:k=2
  ·have e2: (k==2)=true:=by simp[h2]
   rw[if_pos h2]
   refine ko (And.intro @zt_ (And.intro @e2 (@e3))) ?_
   first|with_reducible refine ks [] (And.intro @zt_ (And.intro @e2 (@e3))) ?_|refine kp (And.intro @zt_ (And.intro @e2 (@e3))) ?_
   refine Ow.callFV rfl Tryz.call154 (fun w' hw'=>vc_ t w' (by omega)) ?_
   refine ko @zt_ ?_
   first|with_reducible refine ks [] @zt_ ?_|refine kp @zt_ ?_
   refine⟨_,(ke @zt_),⟨hw1,trivial⟩, ?_⟩
   rfl
  ·have e2: (k==2)=false:=by simpa using h2
   rw[if_neg h2]
   refine ko (And.intro @zt_ (And.intro @e2 (@e3))) ?_
   first|with_reducible refine ks [] (And.intro @zt_ (And.intro @e2 (@e3))) ?_|refine kp (And.intro @zt_ (And.intro @e2 (@e3))) ?_
   refine Ow.callFV rfl Tryz.call154 (fun w' hw'=>vc_ t w' (by omega)) ?_
   refine ko @zt_ ?_
   first|with_reducible refine ks [] @zt_ ?_|refine kp @zt_ ?_
   refine⟨_,(ke @zt_),⟨hw1,trivial⟩, ?_⟩
   rfl
theorem agZ_ (k:Int) (t:List UInt8) (w:World) (ht:t.length<100000):Rets Tryz.prog 55 #[obV k t] w (fun v D=>v= .agg (a8 (Dig.shaR (wx_ k t)))∧D= []):=by
 have tl:=vq_ (s:=t) (by omega)
 have fl: (wx_ k t).length<1099511627776:=by
  have nl:=zQ_ (t.length:Int)
  unfold wx_ j2_;rw[List.length_append,List.length_append]
  have: ((if k=3 then [99] else if k=2 then [116] else [98]:List UInt8)).length=1:=by split<;>(try split)<;>rfl
  omega
 have hsl:=Qr_ (wx_ k t)
 refine Rets.enterV Tryz.func55 rfl (rs:= [.cell 2 84]) Tryz.results55 Tryz.ntmps55 ?_
 refine kf ?_
 first|with_reducible refine ks [] @zt_ ?_|refine kp @zt_ ?_
 refine Ow.box rfl rfl fun b1 hb1 hw1=> ?_
 simp only[z4_,z1_,z3_,zd_,List.nil_append]
 refine ko @zt_ ?_
 refine Ow.alloc rfl rfl ZN_ fun b2 hb2 hw2=> ?_
 simp only[zd_,List.nil_append,List.cons_append]
 have h12:b1<b2:=zk_ hb2 (by simp[keys])
 have hi0:=id0.h
 refine ko @zt_ ?_
 refine Ow.callFV rfl Tryz.call111 (fun w' hw'=>Ks_ k t w' ht) ?_
 refine ko @zt_ ?_
 refine Ow.callFV rfl Tryz.call110 (fun w' hw'=>afS_ _ fl w') ?_
 refine ko @zt_ ?_
 first|with_reducible refine ks [] @zt_ ?_|refine kp @zt_ ?_
 refine⟨_,(ke @zt_),⟨hw1,hw2,trivial⟩, ?_⟩
 rfl
end Go.Proofs
end
section
open Go Go.Proofs Go.Sx Go.StP Go.Flo
namespace Go.Proofs
set_option maxRecDepth 10000
set_option maxHeartbeats 400000
set_option linter.unusedSimpArgs false
structure ObL where
 k:Int
 t:List UInt8
def ob0:ObL:=⟨0,[]⟩
def obC (o:ObL):List Value:= [vi o.k,vs o.t]
def ahD_ (s:List UInt8):ObL:=⟨if Xc_ s then frK s else 0,if Xc_ s then(frT s).1 else []⟩
def idOf (s:List UInt8):IdL:=idV (ahD_ s).k (ahD_ s).t
def apa_:List (List UInt8)→List IdL→List ObL→Option (List IdL×List ObL)
 | [],ids,os=>some (ids,os)
 |s::r,ids,os=>if Xc_ s=true∧(ids.any fun y=>(idOf s).l==y.l)=false then apa_ r (ids++ [idOf s]) (os++ [ahD_ s]) else none
def XN_ (l:List PartL):Option (List IdL×List ObL):=match allV l with
 | .ok ts=>apa_ ts [] []
 | .error _=>none
end Go.Proofs
end
section
open Go Go.Proofs Go.Sx
namespace Go.Proofs
set_option maxRecDepth 10000
set_option maxHeartbeats 4000000
set_option linter.unusedSimpArgs false
def hvL:List UInt32:= [0x00000000,0x1db71064,0x3b6e20c8,0x26d930ac,0x76dc4190,0x6b6b51f4,0x4db26158,0x5005713c,0xedb88320,0xf00f9344,0xd6d6a3e8,0xcb61b38c,0x9b64c2b0,0x86d3d2d4,0xa00ae278,0xbdbdf21c]
def abf_ (n:UInt32):UInt32:=zT_ n 4^^^hvL.getD (n&&&15).toNat 0
def ahS_ (n:UInt32):Nat→UInt32
 |0=>n
 |k+1=>abf_ (ahS_ n k)
def ahp_ (n:UInt32) (b:UInt8):UInt32:=ahS_ (n^^^UInt32.ofNat b.toNat) 2
theorem akg_ (n:UInt32): (n&&&15).toNat<16:=by
 rw[UInt32.toNat_and]
 exact Nat.lt_of_le_of_lt Nat.and_le_right (by decide)
def GlobC (w:World):Prop:= ∃e f,w.heap[(2:Nat)]? =some (.cells (a32 hvL) e f)
theorem GlobC.of {w w':World} {L:za_} (h:GlobC w) (hw:Hp w L w') (hn: (2:Nat)∉keys L):GlobC w':=by
 obtain⟨e,f,h⟩:=h
 exact⟨e,f,by rw[hw.old _ (Array.getElem?_eq_some_iff.1 h).1 hn];exact h⟩
theorem apH_:hvL.length=16:=rfl
set_option linter.defProp false
def ql_:=And.intro (And.intro (@zc_) (@kV_)) (And.intro (@vX_) (And.intro (@vJ_) (@zb_)))
theorem ajo_ (n:UInt32) (b:UInt8) (w:World) (hG:GlobC w):
  Rets Tryz.prog 206 #[v32 n,v8 b] w (fun v D=>v=v32 (ahp_ n b)∧D= []):=by
 obtain⟨e,f,htab⟩:=hG
 refine Rets.enterV Tryz.func206 rfl (rs:= [.tmp 4]) Tryz.results206 Tryz.ntmps206 ?_
 refine kf ?_
 first|with_reducible refine ks [] @ql_ ?_|refine kp @ql_ ?_
 unfold ahp_
 generalize n^^^UInt32.ofNat b.toNat=m
 rw[show v32 m=v32 (ahS_ m 0) from rfl]
 refine Cw.loopG (G:=Nat) [10,11,12,13,14,15,16,17,0,18,9] (fun g=> [(0,v32 (ahS_ m g)),(9,vi g)]) (fun g=> []) (fun g=>g≤2) (fun g=>2 - g) 0 rfl rfl ?_ ?_
 ·omega
 intro g j hg
 refine kv ?_
 by_cases hlt:g<2
 ·have h15:=akg_ (ahS_ m g)
  have hl:=apH_
  first|with_reducible refine ks [] (And.intro @ql_ @htab) ?_|refine kp (And.intro @ql_ @htab) ?_
  refine Again.mk (g+1) (by omega) (by omega) rfl rfl
 ·obtain rfl:g=2:=by omega
  first|with_reducible refine ks [] @ql_ ?_|refine kp @ql_ ?_
  refine⟨_,(ke @ql_),trivial, ?_⟩
  rfl
def aaW_ (n:UInt32) (s:List UInt8):UInt32:=s.foldl ahp_ n
theorem Wy_ (n:UInt32) (s:List UInt8) (g:Nat) (h:g<s.length):aaW_ n (s.take (g+1))=ahp_ (aaW_ n (s.take g)) (s.getD g 0):=by
 unfold aaW_
 rw[List.take_succ_eq_append_getElem h,List.foldl_append,List.getD_eq_getElem?_getD,List.getElem?_eq_getElem h]
 rfl
theorem ake_ (n:UInt32) (s:List UInt8) (w:World) (hG:GlobC w) (hs:s.length<1099511627776):
  Rets Tryz.prog 173 #[v32 n,vs s] w (fun v D=>v=v32 (~~~ (aaW_ (~~~ n) s))∧D= []):=by
 refine Rets.enterV Tryz.func173 rfl (rs:= [.tmp 4]) Tryz.results173 Tryz.ntmps173 ?_
 refine kf ?_
 first|with_reducible refine ks [] @ql_ ?_|refine kp @ql_ ?_
 rw[show v32 (~~~ n)=v32 (aaW_ (~~~ n) (s.take 0)) from rfl]
 refine Cw.loopG (G:=Nat) [12,13,6,14,15,16,17,18,5,19,11] (fun g=> [(5,v32 (aaW_ (~~~ n) (s.take g))),(11,vi g)]) (fun g=> []) (fun g=>g≤s.length) (fun g=>s.length - g) 0 rfl rfl ?_ ?_
 ·omega
 intro g j hg
 refine kv ?_
 by_cases hlt:g<s.length
 ·first|with_reducible refine ks [] @ql_ ?_|refine kp @ql_ ?_
  refine Ow.callFV rfl Tryz.call206 (fun w' hw'=>ajo_ _ _ w' (GlobC.of hG hw' (by simp[keys]))) ?_
  refine ko @ql_ ?_
  first|with_reducible refine ks [] @ql_ ?_|refine kp @ql_ ?_
  refine Again.mk (g+1) (by omega) (by omega) rfl ?_
  rw[Wy_ _ _ _ hlt]
  rfl
 ·obtain rfl:g=s.length:=by omega
  first|with_reducible refine ks [] @ql_ ?_|refine kp @ql_ ?_
  rw[List.take_length]
  refine⟨_,(ke @ql_),trivial, ?_⟩
  rfl
def crcV (s:List UInt8):UInt32:= ~~~ (aaW_ (~~~ (0:UInt32)) s)
theorem alB_ (b:Nat) (s:List UInt8) (E:TypeId) (w:World) (hG:GlobC w) (hs:s.length<1099511627776) (ho:w.heap[b]? =some (.cells #[vs s] E (0,0))):
  Rets Tryz.prog 136 #[vsl b 0 1 1] w (fun v D=>v=v32 (crcV s)∧D= []):=by
 have hS:StrS w (vsl b 0 1 1) [s] b 0 #[vs s] E (0,0):=StrS.lit [s] rfl rfl ho
 refine Rets.enterV Tryz.func136 rfl (rs:= [.tmp 2]) Tryz.results136 Tryz.ntmps136 ?_
 refine kf ?_
 first|with_reducible refine ks [] @ql_ ?_|refine kp @ql_ ?_
 refine Cw.loopG (G:=Nat) [9,10,11,5,12,13,14,3,15,8] (fun g=> [(3,v32 (if g=0 then 0 else crcV s)),(8,vi g)]) (fun g=> []) (fun g=>g≤1) (fun g=>1 - g) 0 rfl rfl ?_ ?_
 ·omega
 intro g j hg
 refine kv ?_
 by_cases hlt:g<1
 ·obtain rfl:g=0:=by omega
  have hlg:=hS.get 0 (by simp)
  have hrd:=hS.has (by simp)
  have hix:=fun m=>hS.idx m 0 (by simp)
  ((try with_reducible refine Cw.go [] ?_);(try simp(disch:=(first|assumption|omega| (simp only[x5_,xZ_,UInt64.reduceToNat];try omega))) only[↓Sx.S0,Sx.S1,Tryz.fx,ql_,Nat.reduceAdd,Nat.reducePow,Int.reducePow,Nat.reduceBEq, ↓reduceIte,UInt8.reduceToNat,UInt16.reduceToNat,UInt32.reduceToNat,UInt64.reduceToNat,Int.reduceToNat,Sx.loadV_one,hrd,hlg,hix]))
  refine Ow.callFV rfl Tryz.call173 (fun w' hw'=>ake_ 0 s w' (GlobC.of hG hw' (by simp[keys])) hs) ?_
  refine ko @ql_ ?_
  first|with_reducible refine ks [] @ql_ ?_|refine kp @ql_ ?_
  refine Again.mk 1 (by omega) (by omega) rfl rfl
 ·obtain rfl:g=1:=by omega
  first|with_reducible refine ks [] @ql_ ?_|refine kp @ql_ ?_
  refine⟨_,(ke @ql_),trivial, ?_⟩
  rfl
def KZ_ (n:UInt32) (g:Nat):List UInt8:=(List.range 4).map fun j=>if j<g then UInt8.ofNat (zT_ n (8*j)).toNat else 0
def sum4 (n:UInt32):List UInt8:=KZ_ n 4
theorem V2_ (n:UInt32) (g:Nat): (KZ_ n g).length=4:=by simp[KZ_]
theorem aei_ (n:UInt32) (g:Nat) (h:g<4): (KZ_ n g).set g (UInt8.ofNat (zT_ n (8*g)).toNat)=KZ_ n (g+1):=by
 have:g=0∨g=1∨g=2∨g=3:=by omega
 rcases this with rfl|rfl|rfl|rfl<;>rfl
def wa_ (s:List UInt8):List UInt8:=s++sum4 (crcV s)
theorem Wl_ (s:List UInt8) (w:World) (hG:GlobC w) (hs:s.length<1099511627776):
  Rets Tryz.prog 100 #[vs s] w (fun v D=>v=vs (wa_ s)∧D= []):=by
 have hgl: (2:Nat)<w.heap.size:=by obtain⟨e,f,h⟩:=hG;exact(Array.getElem?_eq_some_iff.1 h).1
 refine Rets.enterV Tryz.func100 rfl (rs:= [.tmp 2]) Tryz.results100 Tryz.ntmps100 ?_
 refine kf ?_
 first|with_reducible refine ks [] @ql_ ?_|refine kp @ql_ ?_
 refine Ow.buildSlice (e:=9) #[vs s] rfl rfl (by kernel_rfl) fun b1 hb1 hw1=> ?_
 refine ko @ql_ ?_
 refine Ow.callFV rfl Tryz.call136 (fun w' hw'=>alB_ b1 s _ w' (GlobC.of hG hw' (by simp[keys];omega)) hs (hw'.has _ _ List.mem_cons_self)) ?_
 refine ko @ql_ ?_
 first|with_reducible refine ks [] @ql_ ?_|refine kp @ql_ ?_
 unfold wa_
 generalize crcV s=n
 refine Ow.alloc rfl rfl Tryz.zr209 fun b2 hb2 hw2=> ?_
 obtain⟨h12,-⟩:=hb2
 refine ko @ql_ ?_
 first|with_reducible refine ks [] @ql_ ?_|refine kp @ql_ ?_
 rw[show a8 (List.replicate 4 0)=a8 (KZ_ n 0) from rfl]
 refine Cw.loopG (G:=Nat) [10,11,5,12,13,14,15,16,17,18,19,9] (fun g=> [(9,vi g)]) (fun g=> [(b1, .cells #[vs s] 9 (0,0)),(b2, .cells (a8 (KZ_ n g)) 209 (0,0))]) (fun g=>g≤4) (fun g=>4 - g) 0 rfl rfl ?_ ?_
 ·omega
 intro g j hg
 refine kv ?_
 have hpl:=V2_ n g
 by_cases hlt:g<4
 ·first|with_reducible refine ks [] @ql_ ?_|refine kp @ql_ ?_
  refine Again.mk (g+1) (by omega) (by omega) ?_ rfl
  rw[aei_ n g hlt]
 ·obtain rfl:g=4:=by omega
  first|with_reducible refine ks [] @ql_ ?_|refine kp @ql_ ?_
  refine⟨_,(ke @ql_),⟨hw1,hw2,trivial⟩, ?_⟩
  rw[List.drop_zero,List.take_of_length_le (by omega)];rfl
def zw_ (s:List UInt8):List UInt8×Bool:=
 if s.length<4 then([],false) else if wa_ (s.take (s.length - 4))=s then(s.take (s.length - 4),true) else([],false)
theorem KN_ (s:List UInt8): (wa_ s).length=s.length+4:=by unfold wa_ sum4;rw[List.length_append,V2_]
theorem abO_ (s:List UInt8) (w:World) (hG:GlobC w) (hs:s.length<1099511627776):
  Rets Tryz.prog 101 #[vs s] w (fun v D=>v= .tuple #[vs (zw_ s).1, .bool (zw_ s).2]∧D= []):=by
 refine Rets.enterV Tryz.func101 rfl (rs:= [.tmp 2, .tmp 3]) Tryz.results101 Tryz.ntmps101 ?_
 refine kf ?_
 first|with_reducible refine ks [] @ql_ ?_|refine kp @ql_ ?_
 unfold zw_
 by_cases h4:s.length<4
 ·have e1:decide ((s.length:Int)<4)=true:=decide_eq_true (by omega)
  rw[if_pos h4]
  first|with_reducible refine ks [] (And.intro @ql_ @e1) ?_|refine kp (And.intro @ql_ @e1) ?_
  refine⟨_,(ke @ql_),trivial, ?_⟩
  rfl
 ·have e1:decide ((s.length:Int)<4)=false:=decide_eq_false (by omega)
  have e2: ((s.length:Int) - 4).toNat=s.length - 4:=by omega
  rw[if_neg h4]
  first|with_reducible refine ks [] (And.intro @ql_ (And.intro @e1 (@e2))) ?_|refine kp (And.intro @ql_ (And.intro @e1 (@e2))) ?_
  refine Ow.callFV rfl Tryz.call100 (fun w' hw'=>Wl_ (s.take (s.length - 4)) w' (GlobC.of hG hw' (by simp[keys])) (by rw[List.length_take];omega)) ?_
  refine ko @ql_ ?_
  cases hq: (wa_ (s.take (s.length - 4)) !=s)
  ·rw[if_pos (by simpa using hq)]
   first|with_reducible refine ks [] (And.intro @ql_ (And.intro @hq (@e2))) ?_|refine kp (And.intro @ql_ (And.intro @hq (@e2))) ?_
   refine⟨_,(ke @ql_),trivial, ?_⟩
   rfl
  ·rw[if_neg (by simpa using hq)]
   first|with_reducible refine ks [] (And.intro @ql_ @hq) ?_|refine kp (And.intro @ql_ @hq) ?_
   refine⟨_,(ke @ql_),trivial, ?_⟩
   rfl
end Go.Proofs
end
section
open Go Go.Proofs Go.Sx Go.StP Go.Flo
namespace Go.Proofs
set_option maxRecDepth 10000
set_option maxHeartbeats 400000
set_option linter.unusedSimpArgs false
def farV (i:Nat) (p:PartL):Int:=if p.d=true then(i:Int) - p.b else 0
def af6_ (i:Nat) (p:PartL):List UInt8:=v8_ (qs_ (farV i p))++j2_ p.x
def aj6_:Nat→List PartL→List UInt8
 |_,[]=> []
 |i,p::r=>af6_ i p++aj6_ (i+1) r
def magB:List UInt8:= [83,80,75,49]
def auf_ (l:List PartL):List UInt8:=magB++ (v8_ (qs_ (l.length:Int))++aj6_ 0 l)
def WB_ (s:List UInt8) (i a:Nat) (e:Int):PartL×Nat×Int:=
 (⟨decide (0< (zH_ s a e 200).1),if 0< (zH_ s a e 200).1 then(i:Int) - (zH_ s a e 200).1 else 0,(zU_ s (zH_ s a e 200).2.1 (zH_ s a e 200).2.2 65536).1⟩,(zU_ s (zH_ s a e 200).2.1 (zH_ s a e 200).2.2 65536).2)
def vV_ (s:List UInt8):Nat→Nat→Nat→Int→List PartL×List Nat×Nat×Int
 |0,_,a,e=>([],[],a,e)
 |k+1,i,a,e=>if(WB_ s i a e).2.2=0 then((WB_ s i a e).1:: (vV_ s k (i+1) (WB_ s i a e).2.1 0).1,a:: (vV_ s k (i+1) (WB_ s i a e).2.1 0).2.1,(vV_ s k (i+1) (WB_ s i a e).2.1 0).2.2) else([],[],(WB_ s i a e).2)
def afw_ (s:List UInt8):Int×Bool×Nat×Int:=
 if(jP_ s 0 0 4).1=magB then((zH_ s (jP_ s 0 0 4).2.1 (jP_ s 0 0 4).2.2 200).1,(zH_ s (jP_ s 0 0 4).2.1 (jP_ s 0 0 4).2.2 200).2.2==0,(zH_ s (jP_ s 0 0 4).2.1 (jP_ s 0 0 4).2.2 200).2) else(0,false,(jP_ s 0 0 4).2)
def Zy_ (s:List UInt8):List PartL×List Nat×Nat×Int:=vV_ s (afw_ s).1.toNat 0 (afw_ s).2.2.1 (afw_ s).2.2.2
def aus_ (b:List UInt8):Option (List PartL×List Nat×List IdL×List ObL):=
 if(zw_ b).2=true∧(afw_ (zw_ b).1).2.1=true∧xw_ (zw_ b).1 (Zy_ (zw_ b).1).2.2.1 (Zy_ (zw_ b).1).2.2.2=0 then(XN_ (Zy_ (zw_ b).1).1).map fun q=>((Zy_ (zw_ b).1).1,(Zy_ (zw_ b).1).2.1,q) else none
def auK_ (l:List PartL):List UInt8×Int:=match XN_ l with
 |some _=>(wa_ (auf_ l),0)
 |none=>([],1)
instance:DecidableEq ObL:=fun a b=>if h:a.k=b.k∧a.t=b.t then .isTrue (by cases a;cases b;simp only at h;obtain⟨rfl,rfl⟩:=h;rfl) else .isFalse (fun e=>h (by rw[e];exact⟨rfl,rfl⟩))
def abj_ (l:List PartL):Nat→List ObL
 |0=> []
 |k+1=>match partV l (k:Nat) with
  | .ok s=>if Xc_ s=true∧ahD_ s∉abj_ l k then abj_ l k++ [ahD_ s] else abj_ l k
  | .error _=>abj_ l k
def atX_ (b:List UInt8):List ObL:=if(afw_ b).2.1=true then abj_ (Zy_ b).1 (Zy_ b).1.length else []
def arR_ (i:Nat) (p:PartL):Prop:=(if p.d=true then 0≤p.b∧p.b<i∧(i:Int)≤200 else p.b=0)∧p.x.length≤65536
def aqu_:Nat→List PartL→Prop
 |_,[]=>True
 |i,p::r=>arR_ i p∧aqu_ (i+1) r
def atc_:Nat→Nat→List PartL→List Nat
 |_,_,[]=> []
 |i,a,p::r=>a::atc_ (i+1) (a+ (af6_ i p).length) r
end Go.Proofs
end
section
open Go Go.Proofs Go.Sx Go.StP Go.Flo
namespace Go.Proofs
set_option maxRecDepth 10000
set_option maxHeartbeats 400000
set_option linter.unusedSimpArgs false
end Go.Proofs
end
