/-
  Part 2 of the walk: contracts of the functions that the law reaches, and the calculus they stand on.
  No conditions.
-/
import Derived.Test.YtdffddfgldlijaaGreatDoorL1
import Derived.Lib.Strings
import Derived.Lib.Bytealg
import GoSem.Core.Float
import Derived.Laws.MakeOwn
set_option maxRecDepth 100000
set_option maxHeartbeats 4000000
set_option linter.unusedSimpArgs false
set_option linter.defProp false
open Go.Proofs.Tryz
section
open Go Go.Proofs Go.Sx
namespace Go.Proofs
def IK {n:Nat} (h:n<1099511627776):gA (n:Int)=n:=by unfold gA maxN;omega
def Kw: ∀ (k:Nat) (n:Int) (w:World),gA n≤k→
  Rets prog 111 #[vi n] w (fun v D=>v=vs (fA (gA n))∧D= []):=by
 intro k
 induction k using Nat.strongRecOn with
 |ind k ih=>
  intro n w hk
  refine Rets.enterV func111 rfl (rs:= [.tmp 2]) results111 ntmps111 ?_
  refine kf ?_
  by_cases h0:n<0
  ·have d1:decide (n<0)=true:=aK h0
   have e:gA n=0:=by unfold gA maxN;omega
   rw[e]
   refine ky @d1 ?_
   refine Ow.buildSlice (e:=5) #[v8 0] rfl rfl kR fun b1 aW aI=> ?_
   rw[show(#[v8 0]:Array Value)=a8 [0] from rfl]
   refine ko @Nat.add_zero ?_
   refine ky @Nat.add_zero ?_
   refine⟨_,(ke @Nat.add_zero),⟨aI,trivial⟩, ?_⟩
   rw[vk oM];rfl
  have d1:decide (n<0)=false:=aO h0
  generalize hm:gA n=m at hk ⊢
  have nu:m≤1099511627775:=by unfold gA maxN at hm;omega
  by_cases h1:n>1099511627775
  ·have d2:decide (1099511627775<n)=true:=aK h1
   have e: (1099511627775:Int)=(m:Int):=by unfold gA maxN at hm;omega
   refine kz [5] (aN @d1 @d2) ?_
   rw[e]
   by_cases h2:m<128
   ·have d3:decide ((m:Int)<128)=true:=aK oM
    rw[vk h2]
    refine ky (aN @d1 @d3) ?_
    generalize hc:UInt8.ofInt (m:Int)=c
    have j5:c=UInt8.ofNat m:=by rw[←hc,zS]
    refine Ow.buildSlice (e:=5) #[v8 c] rfl rfl kR fun b1 aW aI=> ?_
    rw[show(#[v8 c]:Array Value)=a8 [c] from rfl]
    have e4:List.take 1 (List.drop 0 [c])= [c]:=rfl
    refine ko @e4 ?_
    refine ky @Nat.add_zero ?_
    refine⟨_,(ke @Nat.add_zero),⟨aI,trivial⟩, ?_⟩
    rw[j5];rfl
   have d3:decide ((m:Int)<128)=false:=aO oM
   have ih2:=fun w=>ih (m / 128) oM ((m / 128:Nat):Int) w (by rw[IK oM];omega)
   rw[IK oM] at ih2
   have gp:=IC 6 (m / 128) oM oM
   rw[wI h2]
   refine ky (aN @d1 @d3) ?_
   refine Cw.regionK 11 kR kR ?_
   refine OwK.run [0,1,2,3,6,7] [true,true,true,true,false,false,true,true,false,false,false] 5 rfl kR kR fun k hk=> ?_
   simp only[ai, ↓ah, ↓ab, ↓ag, ↓ae,ac]
   simp(disch:=first|exact dD|fail) only[↓Sx.S0,Sx.S1,fx,Nat.reduceAdd,Nat.reducePow,Int.reducePow,Nat.reduceBEq, ↓reduceIte,UInt8.reduceToNat,UInt16.reduceToNat,UInt32.reduceToNat,UInt64.reduceToNat,Int.reduceToNat]
   (with_reducible refine hk _ _ _ ?_);clear hk k
   generalize hc:UInt8.ofInt ((m:Int)%128+128)=c
   have j5:c=UInt8.ofNat (m%128+128):=by rw[←hc,show((m:Int)%128+128)=((m%128+128:Nat):Int) from rfl,zS]
   rw[show(m:Int) / 128=((m / 128:Nat):Int) from rfl]
   refine OwK.two 4 8 _ _ kR rfl rfl ?_ ?_
   ·refine Ow.buildSlice (e:=5) #[v8 c] rfl rfl kR fun b1 aW aI=> ?_
    rw[show(#[v8 c]:Array Value)=a8 [c] from rfl]
    have e4:List.take 1 (List.drop 0 [c])= [c]:=rfl
    refine ko @e4 ?_
    try with_reducible refine Ow.nil ?_
    refine OwK.two 5 8 _ _ kR rfl rfl ?_ ?_
    ·refine ko @e4 ?_
     refine OwK.rest [8,9,10] [4,8] rfl kR kR ?_
     simp only[ai, ↓ah, ↓ab, ↓ag, ↓ae,ac]
     refine Ow.callFV rfl call111 (fun w' aA=>ih2 w') ?_
     refine ko @Nat.add_zero ?_
     refine ky @Nat.add_zero ?_
     refine⟨_,(ke @Nat.add_zero),⟨aI,trivial⟩, ?_⟩
     rw[j5];rfl
    refine Ow.callFV rfl call111 (fun w' aA=>ih2 w') ?_
    refine ko @Nat.add_zero ?_
    refine OwK.rest [5,9,10] [4,8] rfl kR kR ?_
    simp only[ai, ↓ah, ↓ab, ↓ag, ↓ae,ac]
    refine ko @e4 ?_
    refine ky @Nat.add_zero ?_
    refine⟨_,(ke @Nat.add_zero),⟨aI,trivial⟩, ?_⟩
    rw[j5];rfl
   refine Ow.callFV rfl call111 (fun w' aA=>ih2 w') ?_
   refine ko @Nat.add_zero ?_
   refine OwK.rest [4,5,9,10] [4,8] rfl kR kR ?_
   simp only[ai, ↓ah, ↓ab, ↓ag, ↓ae,ac]
   refine Ow.buildSlice (e:=5) #[v8 c] rfl rfl kR fun b1 aW aI=> ?_
   rw[show(#[v8 c]:Array Value)=a8 [c] from rfl]
   have e4:List.take 1 (List.drop 0 [c])= [c]:=rfl
   refine ko @e4 ?_
   refine ky @Nat.add_zero ?_
   refine⟨_,(ke @Nat.add_zero),⟨aI,trivial⟩, ?_⟩
   rw[j5];rfl
  have d2:decide (1099511627775<n)=false:=aO h1
  have e:n=(m:Int):=by unfold gA maxN at hm;omega
  subst e
  refine kz [5] (aN @d1 @d2) ?_
  by_cases h2:m<128
  ·have d3:decide ((m:Int)<128)=true:=aK oM
   rw[vk h2]
   refine ky (aN @d1 @d3) ?_
   generalize hc:UInt8.ofInt (m:Int)=c
   have j5:c=UInt8.ofNat m:=by rw[←hc,zS]
   refine Ow.buildSlice (e:=5) #[v8 c] rfl rfl kR fun b1 aW aI=> ?_
   rw[show(#[v8 c]:Array Value)=a8 [c] from rfl]
   have e4:List.take 1 (List.drop 0 [c])= [c]:=rfl
   refine ko @e4 ?_
   refine ky @Nat.add_zero ?_
   refine⟨_,(ke @Nat.add_zero),⟨aI,trivial⟩, ?_⟩
   rw[j5];rfl
  have d3:decide ((m:Int)<128)=false:=aO oM
  have ih2:=fun w=>ih (m / 128) oM ((m / 128:Nat):Int) w (by rw[IK oM];omega)
  rw[IK oM] at ih2
  have gp:=IC 6 (m / 128) oM oM
  rw[wI h2]
  refine ky (aN @d1 @d3) ?_
  refine Cw.regionK 11 kR kR ?_
  refine OwK.run [0,1,2,3,6,7] [true,true,true,true,false,false,true,true,false,false,false] 5 rfl kR kR fun k hk=> ?_
  simp only[ai, ↓ah, ↓ab, ↓ag, ↓ae,ac]
  simp(disch:=first|exact dD|fail) only[↓Sx.S0,Sx.S1,fx,Nat.reduceAdd,Nat.reducePow,Int.reducePow,Nat.reduceBEq, ↓reduceIte,UInt8.reduceToNat,UInt16.reduceToNat,UInt32.reduceToNat,UInt64.reduceToNat,Int.reduceToNat]
  (with_reducible refine hk _ _ _ ?_);clear hk k
  generalize hc:UInt8.ofInt ((m:Int)%128+128)=c
  have j5:c=UInt8.ofNat (m%128+128):=by rw[←hc,show((m:Int)%128+128)=((m%128+128:Nat):Int) from rfl,zS]
  rw[show(m:Int) / 128=((m / 128:Nat):Int) from rfl]
  refine OwK.two 4 8 _ _ kR rfl rfl ?_ ?_
  ·refine Ow.buildSlice (e:=5) #[v8 c] rfl rfl kR fun b1 aW aI=> ?_
   rw[show(#[v8 c]:Array Value)=a8 [c] from rfl]
   have e4:List.take 1 (List.drop 0 [c])= [c]:=rfl
   refine ko @e4 ?_
   try with_reducible refine Ow.nil ?_
   refine OwK.two 5 8 _ _ kR rfl rfl ?_ ?_
   ·refine ko @e4 ?_
    refine OwK.rest [8,9,10] [4,8] rfl kR kR ?_
    simp only[ai, ↓ah, ↓ab, ↓ag, ↓ae,ac]
    refine Ow.callFV rfl call111 (fun w' aA=>ih2 w') ?_
    refine ko @Nat.add_zero ?_
    refine ky @Nat.add_zero ?_
    refine⟨_,(ke @Nat.add_zero),⟨aI,trivial⟩, ?_⟩
    rw[j5];rfl
   refine Ow.callFV rfl call111 (fun w' aA=>ih2 w') ?_
   refine ko @Nat.add_zero ?_
   refine OwK.rest [5,9,10] [4,8] rfl kR kR ?_
   simp only[ai, ↓ah, ↓ab, ↓ag, ↓ae,ac]
   refine ko @e4 ?_
   refine ky @Nat.add_zero ?_
   refine⟨_,(ke @Nat.add_zero),⟨aI,trivial⟩, ?_⟩
   rw[j5];rfl
  refine Ow.callFV rfl call111 (fun w' aA=>ih2 w') ?_
  refine ko @Nat.add_zero ?_
  refine OwK.rest [4,5,9,10] [4,8] rfl kR kR ?_
  simp only[ai, ↓ah, ↓ab, ↓ag, ↓ae,ac]
  refine Ow.buildSlice (e:=5) #[v8 c] rfl rfl kR fun b1 aW aI=> ?_
  rw[show(#[v8 c]:Array Value)=a8 [c] from rfl]
  have e4:List.take 1 (List.drop 0 [c])= [c]:=rfl
  refine ko @e4 ?_
  refine ky @Nat.add_zero ?_
  refine⟨_,(ke @Nat.add_zero),⟨aI,trivial⟩, ?_⟩
  rw[j5];rfl
def IL (s:List UInt8) (w:World) (hs:s.length<1099511627776):
  Rets prog 80 #[vs s] w (fun v D=>v=vs (fy s)∧D= []):=by
 have cT:=qP (s.length:Int)
 refine Rets.enterV func80 rfl (rs:= [.tmp 2]) results80 ntmps80 ?_
 refine kf ?_
 refine ky @Nat.add_zero ?_
 refine Ow.callFV rfl call111 (fun w' aA=>Kw _ _ w' (bq _)) ?_
 refine ko @Nat.add_zero ?_
 refine ky @Nat.add_zero ?_
 refine⟨_,(ke @Nat.add_zero),trivial, ?_⟩
 rfl
def wZ (x:IdL) (w:World):
  Rets prog 112 #[.agg (a8 x.l)] w (fun v D=>v=vs x.l∧D= []):=by
 have gV:=x.h
 refine Rets.enterV func112 rfl (rs:= [.tmp 2]) results112 ntmps112 ?_
 refine kf ?_
 refine ky @Nat.add_zero ?_
 refine Ow.box rfl rfl fun bx li nx=> ?_
 simp only[dC,cy,dA,aS,List.nil_append,List.cons_append]
 refine Ow.go rfl ?_
 simp(disch:=first|exact dD|fail) only[↓Sx.S0,Sx.S1,fx,Nat.reduceAdd,Nat.reducePow,Int.reducePow,Nat.reduceBEq, ↓reduceIte,UInt8.reduceToNat,UInt16.reduceToNat,UInt32.reduceToNat,UInt64.reduceToNat,Int.reduceToNat]
 have e4:List.take 32 (List.drop 0 x.l)=x.l:=by rw[List.drop_zero,List.take_of_length_le oM]
 refine ky @e4 ?_
 refine⟨_,(ke @Nat.add_zero),⟨nx,trivial⟩, ?_⟩
 rfl
end Go.Proofs
end
section
open Go Go.Proofs Go.Sx Go.StP
namespace Go.Proofs
def ur:=aN (aN (aN @LJ @La) (aN @LB @As)) (aN (aN @AG @zC) (aN @av @au))
def entB (e:EntL):List UInt8:=(fA (gA e.kind)++fy e.name)++e.id.l
def jr (l:List EntL):List UInt8:=(l.map entB).flatten
def BG {l:List EntL} {k:Nat} (hk:k<l.length):jr (l.take (k+1))=jr (l.take k)++entB (l.getD k bu):=by
 unfold jr
 rw[List.take_succ_eq_append_getElem hk,List.map_append,List.flatten_append,List.getD_eq_getElem?_getD,List.getElem?_eq_getElem hk]
 simp
def PD {l:List EntL} {k:Nat} (hk:k<l.length):jr (l.take (k+1))=jr (l.take k)++fA (gA (l.getD k bu).kind)++fy (l.getD k bu).name++ (l.getD k bu).id.l:=by
 rw[BG hk];simp only[entB,List.append_assoc]
def AM {s:List UInt8} (h:s.length<1099511627776): (fy s).length<1099511627783:=by
 have:=qP (s.length:Int)
 unfold fy;rw[List.length_append];omega
theorem Cr {l:List EntL} (gw:qZ l): ∀k,k≤l.length→(jr (l.take k)).length≤k*1099511627830
 |0,_=>by simp[jr]
 |k+1,hk=>by
  have ih:=Cr gw k oM
  have h1:=AM (gw k hk)
  have h2:=qP (l.getD k bu).kind
  have h3:=(l.getD k bu).id.h
  rw[BG hk]
  unfold entB
  simp only[List.length_append]
  omega
def MR (v:Value) (l:List EntL) (w:World) (hv:EntS w v l) (hl:l.length<1000000) (gw:qZ l):
  Rets prog 75 #[v] w (fun v' D=>v'=vs (jr l)∧D= []):=by
 obtain⟨b,off,arr,E,fz,hr⟩:=hv.row
 have ln:=hv.len
 refine Rets.enterV func75 rfl (rs:= [.tmp 2]) results75 ntmps75 ?_
 refine kf ?_
 refine ky (aN @ur @ln) ?_
 refine Cw.loopG (G:=Nat) [5,6,7,8,11,12,13,14,15,16,17,18,19,20,21,22,23,24,25,26,27,28,29,30,31,32,3,9,10,4] (fun g=> [(3,vs (jr (l.take g))),(4,vi g)]) (fun g=> []) (fun g=>g≤l.length) (fun g=>l.length - g) 0 rfl rfl ?_ ?_
 ·exact aV _
 intro k jk hk
 refine kv ?_
 have h1:k≤l.length:=hk
 clear hk
 by_cases hk:k<l.length
 ·have h0:0<l.length:=by omega
  have iJ:=hr.lt h0
  have r2:=hr.has h0
  have i2:=hr.idx true k hk
  have m0: ∀n,aG (some (false,n)) (some (.cells arr E fz)) (off+k*34)=some (vs (l.getD k bu).name):=fun n=>Aq hr hk n
  have m1: ∀n,aG (some (false,n)) (some (.cells arr E fz)) (off+k*34+1)=some (vi (l.getD k bu).kind):=fun n=>Eg hr hk n
  have m2:aG (some (true,32)) (some (.cells arr E fz)) (off+k*34+2)=some (.agg (a8 (l.getD k bu).id.l)):=UA hr hk
  have hs:=gw k hk
  have t1:=Cr gw k h1
  have t2:=AM hs
  have t3:=qP (l.getD k bu).kind
  have t4:=(l.getD k bu).id.h
  refine ky (aN @ur @ln) ?_
  refine Cw.regionS [b] [0,1,2,3,4,8,9,10,11,15,16,17,18,5,12,19,6,7,13,14,20,21,22] [] kR kR kR ?_
  simp only[ai, ↓ah, ↓ab, ↓ag, ↓ae,ac]
  refine kq (aN @ur (aN @r2 (aN @i2 (aN @m0 (aN @m1 @m2))))) ?_
  refine Ow.callFV rfl call111 (fun w' aA=>Kw _ _ w' (bq _)) ?_
  refine kq (aN @ur (aN @r2 (aN @i2 (aN @m0 (aN @m1 @m2))))) ?_
  refine Ow.callFV rfl call80 (fun w' aA=>IL _ w' hs) ?_
  refine kq (aN @ur (aN @r2 (aN @i2 (aN @m0 (aN @m1 @m2))))) ?_
  refine Ow.callFV rfl call112 (fun w' aA=>wZ _ w') ?_
  refine kq (aN @ur (aN @r2 (aN @i2 (aN @m0 (aN @m1 @m2))))) ?_
  exact Again.mk (k+1) oM oM rfl (by rw[PD hk];rfl)
 obtain rfl:k=l.length:=by omega
 refine ky (aN @ur @ln) ?_
 refine⟨_,(ke @ur),trivial, ?_⟩
 rw[List.take_length];rfl
def idsB (l:List IdL):List UInt8:=(l.map IdL.l).flatten
def RC {l:List IdL} {k:Nat} (hk:k<l.length):idsB (l.take (k+1))=idsB (l.take k)++ (l.getD k id0).l:=by
 unfold idsB
 rw[List.take_succ_eq_append_getElem hk,List.map_append,List.flatten_append,List.getD_eq_getElem?_getD,List.getElem?_eq_getElem hk]
 simp
theorem Dr: ∀ (l:List IdL),(idsB l).length=l.length*32
 | []=>rfl
 |x::r=>by
  have h:=Dr r
  have:=x.h
  unfold idsB at h ⊢
  rw[List.map_cons,List.flatten_cons,List.length_append,h,List.length_cons]
  omega
def m_ (c:ComL):List UInt8:=c.tree.l++fA (gA c.par.length)
def comB (c:ComL):List UInt8:=m_ c++idsB c.par++fy c.text
def qQ:=aN (aN (aN @qw @qt) (aN @nz (aN @av @au))) (aN (aN @JN @J5) (aN @JB (aN @Ia @AK)))
def WK_ (v:Value) (c:ComL) (w:World) (hv:ComS w v c) (hl:c.par.length<1000000) (ht:c.text.length<1099511627776):
  Rets prog 77 #[v] w (fun v' D=>v'=vs (comB c)∧D= []):=by
 obtain⟨p,rfl,hp⟩:=hv
 obtain⟨b,off,arr,E,fz,hr⟩:=hp.row
 have ln:=hp.len
 have t2:=AM ht
 have t3:=qP (c.par.length:Int)
 have t4:=c.tree.h
 have t5: (m_ c).length≤38:=by unfold m_;rw[List.length_append];omega
 refine Rets.enterV func77 rfl (rs:= [.tmp 2]) results77 ntmps77 ?_
 refine kf ?_
 refine ky @qQ ?_
 refine Ow.box rfl rfl fun bx li nx=> ?_
 simp only[dC,cy,dA,aS,List.nil_append,List.cons_append]
 refine Ow.go rfl ?_
 simp(disch:=first|exact dD|fail) only[↓Sx.S0,Sx.S1,fx,qQ,Nat.reduceAdd,Nat.reducePow,Int.reducePow,Nat.reduceBEq, ↓reduceIte,UInt8.reduceToNat,UInt16.reduceToNat,UInt32.reduceToNat,UInt64.reduceToNat,Int.reduceToNat]
 refine ky (aN @qQ @ln) ?_
 refine Cw.regionS [bx] [0,3,1,4,5,2,6,7,8] [] kR kR kR ?_
 simp only[ai, ↓ah, ↓ab, ↓ag, ↓ae,ac]
 refine kq (aN @qQ @ln) ?_
 refine Ow.callFV rfl call112 (fun w' aA=>wZ _ w') ?_
 refine kq (aN @qQ @ln) ?_
 refine Ow.callFV rfl call111 (fun w' aA=>Kw _ _ w' (bq _)) ?_
 refine kq (aN @qQ @ln) ?_
 rw[show c.tree.l++fA (gA c.par.length)=m_ c++idsB (c.par.take 0) by simp[m_,idsB]]
 refine Cw.loopG (G:=Nat) [13,14,15,16,17,20,21,22,23,24,25,26,27,3,18,19,4] (fun g=> [(3,vs (m_ c++idsB (c.par.take g))),(4,vi g)]) (fun g=> [(bx, .cells (bI c.tree p c.text).toArray 100 (0,0))]) (fun g=>g≤c.par.length) (fun g=>c.par.length - g) 0 rfl rfl ?_ ?_
 ·exact aV _
 intro k jk hk
 refine kv ?_
 have h1:k≤c.par.length:=hk
 clear hk
 have t6:=Dr (c.par.take k)
 rw[List.length_take,Nat.min_eq_left h1] at t6
 by_cases hk:k<c.par.length
 ·have h0:0<c.par.length:=by omega
  have iJ:=hr.lt h0
  have p7:bx≠b:=by omega
  have r2:=hr.has h0
  have i2:=hr.idx true k hk
  have l2:=su hr hk
  have gV:=(c.par.getD k id0).h
  refine ky (aN @qQ (aN @ln (aN @r2 (aN @i2 @l2)))) ?_
  refine Ow.callFV rfl call112 (fun w' aA=>wZ _ w') ?_
  refine ko (aN @qQ (aN @ln (aN @r2 (aN @i2 @l2)))) ?_
  exact Again.mk (k+1) oM oM rfl (by rw[RC hk,←List.append_assoc];rfl)
 obtain rfl:k=c.par.length:=by omega
 rw[List.take_length]
 rw[List.take_length] at t6
 refine ky (aN @qQ @ln) ?_
 refine Ow.callFV rfl call80 (fun w' aA=>IL _ w' ht) ?_
 refine ko @qQ ?_
 refine⟨_,(ke @qQ),⟨nx,trivial⟩, ?_⟩
 rfl
instance:DecidableEq EntL:=fun a b=>if h:a.name=b.name∧a.kind=b.kind∧a.id.l=b.id.l then .isTrue (by cases a;cases b;simp only at h;obtain⟨rfl,rfl,h3⟩:=h;rw[IdL.ext' h3]) else .isFalse (fun e=>h (by rw[e];exact⟨rfl,rfl,rfl⟩))
theorem EntL.ext' {a b:EntL} (h: (a.name==b.name&&a.kind==b.kind&&a.id.l==b.id.l)=true):a=b:=by
 simp only[Bool.and_eq_true,beq_iff_eq] at h
 cases a;cases b;simp only at h;obtain⟨⟨rfl,rfl⟩,h3⟩:=h;rw[IdL.ext' h3]
def mA (l:List UInt8):IdL:=if h:l.length=32 then⟨l,h⟩ else id0
def wF {l:List UInt8} (h:l.length=32): (mA l).l=l:=by unfold mA;rw[dif_pos h]
def vw (s:List UInt8) (a:Nat) (e:Int): (idR s a e).1.length=32:=by
 unfold idR
 simp only
 split
 ·assumption
 simp[z32]
def oU {s:List UInt8} {a:Nat} {e:Int} (ha:a≤s.length):a≤ (idR s a e).2.1∧(idR s a e).2.1≤s.length:=zY ha
def ub {s:List UInt8} {a:Nat} {e most:Int} (ha:a≤s.length):a≤ (bL s a e most).2.1∧(bL s a e most).2.1≤s.length:=by
 have hp:=jf (e:=e) (most:=most) ha
 have hq:=zY (e:=(aF s a e most).2.2) (n:=(aF s a e most).1) hp.2
 unfold bL
 simp only
 split
 ·exact⟨bq _,ha⟩
 exact⟨by omega,hq.2⟩
def IV (s:List UInt8) (a:Nat) (e most:Int): (bL s a e most).1.length≤s.length:=by
 have: ∀ (b:Nat) (e n:Int),(bS s b e n).1.length≤s.length:=by
  intro b e n
  unfold bS
  split
  ·simp
  split
  ·simp
  split
  ·simp
  simp only[List.length_take,List.length_drop];omega
 unfold bL
 simp only
 split
 ·simp
 exact this _ _ _
def tW {s:List UInt8} {a:Nat} {e n:Int} (he:e≠0): (bS s a e n).2=(a,e):=by unfold bS;rw[if_pos he]
def xa {s:List UInt8} {a:Nat} {e most:Int} (he:e≠0): (aF s a e most).2=(a,e):=by unfold aF;rw[if_pos he]
def tF {s:List UInt8} {a:Nat} {e most:Int} (he:e≠0): (bL s a e most).2=(a,e):=by
 unfold bL
 simp only[xa he,tW he]
 rw[if_pos he]
def qp {s:List UInt8} {a:Nat} {e:Int} (he:e≠0): (idR s a e).2=(a,e):=by unfold idR;simp only[tW he]
def xR {s:List UInt8} {a:Nat} {e n:Int} (h:e≠5): (bS s a e n).2.2≠5:=by
 unfold bS
 split
 ·exact h
 split
 ·show(2:Int)≠5;decide
 split
 ·show(3:Int)≠5;decide
 show(0:Int)≠5;decide
def Wa (most:Int): ∀ (l:List UInt8) (k n x:Nat),cK most l k n= .error x→x≠5:=by
 intro l
 induction l with
 |nil=>intro k n x h;unfold cK at h;cases h;decide
 |cons c r ih=>
  intro k n x h
  unfold cK at h
  split at h
  ·split at h
   ·cases h;decide
   exact ih _ _ _ h
  split at h
  ·cases h;decide
  split at h
  ·cases h
  cases h;decide
def FS (most:Int): ∀ (l:List UInt8) (k n:Nat),cK most l k n≠ .error 0:=by
 intro l
 induction l with
 |nil=>intro k n h;unfold cK at h;cases h
 |cons c r ih=>
  intro k n h
  unfold cK at h
  split at h
  ·split at h
   ·cases h
   exact ih _ _ h
  split at h
  ·cases h
  split at h
  ·cases h
  cases h
def xI {s:List UInt8} {a:Nat} {e most:Int} (h:e≠5): (aF s a e most).2.2≠5:=by
 unfold aF
 split
 ·exact h
 split
 ·show(0:Int)≠5;decide
 rename_i x hx
 have:=Wa _ _ _ _ _ hx
 show((x:Nat):Int)≠5
 omega
def Wf {s:List UInt8} {a:Nat} {e most:Int} (h:e≠5): (bL s a e most).2.2≠5:=by
 unfold bL
 simp only
 split
 ·exact xR (xI h)
 exact xR (xI h)
def ZR {s:List UInt8} {a:Nat} {e:Int} (h:e≠5): (idR s a e).2.2≠5:=by unfold idR;exact xR h
def FR {s:List UInt8} {a:Nat} {e most:Int} (h: (aF s a e most).2.2=0):a< (aF s a e most).2.1:=by
 unfold aF at h ⊢
 split
 ·rename_i he
  rw[if_pos he] at h
  exact absurd h he
 rename_i he
 rw[if_neg he] at h
 split
 ·rename_i n k hk
  have:=wn _ _ _ _ _ _ hk
  show a<a+k
  omega
 rename_i x hx
 rw[hx] at h
 exfalso
 have:x=0:=by have: ((x:Nat):Int)=0:=h;omega
 subst this
 exact FS _ _ _ _ hx
def i' (s:List UInt8) (a:Nat) (e:Int):EntL×Nat×Int:=
 let p:=aF s a e 2
 let q:=bL s p.2.1 p.2.2 32
 let i:=idR s q.2.1 q.2.2
 (⟨q.1,p.1,mA i.1⟩,i.2)
def xG {s:List UInt8} {a:Nat} {e:Int} (ha:a≤s.length):a≤ (i' s a e).2.1∧(i' s a e).2.1≤s.length:=by
 have h1:=jf (e:=e) (most:=2) ha
 have h2:=ub (e:=(aF s a e 2).2.2) (most:=32) h1.2
 have h3:=oU (e:=(bL s (aF s a e 2).2.1 (aF s a e 2).2.2 32).2.2) h2.2
 unfold i'
 exact⟨by simp only;omega,h3.2⟩
def ZC {s:List UInt8} {a:Nat} {e:Int} (h:e≠5): (i' s a e).2.2≠5:=ZR (Wf (xI h))
def F5 {s:List UInt8} {a:Nat} {e:Int} (ha:a≤s.length) (h: (i' s a e).2.2=0):a< (i' s a e).2.1:=by
 have h1:=jf (e:=e) (most:=2) ha
 have h2:=ub (e:=(aF s a e 2).2.2) (most:=32) h1.2
 have h3:=oU (e:=(bL s (aF s a e 2).2.1 (aF s a e 2).2.2 32).2.2) h2.2
 unfold i' at h ⊢
 simp only at h ⊢
 have e2: (bL s (aF s a e 2).2.1 (aF s a e 2).2.2 32).2.2=0:=Decidable.byContradiction fun hn=>by rw[qp hn] at h;exact hn h
 have e1: (aF s a e 2).2.2=0:=Decidable.byContradiction fun hn=>by rw[tF hn] at e2;exact hn e2
 have:=FR e1
 omega
def o8 (s:List UInt8):Nat→Nat→Int→List EntL→List EntL×Nat×Int
 |0,a,e,l=>(l,a,e)
 |n+1,a,e,l=>if e=0∧a<s.length then o8 s n (i' s a e).2.1 (i' s a e).2.2 (l++ [(i' s a e).1]) else(l,a,e)
def LK {s:List UInt8} {n a:Nat} {e:Int} {l:List EntL} (h:e=0∧a<s.length):o8 s (n+1) a e l=o8 s n (i' s a e).2.1 (i' s a e).2.2 (l++ [(i' s a e).1]):=by rw[o8,if_pos h]
def Lz {s:List UInt8} {n a:Nat} {e:Int} {l:List EntL} (h: ¬ (e=0∧a<s.length)):o8 s n a e l=(l,a,e):=by
 cases n with
 |zero=>rfl
 |succ n=>rw[o8,if_neg h]
def fp (s:List UInt8):List EntL×Nat×Int:=o8 s (s.length+1) 0 0 []
structure EntsJ (s:List UInt8) (n a:Nat) (e:Int) (l:List EntL):Prop where
 go:fp s=o8 s n a e l
 le:a≤s.length
 five:e≠5
 fuel:e=0→s.length<a+n
 cnt:l.length+n=s.length+1
 short: ∀i,i<l.length→(l.getD i bu).name.length≤s.length
def EntsJ.init (s:List UInt8):EntsJ s (s.length+1) 0 0 []:=⟨rfl,aV _,by decide,fun _=>by omega,by simp,fun i hi=>by simp at hi⟩
def EntsJ.next {s:List UInt8} {n a:Nat} {e:Int} {l:List EntL} (h:EntsJ s n a e l) (hc:e=0∧a<s.length): ∃m,n=m+1∧EntsJ s m (i' s a e).2.1 (i' s a e).2.2 (l++ [(i' s a e).1]):=by
 have:=h.fuel hc.1
 obtain⟨m,rfl⟩: ∃m,n=m+1:=⟨n - 1,by omega⟩
 refine⟨m,rfl,h.go.trans (LK hc),(xG h.le).2,ZC h.five,fun h0=> ?_, ?_,fun i hi=> ?_⟩
 ·have:=F5 h.le h0;omega
 ·have:=h.cnt;simp only[List.length_append,List.length_cons,List.length_nil];omega
 by_cases aC:i<l.length
 ·rw[C7 aC];exact h.short i aC
 have:i=l.length:=by simp only[List.length_append,List.length_cons,List.length_nil] at hi;omega
 subst this
 rw[BH (bq _),Nat.sub_self]
 exact IV _ _ _ _
def EntsJ.done {s:List UInt8} {n a:Nat} {e:Int} {l:List EntL} (h:EntsJ s n a e l) (hc: ¬ (e=0∧a<s.length)):fp s=(l,a,e):=h.go.trans (Lz hc)
def EntsJ.sh {s:List UInt8} {n a:Nat} {e:Int} {l:List EntL} (h:EntsJ s n a e l) (hs:s.length<1000000):qZ l:=fun i hi=>by have:=h.short i hi;omega
def Np:dl (cC prog 141) (an prog 141) []=some (.agg (bN bu).toArray):=by
 rw[show cC prog 141=some [(0,1),(1,1),(2,32)] from id kR,kU];rfl
def ST (s:List UInt8):dl (cC prog 139) (an prog 139) [(0,vs s)]=some (.agg #[vs s,vi 0,vi 0]):=by
 have hp:cC prog 139=some [(0,1),(1,1),(2,1)]:=id kR
 have hz:an prog 139=some (.agg #[vs [],vi 0,vi 0]):=id kR
 rw[hp,hz];rfl
def mv (s:List UInt8):Option (List EntL):=if(fp s).2.2=0∧nY (fp s).1=true∧jr (fp s).1=s then some (fp s).1 else none
def xL (s:List UInt8) (v:Value) (D:aB):Prop:=
 match mv s with
 |some l=> ∃v1,v= .tuple #[v1, .bool true]∧Gr D 141 34 v1 l.length (l.map bN).flatten
 |none=>v= .tuple #[.slice none 0 0, .bool false]
structure EnG where
 n:Nat
 a:Nat
 e:Int
 l:List EntL
 v:Value
 D:aB
def g9:=aN (aN (aN @uX (aN @ua @uc)) (aN @ue (aN @uY @As))) (aN (aN @BW (aN @BJ @B_)) (aN (aN @AG @zC) (aN @av @au)))
def Mm (s:List UInt8) (w:World) (hs:s.length<100000):
  Rets prog 40 #[vs s] w (XS w [] (xL s)):=by
 refine Rets.enterX func40 rfl (rs:= [.tmp 2, .tmp 3]) results40 ntmps40 (fun p hp=>by cases hp) (by simp[keys]) ?_
 refine kf ?_
 refine ky @g9 ?_
 refine Ow.build ((.agg #[vs s,vi 0,vi 0])) rfl kR ?_
 refine ko @g9 ?_
 refine Ow.box rfl rfl fun br nn mO=> ?_
 simp only[dC,cy,dA,aS,List.nil_append]
 refine ko @g9 ?_
 refine Cw.loopG (G:=EnG) [10,11,12,13,14,15,16,17,18,19,20,21,22,23,24,6,25,26,27,28,29,30,31,32,33,34,35,36,37,5] (fun q=> [(5,q.v)]) (fun q=>(br, .cells #[vs s,vi q.a,vi q.e] 139 (0,0))::q.D) (fun q=>EntsJ s q.n q.a q.e q.l∧New (br+1) q.D∧Gr q.D 141 34 q.v q.l.length (q.l.map bN).flatten) (fun q=>q.n) ⟨s.length+1,0,0,[], .slice none 0 0,[]⟩ rfl rfl ?_ ?_
 ·exact⟨EntsJ.init s,trivial,Gr.nl⟩
 intro q jq hq
 refine kv ?_
 obtain⟨n,a,e,l,v,D⟩:=q
 simp only at hq ⊢
 obtain⟨hJ,hN,hG⟩:=hq
 have dc:=hJ.le
 by_cases hc:e=0∧a<s.length
 ·obtain⟨m,rfl,n3⟩:=hJ.next hc
  obtain⟨he,aC⟩:=hc
  have d1: (e==0)=true:=by simp[he]
  have d2:decide ((a:Int)< (s.length:Int))=true:=aK oM
  have hp:=jf (e:=e) (most:=2) dc
  have hq:=ub (e:=(aF s a e 2).2.2) (most:=32) hp.2
  have heq:i' s a e=(⟨(bL s (aF s a e 2).2.1 (aF s a e 2).2.2 32).1,(aF s a e 2).1,mA (idR s (bL s (aF s a e 2).2.1 (aF s a e 2).2.2 32).2.1 (bL s (aF s a e 2).2.1 (aF s a e 2).2.2 32).2.2).1⟩,(idR s (bL s (aF s a e 2).2.1 (aF s a e 2).2.2 32).2.1 (bL s (aF s a e 2).2.1 (aF s a e 2).2.2 32).2.2).2):=rfl
  have gm:=vw s (bL s (aF s a e 2).2.1 (aF s a e 2).2.2 32).2.1 (bL s (aF s a e 2).2.1 (aF s a e 2).2.2 32).2.2
  refine ky (aN @g9 (aN @d1 @d2)) ?_
  refine Ow.build (.agg (bN bu).toArray) rfl Np ?_
  refine ko @g9 ?_
  refine Ow.alloc rfl rfl kU fun b6 nB lG=> ?_
  simp only[aS,List.nil_append,List.cons_append]
  have yl:br<b6:=ak nB (by simp[keys])
  refine Ow.permL (M:=(b6,Obj.cells (bN bu).toArray 141 (0,0)):: (br, .cells #[vs s,vi a,vi e] 139 (0,0))::D) pM ?_
  refine ko @g9 ?_
  refine Ow.callM rfl rfl call70 (by simp[keys]) (fun w' aA=>KC br s a e 2 w' dc oM (aA.has _ _ (cN _ am))) ?_
  generalize aF s a e 2=p at*
  obtain⟨kd,a1,e1⟩:=p
  simp only at hp hq heq gm ⊢
  refine kn ?_
  refine ko @g9 ?_
  refine ky @g9 ?_
  refine Ow.callM rfl rfl call71 (by simp[keys]) (fun w' aA=>KH br s a1 e1 32 w' hp.2 oM (aA.has _ _ (cN _ am))) ?_
  generalize bL s a1 e1 32=q at*
  obtain⟨tt,a2,e2⟩:=q
  simp only at hq heq gm ⊢
  refine kn ?_
  refine ko @g9 ?_
  refine ky @g9 ?_
  refine Ow.callM rfl rfl call72 (by simp[keys]) (fun w' aA=>Kr br s a2 e2 w' hq.2 oM (aA.has _ _ (cN _ am))) ?_
  generalize idR s a2 e2=i at*
  obtain⟨il,a3,e3⟩:=i
  simp only at heq gm ⊢
  obtain⟨I,hI⟩: ∃I,mA il=I:=⟨_,rfl⟩
  have yS:il=I.l:=by rw[←hI,wF gm]
  rw[hI] at heq
  rw[yS]
  refine kn ?_
  refine ko @g9 ?_
  generalize hx: ({name:=tt,kind:=kd,id:=I}:EntL)=x
  rw[hx] at heq
  rw[heq] at n3
  refine Ow.buildSlice (e:=141) (bN x).toArray rfl rfl (gX underlying96 tS kU (by decide) (ny x)) fun b13 oy yu=> ?_
  have hr13:br<b13:=ak oy (by simp[keys])
  refine Ow.permL (M:=D++ ((b6,Obj.cells (bN x).toArray 141 (0,0)):: (br, .cells #[vs s,vi a3,vi e3] 139 (0,0)):: [(b13,Obj.cells (bN x).toArray 141 (0,0))])) pM ?_
  refine ko @g9 ?_
  refine Ow.appendX (e:=141) (k:=1) (new:=bN x) (X:=D) v rfl rfl rfl rfl underlying96 tS kR kU (by rw[zC,List.size_toArray,ny]) underlying96 (by intro k h;cases h) hG (fun w' aA=>AppX.one1 (aA.has b13 (.cells (bN x).toArray 141 (0,0)) (by simp)) (ny _) (wl _)) oM (by have:=hJ.cnt;omega) (fun B v4 D4 gQ ng jU cS cZ bQ=> ?_)
  have hB13:b13<B:=ak gQ (by simp[ao,keys])
  have c_:New (br+1) D4:=New.of_le fun q hq=>by
   rcases cZ q hq with h|h
   ·exact hN.le q h
   omega
  refine Ow.permL (M:=(br, .cells #[vs s,vi a3,vi e3] 139 (0,0)):: (D4++ [(b6,Obj.cells (bN x).toArray 141 (0,0)),(b13,Obj.cells (bN x).toArray 141 (0,0))])) pM ?_
  refine ko @g9 ?_
  refine Again.mk (EnG.mk m a3 e3 (l++ [x]) v4 (D4++ [(b6,Obj.cells (bN x).toArray 141 (0,0)),(b13,Obj.cells (bN x).toArray 141 (0,0))])) (by show m<m+1;omega) ⟨n3,c_.app ⟨by omega,by omega,trivial⟩, ?_⟩ rfl rfl
  show Gr _ _ _ _ (l++ [x]).length ((l++ [x]).map bN).flatten
  rw[List.length_append,List.map_append,List.flatten_append,show([x].map bN).flatten=bN x by simp]
  exact Gr.app (.inl jU)
 have hd:=hJ.done hc
 have gw:=hJ.sh oM
 have uF:=hJ.cnt
 have hR:mv s=if e=0∧nY l=true∧jr l=s then some l else none:=by unfold mv;rw[hd]
 unfold xL
 rw[hR]
 have uw:New w.heap.size ((br,Obj.cells #[vs s,vi a,vi e] 139 (0,0))::D):=⟨mO,New.mono oM hN⟩
 by_cases he:e=0
 ·have d1: (e==0)=true:=by simp[he]
  have d2:decide ((a:Int)< (s.length:Int))=false:=aO oM
  have nE: (if e≠0 then e else if(a:Int)< (s.length:Int) then 5 else 0)=(0:Int):=by rw[if_neg (by simp[he]),if_neg oM]
  refine ky (aN @g9 (aN @d1 @d2)) ?_
  refine Ow.callFV rfl call73 (fun w' aA=>JS br s a e w' (aA.has _ _ (by simp))) ?_
  rw[nE]
  have d4: ((0:Int) !=0)=false:=rfl
  refine ko (aN @g9 @d4) ?_
  refine Ow.callFV rfl call74 (fun w' aA=>MK v l w' (hG.slM (fun b o hm=>aA.has b o (by simp[hm])) rfl rfl ny) oM gw) ?_
  cases hr:nY l
  ·rw[if_neg (by simp)]
   refine ko @g9 ?_
   refine ky @g9 ?_
   refine⟨_,(ke @g9), ?_⟩
   exact⟨Ext.of_new uw,rfl⟩
  refine ko @g9 ?_
  refine Ow.callFV rfl call75 (fun w' aA=>MR v l w' (hG.slM (fun b o hm=>aA.has b o (by simp[hm])) rfl rfl ny) oM gw) ?_
  by_cases hb:jr l=s
  ·have d3: (jr l !=s)=false:=by simp[hb]
   rw[if_pos ⟨he,rfl,hb⟩]
   refine ko (aN @g9 @d3) ?_
   refine ky @g9 ?_
   refine⟨_,(ke @g9), ?_⟩
   exact⟨Ext.of_new uw,v,rfl,hG.keep fun b o hb ho=>by rw[Sx.look,if_neg (by have:=hN.le b (bY ho);omega)];exact ho⟩
  have d3: (jr l !=s)=true:=by simp[hb]
  rw[if_neg (fun h=>hb h.2.2)]
  refine ko (aN @g9 @d3) ?_
  refine ky @g9 ?_
  refine⟨_,(ke @g9), ?_⟩
  exact⟨Ext.of_new uw,rfl⟩
 have d1: (e==0)=false:=by simp[he]
 have d3: (e !=0)=true:=by simp[he]
 have nE: (if e≠0 then e else if(a:Int)< (s.length:Int) then 5 else 0)=e:=by rw[if_pos he]
 rw[if_neg (fun h=>he h.1)]
 refine ky (aN @g9 @d1) ?_
 refine Ow.callFV rfl call73 (fun w' aA=>JS br s a e w' (aA.has _ _ (by simp))) ?_
 rw[nE]
 refine ko (aN @g9 @d3) ?_
 refine ky @g9 ?_
 refine⟨_,(ke @g9), ?_⟩
 exact⟨Ext.of_new uw,rfl⟩
theorem Ke (most:Int): ∀ (l:List UInt8) (k n m k':Nat),cK most l k n= .ok (m,k')→(m:Int)≤most
 | [],_,_,_,_,h=>by simp[cK] at h
 |c::r,k,n,m,k',h=>by
  unfold cK at h
  split at h
  ·split at h
   ·cases h
   exact Ke most r _ _ _ _ h
  split at h
  ·cases h
  split at h
  ·rename_i hh
   cases h
   exact hh.2
  cases h
def sZ {s:List UInt8} {a:Nat} {e most:Int} (h0:0≤most):0≤ (aF s a e most).1∧(aF s a e most).1≤most:=by
 unfold aF
 split
 ·exact⟨Int.le_refl 0,h0⟩
 split
 ·rename_i n k h
  exact⟨Int.natCast_nonneg _,Ke most _ _ _ _ _ h⟩
 exact⟨Int.le_refl 0,h0⟩
def bJ (s:List UInt8) (a:Nat) (e:Int):Nat→List IdL×Nat×Int
 |0=>([],a,e)
 |n+1=>let p:=bJ s a e n;let i:=idR s p.2.1 p.2.2;(p.1++ [mA i.1],i.2)
theorem IQ (s:List UInt8) (a:Nat) (e:Int): ∀n,(bJ s a e n).1.length=n
 |0=>rfl
 |n+1=>by simp only[bJ,List.length_append,List.length_cons,List.length_nil,IQ s a e n]
theorem Aw {s:List UInt8} {a:Nat} {e:Int} (ha:a≤s.length): ∀n,(bJ s a e n).2.1≤s.length
 |0=>ha
 |n+1=>(oU (Aw ha n)).2
def comN (s:List UInt8):Int×Nat×Int:=aF s (idR s 0 0).2.1 (idR s 0 0).2.2 4
def eN (s:List UInt8):List IdL×Nat×Int:=bJ s (comN s).2.1 (comN s).2.2 (comN s).1.toNat
def comT (s:List UInt8):List UInt8×Nat×Int:=bL s (eN s).2.1 (eN s).2.2 64
def f4 (s:List UInt8):ComL×Nat×Int:=(⟨mA (idR s 0 0).1,(eN s).1,(comT s).1⟩,(comT s).2)
def cJ (s:List UInt8) (a:Nat) (e:Int):Int:=if e≠0 then e else if(a:Int)< (s.length:Int) then 5 else 0
def mw (s:List UInt8):Option ComL:=if cJ s (f4 s).2.1 (f4 s).2.2=0∧lQ (f4 s).1=true∧comB (f4 s).1=s then some (f4 s).1 else none
def Q1 (t x:IdL) (p:Value) (y:List UInt8) (a:Bool) (E:TypeId):ad (some (a,32)) (some (.cells (bI t p y).toArray E (0,0))) 0 (.agg (a8 x.l))=some (.cells (bI x p y).toArray E (0,0)):=
 dR [] _ _ _ a _ E rfl (by simp[t.h]) (aS _) (by simp[x.h]) (qW _)
def QV (t:IdL) (p q:Value) (y:List UInt8) (a:Bool) (E:TypeId) (hq:Value.oneCell' q=true∧q.cells= #[q]):ad (some (a,1)) (some (.cells (bI t p y).toArray E (0,0))) 32 q=some (.cells (bI t q y).toArray E (0,0)):=
 dR (t.l.map v8) [p] [q] [vs y] a _ E (by simp[t.h]) rfl hq.2 rfl (by simp[hq.1])
def QA (t:IdL) (p:Value) (y z:List UInt8) (a:Bool) (E:TypeId):ad (some (a,1)) (some (.cells (bI t p y).toArray E (0,0))) 33 (vs z)=some (.cells (bI t p z).toArray E (0,0)):=by
 have e: ∀y,bI t p y=(t.l.map v8++ [p])++ ([vs y]++ []):=fun y=>by unfold bI;simp only[List.append_assoc,List.append_nil]
 rw[e,e];exact dR _ _ _ _ a _ E (by simp[t.h]) rfl rfl rfl rfl
def tv:an prog 100=some (.agg (bI id0 (.slice none 0 0) []).toArray):=id kR
def Im:dl (cC prog 100) (an prog 100) []=some (.agg (bI id0 (.slice none 0 0) []).toArray):=by
 rw[show cC prog 100=some [(0,32),(32,1),(33,1)] from id kR,tv];rfl
def pb:aR prog 39=some (true,32):=id kR
def gM:an prog 39=some (.agg (a8 id0.l)):=id kR
theorem JK {b:Nat} {x:Obj}: ∀ {D L:aB},b∉keys D→setB (D++L) b x=D++setB L b x
 | [],_,_=>rfl
 | (c,y)::r,L,h=>by
  simp only[keys,List.map_cons,List.mem_cons,not_or] at h
  rw[List.cons_append,yy _ _ _ _ _ (Ne.symm h.1),JK (by simpa [keys] using h.2)];rfl
def xb (s:List UInt8) (v:Value) (D:aB):Prop:=
 match mw s with
 |some c=> ∃p,v= .tuple #[.agg (bI c.tree p c.text).toArray, .bool true]∧Gr D 39 32 p c.par.length (c.par.map eT).flatten
 |none=>v= .tuple #[.agg (bI id0 (.slice none 0 0) []).toArray, .bool false]
def KQ_ (b:Nat) (s:List UInt8) (a:Nat) (e:Int) (w:World) (ho:w.heap[b]? =some (.cells #[vs s,vi a,vi e] 139 (0,0))):
  Rets prog 73 #[vp b 0] w (fun v D=>v=vi (cJ s a e)∧D= []):=JS b s a e w ho
structure CmG where
 g:Nat
 v:Value
 D:aB
def fQ:=aN (aN (aN @uX (aN @ua @uc)) (aN (aN @ue @uY) (aN @JN @J5))) (aN (aN @JB (aN @Ia @AK)) (aN (aN @Q1 @QA) (aN @av @au)))
def Mx (s:List UInt8) (w:World) (hs:s.length<100000):
  Rets prog 41 #[vs s] w (XS w [] (xb s)):=by
 refine Rets.enterX func41 rfl (rs:= [.cell 2 100, .tmp 3]) results41 ntmps41 (fun p hp=>by cases hp) (by simp[keys]) ?_
 refine kf ?_
 refine ky @fQ ?_
 refine Ow.alloc rfl rfl tv fun b2 aq bV=> ?_
 simp only[aS,List.nil_append,List.cons_append]
 refine ko @fQ ?_
 refine Ow.build ((.agg #[vs s,vi 0,vi 0])) rfl kR ?_
 refine ko @fQ ?_
 refine Ow.box rfl rfl fun br nn mO=> ?_
 have h2r:b2<br:=ak nn (by simp[keys])
 simp only[dC,cy,dA,aS,List.nil_append,List.cons_append]
 refine ko @fQ ?_
 refine Ow.build (.agg (bI id0 (.slice none 0 0) []).toArray) rfl Im ?_
 refine ko @fQ ?_
 refine Ow.alloc rfl rfl tv fun b5 uD sW=> ?_
 simp only[aS,List.nil_append,List.cons_append]
 have h25:b2<b5:=ak uD (by simp[keys])
 have hr5:br<b5:=ak uD (by simp[keys])
 have st5: ∀a E,ad (some (a,34)) (some (.cells (bI id0 (.slice none 0 0) []).toArray E (0,0))) 0 (.agg (bI id0 (.slice none 0 0) []).toArray)=some (.cells (bI id0 (.slice none 0 0) []).toArray E (0,0)):=fun a E=>Lb _ _ _ _ a E (by rw[List.size_toArray,zU]) rfl
 refine ko (aN @fQ @st5) ?_
 refine Ow.callM rfl rfl call72 (by simp[keys]) (fun w' aA=>Kr br s 0 0 w' (aV _) oM (aA.has _ _ (cN _ am))) ?_
 have ip:=oU (s:=s) (a:=0) (e:=0) (aV _)
 have np:=jf (e:=(idR s 0 0).2.2) (most:=4) ip.2
 have nm:=sZ (s:=s) (a:=(idR s 0 0).2.1) (e:=(idR s 0 0).2.2) (most:=4) (by decide)
 obtain⟨T,hT⟩: ∃T,mA (idR s 0 0).1=T:=⟨_,rfl⟩
 have hiT: (idR s 0 0).1=T.l:=by rw[←hT,wF (vw s 0 0)]
 have yF:f4 s=(⟨T,(eN s).1,(comT s).1⟩,(comT s).2):=by unfold f4;rw[hT]
 rw[hiT]
 refine kn ?_
 refine ko @fQ ?_
 refine Ow.callM rfl rfl call70 (by simp[keys]) (fun w' aA=>KC br s _ _ 4 w' ip.2 oM (aA.has _ _ (cN _ am))) ?_
 have hP:eN s=bJ s (aF s (idR s 0 0).2.1 (idR s 0 0).2.2 4).2.1 (aF s (idR s 0 0).2.1 (idR s 0 0).2.2 4).2.2 (aF s (idR s 0 0).2.1 (idR s 0 0).2.2 4).1.toNat:=rfl
 generalize aF s (idR s 0 0).2.1 (idR s 0 0).2.2 4=nr at*
 obtain⟨cn,na,ne⟩:=nr
 simp only at np nm hP ⊢
 obtain⟨k,rfl⟩:=Int.eq_ofNat_of_zero_le nm.1
 rw[Int.toNat_natCast] at hP
 refine kn ?_
 refine ko @fQ ?_
 refine Cw.permL (M:=(b5, .cells (bI T (.slice none 0 0) []).toArray 100 (0,0)):: (br, .cells #[vs s,vi na,vi ne] 139 (0,0)):: (b2, .cells (bI id0 (.slice none 0 0) []).toArray 100 (0,0)):: []) pM ?_
 refine Cw.loopG (G:=CmG) [17,18,19,22,23,24,25,26,27,28,20,21,7] (fun q=> [(7,vi q.g)]) (fun q=>(b5, .cells (bI T q.v []).toArray 100 (0,0)):: (br, .cells #[vs s,vi (bJ s na ne q.g).2.1,vi (bJ s na ne q.g).2.2] 139 (0,0)):: (b2, .cells (bI id0 (.slice none 0 0) []).toArray 100 (0,0))::q.D) (fun q=>q.g≤k∧New (b5+1) q.D∧Gr q.D 39 32 q.v q.g ((bJ s na ne q.g).1.map eT).flatten) (fun q=>k - q.g) ⟨0, .slice none 0 0,[]⟩ rfl rfl ?_ ?_
 ·exact⟨aV _,trivial,Gr.nl⟩
 intro q jq hq
 refine kv ?_
 obtain⟨g,v,D⟩:=q
 simp only at hq ⊢
 obtain⟨hgk,hN,hG⟩:=hq
 have gle:=Aw (e:=ne) np.2 g
 by_cases aC:g<k
 ·have yQ:bJ s na ne (g+1)=((bJ s na ne g).1++ [mA (idR s (bJ s na ne g).2.1 (bJ s na ne g).2.2).1],(idR s (bJ s na ne g).2.1 (bJ s na ne g).2.2).2):=rfl
  refine kz [7] @fQ ?_
  refine Cw.regionS [b5] [0,2,1,3,4,5,6,7] [7] kR kR kR ?_
  simp only[ai, ↓ah, ↓ab, ↓ag, ↓ae,ac]
  refine kq @fQ ?_
  refine Ow.soft rfl rfl rfl ?_
  refine Ow.callM rfl rfl call72 (by simp[keys]) (fun w' aA=>Kr br s (bJ s na ne g).2.1 (bJ s na ne g).2.2 w' gle oM (aA.has _ _ (cN _ am))) ?_
  with_reducible refine Ow.nil ?_
  refine⟨fun b hb=>M1 (by simp only[List.mem_cons,List.not_mem_nil,or_false] at hb;omega), ?_⟩
  have gm:=vw s (bJ s na ne g).2.1 (bJ s na ne g).2.2
  obtain⟨I,hI⟩: ∃I,mA (idR s (bJ s na ne g).2.1 (bJ s na ne g).2.2).1=I:=⟨_,rfl⟩
  have yS: (idR s (bJ s na ne g).2.1 (bJ s na ne g).2.2).1=I.l:=by rw[←hI,wF gm]
  rw[hI] at yQ
  have jY: (bJ s na ne (g+1)).1=(bJ s na ne g).1++ [I]:=by rw[yQ]
  have kg: (bJ s na ne (g+1)).2=(idR s (bJ s na ne g).2.1 (bJ s na ne g).2.2).2:=by rw[yQ]
  rw[yS,←kg]
  refine kn ?_
  refine Ow.soft rfl rfl rfl ?_
  refine Ow.buildSlice (e:=39) (a8 I.l) rfl rfl (gX (cs:=I.l.map v8) underlying53 pb gM (by decide) (by simp[I.h])) fun b13 oy yu=> ?_
  have hr13:b5<b13:=ak oy (by simp[keys])
  with_reducible refine Ow.nil ?_
  refine⟨vn (by simp[keys]), ?_⟩
  try simp only[List.cons_append,List.nil_append]
  refine Ow.soft rfl rfl rfl ?_
  refine Ow.permL (M:=D++ ((b5,Obj.cells (bI T v []).toArray 100 (0,0)):: (br,Obj.cells #[vs s,vi (bJ s na ne (g+1)).2.1,vi (bJ s na ne (g+1)).2.2] 139 (0,0)):: (b2,Obj.cells (bI id0 (.slice none 0 0) []).toArray 100 (0,0)):: [(b13,Obj.cells (a8 I.l) 39 (0,0))])) pM ?_
  refine Ow.appendX (e:=39) (k:=1) (new:=eT I) (X:=D) v rfl rfl rfl rfl underlying53 pb kR gM (by rw[aS,sg,id0.h]) underlying53 (by intro k h;cases h) hG (fun w' aA=>AppX.one1 (aA.has b13 (.cells (a8 I.l) 39 (0,0)) (by simp)) (pJ I) (A_ I)) oM oM (fun B v4 D4 gQ ng jU cS cZ bQ=> ?_)
  have hB13:b13<B:=ak gQ (by simp[ao,keys])
  have c_:New (b5+1) D4:=New.of_le fun q hq=>by
   rcases cZ q hq with h|h
   ·exact hN.le q h
   omega
  have h54:b5∉keys D4:=c_.not oM
  with_reducible refine Ow.nil ?_
  refine⟨fun q hq=> ?_, ?_⟩
  ·rw[List.mem_singleton] at hq
   subst hq
   rw[Ij h54]
   simp only[o5]
  have fZ: ∀M,Sx.look (D4++M) b5=Sx.look M b5:=fun M=>gO h54
  have Hv: ∀M x,setB (D4++M) b5 x=D4++setB M b5 x:=fun M x=>JK h54
  have st5:=fun a E=>QV T v v4 [] a E jU.cell
  refine kq (aN @fQ (aN @fZ (aN @Hv (aN @st5 @lz)))) ?_
  have fg:sa (aR prog 53) (D4++ [(b5,Obj.cells (bI T v []).toArray 100 (0,0)),(br,Obj.cells #[vs s,vi (bJ s na ne (g+1)).2.1,vi (bJ s na ne (g+1)).2.2] 139 (0,0)),(b2,Obj.cells (bI id0 (.slice none 0 0) []).toArray 100 (0,0)),(b13,Obj.cells (a8 I.l) 39 (0,0))]) (vp b5 32) v4=
    some (D4++ [(b5,Obj.cells (bI T v4 []).toArray 100 (0,0)),(br,Obj.cells #[vs s,vi (bJ s na ne (g+1)).2.1,vi (bJ s na ne (g+1)).2.2] 139 (0,0)),(b2,Obj.cells (bI id0 (.slice none 0 0) []).toArray 100 (0,0)),(b13,Obj.cells (a8 I.l) 39 (0,0))]):=by
   rw[ag53,Aa,fZ]
   simp only[kH,st5,Aj,Hv,uh]
  refine Ow.store rfl rfl rfl fg ?_
  refine ko @fQ ?_
  refine Cw.permL (M:=(b5,Obj.cells (bI T v4 []).toArray 100 (0,0)):: (br,Obj.cells #[vs s,vi (bJ s na ne (g+1)).2.1,vi (bJ s na ne (g+1)).2.2] 139 (0,0)):: (b2,Obj.cells (bI id0 (.slice none 0 0) []).toArray 100 (0,0)):: (D4++ [(b13,Obj.cells (a8 I.l) 39 (0,0))])) pM ?_
  refine ky @fQ ?_
  refine Again.mk (CmG.mk (g+1) v4 (D4++ [(b13,Obj.cells (a8 I.l) 39 (0,0))])) (by show k - (g+1)<k - g;omega) ⟨by show g+1≤k;omega,c_.app ⟨by omega,trivial⟩, ?_⟩ rfl rfl
  show Gr _ _ _ _ (g+1) ((bJ s na ne (g+1)).1.map eT).flatten
  rw[jY,List.map_append,List.flatten_append,show([I].map eT).flatten=eT I by simp]
  exact Gr.app (.inl jU)
 obtain rfl:g=k:=by omega
 rw[←hP] at hG
 rw[←hP] at gle
 rw[←hP]
 have tp:=ub (e:=(eN s).2.2) (most:=64) gle
 refine ky @fQ ?_
 refine Ow.callM rfl rfl call71 (by simp[keys]) (fun w' aA=>KH br s (eN s).2.1 (eN s).2.2 64 w' gle oM (aA.has _ _ (cN _ am))) ?_
 refine kn ?_
 refine ko @fQ ?_
 have hT2:comT s=bL s (eN s).2.1 (eN s).2.2 64:=rfl
 have kC:=IV s (eN s).2.1 (eN s).2.2 64
 rw[hT2] at yF
 generalize bL s (eN s).2.1 (eN s).2.2 64=tx at*
 obtain⟨tt,a3,e3⟩:=tx
 simp only at tp yF kC ⊢
 have Gu: (eN s).1.length=g:=by rw[hP,IQ]
 generalize (eN s).1=pl at*
 have hg4:g≤4:=by omega
 have hC: ∀w',Hp w ((b5,Obj.cells (bI T v tt).toArray 100 (0,0)):: (br, .cells #[vs s,vi a3,vi e3] 139 (0,0)):: (b2,Obj.cells (bI id0 (.slice none 0 0) []).toArray 100 (0,0))::D) w'→ComS w' (.agg (bI T v tt).toArray) ⟨T,pl,tt⟩:=fun w' aA=>
  ⟨v,rfl,hG.slM (fun b o hm=>aA.has b o (by simp[hm])) Gu rfl pJ⟩
 have uw:New w.heap.size ((b5,Obj.cells (bI T v tt).toArray 100 (0,0)):: (br, .cells #[vs s,vi a3,vi e3] 139 (0,0)):: (b2,Obj.cells (bI id0 (.slice none 0 0) []).toArray 100 (0,0))::D):=⟨sW,mO,bV,New.mono oM hN⟩
 have hR:mw s=if cJ s a3 e3=0∧lQ ⟨T,pl,tt⟩=true∧comB ⟨T,pl,tt⟩=s then some ⟨T,pl,tt⟩ else none:=by unfold mw;rw[yF]
 have stz: ∀a E,ad (some (a,34)) (some (.cells (bI id0 (.slice none 0 0) []).toArray E (0,0))) 0 (.agg (bI id0 (.slice none 0 0) []).toArray)=some (.cells (bI id0 (.slice none 0 0) []).toArray E (0,0)):=st5
 unfold xb
 rw[hR]
 refine Ow.callFV rfl call73 (fun w' aA=>KQ_ br s a3 e3 w' (aA.has _ _ (cN _ am))) ?_
 by_cases he:cJ s a3 e3=0
 ·have d1: (cJ s a3 e3 !=0)=false:=by simp[he]
  refine ko (aN @fQ @d1) ?_
  refine Ow.callFV rfl call76 (fun w' aA=>K0_ _ _ w' (hC w' aA) (by show pl.length<1000000;omega) (by show tt.length<1099511627776;omega)) ?_
  cases hr:lQ ⟨T,pl,tt⟩
  ·rw[if_neg (by simp)]
   refine ko @fQ ?_
   refine Ow.build (.agg (bI id0 (.slice none 0 0) []).toArray) rfl Im ?_
   refine ko (aN @fQ @stz) ?_
   refine ky @fQ ?_
   refine⟨_,(ke @fQ), ?_⟩
   exact⟨Ext.of_new uw,rfl⟩
  refine ko @fQ ?_
  refine Ow.callFV rfl call77 (fun w' aA=>WK_ _ _ w' (hC w' aA) (by show pl.length<1000000;omega) (by show tt.length<1099511627776;omega)) ?_
  by_cases hb:comB ⟨T,pl,tt⟩=s
  ·have d3: (comB ⟨T,pl,tt⟩ !=s)=false:=by simp[hb]
   have stq: ∀a E,ad (some (a,34)) (some (.cells (bI id0 (.slice none 0 0) []).toArray E (0,0))) 0 (.agg (bI T v tt).toArray)=some (.cells (bI T v tt).toArray E (0,0)):=fun a E=>Lb _ _ _ _ a E (by rw[List.size_toArray,zU]) hG.cell.1
   rw[if_pos ⟨he,rfl,hb⟩]
   refine ko (aN @fQ (aN @d3 @stq)) ?_
   refine ky @fQ ?_
   refine⟨_,(ke @fQ), ?_⟩
   refine⟨Ext.of_new ⟨sW,mO,bV,New.mono oM hN⟩,v,rfl, ?_⟩
   show Gr _ _ _ _ pl.length (pl.map eT).flatten
   rw[Gu]
   exact hG.keep fun b o hb ho=>by
    have:=hN.le b (bY ho)
    simp(disch:=omega) only[rl]
    exact ho
  have d3: (comB ⟨T,pl,tt⟩ !=s)=true:=by simp[hb]
  rw[if_neg (fun h=>hb h.2.2)]
  refine ko (aN @fQ @d3) ?_
  refine Ow.build (.agg (bI id0 (.slice none 0 0) []).toArray) rfl Im ?_
  refine ko (aN @fQ @stz) ?_
  refine ky @fQ ?_
  refine⟨_,(ke @fQ), ?_⟩
  exact⟨Ext.of_new uw,rfl⟩
 have d1: (cJ s a3 e3 !=0)=true:=by simp[he]
 rw[if_neg (fun h=>he h.1)]
 refine ko (aN @fQ @d1) ?_
 refine Ow.build (.agg (bI id0 (.slice none 0 0) []).toArray) rfl Im ?_
 refine ko (aN @fQ @stz) ?_
 refine ky @fQ ?_
 refine⟨_,(ke @fQ), ?_⟩
 exact⟨Ext.of_new uw,rfl⟩
def roC (r v:Value) (t:IdL) (p:Value) (y:List UInt8):List Value:= [r]++ ([v]++bI t p y)
def EP (r v:Value) (t:IdL) (p:Value) (y:List UInt8) (n:Nat) (E:TypeId) (fz:Nat×Nat):aG (some (false,n)) (some (.cells (roC r v t p y).toArray E fz)) 0=some r:=iR [] _ r n E fz rfl
def Dw (r v:Value) (t:IdL) (p:Value) (y:List UInt8) (n:Nat) (E:TypeId) (fz:Nat×Nat):aG (some (false,n)) (some (.cells (roC r v t p y).toArray E fz)) 1=some v:=by
 unfold roC;exact iR [r] _ v n E fz rfl
def D_ (r v:Value) (t:IdL) (p:Value) (y:List UInt8) (E:TypeId) (fz:Nat×Nat):aG (some (true,34)) (some (.cells (roC r v t p y).toArray E fz)) 2=some (.agg (bI t p y).toArray):=by
 have e:roC r v t p y= [r,v]++ (bI t p y++ []):=by unfold roC;simp
 rw[e];exact Am [r,v] _ _ E fz rfl (zU _ _ _)
def CP (r v:Value) (t:IdL) (p:Value) (y:List UInt8) (n:Nat) (E:TypeId) (fz:Nat×Nat):aG (some (false,n)) (some (.cells (roC r v t p y).toArray E fz)) 34=some p:=by
 have e:roC r v t p y=([r,v]++t.l.map v8)++ ([p]++ [vs y]):=by unfold roC bI;simp
 rw[e];exact iR _ _ p n E fz (by simp[t.h])
def Ry (r v q:Value) (t:IdL) (p:Value) (y:List UInt8) (a:Bool) (E:TypeId) (hq:Value.oneCell' q=true∧q.cells= #[q]):ad (some (a,1)) (some (.cells (roC r v t p y).toArray E (0,0))) 1 q=some (.cells (roC r q t p y).toArray E (0,0)):=by
 unfold roC
 exact dR [r] [v] [q] _ a _ E rfl rfl hq.2 rfl (by simp[hq.1])
def T3 (r v:Value) (t x:IdL) (p:Value) (y:List UInt8) (a:Bool) (E:TypeId):ad (some (a,32)) (some (.cells (roC r v t p y).toArray E (0,0))) 2 (.agg (a8 x.l))=some (.cells (roC r v x p y).toArray E (0,0)):=by
 have e: ∀t,roC r v t p y= [r,v]++ (t.l.map v8++ ([p]++ [vs y])):=fun t=>by unfold roC bI;simp
 rw[e,e];exact dR [r,v] _ _ _ a _ E rfl (by simp[t.h]) (aS _) (by simp[x.h]) (qW _)
def R0 (r v:Value) (t:IdL) (p q:Value) (y:List UInt8) (a:Bool) (E:TypeId) (hq:Value.oneCell' q=true∧q.cells= #[q]):ad (some (a,1)) (some (.cells (roC r v t p y).toArray E (0,0))) 34 q=some (.cells (roC r v t q y).toArray E (0,0)):=by
 have e: ∀p,roC r v t p y=([r,v]++t.l.map v8)++ ([p]++ [vs y]):=fun p=>by unfold roC bI;simp
 rw[e,e];exact dR _ [p] [q] [vs y] a _ E (by simp[t.h]) rfl hq.2 rfl (by simp[hq.1])
def RA (r v:Value) (t:IdL) (p:Value) (y z:List UInt8) (a:Bool) (E:TypeId):ad (some (a,1)) (some (.cells (roC r v t p y).toArray E (0,0))) 35 (vs z)=some (.cells (roC r v t p z).toArray E (0,0)):=by
 have e: ∀y,roC r v t p y=(([r,v]++t.l.map v8)++ [p])++ ([vs y]++ []):=fun y=>by unfold roC bI;simp
 rw[e,e];exact dR _ _ _ _ a _ E (by simp[t.h]) rfl rfl rfl rfl
def Qt (k:Int) (t:List UInt8):dl (cC prog 141) (an prog 141) [(1,vi k),(0,vs t)]=some (.agg (bN ⟨t,k,id0⟩).toArray):=by
 rw[show cC prog 141=some [(0,1),(1,1),(2,32)] from id kR,kU];rfl
def Is (b:Nat) (s:List UInt8) (a:Nat) (e:Int) (w:World) (ho:w.heap[b]? =some (.cells #[vs s,vi a,vi e] 239 (0,0))):
  Rets prog 132 #[vp b 0] w (fun v D=>v=vi (cJ s a e)∧D= []):=RL b s a e w ho
def lL:=aN (aN (aN (aN @uX @ua) (aN @uc @ue)) (aN (aN @uY @EP) (aN @Dw @D_))) (aN (aN (aN @CP @As) (aN @BW @BJ)) (aN (aN @B_ @AG) (aN @zC (aN @av @au))))
def FI {w:World} {a b:Nat} {x y:Obj} (h:w.heap[a]? =some x) (h':w.heap[b]? =some y): ∀p:Nat×Obj,p∈ [(a,x),(b,y)]→w.heap[p.1]? =some p.2:=by
 intro p hp
 simp only[List.mem_cons,List.not_mem_nil,or_false] at hp
 rcases hp with rfl|rfl<;>assumption
structure EnH where
 n:Nat
 a:Nat
 e:Int
 l:List EntL
 v:Value
 D:aB
 H:aB
def Fp (bo bw:Nat) (s:List UInt8) (v:Value) (D:aB):Prop:=
 v= .bool (cJ s (fp s).2.1 (fp s).2.2==0&&nY (fp s).1)∧ ∃v1,Sx.look D bo=some (.cells (roC (vp bw 0) v1 id0 (.slice none 0 0) []).toArray 251 (0,0))∧Gr D 141 34 v1 (fp s).1.length ((fp s).1.map bN).flatten
def Pb (bo bw:Nat) (s:List UInt8) (w:World) (hs:s.length<100000) (aX:bo≠bw)
  (ho:w.heap[bo]? =some (.cells (roC (vp bw 0) (.slice none 0 0) id0 (.slice none 0 0) []).toArray 251 (0,0))) (hr:w.heap[bw]? =some (.cells #[vs s,vi 0,vi 0] 239 (0,0))):
  Rets prog 164 #[vp bo 0] w (XS w [(bo, .cells (roC (vp bw 0) (.slice none 0 0) id0 (.slice none 0 0) []).toArray 251 (0,0)),(bw, .cells #[vs s,vi 0,vi 0] 239 (0,0))] (Fp bo bw s)):=by
 have hob:bo<w.heap.size:=(Array.getElem?_eq_some_iff.1 ho).1
 have yv:bw<w.heap.size:=(Array.getElem?_eq_some_iff.1 hr).1
 refine Rets.enterX func164 rfl (rs:= [.tmp 2]) results164 ntmps164 (FI ho hr) (by simp[keys,aX]) ?_
 refine kf ?_
 refine ky @lL ?_
 refine Cw.loopG (G:=EnH) [4,5,6,7,8,9,10,11,12,13,14,15,16,17,18,19,20,3,21,22,23,24,25,26,27,28,29,30,31,32,33,34,35,36] (fun q=> []) (fun q=>q.H) (fun q=>EntsJ s q.n q.a q.e q.l∧New w.heap.size q.D∧Gr q.D 141 34 q.v q.l.length (q.l.map bN).flatten∧((bo,Obj.cells (roC (vp bw 0) q.v id0 (.slice none 0 0) []).toArray 251 (0,0)):: (bw, .cells #[vs s,vi q.a,vi q.e] 239 (0,0))::q.D).Perm q.H) (fun q=>q.n) ⟨s.length+1,0,0,[], .slice none 0 0,[],[(bo,Obj.cells (roC (vp bw 0) (.slice none 0 0) id0 (.slice none 0 0) []).toArray 251 (0,0)),(bw, .cells #[vs s,vi 0,vi 0] 239 (0,0))]⟩ rfl rfl ?_ ?_
 ·exact⟨EntsJ.init s,trivial,Gr.nl,List.Perm.refl _⟩
 intro q jq hq
 refine kv ?_
 obtain⟨n,a,e,l,v,D,H0⟩:=q
 simp only at hq ⊢
 obtain⟨hJ,hN,hG,Gv⟩:=hq
 refine Cw.permL Gv ?_
 clear Gv
 have dc:=hJ.le
 refine kz [3] @lL ?_
 refine Ow.callFV rfl call132 (fun w' aA=>Is bw s a e w' (aA.has _ _ (cN _ am))) ?_
 by_cases hc:e=0∧a<s.length
 ·obtain⟨m,rfl,n3⟩:=hJ.next hc
  obtain⟨he,aC⟩:=hc
  have h5:cJ s a e=5:=by unfold cJ;rw[if_neg (by simp[he]),if_pos oM]
  have d1: (cJ s a e==5)=true:=by simp[h5]
  refine ko (aN @lL @d1) ?_
  have hp:=jf (e:=e) (most:=2) dc
  have hq:=ub (e:=(aF s a e 2).2.2) (most:=32) hp.2
  have heq:i' s a e=(⟨(bL s (aF s a e 2).2.1 (aF s a e 2).2.2 32).1,(aF s a e 2).1,mA (idR s (bL s (aF s a e 2).2.1 (aF s a e 2).2.2 32).2.1 (bL s (aF s a e 2).2.1 (aF s a e 2).2.2 32).2.2).1⟩,(idR s (bL s (aF s a e 2).2.1 (aF s a e 2).2.2 32).2.1 (bL s (aF s a e 2).2.1 (aF s a e 2).2.2 32).2.2).2):=rfl
  have gm:=vw s (bL s (aF s a e 2).2.1 (aF s a e 2).2.2 32).2.1 (bL s (aF s a e 2).2.1 (aF s a e 2).2.2 32).2.2
  refine Cw.regionD [bo] [12] 11 3 141 12 _ rfl kR kR rfl kR kU (fun hD=> ?_)
  simp only[List.replicate_succ,List.replicate_zero]
  refine OwD.run [0,1,2,3,5,6,7,8] [true,true,true,true,false,true,true,true,true,false,false,false,false] 4 rfl hD kR fun k hk=> ?_
  simp only[ai, ↓ah, ↓ab, ↓ag, ↓ae,ac]
  simp(disch:=first|exact dD|fail) only[↓Sx.S0,Sx.S1,fx,lL,Nat.reduceAdd,Nat.reducePow,Int.reducePow,Nat.reduceBEq, ↓reduceIte,UInt8.reduceToNat,UInt16.reduceToNat,UInt32.reduceToNat,UInt64.reduceToNat,Int.reduceToNat,Md.next_sofnil,Md.next_sofnil]
  (with_reducible refine hk _ _ _ ?_);clear hk k
  refine OwD.soft 4 _ hD rfl kR (fun E hE=> ?_)
  refine Ow.callM rfl rfl call157 (by simp[keys]) (fun w' aA=>M0 bw s a e 2 w' dc oM (aA.has _ _ (by simp))) ?_
  generalize aF s a e 2=p at*
  obtain⟨kd,a1,e1⟩:=p
  simp only at hp hq heq gm ⊢
  refine kn ?_
  with_reducible refine Ow.nil ?_
  refine⟨(bo,Obj.cells (roC (vp bw 0) v id0 (.slice none 0 0) []).toArray 251 (0,0)):: (bw, .cells #[vs s,vi a1,vi e1] 239 (0,0))::D,pM,fun r hr=> ?_, ?_⟩
  ·rw[List.mem_singleton.1 hr]
   simp only[o5]
  simp only[List.set_cons_zero,List.set_cons_succ,pN,mT,mW]
  refine OwD.soft 9 _ hD rfl kR (fun E hE=> ?_)
  refine Ow.callM rfl rfl call131 (by simp[keys]) (fun w' aA=>Lv bw s a1 e1 32 w' hp.2 oM (aA.has _ _ (by simp))) ?_
  generalize bL s a1 e1 32=q at*
  obtain⟨tt,a2,e2⟩:=q
  simp only at hq heq gm ⊢
  refine kn ?_
  with_reducible refine Ow.nil ?_
  refine⟨(bo,Obj.cells (roC (vp bw 0) v id0 (.slice none 0 0) []).toArray 251 (0,0)):: (bw, .cells #[vs s,vi a2,vi e2] 239 (0,0))::D,pM,fun r hr=> ?_, ?_⟩
  ·rw[List.mem_singleton.1 hr]
   simp only[o5]
  simp only[List.set_cons_zero,List.set_cons_succ,pN,mT,mW]
  refine OwD.soft 10 _ hD rfl kR (fun E hE=> ?_)
  refine Ow.build (.agg (bN ⟨tt,kd,id0⟩).toArray) rfl (Qt kd tt) ?_
  with_reducible refine Ow.nil ?_
  refine⟨_,List.Perm.refl _,fun _ _=>rfl, ?_⟩
  simp only[List.set_cons_zero,List.set_cons_succ,pN,mT,mW]
  refine OwD.real [12] rfl hD kR kR kR kR (fun r hr=>by rw[List.mem_singleton.1 hr];exact .inl (by simp[keys])) ?_
  simp only[ai, ↓ah, ↓ab, ↓ag, ↓ae,ac]
  intro b3 dV nC
  simp only[mT,mW]
  have hst3:=AG ⟨tt,kd,id0⟩ bu
  refine Ow.store rfl rfl rfl (L':=((bo,Obj.cells (roC (vp bw 0) v id0 (.slice none 0 0) []).toArray 251 (0,0)):: (bw, .cells #[vs s,vi a2,vi e2] 239 (0,0))::D)++ [(b3, .cells (bN ⟨tt,kd,id0⟩).toArray 141 (0,0))]) ?_ ?_
  ·simp only[dC,cy,dA]
   rw[ag141,Aa,We_ nC,aS,hst3,Aj,Bw nC]
   exact []
  refine ko @lL ?_
  refine Cw.permL (M:=(b3, .cells (bN ⟨tt,kd,id0⟩).toArray 141 (0,0)):: (bo,Obj.cells (roC (vp bw 0) v id0 (.slice none 0 0) []).toArray 251 (0,0)):: (bw, .cells #[vs s,vi a2,vi e2] 239 (0,0))::D) pM ?_
  have hb3o:bo≠b3:=by simp[keys] at nC;omega
  have hb3w:bw≠b3:=by simp[keys] at nC;omega
  refine ky @lL ?_
  refine Ow.callM rfl rfl call194 (by simp[keys]) (fun w' aA=>wQ bw s a2 e2 w' hq.2 oM (aA.has _ _ (by simp))) ?_
  generalize idR s a2 e2=i at*
  obtain⟨il,a3,e3⟩:=i
  simp only at heq gm ⊢
  obtain⟨I,hI⟩: ∃I,mA il=I:=⟨_,rfl⟩
  have yS:il=I.l:=by rw[←hI,wF gm]
  rw[hI] at heq
  rw[yS]
  refine kn ?_
  refine ko @lL ?_
  generalize hx: ({name:=tt,kind:=kd,id:=I}:EntL)=x
  rw[hx] at heq
  rw[heq] at n3
  refine Cw.regionS [bo,b3] [0,1,2,3,4,5,6,7,8,9,10] [10] kR kR kR ?_
  simp only[ai, ↓ah, ↓ab, ↓ag, ↓ae,ac]
  refine kq @lL ?_
  refine Ow.soft rfl rfl rfl ?_
  refine Ow.buildSlice (e:=141) (bN x).toArray rfl rfl (gX underlying96 tS kU (by decide) (ny x)) fun b13 oy yu=> ?_
  have h3d:b3<b13:=ak oy (by simp[keys])
  with_reducible refine Ow.nil ?_
  refine⟨vn (by simp[keys]), ?_⟩
  try simp only[List.cons_append,List.nil_append]
  refine Ow.soft rfl rfl rfl ?_
  refine Ow.permL (M:=D++ [(b3,Obj.cells (bN x).toArray 141 (0,0)),(bo,Obj.cells (roC (vp bw 0) v id0 (.slice none 0 0) []).toArray 251 (0,0)),(bw, .cells #[vs s,vi a3,vi e3] 239 (0,0)),(b13,Obj.cells (bN x).toArray 141 (0,0))]) pM ?_
  refine Ow.appendX (e:=141) (k:=1) (new:=bN x) (X:=D) v rfl rfl rfl rfl underlying96 tS kR kU (by rw[zC,List.size_toArray,ny]) underlying96 (by intro k h;cases h) hG (fun w' aA=>AppX.one1 (aA.has b13 (.cells (bN x).toArray 141 (0,0)) (by simp)) (ny _) (wl _)) oM (by have:=hJ.cnt;omega) (fun B v4 D4 gQ ng jU cS cZ bQ=> ?_)
  have mC:b3<B:=ak gQ (by simp[ao,keys])
  have c_:New w.heap.size D4:=New.of_le fun q hq=>by
   rcases cZ q hq with h|h
   ·exact hN.le q h
   omega
  have ye:bo∉keys D4:=c_.not hob
  have za:b3∉keys D4:=fun hm=>by
   rcases cZ b3 hm with h|h
   ·exact nC (by simp only[keys,List.map_cons,List.mem_cons];exact .inr (.inr h))
   omega
  with_reducible refine Ow.nil ?_
  refine⟨fun q hq=> ?_, ?_⟩
  ·simp only[List.mem_cons,List.not_mem_nil,or_false] at hq
   rcases hq with rfl|rfl
   ·rw[Ij ye]
    simp(disch:=omega) only[o5,yz]
   rw[Ij za]
   simp(disch:=omega) only[o5,yz]
  have yZ: ∀M,Sx.look (D4++M) bo=Sx.look M bo:=fun M=>gO ye
  have yp: ∀M x,setB (D4++M) bo x=D4++setB M bo x:=fun M x=>JK ye
  have st1:=fun a E=>Ry (vp bw 0) v v4 id0 (.slice none 0 0) [] a E jU.cell
  have fg:sa (aR prog 96) (D4++ [(b3,Obj.cells (bN x).toArray 141 (0,0)),(bo,Obj.cells (roC (vp bw 0) v id0 (.slice none 0 0) []).toArray 251 (0,0)),(bw, .cells #[vs s,vi a3,vi e3] 239 (0,0)),(b13,Obj.cells (bN x).toArray 141 (0,0))]) (vp bo 1) v4=some (D4++ [(b3,Obj.cells (bN x).toArray 141 (0,0)),(bo,Obj.cells (roC (vp bw 0) v4 id0 (.slice none 0 0) []).toArray 251 (0,0)),(bw, .cells #[vs s,vi a3,vi e3] 239 (0,0)),(b13,Obj.cells (bN x).toArray 141 (0,0))]):=by
   rw[ag96,Aa,yZ]
   simp(disch:=omega) only[kH,rl,st1,Aj,yp,uh,yy]
  refine kq @lL ?_
  refine Ow.store rfl rfl rfl fg ?_
  refine ko @lL ?_
  refine Again.mk (EnH.mk m a3 e3 (l++ [x]) v4 (D4++ [(b3,Obj.cells (bN x).toArray 141 (0,0)),(b13,Obj.cells (bN x).toArray 141 (0,0))]) _) (by show m<m+1;omega) ⟨n3,c_.app ⟨by omega,by omega,trivial⟩, ?_, ?_⟩ rfl rfl
  ·show Gr _ _ _ _ (l++ [x]).length ((l++ [x]).map bN).flatten
   rw[List.length_append,List.map_append,List.flatten_append,show([x].map bN).flatten=bN x by simp]
   exact Gr.app (.inl jU)
  exact pM
 have hd:=hJ.done hc
 have gw:=hJ.sh oM
 have uF:=hJ.cnt
 have h5:cJ s a e≠5:=by
  unfold cJ
  by_cases he:e=0
  ·rw[if_neg (by simp[he]),if_neg oM];decide
  rw[if_pos he];exact hJ.five
 have d1: (cJ s a e==5)=false:=by simpa using h5
 have hE:Ext w [(bo,Obj.cells (roC (vp bw 0) (.slice none 0 0) id0 (.slice none 0 0) []).toArray 251 (0,0)),(bw,Obj.cells #[vs s,vi 0,vi 0] 239 (0,0))] ((bo,Obj.cells (roC (vp bw 0) v id0 (.slice none 0 0) []).toArray 251 (0,0)):: (bw,Obj.cells #[vs s,vi a,vi e] 239 (0,0))::D):=by
  refine⟨fun c hc=> ?_,fun c hc=> ?_⟩
  ·simp only[keys,List.map_cons,List.map_nil,List.mem_cons,List.not_mem_nil,or_false] at hc ⊢
   rcases hc with h|h|h
   ·exact .inl (.inl h)
   ·exact .inl (.inr h)
   exact .inr (hN.le c h)
  simp only[keys,List.map_cons,List.map_nil,List.mem_cons,List.not_mem_nil,or_false] at hc ⊢
  rcases hc with h|h
  ·exact .inl h
  exact .inr (.inl h)
 have hF:Gr ((bo,Obj.cells (roC (vp bw 0) v id0 (.slice none 0 0) []).toArray 251 (0,0)):: (bw,Obj.cells #[vs s,vi a,vi e] 239 (0,0))::D) 141 34 v l.length (l.map bN).flatten:=hG.keep fun b o hb ho=>by
  have:=hN.le b (bY ho)
  simp(disch:=omega) only[rl]
  exact ho
 unfold Fp
 rw[hd]
 refine ko (aN @lL @d1) ?_
 refine Ow.callFV rfl call132 (fun w' aA=>Is bw s a e w' (aA.has _ _ (cN _ am))) ?_
 by_cases he:cJ s a e=0
 ·have d2: (cJ s a e==0)=true:=by simp[he]
  rw[d2]
  refine ko (aN @lL @d2) ?_
  refine Ow.callFV rfl call195 (fun w' aA=>NQ v l w' (hG.slM (fun b o hm=>aA.has b o (by simp[hm])) rfl rfl ny) oM gw) ?_
  refine ko @lL ?_
  refine ky @lL ?_
  refine⟨_,(ke @lL), ?_⟩
  exact⟨hE,rfl,v,by simp only[kH],hF⟩
 have d2: (cJ s a e==0)=false:=by simpa using he
 rw[d2]
 refine ko (aN @lL @d2) ?_
 refine ky @lL ?_
 refine⟨_,(ke @lL), ?_⟩
 exact⟨hE,rfl,v,by simp only[kH],hF⟩
def mf:=aN (aN (aN @uX (aN @ua @uc)) (aN (aN @ue @uY) (aN @EP @Dw))) (aN (aN @D_ (aN @CP @T3)) (aN (aN @RA @AK) (aN @av @au)))
structure CmH where
 g:Nat
 v:Value
 D:aB
 H:aB
def GJ (bo bw:Nat) (s:List UInt8) (v:Value) (D:aB):Prop:=
 v= .bool (cJ s (f4 s).2.1 (f4 s).2.2==0&&lQ (f4 s).1)∧ ∃p,Sx.look D bo=some (.cells (roC (vp bw 0) (.slice none 0 0) (f4 s).1.tree p (f4 s).1.text).toArray 251 (0,0))∧Gr D 39 32 p (f4 s).1.par.length ((f4 s).1.par.map eT).flatten
def Rf (bo bw:Nat) (s:List UInt8) (w:World) (hs:s.length<100000) (aX:bo≠bw)
  (ho:w.heap[bo]? =some (.cells (roC (vp bw 0) (.slice none 0 0) id0 (.slice none 0 0) []).toArray 251 (0,0))) (hr:w.heap[bw]? =some (.cells #[vs s,vi 0,vi 0] 239 (0,0))):
  Rets prog 165 #[vp bo 0] w (XS w [(bo,Obj.cells (roC (vp bw 0) (.slice none 0 0) id0 (.slice none 0 0) []).toArray 251 (0,0)),(bw,Obj.cells #[vs s,vi 0,vi 0] 239 (0,0))] (GJ bo bw s)):=by
 have hob:bo<w.heap.size:=(Array.getElem?_eq_some_iff.1 ho).1
 have yv:bw<w.heap.size:=(Array.getElem?_eq_some_iff.1 hr).1
 refine Rets.enterX func165 rfl (rs:= [.tmp 2]) results165 ntmps165 (FI ho hr) (by simp[keys,aX]) ?_
 refine kf ?_
 refine ky @mf ?_
 refine Ow.callM rfl rfl call194 (by simp[keys]) (fun w' aA=>wQ bw s 0 0 w' (aV _) oM (aA.has _ _ (cN _ am))) ?_
 have ip:=oU (s:=s) (a:=0) (e:=0) (aV _)
 have np:=jf (e:=(idR s 0 0).2.2) (most:=4) ip.2
 have nm:=sZ (s:=s) (a:=(idR s 0 0).2.1) (e:=(idR s 0 0).2.2) (most:=4) (by decide)
 obtain⟨T,hT⟩: ∃T,mA (idR s 0 0).1=T:=⟨_,rfl⟩
 have hiT: (idR s 0 0).1=T.l:=by rw[←hT,wF (vw s 0 0)]
 have yF:f4 s=(⟨T,(eN s).1,(comT s).1⟩,(comT s).2):=by unfold f4;rw[hT]
 rw[hiT]
 refine kn ?_
 refine ko @mf ?_
 refine Ow.callM rfl rfl call157 (by simp[keys]) (fun w' aA=>M0 bw s _ _ 4 w' ip.2 oM (aA.has _ _ (cN _ am))) ?_
 have hP:eN s=bJ s (aF s (idR s 0 0).2.1 (idR s 0 0).2.2 4).2.1 (aF s (idR s 0 0).2.1 (idR s 0 0).2.2 4).2.2 (aF s (idR s 0 0).2.1 (idR s 0 0).2.2 4).1.toNat:=rfl
 generalize aF s (idR s 0 0).2.1 (idR s 0 0).2.2 4=nr at*
 obtain⟨cn,na,ne⟩:=nr
 simp only at np nm hP ⊢
 obtain⟨k,rfl⟩:=Int.eq_ofNat_of_zero_le nm.1
 rw[Int.toNat_natCast] at hP
 refine kn ?_
 refine ko @mf ?_
 refine Cw.loopG (G:=CmH) [18,19,20,21,22,23,24,25,26,27,28,29,30,31,32,33,34,35,17] (fun q=> [(17,vi q.g)]) (fun q=>q.H) (fun q=>q.g≤k∧New w.heap.size q.D∧Gr q.D 39 32 q.v q.g ((bJ s na ne q.g).1.map eT).flatten∧((bo,Obj.cells (roC (vp bw 0) (.slice none 0 0) T q.v []).toArray 251 (0,0)):: (bw,Obj.cells #[vs s,vi (bJ s na ne q.g).2.1,vi (bJ s na ne q.g).2.2] 239 (0,0))::q.D).Perm q.H) (fun q=>k - q.g) ⟨0, .slice none 0 0,[],[(bo,Obj.cells (roC (vp bw 0) (.slice none 0 0) T (.slice none 0 0) []).toArray 251 (0,0)),(bw,Obj.cells #[vs s,vi na,vi ne] 239 (0,0))]⟩ rfl rfl ?_ ?_
 ·exact⟨aV _,trivial,Gr.nl,List.Perm.refl _⟩
 intro q jq hq
 refine kv ?_
 obtain⟨g,v,D,H0⟩:=q
 simp only at hq ⊢
 obtain⟨hgk,hN,hG,Gv⟩:=hq
 refine Cw.permL Gv ?_
 clear Gv
 have gle:=Aw (e:=ne) np.2 g
 by_cases aC:g<k
 ·have yQ:bJ s na ne (g+1)=((bJ s na ne g).1++ [mA (idR s (bJ s na ne g).2.1 (bJ s na ne g).2.2).1],(idR s (bJ s na ne g).2.1 (bJ s na ne g).2.2).2):=rfl
  refine ky @mf ?_
  refine Cw.regionS [bo] [0,1,2,3,4,6,7,8,5,9,10,11,12,13,14,15,16] [16] kR kR kR ?_
  simp only[ai, ↓ah, ↓ab, ↓ag, ↓ae,ac]
  refine kq @mf ?_
  refine Ow.soft rfl rfl rfl ?_
  refine Ow.callM rfl rfl call194 (by simp[keys]) (fun w' aA=>wQ bw s (bJ s na ne g).2.1 (bJ s na ne g).2.2 w' gle oM (aA.has _ _ (cN _ am))) ?_
  with_reducible refine Ow.nil ?_
  refine⟨fun b hb=>M1 (by simp only[List.mem_cons,List.not_mem_nil,or_false] at hb;omega), ?_⟩
  have gm:=vw s (bJ s na ne g).2.1 (bJ s na ne g).2.2
  obtain⟨I,hI⟩: ∃I,mA (idR s (bJ s na ne g).2.1 (bJ s na ne g).2.2).1=I:=⟨_,rfl⟩
  have yS: (idR s (bJ s na ne g).2.1 (bJ s na ne g).2.2).1=I.l:=by rw[←hI,wF gm]
  rw[hI] at yQ
  have jY: (bJ s na ne (g+1)).1=(bJ s na ne g).1++ [I]:=by rw[yQ]
  have kg: (bJ s na ne (g+1)).2=(idR s (bJ s na ne g).2.1 (bJ s na ne g).2.2).2:=by rw[yQ]
  rw[yS,←kg]
  refine kn ?_
  refine Ow.soft rfl rfl rfl ?_
  refine Ow.buildSlice (e:=39) (a8 I.l) rfl rfl (gX (cs:=I.l.map v8) underlying53 pb gM (by decide) (by simp[I.h])) fun b13 oy yu=> ?_
  with_reducible refine Ow.nil ?_
  refine⟨vn (by simp[keys]), ?_⟩
  try simp only[List.cons_append,List.nil_append]
  refine Ow.soft rfl rfl rfl ?_
  refine Ow.permL (M:=D++ [(bo,Obj.cells (roC (vp bw 0) (.slice none 0 0) T v []).toArray 251 (0,0)),(bw,Obj.cells #[vs s,vi (bJ s na ne (g+1)).2.1,vi (bJ s na ne (g+1)).2.2] 239 (0,0)),(b13,Obj.cells (a8 I.l) 39 (0,0))]) pM ?_
  refine Ow.appendX (e:=39) (k:=1) (new:=eT I) (X:=D) v rfl rfl rfl rfl underlying53 pb kR gM (by rw[aS,sg,id0.h]) underlying53 (by intro k h;cases h) hG (fun w' aA=>AppX.one1 (aA.has b13 (.cells (a8 I.l) 39 (0,0)) (by simp)) (pJ I) (A_ I)) oM oM (fun B v4 D4 gQ ng jU cS cZ bQ=> ?_)
  have c_:New w.heap.size D4:=New.of_le fun q hq=>by
   rcases cZ q hq with h|h
   ·exact hN.le q h
   omega
  have ye:bo∉keys D4:=c_.not hob
  with_reducible refine Ow.nil ?_
  refine⟨fun q hq=> ?_, ?_⟩
  ·rw[List.mem_singleton] at hq
   subst hq
   rw[Ij ye]
   simp only[o5]
  have yZ: ∀M,Sx.look (D4++M) bo=Sx.look M bo:=fun M=>gO ye
  have yp: ∀M x,setB (D4++M) bo x=D4++setB M bo x:=fun M x=>JK ye
  have st1:=fun a E=>R0 (vp bw 0) (.slice none 0 0) T v v4 [] a E jU.cell
  have fg:sa (aR prog 53) (D4++ [(bo,Obj.cells (roC (vp bw 0) (.slice none 0 0) T v []).toArray 251 (0,0)),(bw,Obj.cells #[vs s,vi (bJ s na ne (g+1)).2.1,vi (bJ s na ne (g+1)).2.2] 239 (0,0)),(b13,Obj.cells (a8 I.l) 39 (0,0))]) (vp bo 34) v4=some (D4++ [(bo,Obj.cells (roC (vp bw 0) (.slice none 0 0) T v4 []).toArray 251 (0,0)),(bw,Obj.cells #[vs s,vi (bJ s na ne (g+1)).2.1,vi (bJ s na ne (g+1)).2.2] 239 (0,0)),(b13,Obj.cells (a8 I.l) 39 (0,0))]):=by
   rw[ag53,Aa,yZ]
   simp(disch:=omega) only[kH,rl,st1,Aj,yp,uh,yy]
  refine kq @mf ?_
  refine Ow.store rfl rfl rfl fg ?_
  refine ko @mf ?_
  refine Again.mk (CmH.mk (g+1) v4 (D4++ [(b13,Obj.cells (a8 I.l) 39 (0,0))]) _) (by show k - (g+1)<k - g;omega) ⟨by show g+1≤k;omega,c_.app ⟨by omega,trivial⟩, ?_, ?_⟩ rfl rfl
  ·show Gr _ _ _ _ (g+1) ((bJ s na ne (g+1)).1.map eT).flatten
   rw[jY,List.map_append,List.flatten_append,show([I].map eT).flatten=eT I by simp]
   exact Gr.app (.inl jU)
  exact pM
 obtain rfl:g=k:=by omega
 rw[←hP] at hG
 rw[←hP] at gle
 rw[←hP]
 have tp:=ub (e:=(eN s).2.2) (most:=64) gle
 refine ky @mf ?_
 refine Ow.callM rfl rfl call131 (by simp[keys]) (fun w' aA=>Lv bw s (eN s).2.1 (eN s).2.2 64 w' gle oM (aA.has _ _ (cN _ am))) ?_
 refine kn ?_
 refine ko @mf ?_
 have hT2:comT s=bL s (eN s).2.1 (eN s).2.2 64:=rfl
 have kC:=IV s (eN s).2.1 (eN s).2.2 64
 rw[hT2] at yF
 generalize bL s (eN s).2.1 (eN s).2.2 64=tx at*
 obtain⟨tt,a3,e3⟩:=tx
 simp only at tp yF kC ⊢
 have Gu: (eN s).1.length=g:=by rw[hP,IQ]
 generalize (eN s).1=pl at*
 have hC: ∀w',Hp w ((bo,Obj.cells (roC (vp bw 0) (.slice none 0 0) T v tt).toArray 251 (0,0)):: (bw,Obj.cells #[vs s,vi a3,vi e3] 239 (0,0))::D) w'→ComS w' (.agg (bI T v tt).toArray) ⟨T,pl,tt⟩:=fun w' aA=>
  ⟨v,rfl,hG.slM (fun b o hm=>aA.has b o (by simp[hm])) Gu rfl pJ⟩
 have hE:Ext w [(bo,Obj.cells (roC (vp bw 0) (.slice none 0 0) id0 (.slice none 0 0) []).toArray 251 (0,0)),(bw,Obj.cells #[vs s,vi 0,vi 0] 239 (0,0))] ((bo,Obj.cells (roC (vp bw 0) (.slice none 0 0) T v tt).toArray 251 (0,0)):: (bw,Obj.cells #[vs s,vi a3,vi e3] 239 (0,0))::D):=by
  refine⟨fun c hc=> ?_,fun c hc=> ?_⟩
  ·simp only[keys,List.map_cons,List.map_nil,List.mem_cons,List.not_mem_nil,or_false] at hc ⊢
   rcases hc with h|h|h
   ·exact .inl (.inl h)
   ·exact .inl (.inr h)
   exact .inr (hN.le c h)
  simp only[keys,List.map_cons,List.map_nil,List.mem_cons,List.not_mem_nil,or_false] at hc ⊢
  rcases hc with h|h
  ·exact .inl h
  exact .inr (.inl h)
 have hF:Gr ((bo,Obj.cells (roC (vp bw 0) (.slice none 0 0) T v tt).toArray 251 (0,0)):: (bw,Obj.cells #[vs s,vi a3,vi e3] 239 (0,0))::D) 39 32 v pl.length (pl.map eT).flatten:=by
  rw[Gu]
  exact hG.keep fun b o hb ho=>by
   have:=hN.le b (bY ho)
   simp(disch:=omega) only[rl]
   exact ho
 unfold GJ
 rw[yF]
 refine Ow.callFV rfl call132 (fun w' aA=>Is bw s a3 e3 w' (aA.has _ _ (cN _ am))) ?_
 by_cases he:cJ s a3 e3=0
 ·have d2: (cJ s a3 e3==0)=true:=by simp[he]
  rw[d2]
  refine ko (aN @mf @d2) ?_
  refine Ow.callFV rfl call196 (fun w' aA=>Of _ _ w' (hC w' aA) (by show pl.length<1000000;omega) (by show tt.length<1099511627776;omega)) ?_
  refine ko @mf ?_
  refine ky @mf ?_
  refine⟨_,(ke @mf), ?_⟩
  exact⟨hE,rfl,v,by simp only[kH],hF⟩
 have d2: (cJ s a3 e3==0)=false:=by simpa using he
 rw[d2]
 refine ko (aN @mf @d2) ?_
 refine ky @mf ?_
 refine⟨_,(ke @mf), ?_⟩
 exact⟨hE,rfl,v,by simp only[kH],hF⟩
def Pa (v:Value) (w:World):Rets prog 163 #[v] w (fun v' D=>v'= .bool true∧D= []):=by
 refine Rets.enterV func163 rfl (rs:= [.tmp 2]) results163 ntmps163 ?_
 refine kf ?_
 refine ky @Nat.add_zero ?_
 refine⟨_,(ke @Nat.add_zero),trivial, ?_⟩
 rfl
abbrev obV (k:Int) (t:List UInt8):Value:= .agg #[vi k,vs t]
def j7 (k:Int) (t:List UInt8) (E:TypeId) (fz:Nat×Nat):aG (some (true,2)) (some (.cells #[vi k,vs t] E fz)) 0=some (obV k t):=(rfl)
def jB (k:Int) (t:List UInt8) (n:Nat) (E:TypeId) (fz:Nat×Nat):aG (some (false,n)) (some (.cells #[vi k,vs t] E fz)) 0=some (vi k):=(rfl)
def j9 (k:Int) (t:List UInt8) (n:Nat) (E:TypeId) (fz:Nat×Nat):aG (some (false,n)) (some (.cells #[vi k,vs t] E fz)) 1=some (vs t):=(rfl)
def j8 (k k':Int) (t t':List UInt8) (a:Bool) (E:TypeId):ad (some (a,2)) (some (.cells #[vi k',vs t'] E (0,0))) 0 (obV k t)=some (.cells #[vi k,vs t] E (0,0)):=(rfl)
def iF:=aN (aN @j7 (aN @jB @j9)) (aN @j8 (aN @av @au))
def fnV (k:Nat):Value:= .func (.func k) #[] #[]
def fnsV:Array Value:= #[.nilFunc,fnV 163,fnV 164,fnV 165]
abbrev T4:TypeId:=249
def TQ:dl (cC prog T4) (an prog T4) [(1,fnV 163),(2,fnV 164),(3,fnV 165)]=some (.agg fnsV):=by
 have hp:cC prog T4=some [(0,1),(1,1),(2,1),(3,1)]:=id kR
 have hz:an prog T4=some (.agg #[.nilFunc, .nilFunc, .nilFunc, .nilFunc]):=id kR
 rw[hp,hz];rfl
def ZZ:an prog T4=some (.agg #[.nilFunc, .nilFunc, .nilFunc, .nilFunc]):=id kR
def TM (a:Bool) (E:TypeId):ad (some (a,4)) (some (.cells #[.nilFunc, .nilFunc, .nilFunc, .nilFunc] E (0,0))) 0 (.agg fnsV)=some (.cells fnsV E (0,0)):=(rfl)
def VH (x:Value) (hx:x.cells= #[x]):dl (cC prog 251) (an prog 251) [(0,x)]=some (.agg (roC x (.slice none 0 0) id0 (.slice none 0 0) []).toArray):=by
 have hp:cC prog 251=some [(0,1),(1,1),(2,34)]:=id kR
 have hz:an prog 251=some (.agg (roC (.pointer none) (.slice none 0 0) id0 (.slice none 0 0) []).toArray):=id kR
 rw[hp,hz]
 simp only[dl,fillV,List.getElem?_cons_zero,hx]
 rfl
def cm (k:Int) (t:List UInt8):Bool:=
 if 1≤k∧k≤3∧t.length≤4096 then
  (if k=1 then true else if k=2 then(cJ t (fp t).2.1 (fp t).2.2==0&&nY (fp t).1) else(cJ t (f4 t).2.1 (f4 t).2.2==0&&lQ (f4 t).1))
 else false
def RdS (k:Int) (t:List UInt8) (v:Value) (D:aB):Prop:=
 ∃p,v= .tuple #[p, .bool (cm k t)]∧(1≤k∧k≤3∧t.length≤4096→ ∃bo bw v1 c1 x1 y1,p=vp bo 0∧Sx.look D bo=some (.cells (roC (vp bw 0) v1 c1 x1 y1).toArray 251 (0,0))∧
  (k=2→Gr D 141 34 v1 (fp t).1.length ((fp t).1.map bN).flatten)∧
  (k=3→c1=(f4 t).1.tree∧y1=(f4 t).1.text∧Gr D 39 32 x1 (f4 t).1.par.length ((f4 t).1.par.map eT).flatten)∧(k≠2→v1= .slice none 0 0))
def Qg (k:Int) (t:List UInt8) (w:World):Rets prog 140 #[obV k t] w (XS w [] (RdS k t)):=by
 refine Rets.enterX func140 rfl (rs:= [.tmp 2, .tmp 3]) results140 ntmps140 (fun p hp=>by cases hp) (by simp[keys]) ?_
 refine kf ?_
 refine ky @iF ?_
 refine Ow.box rfl rfl fun b1 aW aI=> ?_
 simp only[dC,cy,dA,aS,List.nil_append]
 refine ko @iF ?_
 refine Ow.build (.agg fnsV) rfl TQ ?_
 refine ko @iF ?_
 refine Ow.alloc rfl rfl ZZ fun b4 g4 cr=> ?_
 simp only[aS,List.nil_append,List.cons_append]
 have JW:b1<b4:=ak g4 (by simp[keys])
 refine ko (aN @iF @TM) ?_
 by_cases h1:k<1
 ·have d1:decide (k<1)=true:=aK h1
  have e:cm k t=false:=by unfold cm;rw[if_neg oM]
  refine ky (aN @iF @d1) ?_
  refine⟨_,(ke @iF), ?_⟩
  exact⟨Ext.of_new ⟨aI,cr,trivial⟩, .pointer none,by rw[e];rfl,fun h=>absurd h.1 oM⟩
 have d1:decide (k<1)=false:=aO h1
 by_cases h2:3<k
 ·have d2:decide (3<k)=true:=aK h2
  have e:cm k t=false:=by unfold cm;rw[if_neg oM]
  refine ky (aN @iF (aN @d1 @d2)) ?_
  refine⟨_,(ke @iF), ?_⟩
  exact⟨Ext.of_new ⟨aI,cr,trivial⟩, .pointer none,by rw[e];rfl,fun h=>absurd h.2.1 oM⟩
 have d2:decide (3<k)=false:=aO h2
 by_cases h3:4096<t.length
 ·have d3:decide (4096< (t.length:Int))=true:=aK oM
  have e:cm k t=false:=by unfold cm;rw[if_neg oM]
  refine ky (aN @iF (aN @d1 (aN @d2 @d3))) ?_
  refine⟨_,(ke @iF), ?_⟩
  exact⟨Ext.of_new ⟨aI,cr,trivial⟩, .pointer none,by rw[e];rfl,fun h=>absurd h.2.2 oM⟩
 have d3:decide (4096< (t.length:Int))=false:=aO oM
 refine ky (aN @iF (aN @d1 (aN @d2 @d3))) ?_
 refine Ow.callF rfl rfl call128 (S:=fun B v D=> ∃b',B≤b'∧v=vp b' 0∧D= [(b', .cells #[vs t,vi 0,vi 0] 239 (0,0))]) (fun w' aA=>CG t w') ?_
 rintro B v D gR hB ⟨bw,H8,rfl,rfl⟩
 obtain⟨h1B,h4B,-⟩:=gR
 refine⟨_,Mrg.fresh (by intro q hq;simp only[keys,List.map_cons,List.map_nil,List.mem_singleton] at hq;omega), ?_⟩
 simp only[List.cons_append,List.nil_append]
 refine ko @iF ?_
 refine Ow.build (.agg (roC (vp bw 0) (.slice none 0 0) id0 (.slice none 0 0) []).toArray) rfl (VH _ rfl) ?_
 refine ko @iF ?_
 refine Ow.box rfl rfl fun bo iX hwo=> ?_
 simp only[dC,cy,dA,aS,List.nil_append,List.cons_append]
 have Hf:bo≠bw:=by have:=ak iX (show bw∈keys _ by simp[keys]);omega
 rcases(show k=1∨k=2∨k=3 by omega) with rfl|rfl|rfl
 ·have lf: ∀n E fz,aG (some (false,n)) (some (.cells fnsV E fz)) 1=some (fnV 163):=fun _ _ _=>rfl
  have e:cm 1 t=true:=by unfold cm;rw[if_pos oM];rfl
  refine ko (aN @iF @lf) ?_
  refine Ow.callV rfl rfl call163 (fun w' aA=>by have:=Pa (vp bo 0) w';simpa [dC,dA,cy] using this) ?_
  refine ko @iF ?_
  refine ky @iF ?_
  refine⟨_,(ke @iF), ?_⟩
  refine⟨Ext.of_new ⟨aI,cr,by omega,hwo,trivial⟩,vp bo 0,by rw[e];rfl,fun h=>⟨bo,bw, .slice none 0 0,id0, .slice none 0 0,[],rfl, ?_,fun h=>absurd h (by decide),fun h=>absurd h (by decide),fun _=>rfl⟩⟩
  have hb1o:b1≠bo:=by have:=ak iX (show b1∈keys _ by simp[keys]);omega
  have hb4o:b4≠bo:=by have:=ak iX (show b4∈keys _ by simp[keys]);omega
  simp(disch:=omega) only[kH,rl]
 ·have lf: ∀n E fz,aG (some (false,n)) (some (.cells fnsV E fz)) 2=some (fnV 164):=fun _ _ _=>rfl
  have e:cm 2 t=(cJ t (fp t).2.1 (fp t).2.2==0&&nY (fp t).1):=by unfold cm;rw[if_pos oM];rfl
  refine ko (aN @iF @lf) ?_
  refine Ow.permL (M:= [(bo,Obj.cells (roC (vp bw 0) (.slice none 0 0) id0 (.slice none 0 0) []).toArray 251 (0,0)),(bw,Obj.cells #[vs t,vi 0,vi 0] 239 (0,0))]++ [(b1,Obj.cells #[vi 2,vs t] 33 (0,0)),(b4,Obj.cells fnsV 249 (0,0))]) pM ?_
  refine Ow.callFnX (b:=vp bo 0) (X:= [(bo,Obj.cells (roC (vp bw 0) (.slice none 0 0) id0 (.slice none 0 0) []).toArray 251 (0,0)),(bw,Obj.cells #[vs t,vi 0,vi 0] 239 (0,0))]) (Y:= [(b1,Obj.cells #[vi 2,vs t] 33 (0,0)),(b4,Obj.cells fnsV 249 (0,0))]) rfl rfl rfl rfl rfl call164 (fun w' aA hX hn=>Pb bo bw t w' oM Hf (hX _ am) (hX _ (cN _ am))) (fun v D hC hS=> ?_)
  obtain⟨rfl,v1,fq,jY⟩:=hS
  have hNX:New w.heap.size (D++ [(b1,Obj.cells #[vi 2,vs t] 33 (0,0)),(b4,Obj.cells fnsV 249 (0,0))]):=by
   refine New.of_le fun c hc=> ?_
   rw[ao,List.mem_append] at hc
   rcases hc with hc|hc
   ·rcases hC.new c hc with h| ⟨-,h⟩
    ·simp only[keys,List.map_cons,List.map_nil,List.mem_cons,List.not_mem_nil,or_false] at h;omega
    exact h
   simp only[keys,List.map_cons,List.map_nil,List.mem_cons,List.not_mem_nil,or_false] at hc;omega
  refine ko @iF ?_
  refine ky @iF ?_
  refine⟨_,(ke @iF), ?_⟩
  exact⟨Ext.of_new hNX,vp bo 0,by rw[e];rfl,fun _=>⟨bo,bw,v1,_,_,_,rfl,az fq,fun _=>jY.app,fun h=>absurd h (by decide),fun h=>absurd rfl h⟩⟩
 have lf: ∀n E fz,aG (some (false,n)) (some (.cells fnsV E fz)) 3=some (fnV 165):=fun _ _ _=>rfl
 have e:cm 3 t=(cJ t (f4 t).2.1 (f4 t).2.2==0&&lQ (f4 t).1):=by unfold cm;rw[if_pos oM];rfl
 refine ko (aN @iF @lf) ?_
 refine Ow.permL (M:= [(bo,Obj.cells (roC (vp bw 0) (.slice none 0 0) id0 (.slice none 0 0) []).toArray 251 (0,0)),(bw,Obj.cells #[vs t,vi 0,vi 0] 239 (0,0))]++ [(b1,Obj.cells #[vi 3,vs t] 33 (0,0)),(b4,Obj.cells fnsV 249 (0,0))]) pM ?_
 refine Ow.callFnX (b:=vp bo 0) (X:= [(bo,Obj.cells (roC (vp bw 0) (.slice none 0 0) id0 (.slice none 0 0) []).toArray 251 (0,0)),(bw,Obj.cells #[vs t,vi 0,vi 0] 239 (0,0))]) (Y:= [(b1,Obj.cells #[vi 3,vs t] 33 (0,0)),(b4,Obj.cells fnsV 249 (0,0))]) rfl rfl rfl rfl rfl call165 (fun w' aA hX hn=>Rf bo bw t w' oM Hf (hX _ am) (hX _ (cN _ am))) (fun v D hC hS=> ?_)
 obtain⟨rfl,p1,fq,jY⟩:=hS
 have hNX:New w.heap.size (D++ [(b1,Obj.cells #[vi 3,vs t] 33 (0,0)),(b4,Obj.cells fnsV 249 (0,0))]):=by
  refine New.of_le fun c hc=> ?_
  rw[ao,List.mem_append] at hc
  rcases hc with hc|hc
  ·rcases hC.new c hc with h| ⟨-,h⟩
   ·simp only[keys,List.map_cons,List.map_nil,List.mem_cons,List.not_mem_nil,or_false] at h;omega
   exact h
  simp only[keys,List.map_cons,List.map_nil,List.mem_cons,List.not_mem_nil,or_false] at hc;omega
 refine ko @iF ?_
 refine ky @iF ?_
 refine⟨_,(ke @iF), ?_⟩
 exact⟨Ext.of_new hNX,vp bo 0,by rw[e];rfl,fun _=>⟨bo,bw,_,_,p1,_,rfl,az fq,fun h=>absurd h (by decide),fun _=>⟨rfl,rfl,jY.app⟩,fun _=>rfl⟩⟩
def qj:=aN (aN (aN @j7 @jB) (aN @j9 @j8)) (aN (aN @Sx.tup2_0 @Sx.tup2_1) (aN @av @au))
def Wl_ (k:Int) (t:List UInt8) (w:World):Rets prog 115 #[obV k t] w (fun v D=>v= .bool (cm k t)∧D= []):=by
 refine Rets.enterV func115 rfl (rs:= [.tmp 2]) results115 ntmps115 ?_
 refine kf ?_
 refine ky @qj ?_
 refine Ow.box rfl rfl fun b1 aW aI=> ?_
 simp only[dC,cy,dA,aS,List.nil_append]
 refine ko @qj ?_
 refine Ow.callC rfl rfl call140 (fun w' aA=>Qg k t w') (fun B v D hA hB hN hS=> ?_)
 obtain⟨p,rfl,-⟩:=hS
 refine ko @qj ?_
 refine ky @qj ?_
 refine⟨_,(ke @qj),⟨aI,New.mono hB hN⟩, ?_⟩
 rfl
def fB:an prog 33=some (obV 0 []):=id kR
def zB:dl (cC prog 33) (an prog 33) []=some (obV 0 []):=by
 have hp:cC prog 33=some [(0,1),(1,1)]:=id kR
 rw[hp,fB];rfl
def Ck (k:Int) (t:List UInt8):dl (cC prog 33) (an prog 33) [(0,vi k),(1,vs t)]=some (obV k t):=by
 have hp:cC prog 33=some [(0,1),(1,1)]:=id kR
 rw[hp,fB];rfl
def BldAt.zeroE (b:Nat) {L:aB} (h:Sx.look L b=some (.cells #[.pointer none, .slice none 0 0] 192 (0,0))):BldAt b [] L:=
 ⟨_,_,h, .inl rfl, .nl,fun h=>by cases h⟩
def zrWr:an prog 192=some (.agg #[.pointer none, .slice none 0 0]):=id kR
def Came.newE {w0:World} {L X D:aB} {b:Nat} (hC:Came w0 L X D) (hN:New (b+1) X) (hb:b∈keys L):New (b+1) D:=New.of_le fun c hc=>by
 rcases hC.new c hc with h| ⟨h,-⟩
 ·exact hN.le c h
 have:=ak h hb;omega
def vx {k:Int} {t:List UInt8} (h:cm k t=true):1≤k∧k≤3∧t.length≤4096:=by
 unfold cm at h
 split at h
 ·assumption
 cases h
def nd:=aN (aN (aN @j7 @jB) (aN @j9 @j8)) (aN (aN @Sx.tup2_0 @Sx.tup2_1) (aN @av @au))
def lO (k:Int):List UInt8:=(([32,98,116,99]:List UInt8).take (k+1).toNat).drop k.toNat
def fI (k:Int) (t:List UInt8):List UInt8:=lO k++fy t
def VL_ (k:Int) (t:List UInt8) (w:World):Rets prog 81 #[obV k t] w (XS w [] (fun v _=>v=if cm k t then .tuple #[vs (fI k t),vi 0] else .tuple #[vs [],vi 1])):=by
 refine Rets.enterX func81 rfl (rs:= [.tmp 2, .tmp 3]) results81 ntmps81 (fun p hp=>by cases hp) (by simp[keys]) ?_
 refine kf ?_
 refine ky @nd ?_
 refine Ow.box rfl rfl fun b1 aW aI=> ?_
 simp only[dC,cy,dA,aS,List.nil_append]
 refine ko @nd ?_
 refine Ow.callFV rfl call115 (fun w' aA=>Wl_ k t w') ?_
 cases hr:cm k t
 ·refine ko @nd ?_
  refine ky @nd ?_
  refine⟨_,(ke @nd), ?_⟩
  exact⟨Ext.of_new ⟨aI,trivial⟩,rfl⟩
 obtain⟨cS,aj,kC⟩:=vx hr
 have hhl: (lO k).length≤4:=by unfold lO;simp only[List.length_drop,List.length_take,List.length_cons,List.length_nil];omega
 refine ko @nd ?_
 refine Ow.alloc rfl rfl zrWr fun b4 g4 cr=> ?_
 simp only[aS,List.nil_append,List.cons_append]
 have JW:b1<b4:=ak g4 (by simp[keys])
 refine Ow.permL (M:= [(b4,Obj.cells #[.pointer none, .slice none 0 0] 192 (0,0))]++ [(b1,Obj.cells #[vi k,vs t] 33 (0,0))]) pM ?_
 have u4:BldAt b4 [] [(b4,Obj.cells #[.pointer none, .slice none 0 0] 192 (0,0))]:=BldAt.zeroE b4 (kH _ _ _)
 have nj:New (b1+1) [(b4,Obj.cells #[.pointer none, .slice none 0 0] 192 (0,0))]:=⟨by omega,trivial⟩
 generalize [(b4,Obj.cells #[.pointer none, .slice none 0 0] 192 (0,0))]=D0 at u4 nj ⊢
 have rdc: ∀ {D},New (b1+1) D→ ∀M,aU w (D++ (b1,Obj.cells #[vi k,vs t] 33 (0,0))::M) b1=some (.cells #[vi k,vs t] 33 (0,0)):=fun hn M=>aQ (by rw[gO (hn.not oM)];exact kH _ _ _)
 have r0:=rdc nj
 have bh:gb .str (vs ([32,98,116,99]:List UInt8)) (some (some k)) (some (some (k+1)))=some (vs (lO k)):=Jg_ _ _ _ ⟨by omega,by omega,by simp only[List.length_cons,List.length_nil];omega⟩
 refine ko (aN @nd (aN @r0 @bh)) ?_
 refine Ow.buildSlice (e:=9) #[vs (lO k)] rfl rfl kR fun b14 uB I8=> ?_
 have h114:b1<b14:=ak uB (by simp[keys])
 have hD14:b14∉keys D0:=fun hm=>Nat.lt_irrefl _ (ak uB (by rw[ao];exact cz _ hm))
 refine ko @nd ?_
 refine Ow.callX (Y:= [(b1,Obj.cells #[vi k,vs t] 33 (0,0)),(b14,Obj.cells #[vs (lO k)] 9 (0,0))]) (by simp) rfl rfl call116 (fun w' aA hX hn=>DQ b4 D0 _ _ b14 0 [lO k] _ _ _ w' u4 hX hn (StrS.lit [lO k] rfl rfl (aA.has _ _ (dJ _ am))) (fun _=>hD14) (by simp;omega) (by simp)) (fun u0 E0 JZ Gw=> ?_)
 obtain⟨rfl,hB0'⟩:=Gw
 have q':=Came.newE JZ nj (by simp[keys])
 have di:=hB0'.app (Y:= [(b14,Obj.cells #[vs (lO k)] 9 (0,0))])
 have cR:=q'.app (show New (b1+1) [(b14,Obj.cells #[vs (lO k)] 9 (0,0))] from⟨by omega,trivial⟩)
 refine Ow.permL (M:=(E0++ [(b14,Obj.cells #[vs (lO k)] 9 (0,0))])++ [(b1,Obj.cells #[vi k,vs t] 33 (0,0))]) pM ?_
 generalize E0++ [(b14,Obj.cells #[vs (lO k)] 9 (0,0))]=F1 at di cR ⊢
 simp only[List.flatten_cons,List.flatten_nil,List.append_nil,List.nil_append] at di
 have r1:=rdc cR
 refine ko (aN @nd @r1) ?_
 have I3:pX [t]=fy t:=by simp[pX]
 have tll:=AM (s:=t) oM
 have tnl: (fy t).length=(fA (gA t.length)).length+t.length:=by unfold fy;rw[List.length_append]
 have nl1:=qP (t.length:Int)
 refine Ow.buildSlice (e:=9) #[vs t] rfl rfl kR fun b18 uC I9=> ?_
 have h118:b1<b18:=ak uC (by simp[keys])
 have hD18:b18∉keys F1:=fun hm=>Nat.lt_irrefl _ (ak uC (by rw[ao];exact cz _ hm))
 refine ko @nd ?_
 refine Ow.callX (Y:= [(b1,Obj.cells #[vi k,vs t] 33 (0,0)),(b18,Obj.cells #[vs t] 9 (0,0))]) (by simp) rfl rfl call117 (fun w' aA hX hn=>Qw b4 F1 _ _ b18 0 [t] _ _ _ w' di hX hn (StrS.lit [t] rfl rfl (aA.has _ _ (dJ _ am))) (fun _=>hD18) (by rw[I3];omega) (by simp)) (fun u1 E1 hC1 dr=> ?_)
 obtain⟨rfl,hB1'⟩:=dr
 have cL:=Came.newE hC1 cR (by simp[keys])
 have dE:=hB1'.app (Y:= [(b18,Obj.cells #[vs t] 9 (0,0))])
 have be:=cL.app (show New (b1+1) [(b18,Obj.cells #[vs t] 9 (0,0))] from⟨by omega,trivial⟩)
 refine Ow.permL (M:=(E1++ [(b18,Obj.cells #[vs t] 9 (0,0))])++ [(b1,Obj.cells #[vi k,vs t] 33 (0,0))]) pM ?_
 generalize E1++ [(b18,Obj.cells #[vs t] 9 (0,0))]=F2 at dE be ⊢
 rw[I3] at dE
 refine ko @nd ?_
 refine Ow.callX (Y:= [(b1,Obj.cells #[vi k,vs t] 33 (0,0))]) (by simp) rfl rfl call118 (fun w' aA hX hn=>Nx b4 F2 _ w' dE hX hn (by rw[List.length_append];omega)) (fun v5 D5 hC5 Gx=> ?_)
 obtain rfl:=Gx
 have dq:=Came.newE hC5 be (by simp[keys])
 refine ko @nd ?_
 refine ky @nd ?_
 refine⟨_,(ke @nd), ?_⟩
 exact⟨Ext.of_new ((New.mono oM dq).app ⟨aI,trivial⟩),rfl⟩
def nX:=aN (aN (aN @j7 @jB) (aN @j9 @j8)) (aN (aN @Sx.tup2_0 @Sx.tup2_1) (aN @AK (aN @av @au)))
def nZ (k:Int) (t:List UInt8):Bool:=if 4096<t.length then false else if k=2 then(mv t).isSome else if k=3 then(mw t).isSome else k==1
def KP (k:Int) (t:List UInt8) (w:World):Rets prog 10 #[obV k t] w (fun v D=>v= .bool (nZ k t)∧D= []):=by
 refine Rets.enterV func10 rfl (rs:= [.tmp 2]) results10 ntmps10 ?_
 refine kf ?_
 refine ky @nX ?_
 refine Ow.box rfl rfl fun b1 aW aI=> ?_
 simp only[dC,cy,dA,aS,List.nil_append]
 refine ko @nX ?_
 unfold nZ
 by_cases h3:4096<t.length
 ·have d1:decide (4096< (t.length:Int))=true:=aK oM
  rw[if_pos h3]
  refine ky (aN @nX @d1) ?_
  refine⟨_,(ke @nX),⟨aI,trivial⟩, ?_⟩
  rfl
 have d1:decide (4096< (t.length:Int))=false:=aO oM
 rw[if_neg h3]
 by_cases h2:k=2
 ·subst h2
  rw[if_pos rfl]
  refine ky (aN @nX @d1) ?_
  refine Ow.callC rfl rfl call40 (fun w' aA=>Mm t w' oM) (fun B v D hA hB hN hS=> ?_)
  obtain⟨p,b,rfl,hb⟩: ∃p b,v= .tuple #[p, .bool b]∧(mv t).isSome=b:=by
   unfold xL at hS
   cases h:mv t with
   |none=>rw[h] at hS;exact⟨_,_,hS,rfl⟩
   |some l=>rw[h] at hS;obtain⟨v1,rfl,-⟩:=hS;exact⟨_,_,rfl,rfl⟩
  rw[hb]
  refine ko @nX ?_
  refine ky @nX ?_
  refine⟨_,(ke @nX),⟨aI,New.mono hB hN⟩, ?_⟩
  rfl
 have d2: (k==2)=false:=by simpa using h2
 rw[if_neg h2]
 by_cases h4:k=3
 ·subst h4
  rw[if_pos rfl]
  refine ky (aN @nX (aN @d1 @d2)) ?_
  refine Ow.callC rfl rfl call41 (fun w' aA=>Mx t w' oM) (fun B v D hA hB hN hS=> ?_)
  obtain⟨c,p,x,b,rfl,hp,hb⟩: ∃c p x b,v= .tuple #[.agg (bI c p x).toArray, .bool b]∧Value.oneCell' p=true∧(mw t).isSome=b:=by
   unfold xb at hS
   cases h:mw t with
   |none=>rw[h] at hS;exact⟨_,_,_,_,hS,rfl,rfl⟩
   |some l=>rw[h] at hS;obtain⟨v1,rfl,hg⟩:=hS;exact⟨_,_,_,_,rfl,hg.cell.1,rfl⟩
  rw[hb]
  have stq: ∀a E,ad (some (a,34)) (some (.cells (bI id0 (.slice none 0 0) []).toArray E (0,0))) 0 (.agg (bI c p x).toArray)=some (.cells (bI c p x).toArray E (0,0)):=fun a E=>Lb _ _ _ _ a E (by rw[List.size_toArray,zU]) hp
  refine ko @nX ?_
  refine Ow.alloc rfl rfl tv fun b5 uD sW=> ?_
  simp only[aS,List.nil_append,List.cons_append]
  refine Ow.permL (M:=(b5,Obj.cells (bI id0 (.slice none 0 0) []).toArray 100 (0,0)):: (b1,Obj.cells #[vi 3,vs t] 33 (0,0))::D) pM ?_
  refine ko (aN @nX @stq) ?_
  refine ky @nX ?_
  refine⟨_,(ke @nX),⟨sW,aI,New.mono hB hN⟩, ?_⟩
  rfl
 have d3: (k==3)=false:=by simpa using h4
 rw[if_neg h4]
 refine ky (aN @nX (aN @d1 (aN @d2 @d3))) ?_
 refine⟨_,(ke @nX),⟨aI,trivial⟩, ?_⟩
 rfl
def T6 (n:Nat):0< (fA n).length:=by
 by_cases h:n<128
 ·rw[vk h];simp
 rw[wI h];simp
def Po (most:Int): ∀ (l:List UInt8) (k acc m k':Nat),cK most l k acc= .ok (m,k')→ ∃n,l=fA n++l.drop (k' - k)∧m=acc+n*128^k∧(0<k→0<n)∧k<k':=by
 intro l
 induction l with
 |nil=>intro k acc m k' h;simp[cK] at h
 |cons c r ih=>
  intro k acc m k' h
  unfold cK at h
  have lj:=c.toNat_lt
  split at h
  ·rename_i hc
   split at h
   ·cases h
   obtain⟨n,h1,h2,h3,h4⟩:=ih _ _ _ _ h
   have hn:=h3 oM
   refine⟨c.toNat%128+128*n, ?_, ?_,fun _=>by omega,by omega⟩
   ·rw[wI oM,show(c.toNat%128+128*n) / 128=n by omega,show(c.toNat%128+128*n)%128+128=c.toNat by omega]
    rw[show k' - k=(k' - (k+1))+1 by omega,List.drop_succ_cons,List.cons_append,←h1]
    simp
   rw[h2,Nat.pow_succ,Nat.add_mul,Nat.add_assoc]
   congr 2
   rw[Nat.mul_comm 128 n,Nat.mul_assoc,Nat.mul_comm (128^k) 128]
  rename_i hc
  split at h
  ·cases h
  rename_i hz
  split at h
  ·cases h
   refine⟨c.toNat, ?_, ?_,fun hk=>by omega,by omega⟩
   ·rw[vk oM,Nat.add_sub_cancel_left]
    simp
   rw[Nat.mod_eq_of_lt oM]
  cases h
def Iq {n:Nat} (h:n≤1099511627775):gA (n:Int)=n:=IK oM
theorem KC_ (most:Int): ∀ (l:List UInt8) (k n m k':Nat),cK most l k n= .ok (m,k')→m≤1099511627775
 | [],_,_,_,_,h=>by simp[cK] at h
 |c::r,k,n,m,k',h=>by
  unfold cK at h
  split at h
  ·split at h
   ·cases h
   exact KC_ most r _ _ _ _ h
  split at h
  ·cases h
  split at h
  ·rename_i hh
   cases h
   exact hh.1
  cases h
def Lq {s:List UInt8} {a:Nat} {most:Int} (h: (aF s a 0 most).2.2=0): ∃n:Nat,(aF s a 0 most).1=(n:Int)∧n≤1099511627775∧(n:Int)≤most∧s.drop a=fA n++s.drop (aF s a 0 most).2.1:=by
 unfold aF at h ⊢
 rw[if_neg (by simp)] at h ⊢
 cases hg:cK most (s.drop a) 0 0 with
 |ok p=>
  obtain⟨m,k⟩:=p
  obtain⟨n,h1,h2,-,-⟩:=Po _ _ _ _ _ _ hg
  obtain rfl:m=n:=by rw[h2];simp
  refine⟨m,rfl,KC_ _ _ _ _ _ _ hg,Ke _ _ _ _ _ _ hg, ?_⟩
  rw[Nat.sub_zero,List.drop_drop] at h1
  exact h1
 |error x=>
  rw[hg] at h
  exfalso
  have:x=0:=by have: ((x:Nat):Int)=0:=h;omega
  subst this
  exact FS _ _ _ _ hg
def BM {s:List UInt8} {a:Nat} {n:Int} (ha:a≤s.length) (h: (bS s a 0 n).2.2=0):0≤n∧(bS s a 0 n).1.length=n.toNat∧s.drop a=(bS s a 0 n).1++s.drop (bS s a 0 n).2.1:=by
 unfold bS at h ⊢
 rw[if_neg (by simp)] at h ⊢
 split at h
 ·exact absurd (show(2:Int)=0 from h) (by decide)
 rename_i h1
 rw[if_neg h1]
 split at h
 ·exact absurd (show(3:Int)=0 from h) (by decide)
 rename_i h2
 rw[if_neg h2]
 refine⟨by omega, ?_, ?_⟩
 ·simp only[List.length_take,List.length_drop];omega
 simp only
 rw[←List.drop_drop,List.take_append_drop]
def Wt_ {s:List UInt8} {a:Nat} {most:Int} (ha:a≤s.length) (h: (bL s a 0 most).2.2=0): ((bL s a 0 most).1.length:Int)≤most∧s.drop a=fy (bL s a 0 most).1++s.drop (bL s a 0 most).2.1:=by
 have dc:=jf (e:=0) (most:=most) ha
 have e1: (aF s a 0 most).2.2=0:=Decidable.byContradiction fun hn=>by
  unfold bL at h
  simp only[tW hn] at h
  rw[if_pos hn] at h
  exact hn h
 obtain⟨n,hn,hb,hm,hd⟩:=Lq e1
 unfold bL at h ⊢
 simp only at h ⊢
 generalize aF s a 0 most=p at*
 obtain⟨p1,p2,p3⟩:=p
 simp only at e1 hn hd dc h ⊢
 subst e1 hn
 have e2: (bS s p2 0 (n:Int)).2.2=0:=Decidable.byContradiction fun hh=>by rw[if_pos hh] at h;exact hh h
 rw[if_neg (by simp[e2])]
 obtain⟨-,hl,hr⟩:=BM dc.2 e2
 rw[Int.toNat_natCast] at hl
 refine⟨by rw[hl];exact hm, ?_⟩
 unfold fy
 rw[hl,Iq hb,List.append_assoc,←hr]
 exact hd
def LG {s:List UInt8} {a:Nat} (ha:a≤s.length) (h: (idR s a 0).2.2=0):s.drop a=(mA (idR s a 0).1).l++s.drop (idR s a 0).2.1:=by
 have e2: (bS s a 0 32).2.2=0:=h
 obtain⟨-,hl,hr⟩:=BM ha e2
 rw[wF (vw s a 0)]
 unfold idR
 simp only
 have lw: (bS s a 0 32).1.length=32:=hl
 rw[if_pos lw]
 exact hr
def Px {s:List UInt8} {a:Nat} (ha:a≤s.length) (h: (i' s a 0).2.2=0):s.drop a=entB (i' s a 0).1++s.drop (i' s a 0).2.1:=by
 have hq:=jf (e:=0) (most:=2) ha
 unfold i' at h ⊢
 simp only at h ⊢
 have e1: (aF s a 0 2).2.2=0:=Decidable.byContradiction fun hn=>by
  rw[qp (by rw[tF hn];exact hn),tF hn] at h;exact hn h
 obtain⟨n,hn,hb,-,hd⟩:=Lq e1
 generalize aF s a 0 2=p at*
 obtain⟨p1,p2,p3⟩:=p
 simp only at e1 hn hd hq h ⊢
 subst e1 hn
 have ht:=ub (e:=0) (most:=32) hq.2
 have e2: (bL s p2 0 32).2.2=0:=Decidable.byContradiction fun hn=>by rw[qp hn] at h;exact hn h
 obtain⟨-,ll⟩:=Wt_ hq.2 e2
 generalize bL s p2 0 32=q at*
 obtain⟨q1,q2,q3⟩:=q
 simp only at e2 ll ht h ⊢
 subst e2
 have u':=LG ht.2 h
 unfold entB
 simp only
 rw[Iq hb,List.append_assoc,List.append_assoc,←u',←ll]
 exact hd
def Qz (l:List EntL) (x:EntL):jr (l++ [x])=jr l++entB x:=by unfold jr;simp
theorem Kv_ {s:List UInt8}: ∀ (n a:Nat) (e:Int) (l:List EntL),a≤s.length→(e=0→s=jr l++s.drop a)→((o8 s n a e l).2.2=0→s=jr (o8 s n a e l).1++s.drop (o8 s n a e l).2.1)
 |0,_,_,_,_,h=>h
 |n+1,a,e,l,ha,h=>by
  by_cases hc:e=0∧a<s.length
  ·rw[LK hc]
   refine Kv_ n _ _ _ (xG ha).2 fun h0=> ?_
   obtain⟨rfl,-⟩:=hc
   rw[Qz,List.append_assoc,←Px ha h0]
   exact h rfl
  rw[Lz hc]
  exact h
def LI {s:List UInt8} {a:Nat} {e:Int} (h:cJ s a e=0):e=0∧s.length≤a:=by
 unfold cJ at h
 split at h
 ·rename_i he;exact absurd h he
 rename_i he
 split at h
 ·exact absurd h (by decide)
 exact⟨Decidable.byContradiction he,by omega⟩
def OI {s:List UInt8} (h:cJ s (fp s).2.1 (fp s).2.2=0):jr (fp s).1=s:=by
 obtain⟨h1,h2⟩:=LI h
 have:=Kv_ (s:=s) (s.length+1) 0 0 [] (aV _) (fun _=>by simp[jr]) h1
 rw[show o8 s (s.length+1) 0 0 []=fp s from rfl,List.drop_eq_nil_of_le h2,List.append_nil] at this
 exact this.symm
theorem Wg_ {s:List UInt8}: ∀ (n a:Nat) (e:Int) (l:List EntL),a≤s.length→(e=0→s.length<a+n)→(o8 s n a e l).2.2=0→s.length≤ (o8 s n a e l).2.1
 |0,a,e,l,ha,hf,h=>by have:=hf h;show s.length≤a;omega
 |n+1,a,e,l,ha,hf,h=>by
  by_cases hc:e=0∧a<s.length
  ·rw[LK hc] at h ⊢
   refine Wg_ n _ _ _ (xG ha).2 (fun h0=> ?_) h
   obtain⟨rfl,-⟩:=hc
   have:=F5 ha h0
   have:=hf rfl
   omega
  rw[Lz hc] at h ⊢
  have h':e=0:=h
  exact Decidable.byContradiction fun hn=>hc ⟨h',by have aT: ¬s.length≤a:=hn;omega⟩
def Cy (s:List UInt8): (cJ s (fp s).2.1 (fp s).2.2=0)↔(fp s).2.2=0:=by
 refine⟨fun h=>(LI h).1,fun h=> ?_⟩
 have:=Wg_ (s:=s) (s.length+1) 0 0 [] (aV _) (fun _=>by omega) h
 have h2:s.length≤ (fp s).2.1:=this
 unfold cJ
 rw[if_neg (by simp[h]),if_neg oM]
def Sb (l:List IdL) (x:IdL):idsB (l++ [x])=idsB l++x.l:=by unfold idsB;simp
theorem V0_ {s:List UInt8} {a:Nat} (ha:a≤s.length): ∀n,(bJ s a 0 n).2.2=0→s.drop a=idsB (bJ s a 0 n).1++s.drop (bJ s a 0 n).2.1
 |0,_=>by simp[bJ,idsB]
 |n+1,h=>by
  unfold bJ at h ⊢
  simp only at h ⊢
  have e1: (bJ s a 0 n).2.2=0:=Decidable.byContradiction fun hn=>by rw[qp hn] at h;exact hn h
  have ih:=V0_ ha n e1
  have hl:=Aw (e:=0) ha n
  generalize bJ s a 0 n=p at*
  obtain⟨p1,p2,p3⟩:=p
  simp only at e1 ih hl h ⊢
  subst e1
  rw[Sb,List.append_assoc,←LG hl h]
  exact ih
theorem FU {s:List UInt8} {a:Nat} {e:Int} (he:e≠0): ∀n,(bJ s a e n).2=(a,e)
 |0=>rfl
 |n+1=>by
  have ih:=FU (s:=s) (a:=a) he n
  unfold bJ
  simp only
  rw[ih,qp he]
def R5 {s:List UInt8} (h:cJ s (f4 s).2.1 (f4 s).2.2=0):comB (f4 s).1=s:=by
 obtain⟨h1,h2⟩:=LI h
 have ip:=oU (s:=s) (a:=0) (e:=0) (aV _)
 have np:=jf (e:=(idR s 0 0).2.2) (most:=4) ip.2
 unfold f4 at h1 h2 ⊢
 simp only at h1 h2 ⊢
 have e3: (eN s).2.2=0:=Decidable.byContradiction fun hn=>by unfold comT at h1;rw[tF hn] at h1;exact hn h1
 have e2: (comN s).2.2=0:=Decidable.byContradiction fun hn=>by unfold eN at e3;rw[FU hn] at e3;exact hn e3
 have e1: (idR s 0 0).2.2=0:=Decidable.byContradiction fun hn=>by unfold comN at e2;rw[xa hn] at e2;exact hn e2
 have d1:=LG (aV _) e1
 rw[e1] at np
 have Jg:comN s=aF s (idR s 0 0).2.1 0 4:=by unfold comN;rw[e1]
 rw[Jg] at e2
 obtain⟨n,hn,hb,-,d2⟩:=Lq e2
 have H9:eN s=bJ s (comN s).2.1 0 n:=by unfold eN;rw[Jg,e2,hn,Int.toNat_natCast]
 have hp: (comN s).2.1≤s.length:=by rw[Jg];exact np.2
 rw[H9] at e3
 have d3:=V0_ hp n e3
 have fc: (eN s).1.length=n:=by rw[H9,IQ]
 have Jh:comT s=bL s (eN s).2.1 0 64:=by unfold comT;rw[H9,e3]
 have dc: (eN s).2.1≤s.length:=by rw[H9];exact Aw hp n
 rw[Jh] at h1
 obtain⟨-,d4⟩:=Wt_ dc h1
 rw[←Jh] at d4
 rw[←H9] at d3
 rw[←Jg] at d2
 unfold comB m_
 simp only
 rw[fc,Iq hb]
 rw[List.drop_eq_nil_of_le h2,List.append_nil] at d4
 rw[List.append_assoc,List.append_assoc,←d4,←d3,←d2,←d1]
 rfl
def AC (k:Int) (t:List UInt8):cm k t=nZ k t:=by
 unfold cm nZ
 by_cases h4:4096<t.length
 ·rw[if_neg oM,if_pos h4]
 rw[if_neg h4]
 by_cases h2:k=2
 ·subst h2
  rw[if_pos oM,if_neg (by decide),if_pos rfl,if_pos rfl]
  unfold mv
  by_cases hz:cJ t (fp t).2.1 (fp t).2.2=0
  ·have:=OI hz
   have h1:=(Cy t).1 hz
   rw[hz]
   cases ho:nY (fp t).1
   ·rw[if_neg (fun h=>by cases h.2.1)];rfl
   rw[if_pos ⟨h1,rfl,this⟩];rfl
  have h': ¬ (fp t).2.2=0:=fun h=>hz ((Cy t).2 h)
  simp[hz,h']
 by_cases h3:k=3
 ·subst h3
  rw[if_pos oM,if_neg (by decide),if_neg (by decide),if_neg (by decide),if_pos rfl]
  unfold mw
  by_cases hz:cJ t (f4 t).2.1 (f4 t).2.2=0
  ·have:=R5 hz
   cases ho:lQ (f4 t).1<;>simp[hz,this]
  simp[hz]
 rw[if_neg h2,if_neg h3]
 by_cases h1:k=1
 ·subst h1
  rw[if_pos oM];rfl
 rw[if_neg oM]
 simp[h1,h2]
def OA (most:Int) (r:List UInt8): ∀ (n k acc:Nat),(0<k→0<n)→k+ (fA n).length≤6→acc+n*128^k≤1099511627775→((acc+n*128^k:Nat):Int)≤most→
  cK most (fA n++r) k acc= .ok (acc+n*128^k,k+ (fA n).length):=by
 intro n
 induction n using Nat.strongRecOn with
 |ind n ih=>
  intro k acc hk hl hs hm
  by_cases h:n<128
  ·rw[vk h,List.cons_append,List.nil_append,cK]
   have hc: (UInt8.ofNat n).toNat=n:=by rw[UInt8.toNat_ofNat'];omega
   rw[hc,Nat.mod_eq_of_lt h,if_neg oM,if_neg oM,if_pos ⟨hs,hm⟩]
   rfl
  have hb:=wI h
  rw[hb] at hl ⊢
  rw[List.cons_append,cK]
  have hc: (UInt8.ofNat (n%128+128)).toNat=n%128+128:=by rw[UInt8.toNat_ofNat'];omega
  have hp:=T6 (n / 128)
  rw[List.length_cons] at hl
  have e:acc+ (n%128+128)%128*128^k+n / 128*128^ (k+1)=acc+n*128^k:=by
   have h1: (n%128+128)%128=n%128:=by omega
   rw[h1,Nat.pow_succ,Nat.add_assoc]
   congr 1
   have h2:n / 128* (128^k*128)=(n / 128*128)*128^k:=by rw[Nat.mul_comm (128^k),Nat.mul_assoc]
   rw[h2,←Nat.add_mul]
   congr 1
   omega
  rw[hc,if_pos oM,if_neg oM,ih (n / 128) oM (k+1) _ (fun _=>by omega) oM (by rw[e];exact hs) (by rw[e];exact hm),e,List.length_cons]
  congr 2
  omega
def Sp (A r:List UInt8) (n:Nat) (most:Int) (hn:n≤1099511627775) (hm: (n:Int)≤most):aF (A++ (fA n++r)) A.length 0 most=((n:Int),A.length+ (fA n).length,0):=by
 have hl:=IC 6 n oM oM
 have h:=OA most r n 0 0 (fun h=>absurd h (Nat.lt_irrefl 0)) oM (by simpa using hn) (by simpa using hm)
 simp only[Nat.pow_zero,Nat.mul_one,Nat.zero_add] at h
 exact Ag rfl (by rw[List.drop_left];exact h)
def TR (A x r:List UInt8):bS (A++ (x++r)) A.length 0 (x.length:Int)=(x,A.length+x.length,0):=by
 unfold bS
 rw[if_neg (by simp),if_neg oM,if_neg (by simp only[List.length_append];omega),List.drop_left,Int.toNat_natCast,List.take_left]
def Ql (A t r:List UInt8) (most:Int) (hn:t.length≤1099511627775) (hm: (t.length:Int)≤most):bL (A++ (fy t++r)) A.length 0 most=(t,A.length+ (fy t).length,0):=by
 have h1:=Sp A (t++r) t.length most hn hm
 have h2:=TR (A++fA t.length) t r
 unfold bL fy
 rw[Iq oM]
 rw[List.append_assoc,h1]
 simp only
 rw[List.append_assoc,List.length_append] at h2
 rw[h2]
 simp only[ne_eq,not_true_eq_false, ↓reduceIte,List.length_append,Nat.add_assoc]
def Ph (s:List UInt8) (c:UInt8) (w:World): (callFunc 203 #[vs s,v8 c]).run prog w= .ok (.value (vi (Lib.indexByte s c))) w:=by
 rw[run_callFunc_extern func203 kR kR kR (e:=Extern.BytealgIndexByte.indexByte) kR]
 have h:=Lib.run_indexByteString (P:=prog) ⟨s.toArray⟩ (c.toNat:Int) w
 have e: ((c.toNat:Int)).toNat.toUInt8=c:=by simp
 rw[e] at h
 show((Extern.BytealgIndexByte.indexByte #[.string ⟨s.toArray⟩, .int .u8 (c.toNat:Int)]).run prog w).andThen _=_
 rw[h];rfl
def MF (s:List UInt8) (c:UInt8) (w:World):Rets prog 177 #[vs s,v8 c] w (fun v D=>v=vi (Lib.indexByte s c)∧D= []):=by
 refine Rets.enterV func177 rfl (rs:= [.tmp 4]) results177 ntmps177 ?_
 refine kf ?_
 refine ky @Nat.add_zero ?_
 refine Ow.callExt rfl rfl (fun w=>Ph s c w) ?_
 refine ko @Nat.add_zero ?_
 refine ky @Nat.add_zero ?_
 refine⟨_,(ke @Nat.add_zero),trivial, ?_⟩
 rfl
def idxT (s:List UInt8):List UInt8→Int
 | []=>0
 |c::_=>Lib.indexByte s c
def Wb_ (s x:List UInt8) (w:World) (hx:x.length≤1) (hs:2≤s.length) (_hsl:s.length<1099511627776):Rets prog 153 #[vs s,vs x] w (fun v D=>v=vi (idxT s x)∧D= []):=by
 refine Rets.enterV func153 rfl (rs:= [.tmp 4]) results153 ntmps153 ?_
 refine kf ?_
 match x,hx with
 | [],_=>
  have d1: (((([]:List UInt8).length:Nat):Int)==0)=true:=rfl
  refine ky @d1 ?_
  refine⟨_,(ke @Nat.add_zero),trivial, ?_⟩
  rfl
 | [c],_=>
  have d1: ((([c]:List UInt8).length:Int)==0)=false:=rfl
  have d2: ([c]==s)=false:=beq_eq_false_iff_ne.2 fun e=>by rw[←e] at hs;simp at hs
  have d3: ((([c]:List UInt8).length:Int)==1)=true:=rfl
  have i0: ([c]:List UInt8).getD 0 0=c:=rfl
  refine ky (aN @d1 (aN @d2 (aN @d3 @i0))) ?_
  refine Ow.callFV rfl call177 (fun w' aA=>MF s c w') ?_
  refine ko @Nat.add_zero ?_
  refine ky @Nat.add_zero ?_
  refine⟨_,(ke @Nat.add_zero),trivial, ?_⟩
  rfl
def QJ (s x:List UInt8) (w:World) (hx:x.length≤1) (hs:2≤s.length) (bh:s.length<1099511627776):Rets prog 129 #[vs s,vs x] w (fun v D=>v=vi (idxT s x)∧D= []):=by
 refine Rets.enterV func129 rfl (rs:= [.tmp 4]) results129 ntmps129 ?_
 refine kf ?_
 refine ky @Nat.add_zero ?_
 refine Ow.callFV rfl call153 (fun w' aA=>Wb_ s x w' hx hs bh) ?_
 refine ko @Nat.add_zero ?_
 refine ky @Nat.add_zero ?_
 refine⟨_,(ke @Nat.add_zero),trivial, ?_⟩
 rfl
abbrev letL:List UInt8:= [32,98,116,99]
def frR (s:List UInt8):List UInt8×Nat×Int:=bS s 0 0 1
def frT (s:List UInt8):List UInt8×Nat×Int:=bL s (frR s).2.1 (frR s).2.2 4096
def frK (s:List UInt8):Int:=idxT letL (frR s).1
def f_ (s:List UInt8):Bool:=cJ s (frT s).2.1 (frT s).2.2==0&&cm (frK s) (frT s).1
def YF (s:List UInt8): (frR s).1.length≤1:=by
 unfold frR bS
 rw[if_neg (by simp),if_neg (by decide)]
 split
 ·simp
 simp only[List.length_take,Int.toNat_one];omega
def GI (s:List UInt8) (v:Value):Prop:=v= .tuple #[obV (if f_ s then frK s else 0) (if f_ s then(frT s).1 else []),vi (if f_ s then 0 else 2)]
def jh:=aN (aN (aN @j7 @jB) (aN @j9 @j8)) (aN (aN @Sx.tup2_0 @Sx.tup2_1) (aN @av @au))
def Ps (s:List UInt8) (w:World) (hs:s.length<1099511627776):Rets prog 92 #[vs s] w (fun v D=>GI s v∧D= []):=by
 refine Rets.enterV func92 rfl (rs:= [.cell 2 33, .tmp 3]) results92 ntmps92 ?_
 refine kf ?_
 refine ky @jh ?_
 refine Ow.alloc rfl rfl fB fun b2 aq bV=> ?_
 simp only[aS,List.nil_append,List.cons_append]
 refine ko @jh ?_
 refine Ow.callF rfl rfl call128 (S:=fun B v D=> ∃b',B≤b'∧v=vp b' 0∧D= [(b', .cells #[vs s,vi 0,vi 0] 239 (0,0))]) (fun w' aA=>CG s w') ?_
 rintro B v D gR hB ⟨bw,H8,rfl,rfl⟩
 obtain⟨h2B,-⟩:=gR
 refine⟨_,Mrg.fresh (by intro q hq;simp only[keys,List.map_cons,List.map_nil,List.mem_singleton] at hq;omega), ?_⟩
 simp only[List.cons_append,List.nil_append]
 refine Ow.permL (M:= [(bw, .cells #[vs s,vi 0,vi 0] 239 (0,0)),(b2,Obj.cells #[vi 0,vs []] 33 (0,0))]) pM ?_
 have aX:bw≠b2:=by omega
 refine ko @jh ?_
 refine ky @jh ?_
 refine Ow.callM rfl rfl call130 (by simp[keys]) (fun w' aA=>Lm bw s 0 0 1 w' (aV _) oM (aA.has _ _ am)) ?_
 have r1:=zY (s:=s) (a:=0) (e:=0) (n:=1) (aV _)
 have r2:=YF s
 have hT:frT s=bL s (frR s).2.1 (frR s).2.2 4096:=rfl
 have hK:frK s=idxT letL (frR s).1:=rfl
 have hO:f_ s=(cJ s (frT s).2.1 (frT s).2.2==0&&cm (frK s) (frT s).1):=rfl
 unfold GI
 rw[show bS s 0 0 1=frR s from rfl] at r1 ⊢
 generalize frR s=p at*
 obtain⟨x,a1,e1⟩:=p
 simp only at r1 r2 hT hK ⊢
 refine kn ?_
 refine ko @jh ?_
 refine Ow.callFV rfl call129 (fun w' aA=>QJ letL x w' r2 (by decide) (by decide)) ?_
 rw[←hK]
 refine ko @jh ?_
 refine Ow.callM rfl rfl call131 (by simp[keys]) (fun w' aA=>Lv bw s a1 e1 4096 w' r1.2 oM (aA.has _ _ am)) ?_
 rw[←hT]
 generalize frT s=q at*
 obtain⟨tt,a2,e2⟩:=q
 simp only at hO ⊢
 refine kn ?_
 refine ko @jh ?_
 refine Ow.build (obV (frK s) tt) rfl (Ck _ tt) ?_
 refine ko @jh ?_
 refine Ow.alloc rfl rfl fB fun b5 uD sW=> ?_
 simp only[aS,List.nil_append,List.cons_append]
 have h5w:bw<b5:=ak uD (by simp[keys])
 have h52:b2<b5:=ak uD (by simp[keys])
 refine ko @jh ?_
 refine Ow.callFV rfl call132 (fun w' aA=>Is bw s a2 e2 w' (aA.has _ _ am)) ?_
 by_cases he:cJ s a2 e2=0
 ·have d1: (cJ s a2 e2 !=0)=false:=by simp[he]
  have d1': (cJ s a2 e2==0)=true:=by simp[he]
  rw[d1',Bool.true_and] at hO
  refine ko (aN @jh @d1) ?_
  refine Ow.callFV rfl call115 (fun w' aA=>Wl_ (frK s) tt w') ?_
  rw[hO]
  cases hr:cm (frK s) tt
  ·refine ko @jh ?_
   refine Ow.build (obV 0 []) rfl zB ?_
   refine ko @jh ?_
   refine ky @jh ?_
   refine⟨_,(ke @jh),⟨by omega,bV,sW,trivial⟩, ?_⟩
   rfl
  refine ko @jh ?_
  refine ky @jh ?_
  refine⟨_,(ke @jh),⟨by omega,bV,sW,trivial⟩, ?_⟩
  rfl
 have d1: (cJ s a2 e2 !=0)=true:=by simpa using he
 have d1': (cJ s a2 e2==0)=false:=by simpa using he
 rw[d1',Bool.false_and] at hO
 rw[hO]
 refine ko (aN @jh @d1) ?_
 refine Ow.build (obV 0 []) rfl zB ?_
 refine ko @jh ?_
 refine ky @jh ?_
 refine⟨_,(ke @jh),⟨by omega,bV,sW,trivial⟩, ?_⟩
 rfl
def fkC (c:UInt8):Int:=if c=98 then 1 else if c=116 then 2 else if c=99 then 3 else 0
def lfT (r:List UInt8):List UInt8×Nat×Int:=bL r 0 0 4096
def lfK (s:List UInt8):Int:=match s with| []=>0|c::_=>fkC c
def lfOk (s:List UInt8):Bool:=lfK s !=0&&cJ (s.drop 1) (lfT (s.drop 1)).2.1 (lfT (s.drop 1)).2.2==0&&nZ (lfK s) (lfT (s.drop 1)).1
def GC (s:List UInt8) (v:Value):Prop:=v= .tuple #[obV (if lfOk s then lfK s else 0) (if lfOk s then(lfT (s.drop 1)).1 else []), .bool (lfOk s)]
def Db (k k':Int) (t:List UInt8) (a:Bool) (E:TypeId):ad (some (a,1)) (some (.cells #[vi k',vs t] E (0,0))) 0 (vi k)=some (.cells #[vi k,vs t] E (0,0)):=(rfl)
def DY (k:Int) (t t':List UInt8) (a:Bool) (E:TypeId):ad (some (a,1)) (some (.cells #[vi k,vs t'] E (0,0))) 1 (vs t)=some (.cells #[vi k,vs t] E (0,0)):=(rfl)
def fJ:=aN (aN (aN @j7 @jB) (aN @j9 (aN @j8 @Db))) (aN (aN @DY @Sx.tup2_0) (aN @Sx.tup2_1 (aN @av @au)))
def Kn (s:List UInt8) (w:World) (hs:s.length<1099511627776):Rets prog 95 #[vs s] w (fun v D=>GC s v∧D= []):=by
 refine Rets.enterV func95 rfl (rs:= [.cell 2 33, .tmp 3]) results95 ntmps95 ?_
 refine kf ?_
 refine kz [1000004] @fJ ?_
 refine Ow.alloc rfl rfl fB fun b2 aq bV=> ?_
 simp only[aS,List.nil_append,List.cons_append]
 refine ko @fJ ?_
 by_cases hl:s.length=0
 ·obtain rfl:s= []:=List.eq_nil_of_length_eq_zero hl
  have d1: (((([]:List UInt8).length:Nat):Int)==0)=true:=rfl
  refine ky (aN @fJ @d1) ?_
  refine Ow.build (obV 0 []) rfl zB ?_
  refine ko @fJ ?_
  refine ky @fJ ?_
  refine⟨_,(ke @fJ),⟨bV,trivial⟩, ?_⟩
  rfl
 have d1: ((s.length:Int)==0)=false:=beq_eq_false_iff_ne.2 oM
 obtain⟨c,r,rfl⟩: ∃c r,s=c::r:=by cases s with|nil=>exact absurd rfl hl|cons c r=>exact⟨c,r,rfl⟩
 have Jl: (c::r).drop 1=r:=rfl
 have g0: (c::r).getD 0 0=c:=rfl
 have aP: (c::r).length=r.length+1:=rfl
 have nR:r.length<1099511627775:=by omega
 refine ky (aN @fJ @d1) ?_
 refine Ow.build (obV 0 []) rfl zB ?_
 refine ko @fJ ?_
 refine Ow.alloc rfl rfl fB fun b4 g4 cr=> ?_
 simp only[aS,List.nil_append,List.cons_append]
 have h24:b2<b4:=ak g4 (by simp[keys])
 have ht:=ub (s:=r) (a:=0) (e:=0) (most:=4096) (aV _)
 have hLT:lfT r=bL r 0 0 4096:=rfl
 have hO:lfOk (c::r)=(fkC c !=0&&cJ r (lfT r).2.1 (lfT r).2.2==0&&nZ (fkC c) (lfT r).1):=rfl
 have hK:lfK (c::r)=fkC c:=rfl
 unfold GC
 rw[hK,Jl]
 have I3: (bL r 0 0 4096).1.length≤r.length:=IV _ _ _ _
 have Jp:fkC c=0∨fkC c=1∨fkC c=2∨fkC c=3:=by
  unfold fkC;split<;>(try split)<;>(try split)<;>simp
 refine ko @fJ ?_
 refine kz [1000004] (aN @fJ @g0) ?_
 refine Cw.cut (G:=Int) 40 (fun g=> [(0,vs (c::r)),(2,vp b2 0),(3, .bool false),(4,vp b4 0)]) (fun g=> [(b2,Obj.cells #[vi 0,vs []] 33 (0,0)),(b4,Obj.cells #[vi g,vs []] 33 (0,0))]) (fun g=>g=fkC c∧g≠0) ?_ ?_
 ·by_cases c1:c=98
  ·subst c1
   refine ky (aN @fJ @g0) ?_
   exact CutM.mk 1 ⟨rfl,by decide⟩ rfl rfl
  have e1: (c==98)=false:=by simpa using c1
  by_cases c2:c=116
  ·subst c2
   refine ky (aN @fJ (aN @e1 @g0)) ?_
   exact CutM.mk 2 ⟨rfl,by decide⟩ rfl rfl
  have e2: (c==116)=false:=by simpa using c2
  by_cases c3:c=99
  ·subst c3
   refine ky (aN @fJ (aN @e1 (aN @e2 @g0))) ?_
   exact CutM.mk 3 ⟨rfl,by decide⟩ rfl rfl
  have e3: (c==99)=false:=by simpa using c3
  have hk:fkC c=0:=by unfold fkC;rw[if_neg c1,if_neg c2,if_neg c3]
  rw[hk] at hO ⊢
  rw[hO]
  refine ky (aN @fJ (aN @e1 (aN @e2 (aN @e3 @g0)))) ?_
  refine Ow.build (obV 0 []) rfl zB ?_
  refine ko @fJ ?_
  refine ky @fJ ?_
  refine⟨_,(ke @fJ),⟨bV,cr,trivial⟩, ?_⟩
  rfl
 intro g j hg
 simp only[Yt,ZI,pin,mT,mW,Nat.reduceAdd]
 obtain⟨rfl,kh⟩:=hg
 have d0: (fkC c !=0)=true:=by simpa using kh
 rw[d0,Bool.true_and] at hO
 generalize fkC c=k at hO ⊢
 refine ky (aN @fJ @Jl) ?_
 refine Ow.build (.agg #[vs r,vi 0,vi 0]) rfl (ST r) ?_
 refine ko @fJ ?_
 refine Ow.box rfl rfl fun br nn mO=> ?_
 have h2r:b2<br:=ak nn (by simp[keys])
 have h4r:b4<br:=ak nn (by simp[keys])
 simp only[dC,cy,dA,aS,List.nil_append,List.cons_append]
 refine ko @fJ ?_
 refine Ow.callM rfl rfl call71 (by simp[keys]) (fun w' aA=>KH br r 0 0 4096 w' (aV _) oM (aA.has _ _ (by simp))) ?_
 rw[←hLT] at ht I3 ⊢
 generalize lfT r=q at*
 obtain⟨tt,a2,e2⟩:=q
 simp only at hO ht I3 ⊢
 refine kn ?_
 refine ko @fJ ?_
 refine Ow.callFV rfl call73 (fun w' aA=>KQ_ br r a2 e2 w' (aA.has _ _ (by simp))) ?_
 by_cases he:cJ r a2 e2=0
 ·have d5: (cJ r a2 e2 !=0)=false:=by simp[he]
  have d6: (cJ r a2 e2==0)=true:=by simp[he]
  rw[d6,Bool.true_and] at hO
  rw[hO]
  refine ko (aN @fJ @d5) ?_
  refine Ow.callFV rfl call10 (fun w' aA=>KP k tt w') ?_
  cases hr:nZ k tt
  ·refine ko @fJ ?_
   refine Ow.build (obV 0 []) rfl zB ?_
   refine ko @fJ ?_
   refine ky @fJ ?_
   refine⟨_,(ke @fJ),⟨bV,cr,mO,trivial⟩, ?_⟩
   rfl
  refine ko @fJ ?_
  refine ky @fJ ?_
  refine⟨_,(ke @fJ),⟨bV,cr,mO,trivial⟩, ?_⟩
  rfl
 have d5: (cJ r a2 e2 !=0)=true:=by simpa using he
 have d6: (cJ r a2 e2==0)=false:=by simpa using he
 rw[d6,Bool.false_and] at hO
 rw[hO]
 refine ko (aN @fJ @d5) ?_
 refine Ow.build (obV 0 []) rfl zB ?_
 refine ko @fJ ?_
 refine ky @fJ ?_
 refine⟨_,(ke @fJ),⟨bV,cr,mO,trivial⟩, ?_⟩
 rfl
end Go.Proofs
end
namespace Go.Flo
open Go Ieee
abbrev F (n:Int):Nat:=FloatKind.f64.nearest n
def dat (n:Int):Datum:= .number (decide (n<0)) (n.natAbs*2^ (52 - n.natAbs.log2)) ((n.natAbs.log2:Int) - 52)
def Ft {a:Nat} (h:a<8192):a.log2<13∨a=0:=by
 by_cases h0:a=0
 ·exact .inr h0
 exact .inl ((Nat.log2_lt h0).2 h)
def dec0:FloatKind.f64.decode (F 0)= .number false 0 (-1074):=by kernel_rfl
def U_ (neg:Bool) (n:Nat):Toward.even.cut neg n 0=n:=by
 simp[Toward.cut,Nat.mod_one]
def dec {n:Int} (h0:n≠0) (h:n.natAbs<8192):FloatKind.f64.decode (F n)=dat n:=by
 have ha:n.natAbs≠0:=by omega
 generalize hm:n.natAbs=a at*
 have hl:a.log2<13:=(Nat.log2_lt ha).2 h
 have eF:2^a.log2≤a:=Nat.log2_self_le ha
 have hhi:a<2^ (a.log2+1):=Nat.lt_log2_self
 generalize hk:a.log2=k at*
 have hp:2^ (52 - k)*2^k=2^52:=by rw[←Nat.pow_add];congr 1;omega
 have p9:2^ (k+1)=2*2^k:=by rw[Nat.pow_succ];omega
 have e1:2^52≤a*2^ (52 - k):=by
  rw[←hp,Nat.mul_comm];exact Nat.mul_le_mul_right _ eF
 have e2:a*2^ (52 - k)<2*2^52:=by
  have h1:=Nat.mul_lt_mul_of_pos_right hhi (show 0<2^ (52 - k) from Nat.pow_pos oM)
  rw[p9,Nat.mul_assoc,Nat.mul_comm (2^k),hp] at h1
  exact h1
 have hw:F n=Ieee.double.word (decide (n<0)) ((k+1022)*2^52+a*2^ (52 - k)):=by
  show Ieee.double.nearest (decide (n<0)) n.natAbs 0=_
  rw[hm]
  unfold Format.nearest
  rw[if_neg ha,hk]
  have HT:max ((0:Int)+ (k:Int) - (Ieee.double.fractionBits:Int)) Ieee.double.leastPlace=(k:Int) - 52:=by
   have e3:Ieee.double.leastPlace= -1074:=by decide
   have e4: (Ieee.double.fractionBits:Int)=52:=rfl
   rw[e3,e4];omega
  rw[HT]
  have e5: ((k:Int) - 52 - 0).toNat=0:=by omega
  have e6: ((0:Int) - ((k:Int) - 52)).toNat=52 - k:=by omega
  simp only[e5,e6,U_,Nat.shiftLeft_eq]
  have e7: ((k:Int) - 52 - Ieee.double.leastPlace).toNat=k+1022:=by
   have e3:Ieee.double.leastPlace= -1074:=by decide
   rw[e3];omega
  have e8:Ieee.double.binade=2^52:=rfl
  have e9:Ieee.double.infRung=2047*2^52:=rfl
  rw[e7,e8,e9,Nat.min_eq_left oM]
 show Ieee.double.read (F n)=_
 rw[hw]
 generalize hX:a*2^ (52 - k)=X at*
 have e8:Ieee.double.binade=2^52:=rfl
 have e9:Ieee.double.infRung=2047*2^52:=rfl
 have e10:Ieee.double.signWeight=2^63:=rfl
 have e3:Ieee.double.leastPlace= -1074:=by decide
 have Ha: (Ieee.double.word (decide (n<0)) ((k+1022)*2^52+X) / 2^63%2==1)=decide (n<0)∧Ieee.double.word (decide (n<0)) ((k+1022)*2^52+X)%2^63=(k+1022)*2^52+X:=by
  unfold Format.word
  rw[e10]
  by_cases hn:n<0
  ·rw[aK hn,if_pos rfl]
   refine⟨?_,by omega⟩
   rw[beq_iff_eq];omega
  rw[aO hn,if_neg (by simp)]
  refine⟨?_,by omega⟩
  rw[beq_eq_false_iff_ne];omega
 unfold Format.read
 simp only[e10,Ha.1,Ha.2,e8,e9,e3]
 rw[if_neg oM,if_pos oM]
 unfold dat
 rw[hm,hk,hX]
 congr 1
 ·omega
 omega
def sgn (n:Int) (u:Nat):signed (decide (n<0)) (n.natAbs*2^u) 0=n*2^u:=by
 unfold signed
 rw[Nat.shiftLeft_eq,Nat.pow_zero,Nat.mul_one]
 by_cases h:n<0
 ·rw[aK h,if_pos rfl]
  rw[Int.natCast_mul,←Int.neg_mul]
  congr 1
  omega
 rw[aO h,if_neg (by simp),Int.natCast_mul]
 congr 1
 omega
def plc (n:Int):Int:=if n=0 then -1074 else(n.natAbs.log2:Int) - 52
def mag (n:Int):Nat:=if n=0 then 0 else n.natAbs*2^ (52 - n.natAbs.log2)
def decA {n:Int} (h:n.natAbs<8192):FloatKind.f64.decode (F n)= .number (decide (n<0)) (mag n) (plc n):=by
 by_cases h0:n=0
 ·subst h0;rw[dec0];rfl
 rw[dec h0 h];unfold dat mag plc;rw[if_neg h0,if_neg h0]
def sgnU {n base:Int} (h:n.natAbs<8192) (hb:base≤plc n):signed (decide (n<0)) (mag n) (plc n - base).toNat=n*2^ (-base).toNat:=by
 by_cases h0:n=0
 ·subst h0;simp[signed,mag]
 have hl:n.natAbs.log2<13:=by rcases Ft h with h1|h1;exact h1;omega
 have hu:52 - n.natAbs.log2+ (plc n - base).toNat=(-base).toNat:=by
  unfold plc at hb ⊢
  rw[if_neg h0] at hb ⊢
  omega
 have e:signed (decide (n<0)) (mag n) (plc n - base).toNat=signed (decide (n<0)) (n.natAbs*2^ (-base).toNat) 0:=by
  unfold signed mag
  rw[if_neg h0,←hu,Nat.pow_add]
  simp only[Nat.shiftLeft_eq,Nat.pow_zero,Nat.mul_one,Nat.mul_assoc]
 rw[e,sgn]
def Wo {a b k:Int} (hk:0<k):compare (a*k) (b*k)=compare a b:=by
 simp only[compare,compareOfLessAndEq]
 have h1:a*k<b*k↔a<b:=Int.mul_lt_mul_right hk
 have h2:a*k=b*k↔a=b:=Int.mul_eq_mul_right_iff oM
 simp only[h1,h2]
def ord {a b:Int} (ha:a.natAbs<8192) (hb:b.natAbs<8192):FloatKind.f64.format.order (F a) (F b)=some (compare a b):=by
 have h1:FloatKind.f64.format.read (F a)=_:=decA ha
 have h2:FloatKind.f64.format.read (F b)=_:=decA hb
 unfold Format.order
 rw[h1,h2]
 unfold Datum.order
 simp only
 have p1:min (plc a) (plc b)≤plc a:=Int.min_le_left ..
 have p2:min (plc a) (plc b)≤plc b:=Int.min_le_right ..
 rw[sgnU ha p1,sgnU hb p2,Wo]
 exact Int.pow_pos oM
def intF {a:Int} (h:a.natAbs<8192): (FloatKind.f64.decode (F a)).toInt .zero=some a:=by
 rw[decA h]
 by_cases h0:a=0
 ·subst h0;rfl
 have hl:a.natAbs.log2<13:=by rcases Ft h with h1|h1;exact h1;omega
 unfold Datum.toInt Datum.integral
 simp only
 have hp:plc a=(a.natAbs.log2:Int) - 52:=by unfold plc;rw[if_neg h0]
 have hm:mag a=a.natAbs*2^ (52 - a.natAbs.log2):=by unfold mag;rw[if_neg h0]
 rw[hp,hm]
 have e1: ((a.natAbs.log2:Int) - 52).toNat=0:=by omega
 have e2: (-((a.natAbs.log2:Int) - 52)).toNat=52 - a.natAbs.log2:=by omega
 rw[e1,e2,Nat.shiftLeft_zero]
 have hlog: (a.natAbs*2^ (52 - a.natAbs.log2)).log2+2≥52 - a.natAbs.log2:=by
  have:2^ (52 - a.natAbs.log2)≤a.natAbs*2^ (52 - a.natAbs.log2):=Nat.le_mul_of_pos_left _ oM
  have h3:=(Nat.le_log2 (n:=a.natAbs*2^ (52 - a.natAbs.log2)) (k:=52 - a.natAbs.log2) (by have:=Nat.pow_pos (a:=2) (n:=52 - a.natAbs.log2) oM;omega)).2 this
  omega
 unfold Toward.cut
 simp only
 rw[Nat.min_eq_left hlog,Nat.shiftLeft_eq,Nat.one_mul,Nat.mul_div_cancel _ (Nat.pow_pos oM)]
 have:=sgn a 0
 rw[Nat.pow_zero,Nat.mul_one] at this
 simp only[Bool.toNat_false,Nat.add_zero]
 rw[this];simp
end Go.Flo
namespace Go.Sx
open Go Go.Flo
def fl (n:Int):Value:= .float .f64 (F n)
def cx (a b:Int):Value:= .complex .f64 (F a) (F b)
section
variable {P:Program} {w0:World} {f:Fr} {L:aB} {N:Fr→aB→Prop} {ops:Array Oper} {rest:List Oper} {md:Md}
 {d:Option Tmp} {ty:TypeId} {ps:String} {af:Array Edge} {g:Option (Nat×Bool)}
def Ow.convIF {s dt:TypeId} {x:Operand} {n:Int} {md':Md} (he:md.turn=some md') (qJ:bT ops f ⟨d, .convert s dt x,ty,ps,af,g⟩=false)
  (qB:cvT P s dt= .no) (hs:P.underlying s=some (.int .i64)) (hd:P.underlying dt=some (.float .f64)) (hx:ev f x=vi n)
  (hn:Ow P w0 ops md' rest (al f d (fl n)) L N):Ow P w0 ops md (⟨d, .convert s dt x,ty,ps,af,g⟩::rest) f L N:=by
 refine Ow.step he (by simp[gW,qB]) qJ fun w hw=> .inl ⟨fl n,w,L, ?_,hw,hn⟩
 have hc: (convert s dt (vi n)).run P w= .ok (fl n) w:=by
  unfold convert
  simp only[vi,Sem.run_bind,run_underlying hs w,run_underlying hd w,Result.andThen_ok]
  rfl
 simp only[execOp,Sem.run_bind,hx,hc]
 rfl
def Ow.convFI {s dt:TypeId} {x:Operand} {n:Int} {md':Md} (he:md.turn=some md') (qJ:bT ops f ⟨d, .convert s dt x,ty,ps,af,g⟩=false)
  (qB:cvT P s dt= .no) (hs:P.underlying s=some (.float .f64)) (hd:P.underlying dt=some (.int .i64)) (hx:ev f x=fl n) (hn8:n.natAbs<8192)
  (hn:Ow P w0 ops md' rest (al f d (vi n)) L N):Ow P w0 ops md (⟨d, .convert s dt x,ty,ps,af,g⟩::rest) f L N:=by
 refine Ow.step he (by simp[gW,qB]) qJ fun w hw=> .inl ⟨vi n,w,L, ?_,hw,hn⟩
 have hc: (convert s dt (fl n)).run P w= .ok (vi n) w:=by
  unfold convert
  simp only[fl,Sem.run_bind,run_underlying hs w,run_underlying hd w,Result.andThen_ok]
  show(Conv.floatToInt .f64 (F n) .i64).run P w=_
  unfold Conv.floatToInt
  simp only[intF hn8]
  have e1:IntKind.i64.min= -9223372036854775808:=rfl
  have e2:IntKind.i64.max=9223372036854775807:=rfl
  rw[if_pos (by rw[e1,e2];omega)]
  rfl
 simp only[execOp,Sem.run_bind,hx,hc]
 rfl
def Yc (a b:Int): (some (compare a b)==some Ordering.lt||some (compare a b)==some Ordering.eq)=decide (a≤b):=by
 simp only[compare,compareOfLessAndEq]
 by_cases h1:a<b
 ·rw[if_pos h1,aK oM];rfl
 by_cases h2:a=b
 ·rw[if_neg h1,if_pos h2,aK oM];rfl
 rw[if_neg h1,if_neg h2,aO oM];rfl
def XR (a b:Int): (some (compare a b)==some Ordering.gt||some (compare a b)==some Ordering.eq)=decide (b≤a):=by
 simp only[compare,compareOfLessAndEq]
 by_cases h1:a<b
 ·rw[if_pos h1,aO oM];rfl
 by_cases h2:a=b
 ·rw[if_neg h1,if_pos h2,aK oM];rfl
 rw[if_neg h1,if_neg h2,aK oM];rfl
def Wv (a b:Int): (some (compare a b)==some Ordering.eq)=(a==b):=by
 simp only[compare,compareOfLessAndEq]
 by_cases h1:a<b
 ·have: (a==b)=false:=by rw[beq_eq_false_iff_ne];omega
  rw[if_pos h1,this];rfl
 by_cases h2:a=b
 ·rw[if_neg h1,if_pos h2,h2];simp
 have: (a==b)=false:=by rw[beq_eq_false_iff_ne];exact h2
 rw[if_neg h1,if_neg h2,this];rfl
def Ow.fleq {t t':TypeId} {x y:Operand} {a b:Int} (hs:bT ops f ⟨d, .binOp .leq t x y t',ty,ps,af,g⟩=false) (hx:ev f x=fl a) (hy:ev f y=fl b) (ha:a.natAbs<8192) (hb:b.natAbs<8192)
  (hn:Ow P w0 ops md.next rest (al f d (.bool (decide (a≤b)))) L N):Ow P w0 ops md (⟨d, .binOp .leq t x y t',ty,ps,af,g⟩::rest) f L N:=by
 refine Ow.pureV rfl hs (fun w=> ?_) hn
 simp only[execOp,Sem.run_bind,hx,hy]
 have hg: (eqGuard .leq t x y (fl a) (fl b)).run P w= .ok () w:=rfl
 have hc: (binOp .leq t (fl a) (fl b)).run P w= .ok (.bool (decide (a≤b))) w:=by
  show Result.ok (Value.bool (FloatKind.f64.format.order (F a) (F b)==some .lt||FloatKind.f64.format.order (F a) (F b)==some .eq)) w=_
  rw[ord ha hb,Yc]
 rw[hg,Result.andThen_ok,hc]
 rfl
def Ow.fgeq {t t':TypeId} {x y:Operand} {a b:Int} (hs:bT ops f ⟨d, .binOp .geq t x y t',ty,ps,af,g⟩=false) (hx:ev f x=fl a) (hy:ev f y=fl b) (ha:a.natAbs<8192) (hb:b.natAbs<8192)
  (hn:Ow P w0 ops md.next rest (al f d (.bool (decide (b≤a)))) L N):Ow P w0 ops md (⟨d, .binOp .geq t x y t',ty,ps,af,g⟩::rest) f L N:=by
 refine Ow.pureV rfl hs (fun w=> ?_) hn
 simp only[execOp,Sem.run_bind,hx,hy]
 have hg: (eqGuard .geq t x y (fl a) (fl b)).run P w= .ok () w:=rfl
 have hc: (binOp .geq t (fl a) (fl b)).run P w= .ok (.bool (decide (b≤a))) w:=by
  show Result.ok (Value.bool (FloatKind.f64.format.order (F a) (F b)==some .gt||FloatKind.f64.format.order (F a) (F b)==some .eq)) w=_
  rw[ord ha hb,XR]
 rw[hg,Result.andThen_ok,hc]
 rfl
def Ow.feql {t t':TypeId} {x y:Operand} {a b:Int} (hs:bT ops f ⟨d, .binOp .eql t x y t',ty,ps,af,g⟩=false) (hx:ev f x=fl a) (hy:ev f y=fl b) (ha:a.natAbs<8192) (hb:b.natAbs<8192)
  (hn:Ow P w0 ops md.next rest (al f d (.bool (a==b))) L N):Ow P w0 ops md (⟨d, .binOp .eql t x y t',ty,ps,af,g⟩::rest) f L N:=by
 refine Ow.pureV rfl hs (fun w=> ?_) hn
 simp only[execOp,Sem.run_bind,hx,hy]
 have hg: (eqGuard .eql t x y (fl a) (fl b)).run P w= .ok () w:=rfl
 have hc: (binOp .eql t (fl a) (fl b)).run P w= .ok (.bool (a==b)) w:=by
  show Result.ok (Value.bool (FloatKind.f64.format.order (F a) (F b)==some .eq)) w=_
  rw[ord ha hb,Wv]
 rw[hg,Result.andThen_ok,hc]
 rfl
theorem Ow.real {x:Operand} {ts:Array TypeId} {a b:Int} (hs:bT ops f ⟨d, .call ⟨.builtin .real, #[x],ts⟩,ty,ps,af,g⟩=false) (hx:ev f x=cx a b)
  (hn:Ow P w0 ops md.next rest (al f d (fl a)) L N):Ow P w0 ops md (⟨d, .call ⟨.builtin .real, #[x],ts⟩,ty,ps,af,g⟩::rest) f L N:=by
 refine Ow.calm rfl rfl hs (fun w hw=> .inl ⟨fl a,w,L, ?_,hw,rfl,rfl⟩) hn
 simp only[execOp,resolve,Sem.run_bind,Sem.run_pure,Result.andThen_ok,invoke,builtin,List.map_toArray,List.map_cons,List.map_nil,hx]
 rfl
theorem Ow.imag {x:Operand} {ts:Array TypeId} {a b:Int} (hs:bT ops f ⟨d, .call ⟨.builtin .imag, #[x],ts⟩,ty,ps,af,g⟩=false) (hx:ev f x=cx a b)
  (hn:Ow P w0 ops md.next rest (al f d (fl b)) L N):Ow P w0 ops md (⟨d, .call ⟨.builtin .imag, #[x],ts⟩,ty,ps,af,g⟩::rest) f L N:=by
 refine Ow.calm rfl rfl hs (fun w hw=> .inl ⟨fl b,w,L, ?_,hw,rfl,rfl⟩) hn
 simp only[execOp,resolve,Sem.run_bind,Sem.run_pure,Result.andThen_ok,invoke,builtin,List.map_toArray,List.map_cons,List.map_nil,hx]
 rfl
def Ow.complexB {x y:Operand} {ts:Array TypeId} {a b:Int} (hs:bT ops f ⟨d, .call ⟨.builtin .complex, #[x,y],ts⟩,ty,ps,af,g⟩=false) (hx:ev f x=fl a) (hy:ev f y=fl b)
  (hn:Ow P w0 ops md.next rest (al f d (cx a b)) L N):Ow P w0 ops md (⟨d, .call ⟨.builtin .complex, #[x,y],ts⟩,ty,ps,af,g⟩::rest) f L N:=by
 refine Ow.calm rfl rfl hs (fun w hw=> .inl ⟨cx a b,w,L, ?_,hw,rfl,rfl⟩) hn
 simp only[execOp,resolve,Sem.run_bind,Sem.run_pure,Result.andThen_ok,invoke,builtin,List.map_toArray,List.map_cons,List.map_nil,hx,hy]
 rfl
end
end Go.Sx
namespace Go.Sx
open Go Go.Flo
def Ud (P:Program) (t:TypeId) (a b:Int):bF P .eql t (fl a) (fl b)=none:=by
 show(eW (P.underlying t) (fl a) (fl b)).map _=none
 unfold eW fl
 split<;>simp_all
def Df (P:Program) (t:TypeId) (a b a' b':Int):bF P .eql t (cx a b) (cx a' b')=none:=by
 show(eW (P.underlying t) (cx a b) (cx a' b')).map _=none
 unfold eW cx
 split<;>simp_all
section
variable {P:Program} {w0:World} {st:Bool} {f:Fr} {L:aB} {md:Md} {d:Option Tmp} {ty:TypeId} {ps:String} {af:Array Edge} {g:Option (Nat×Bool)} {go:Fr→aB→Prop} {stop:Prop}
def Ek (a:Array Operand) (t:Array TypeId):vcB P w0 st md ⟨d, .call ⟨.builtin .real,a,t⟩,ty,ps,af,g⟩ f L go stop=stop:=(rfl)
def Dv (a:Array Operand) (t:Array TypeId):vcB P w0 st md ⟨d, .call ⟨.builtin .imag,a,t⟩,ty,ps,af,g⟩ f L go stop=stop:=(rfl)
def KX (a:Array Operand) (t:Array TypeId):vcB P w0 st md ⟨d, .call ⟨.builtin .complex,a,t⟩,ty,ps,af,g⟩ f L go stop=stop:=(rfl)
end
end Go.Sx
section
open Go Go.Proofs Go.Sx Go.StP Go.Flo
namespace Go.Proofs
structure PcL where
 a:Nat
 n:Nat
 x:List UInt8
def pc0:PcL:=⟨0,0,[]⟩
def pcC (p:PcL):List Value:= [cx p.a p.n,vs p.x]
def PcB (p:PcL):Prop:=p.a≤4099∧p.n≤4099
def vu (p:PcL): (pcC p).length=2:=rfl
def Fc (p:PcL): (pcC p).all Value.oneCell'=true:=rfl
def cpV (p:PcL) (b:Int):Option (Nat×Nat):=if 1≤p.n∧p.n≤4099∧p.x= []∧(p.a:Int)≤b - p.n then some (p.a,p.n) else none
def fw (p:PcL) (b:Int):Nat:=if p.a=0∧p.n=0∧p.x.length≤4099 then p.x.length else match cpV p b with|some q=>q.2|none=>0
def EY (p:PcL) (b:Int):fw p b≤4099:=by
 unfold fw
 split
 ·rename_i h;exact h.2.2
 unfold cpV
 split
 ·rename_i q h
  split at h
  ·rename_i hc;cases h;exact hc.2.1
  cases h
 omega
def eS (b:Int) (l:List PcL):Nat:=(l.map fun p=>fw p b).sum
def TX (b:Int) (l:List PcL) (p:PcL):eS b (l++ [p])=eS b l+fw p b:=by
 unfold eS;rw[List.map_append,List.sum_append];simp
def VT (b:Int) (l m:List PcL):eS b (l++m)=eS b l+eS b m:=by
 unfold eS;rw[List.map_append,List.sum_append]
def anyZ (b:Int) (l:List PcL):Bool:=l.any fun p=>fw p b==0
def chkV (b:Int) (l:List PcL):Int×Int:=if b<0∨4099<b then(0,1) else if anyZ b l=true then(0,1) else if 4099<eS b l then(0,19) else((eS b l:Nat),0)
theorem FE (b:Int): ∀ (l:List PcL),anyZ b l=false→l.length≤eS b l
 | [],_=>aV _
 |p::l,h=>by
  unfold anyZ at h
  rw[List.any_cons,Bool.or_eq_false_iff] at h
  have h1:=FE b l h.2
  have h2:fw p b≠0:=by simpa using h.1
  unfold eS at h1 ⊢
  rw[List.map_cons,List.sum_cons,List.length_cons]
  omega
def ws {b m:Int} {l:List PcL} (h:chkV b l=(m,0)):0≤b∧b≤4099∧anyZ b l=false∧eS b l≤4099∧m=(eS b l:Nat)∧l.length≤4099:=by
 unfold chkV at h
 split at h
 ·cases h
 rename_i hb
 split at h
 ·cases h
 rename_i hz
 split at h
 ·cases h
 rename_i hs
 have hz':anyZ b l=false:=by simpa using hz
 have:=FE b l hz'
 cases h
 exact⟨by omega,by omega,hz',by omega,rfl,by omega⟩
def pcT (base:List UInt8) (p:PcL):List UInt8:=match cpV p base.length with|some q=>(base.drop q.1).take q.2++p.x|none=>p.x
def txtP (base:List UInt8) (l:List PcL):List UInt8:=(l.map (pcT base)).flatten
def pcR (d:List UInt8) (a:Nat):PcL×Nat×Int:=
 if(aF d a 0 8199).1%2=1 then
  (⟨(aF d (aF d a 0 8199).2.1 (aF d a 0 8199).2.2 4099).1.toNat,((aF d a 0 8199).1 / 2).toNat,[]⟩,(aF d (aF d a 0 8199).2.1 (aF d a 0 8199).2.2 4099).2)
 else(⟨0,0,(bS d (aF d a 0 8199).2.1 (aF d a 0 8199).2.2 ((aF d a 0 8199).1 / 2)).1⟩,(bS d (aF d a 0 8199).2.1 (aF d a 0 8199).2.2 ((aF d a 0 8199).1 / 2)).2)
def xS {d:List UInt8} {a:Nat} (ha:a≤d.length):a≤ (pcR d a).2.1∧(pcR d a).2.1≤d.length:=by
 have h1:=jf (s:=d) (a:=a) (e:=0) (most:=8199) ha
 unfold pcR
 split
 ·have h2:=jf (s:=d) (a:=(aF d a 0 8199).2.1) (e:=(aF d a 0 8199).2.2) (most:=4099) h1.2
  exact⟨Nat.le_trans h1.1 h2.1,h2.2⟩
 have h2:=zY (s:=d) (a:=(aF d a 0 8199).2.1) (e:=(aF d a 0 8199).2.2) (n:=(aF d a 0 8199).1 / 2) h1.2
 exact⟨Nat.le_trans h1.1 h2.1,h2.2⟩
def xN {d:List UInt8} {a:Nat} (ha:a≤d.length) (h: (pcR d a).2.2=0):a< (pcR d a).2.1:=by
 have h1:=jf (s:=d) (a:=a) (e:=0) (most:=8199) ha
 have hz: (aF d a 0 8199).2.2=0:=by
  by_cases he: (aF d a 0 8199).2.2=0
  ·exact he
  unfold pcR at h
  split at h
  ·have:=xa (s:=d) (a:=(aF d a 0 8199).2.1) (most:=4099) he
   simp only[this] at h
   exact absurd h he
  have:=tW (s:=d) (a:=(aF d a 0 8199).2.1) (n:=(aF d a 0 8199).1 / 2) he
  simp only[this] at h
  exact absurd h he
 have ik:=FR hz
 unfold pcR
 split
 ·have h2:=jf (s:=d) (a:=(aF d a 0 8199).2.1) (e:=(aF d a 0 8199).2.2) (most:=4099) h1.2
  exact Nat.lt_of_lt_of_le ik h2.1
 have h2:=zY (s:=d) (a:=(aF d a 0 8199).2.1) (e:=(aF d a 0 8199).2.2) (n:=(aF d a 0 8199).1 / 2) h1.2
 exact Nat.lt_of_lt_of_le ik h2.1
def pcsF (d:List UInt8):Nat→Nat→List PcL×Nat×Int
 |0,a=>([],a,0)
 |k+1,a=>if a<d.length then(if(pcR d a).2.2=0 then((pcR d a).1:: (pcsF d k (pcR d a).2.1).1,(pcsF d k (pcR d a).2.1).2) else([(pcR d a).1],(pcR d a).2)) else([],a,0)
theorem Dj {d:List UInt8}: ∀ (k j a:Nat),a≤d.length→d.length - a≤k→d.length - a≤j→pcsF d k a=pcsF d j a
 |0,j,a,ha,hk,_=>by
  have: ¬a<d.length:=by omega
  cases j with
  |zero=>rfl
  |succ j=>unfold pcsF;rw[if_neg this]
 |k+1,0,a,ha,_,hj=>by
  have: ¬a<d.length:=by omega
  unfold pcsF;rw[if_neg this]
 |k+1,j+1,a,ha,hk,hj=>by
  unfold pcsF
  by_cases h:a<d.length
  ·rw[if_pos h,if_pos h]
   by_cases he: (pcR d a).2.2=0
   ·have hu:=xN ha he
    have hl:=xS ha
    rw[if_pos he,if_pos he,Dj k j (pcR d a).2.1 hl.2 oM oM]
   rw[if_neg he,if_neg he]
  rw[if_neg h,if_neg h]
def pcs (d:List UInt8) (a:Nat):List PcL×Nat×Int:=pcsF d (d.length - a) a
def YG {d:List UInt8} {a:Nat} (h: ¬a<d.length):pcs d a=([],a,0):=by
 unfold pcs
 rw[show d.length - a=0 by omega];rfl
def ZK {d:List UInt8} {a:Nat} (h:a<d.length) (he: (pcR d a).2.2=0):pcs d a=((pcR d a).1:: (pcs d (pcR d a).2.1).1,(pcs d (pcR d a).2.1).2):=by
 have hu:=xN (Nat.le_of_lt h) he
 have hl:=xS (Nat.le_of_lt h)
 unfold pcs
 obtain⟨k,hk⟩: ∃k,d.length - a=k+1:=⟨d.length - a - 1,by omega⟩
 rw[hk]
 conv=>lhs;unfold pcsF
 rw[if_pos h,if_pos he,Dj k (d.length - (pcR d a).2.1) (pcR d a).2.1 hl.2 oM (bq _)]
def Wj {d:List UInt8} {a:Nat} (h:a<d.length) (he: (pcR d a).2.2≠0):pcs d a=([(pcR d a).1],(pcR d a).2):=by
 unfold pcs
 obtain⟨k,hk⟩: ∃k,d.length - a=k+1:=⟨d.length - a - 1,by omega⟩
 rw[hk]
 unfold pcsF
 rw[if_pos h,if_neg he]
def oR (d:List UInt8):Option (Nat×List PcL):=
 if(aF d (aF d 0 0 4099).2.1 (aF d 0 0 4099).2.2 4099).2.2≠0 then none
 else if(pcs d (aF d (aF d 0 0 4099).2.1 (aF d 0 0 4099).2.2 4099).2.1).2.2≠0 then none
 else if chkV (aF d 0 0 4099).1 (pcs d (aF d (aF d 0 0 4099).2.1 (aF d 0 0 4099).2.2 4099).2.1).1=((aF d (aF d 0 0 4099).2.1 (aF d 0 0 4099).2.2 4099).1,0) then some ((aF d 0 0 4099).1.toNat,(pcs d (aF d (aF d 0 0 4099).2.1 (aF d 0 0 4099).2.2 4099).2.1).1)
 else none
def m4 (base d:List UInt8):List UInt8×Int:=
 match oR d with
 |none=>([],2)
 |some p=>if p.1≠base.length then([],19) else(txtP base p.2,0)
def cvIF:cvT prog 3 286= .no:=id kR
def cvFI:cvT prog 286 3= .no:=id kR
def zR (p:PcL) (E:TypeId) (n:Nat):aG (some (false,n)) (some (.cells (pcC p).toArray E (0,0))) 0=some (cx p.a p.n):=(rfl)
def zX (p:PcL) (E:TypeId) (n:Nat):aG (some (false,n)) (some (.cells (pcC p).toArray E (0,0))) 1=some (vs p.x):=(rfl)
def zJ (p:PcL) (E:TypeId):aG (some (true,2)) (some (.cells (pcC p).toArray E (0,0))) 0=some (.agg (pcC p).toArray):=rx _ E (0,0) 2 rfl
def wD (p:PcL):Value.cells (.agg (pcC p).toArray)=(pcC p).toArray:=aS _
def zrPc:an prog 285=some (.agg (pcC pc0).toArray):=id kR
def U7 (p q:PcL) (E:TypeId):ad (some (true,2)) (some (.cells (pcC q).toArray E (0,0))) 0 (.agg (pcC p).toArray)=some (.cells (pcC p).toArray E (0,0)):=by
 have:=vq (pcC p) (n:=2) true (pcC q).toArray E rfl (Fc p) rfl
 exact this
def cxz: (Value.complex FloatKind.f64 0 0)=cx 0 0:=id kR
abbrev PcSl (w:World) (v:Value) (l:List PcL):Prop:=SlV 2 pcC pc0 w v l
def BndP (l:List PcL):Prop:= ∀g,g<l.length→PcB (l.getD g pc0)∧(l.getD g pc0).x.length<9223372036854775808
def SZ {b:Int} {l:List PcL} {g:Nat} (h:g<l.length):eS b (l.take (g+1))=eS b (l.take g)+fw (l.getD g pc0) b:=by
 rw[take_snoc (z:=pc0) h,TX]
def S7 {b:Int} {l:List PcL} {g:Nat} (h:g<l.length):anyZ b (l.take (g+1))=(anyZ b (l.take g) ||fw (l.getD g pc0) b==0):=by
 rw[take_snoc (z:=pc0) h];unfold anyZ;rw[List.any_append];simp
def wS {b:Int} {l:List PcL} {g:Nat} (h:g<l.length) (hz:fw (l.getD g pc0) b=0):anyZ b l=true:=by
 unfold anyZ
 rw[List.any_eq_true]
 exact⟨_,n_ (z:=pc0) h,by rw[beq_iff_eq];exact hz⟩
def pcAt (p:PcL) (b:Int):Nat×Nat:=match cpV p b with|some q=>q|none=>(0,0)
def Ws (p:PcL) (base:List UInt8): (pcAt p base.length).1+ (pcAt p base.length).2≤base.length:=by
 unfold pcAt cpV
 split
 ·rename_i q h
  split at h
  ·rename_i hc;cases h;simp only;omega
  cases h
 simp
def YR (base:List UInt8) (p:PcL) (h:fw p base.length≠0): (pcT base p).length=fw p base.length:=by
 have dc:=Ws p base
 unfold fw at h ⊢
 unfold pcT
 unfold pcAt at dc
 split at h
 ·rename_i hc
  rw[if_pos hc]
  have hn:cpV p base.length=none:=by unfold cpV;rw[if_neg oM]
  rw[hn]
 rename_i hc
 rw[if_neg hc]
 cases hq:cpV p base.length with
 |none=>rw[hq] at h;exact absurd rfl h
 |some q=>
  rw[hq] at dc
  simp only at dc ⊢
  have hx:p.x= []:=by
   unfold cpV at hq
   split at hq
   ·rename_i h2;exact h2.2.2.1
   cases hq
  rw[hx,List.append_nil,List.length_take,List.length_drop]
  omega
def RP {base:List UInt8} {l:List PcL} {g:Nat} (h:g<l.length):txtP base (l.take (g+1))=txtP base (l.take g)++pcT base (l.getD g pc0):=by
 rw[take_snoc (z:=pc0) h];unfold txtP;simp
theorem wj {base:List UInt8}: ∀ {l:List PcL},anyZ base.length l=false→(txtP base l).length=eS base.length l
 | [],_=>rfl
 |p::l,h=>by
  unfold anyZ at h
  rw[List.any_cons,Bool.or_eq_false_iff] at h
  have h1:=wj (base:=base) (l:=l) h.2
  have h2:=YR base p (by simpa using h.1)
  unfold txtP eS at h1 ⊢
  rw[List.map_cons,List.flatten_cons,List.length_append,List.map_cons,List.sum_cons,h1,h2]
def KS_ {b:Int} {l:List PcL} {g:Nat}:eS b (l.take g)≤eS b l:=by
 have:=VT b (l.take g) (l.drop g)
 rw[List.take_append_drop] at this
 omega
def X6 {b:Int} {l:List PcL} {g:Nat} (h:anyZ b l=false):anyZ b (l.take g)=false:=by
 unfold anyZ at h ⊢
 rw[List.any_eq_false] at h ⊢
 exact fun x hx=>h x (List.mem_of_mem_take hx)
end Go.Proofs
end
namespace Go.Sx
open Go
section
variable {α:Type} {m:Nat} {enc:α→List Value} {z:α}
end
section
variable {P:Program} {w0:World} {f:Fr} {L:aB} {N:Fr→aB→Prop} {ops:Array Oper} {rest:List Oper} {md:Md} {d:Option Tmp} {ty:TypeId} {ps:String} {af:Array Edge} {g:Option (Nat×Bool)}
theorem Ow.makeSlice {t e:TypeId} {m:Bool×Nat} {z:Value} {x y:Operand} {n c:Nat} {md':Md} (he:md.turn=some md') (hs:bT ops f ⟨d, .makeSlice t x y,ty,ps,af,g⟩=false)
  (hu:P.underlying t=some (.slice e)) (hm:aR P e=some m) (hi:se P e=true) (hz:an P e=some z) (hx:ev f x=vi n) (hy:ev f y=vi c) (hnc:n≤c) (dP:c≤2^38)
  (hn: ∀b,fU L b→w0.heap.size≤b→Ow P w0 ops md' rest (al f d (vsl b 0 n c)) (L++ [(b, .cells (madeCells z.cells (c*m.2)) e (0,0))]) N):
  Ow P w0 ops md (⟨d, .makeSlice t x y,ty,ps,af,g⟩::rest) f L N:=by
 refine Ow.step he rfl hs fun w hw=> .inl ⟨vsl w.heap.size 0 n c,w.alloc (.cells (madeCells z.cells (c*m.2)) e (0,0)),_, ?_,hw.alloc _,hn _ (io fun b hb=>hw.lt hb) hw.size⟩
 obtain⟨i,rJ,-,hb⟩:=Kz hi dP
 have hiz:i.zero=some z:=by
  unfold an at hz
  rw[rJ] at hz
  exact hz
 have him:i.size=m.2:=by
  unfold aR at hm
  rw[rJ] at hm
  split at hm
  ·rename_i h1 h2
   cases h2
   cases hm
   rfl
  cases hm
 have yA: (i.bytes:Int)* (c:Int)≤281474976710656:=by
  have: ((i.bytes*c:Nat):Int)≤281474976710656:=by rw[Nat.mul_comm];exact Int.ofNat_le.2 hb
  rwa [Int.natCast_mul] at this
 have hr:=run_make (P:=P) w t e i z hu rJ hiz .i64 .i64 (n:Int) (c:Int) oM oM yA oM
 simp only[Int.toNat_natCast,him] at hr
 show(execOp (ev f) _).run P w=_
 simp only[execOp,Sem.run_bind]
 rw[hx,hy]
 show((Instr.makeSlice t (.int .i64 (n:Int)) (.int .i64 (c:Int))).run P w).andThen _=_
 rw[hr]
 rfl
def Ow.appendXG {ts tx e:TypeId} {m:Bool×Nat} {z:Value} {s x:Operand} {n k:Nat} {cs new:List Value} {dx:TypeDesc} {md':Md} {X Y:aB} (sv:Value) (hL:L=X++Y) (iL:ev f s=sv) (he:md.turn=some md')
  (hs:bT ops f ⟨d, .call ⟨.builtin .append, #[s,x], #[ts,tx]⟩,ty,ps,af,g⟩=false)
  (hu:P.underlying ts=some (.slice e)) (hm:aR P e=some m) (hi:se P e=true) (hz:an P e=some z) (mP:z.cells.size=m.2) (kD:P.underlying tx=some dx) (cF: ∀k,dx≠ .int k)
  (hB:Gr X e m.2 sv n cs) (hX: ∀w,Hp w0 L w→AppX P w m.2 (ev f x) k new) (dP:2* (n+k)+768≤2^38)
  (hn: ∀B v' D,fU L B→w0.heap.size≤B→Gr D e m.2 v' (n+k) (cs++new)→(∀c,c∈keys X→c∈keys D)→(∀c,c∈keys D→c∈keys X∨B≤c)→(∀c o,slB sv≠some c→look X c=some o→look D c=some o)→Ow P w0 ops md' rest (al f d v') (D++Y) N):
  Ow P w0 ops md (⟨d, .call ⟨.builtin .append, #[s,x], #[ts,tx]⟩,ty,ps,af,g⟩::rest) f L N:=by
 subst hL
 refine Ow.step he rfl hs fun w hw=> ?_
 have hp:=hw.part
 have hA:fU (X++Y) w.heap.size:=io fun b hb=>hw.lt hb
 have fin: ∀v' w' D,(Builtin.append_ #[ts,tx] ty #[sv,ev f x]).run P w= .ok v' w'→Hp w D w'→Gr D e m.2 v' (n+k) (cs++new)→(∀c,c∈keys X→c∈keys D)→(∀c,c∈keys D→c∈keys X∨w.heap.size≤c)→(∀c o,slB sv≠some c→look X c=some o→look D c=some o)→
   (∃v w' L',(execOp (ev f) ⟨d, .call ⟨.builtin .append, #[s,x], #[ts,tx]⟩,ty,ps,af,g⟩).run P w= .ok (.value v) w'∧Hp w0 L' w'∧Ow P w0 ops md' rest (al f d v) L' N):=by
  intro v' w' D hr hD hb h1 h2 h3
  refine⟨v',w',D++Y, ?_,hw.join hD h1 h2,hn w.heap.size v' D hA hw.size hb h1 h2 h3⟩
  simp only[execOp,resolve,Sem.run_bind,Sem.run_pure,Result.andThen_ok,invoke,builtin,List.map_toArray,List.map_cons,List.map_nil,iL]
  rw[hr]
  rfl
 rcases hB with hB| ⟨rfl,rfl,b,rfl,bQ⟩
 ·obtain⟨v',w',D,hr,hD,hb,hg,-⟩:=Kk (w0:=w) (L:=X) (ty:=ty) (x:=ev f x) hp hu hm hi hz mP kD cF hB (fun w2 bV=>hX w2 (by
   refine hw.join bV (fun c hc=>hc) (fun c hc=> .inl hc))) dP
  exact .inl (fin v' w' D hr hD (.inl hb) hg.keys (fun c hc=>(hg.new c hc).imp id And.right) hg.look)
 rcases Kx (w0:=w) (L:=X) (ty:=ty) (b:=b) (x:=ev f x) hp hu hm hi hz mP kD cF (fun w2 bV=>hX w2 (by
  refine hw.join bV (fun c hc=>hc) (fun c hc=> .inl hc))) dP with⟨h0,hr⟩ | ⟨-,v',w',D,hr,hD,hb,hg,-⟩
 ·subst h0
  have hnw:=(hX w hw).size
  obtain rfl:new= []:=List.eq_nil_of_length_eq_zero (by rw[hnw,Nat.zero_mul])
  exact .inl (fin _ w X hr hp (.inr ⟨rfl,rfl,b,rfl,bQ⟩) (fun c hc=>hc) (fun c hc=> .inl hc) (fun c o _ hl=>hl))
 exact .inl (fin v' w' D hr hD (.inl hb) hg.keys (fun c hc=>(hg.new c hc).imp id And.right) (fun c o _ hl=>hg.look c o (by simp[slB]) hl))
end
def New.perm {n:Nat} {D D':aB} (h:New n D) (hp:D.Perm D'):New n D':=New.of_le fun c hc=>h.le c ((hp.map Prod.fst).mem_iff.2 hc)
end Go.Sx
section
open Go Go.Proofs Go.Sx Go.StP Go.Flo
namespace Go.Proofs
def dB (d:List UInt8):Int×Nat×Int:=aF d 0 0 4099
def dM (d:List UInt8):Int×Nat×Int:=aF d (dB d).2.1 (dB d).2.2 4099
def De (d:List UInt8):oR d=if(dM d).2.2≠0 then none else if(pcs d (dM d).2.1).2.2≠0 then none else if chkV (dB d).1 (pcs d (dM d).2.1).1=((dM d).1,0) then some ((dB d).1.toNat,(pcs d (dM d).2.1).1) else none:=rfl
def Wl (p:PcL):w8 prog 266 1 [(0, .agg (pcC p).toArray)]=some (285,(pcC p).toArray):=
 gX underlying266 (id kR) zrPc (by decide) (vu p)
def C8 {d:List UInt8} {p:Nat×List PcL} (h:oR d=some p): ∃m,chkV (p.1:Nat) p.2=(m,0):=by
 rw[De] at h
 split at h
 ·cases h
 split at h
 ·cases h
 split at h
 ·rename_i hc
  cases h
  have jy:=sZ (s:=d) (a:=0) (e:=0) (most:=4099) oM
  change 0≤ (dB d).1∧(dB d).1≤4099 at jy
  refine⟨(dM d).1, ?_⟩
  rw[show(((dB d).1.toNat:Nat):Int)=(dB d).1 by omega]
  exact hc
 cases h
structure PartL where
 d:Bool
 b:Int
 x:List UInt8
def gL:PartL:=⟨false,0,[]⟩
def dL (p:PartL):List Value:= [.bool p.d,vi p.b,vs p.x]
def Li (p:PartL): (dL p).length=3:=rfl
def DA (p:PartL): (dL p).all Value.oneCell'=true:=rfl
def mR (l:List PartL):Nat→Nat→Except Int (List Nat)
 |0,_=> .error 11
 |k+1,at_=>
  if(l.getD at_ gL).d=true then
   (if(l.getD at_ gL).b<0∨(at_:Int)≤ (l.getD at_ gL).b then .error 2
   else if k=0 then .error 11
   else(mR l k (l.getD at_ gL).b.toNat).map (at_:: ·))
  else if(l.getD at_ gL).b≠0 then .error 2 else .ok [at_]
def kQ (l:List PartL) (at_:Int):Except Int (List Nat):=
 if 200<l.length∨at_<0∨(l.length:Int)≤at_ then .error 1 else mR l 5 at_.toNat
def ir (p:PartL) (base:List UInt8):List UInt8×Int:=if p.d=true then m4 base p.x else if 4099<p.x.length then([],19) else(p.x,0)
def kS (l:List PartL):List Nat→Except Int (List UInt8)
 | []=> .ok []
 |a::p=>(kS l p).bind fun s=>if(ir (l.getD a gL) s).2=0 then .ok (ir (l.getD a gL) s).1 else .error (ir (l.getD a gL) s).2
def partV (l:List PartL) (at_:Int):Except Int (List UInt8):=(kQ l at_).bind (kS l)
def GV (l:List PartL):Nat→Except Int (List (List UInt8))
 |0=> .ok []
 |k+1=>(GV l k).bind fun ts=>(partV l (k:Nat)).map fun s=>ts++ [s]
def allV (l:List PartL):Except Int (List (List UInt8)):=if 200<l.length then .error 1 else GV l l.length
def natC (n:Nat):List Value:= [vi n]
def Ex (n:Nat): (natC n).length=1:=rfl
abbrev GD (w:World) (v:Value) (l:List PartL):Prop:=SlV 3 dL gL w v l
def BE (p:PartL) (E:TypeId) (n:Nat):aG (some (false,n)) (some (.cells (dL p).toArray E (0,0))) 0=some (.bool p.d):=(rfl)
def BO (p:PartL) (E:TypeId) (n:Nat):aG (some (false,n)) (some (.cells (dL p).toArray E (0,0))) 1=some (vi p.b):=(rfl)
def BP (p:PartL) (E:TypeId) (n:Nat):aG (some (false,n)) (some (.cells (dL p).toArray E (0,0))) 2=some (vs p.x):=(rfl)
def Iu (p:PartL):Value.cells (.agg (dL p).toArray)=(dL p).toArray:=aS _
def qY:an prog 245=some (.agg (dL gL).toArray):=id kR
def BV (p q:PartL) (E:TypeId):ad (some (true,3)) (some (.cells (dL q).toArray E (0,0))) 0 (.agg (dL p).toArray)=some (.cells (dL p).toArray E (0,0)):=
 vq (dL p) (n:=3) true (dL q).toArray E rfl (DA p) rfl
def lV (l:List PartL) (a0:Int) (v:Value) (D:aB):Prop:=match kQ l a0 with
 | .ok p=> ∃x,v= .tuple #[x,vi 0]∧p.length≤5∧GrI D 3 1 x p.length (p.map natC).flatten
 | .error e=>v= .tuple #[.slice none 0 0,vi e]
theorem Bv {l:List PartL}: ∀ (k a:Nat) (e:Int),mR l k a= .error e→e≠0
 |0,_,e,h=>by cases h;decide
 |k+1,a,e,h=>by
  unfold mR at h
  split at h
  ·split at h
   ·cases h;decide
   split at h
   ·cases h;decide
   cases hp:mR l k (l.getD a gL).b.toNat with
   |error x=>rw[hp] at h;cases h;exact Bv k _ _ hp
   |ok q=>rw[hp] at h;cases h
  split at h
  ·cases h;decide
  cases h
def CX {l:List PartL} {a:Int} {e:Int} (h:kQ l a= .error e):e≠0:=by
 unfold kQ at h
 split at h
 ·cases h;decide
 exact Bv _ _ _ h
theorem DO {l:List PartL}: ∀ (k a:Nat) (p:List Nat),a<l.length→mR l k a= .ok p→ ∀x,x∈p→x<l.length
 |0,_,_,_,h=>by cases h
 |k+1,a,p,ha,h=>by
  unfold mR at h
  split at h
  ·split at h
   ·cases h
   rename_i hb
   split at h
   ·cases h
   cases hp:mR l k (l.getD a gL).b.toNat with
   |error x=>rw[hp] at h;cases h
   |ok q=>
    rw[hp] at h
    cases h
    intro x hx
    rcases List.mem_cons.1 hx with rfl|hx
    ·exact ha
    exact DO k _ q oM hp x hx
  split at h
  ·cases h
  cases h
  intro x hx
  rw[List.mem_singleton] at hx
  omega
def V2 {l:List PartL} {a:Int} {p:List Nat} (h:kQ l a= .ok p): ∀x,x∈p→x<l.length:=by
 unfold kQ at h
 split at h
 ·cases h
 exact DO _ _ _ oM h
theorem Lt {l:List PartL} {e:Int}: ∀ (p:List Nat) (i:Nat),kS l (p.drop i)= .error e→kS l p= .error e
 | [],i,h=>by rw[List.drop_nil] at h;exact h
 |a::p,0,h=>h
 |a::p,i+1,h=>by
  have:=Lt p i h
  unfold kS
  rw[this];rfl
def Ut {E:TypeId} {rest:List Value} {l:List Nat} (n i:Nat) (hi:i<l.length):aG (some (false,n)) (some (cO natC E rest l)) i=some (vi (l.getD i 0)):=by
 unfold cO aG
 have e: (l.map natC).flatten=l.map fun n=>vi (n:Nat):=by
  clear hi
  induction l with
  |nil=>rfl
  |cons a l ih=>rw[List.map_cons,List.flatten_cons,List.map_cons,ih];rfl
 simp only[e]
 rw[List.getElem?_toArray,List.getElem?_append_left (by simpa using hi),List.getElem?_map,List.getElem?_eq_getElem hi,List.getD_eq_getElem?_getD,List.getElem?_eq_getElem hi]
 rfl
def od (r:Except Int (List UInt8)):Value:=match r with
 | .ok s=> .tuple #[vs s,vi 0]
 | .error e=> .tuple #[vs [],vi e]
theorem Cb {l:List PartL} {e:Int}: ∀ (p:List Nat),kS l p= .error e→e≠0
 | [],h=>by cases h
 |a::p,h=>by
  unfold kS at h
  cases hp:kS l p with
  |error x=>rw[hp] at h;cases h;exact Cb p hp
  |ok s=>
   rw[hp] at h
   change(if(ir (l.getD a gL) s).2=0 then _ else _)=_ at h
   split at h
   ·cases h
   rename_i aX;cases h;exact aX
def Uc {l:List PartL} {a e:Int} (h:partV l a= .error e):e≠0:=by
 unfold partV at h
 cases hp:kQ l a with
 |error x=>rw[hp] at h;cases h;exact CX hp
 |ok p=>rw[hp] at h;exact Cb p h
def strC (s:List UInt8):List Value:= [vs s]
def I' (s:List UInt8): (strC s).length=1:=rfl
end Go.Proofs
end
namespace Go.Dig
open Go.Sx
def hexL:List UInt8:= [48,49,50,51,52,53,54,55,56,57,97,98,99,100,101,102]
def fr (b:UInt8):Int:=if 48≤b.toNat∧b.toNat≤57 then(b.toNat:Int) - 48 else if 97≤b.toNat∧b.toNat≤102 then(b.toNat:Int) - 97+10 else -1
def XT (b:UInt8) (g:Nat) (hg:g<16) (h: (hexL.getD g 0==b)=true):fr b=g:=by
 have: ∀i:Fin 16,fr (hexL.getD i.val 0)=(i.val:Int):=by decide+kernel
 have h1:=this ⟨g,hg⟩
 rw[beq_iff_eq] at h
 rw[←h];exact h1
def XD (b:UInt8) (aX: ∀i,i<16→hexL.getD i 0≠b):fr b= -1:=by
 have key: ∀n:Fin 256,fr (UInt8.ofNat n.val)= -1∨ ∃i:Fin 16,hexL.getD i.val 0=UInt8.ofNat n.val:=by decide+kernel
 have hb:UInt8.ofNat b.toNat=b:=by simp
 have:=key ⟨b.toNat,b.toNat_lt⟩
 simp only[hb] at this
 rcases this with h| ⟨i,hi⟩
 ·exact h
 exact absurd hi (aX i.val i.isLt)
def hexD (n:Nat):UInt8:=hexL.getD n 0
def hexB (b:UInt8):List UInt8:= [hexD (b.toNat / 16),hexD (b.toNat%16)]
def aL (id:List UInt8):List UInt8:=id.flatMap hexB
def ui (id:List UInt8) (g:Nat):List UInt8:=aL (id.take g)++List.replicate (64 - 2*g) 0
def pR (id:List UInt8): (aL id).length=2*id.length:=by
 induction id with
 |nil=>rfl
 |cons b r ih=>simp only[aL,List.flatMap_cons,List.length_append] at ih ⊢;rw[ih];simp[hexB];omega
def XP_ (id:List UInt8) (g:Nat) (h:id.length=32) (hg:g≤32): (ui id g).length=64:=by
 simp[ui,pR,h];omega
def PW (id:List UInt8) (g:Nat) (h:id.length=32) (hg:g<32) (x y:UInt8) (hx:x=hexD ((id.getD g 0).toNat / 16)) (hy:y=hexD ((id.getD g 0).toNat%16)):
  ((ui id g).set (2*g) x).set (2*g+1) y=ui id (g+1):=by
 have hl: (aL (id.take g)).length=2*g:=by rw[pR];simp;omega
 have hr:List.replicate (64 - 2*g) (0:UInt8)=0::0::List.replicate (64 - 2* (g+1)) 0:=by
  have:64 - 2*g=(64 - 2* (g+1))+1+1:=by omega
  rw[this];rfl
 have ht:id.take (g+1)=id.take g++ [id.getD g 0]:=by
  rw[List.take_add_one]
  simp[List.getD_eq_getElem?_getD,h,hg]
 have key: ∀ (p q:List UInt8) (a b:UInt8),((p++a::b::q).set p.length x).set (p.length+1) y=p++x::y::q:=by
  intro p q a b
  induction p with
  |nil=>rfl
  |cons c r ih=>simp only[List.cons_append,List.length_cons,List.set_cons_succ,ih]
 unfold ui
 rw[ht,hr,←hl,key]
 simp[aL,hexB,hx,hy]
def Qb (id:List UInt8) (h:id.length=32):ui id 32=aL id:=by
 simp[ui,List.take_of_length_le (show id.length≤32 by omega)]
def WP (b:UInt8): (sC b 4).toNat<16:=by
 have:=b.toNat_lt
 rw[sC,UInt8.toNat_ofNat'];omega
def Vw (b:UInt8): (b&&&15).toNat<16:=by
 rw[UInt8.toNat_and]
 exact Nat.lt_of_le_of_lt Nat.and_le_right (by decide)
def YV (b:UInt8):hexL.getD (sC b 4).toNat 0=hexD (b.toNat / 16):=by
 have:=b.toNat_lt
 rw[sC,UInt8.toNat_ofNat',Nat.mod_eq_of_lt oM];rfl
def VK (b:UInt8):hexL.getD (b&&&15).toNat 0=hexD (b.toNat%16):=by
 rw[UInt8.toNat_and]
 have:b.toNat&&& (15:UInt8).toNat=b.toNat%16:=Nat.and_two_pow_sub_one_eq_mod b.toNat 4
 rw[this];rfl
def TI (id:List UInt8) (g:Nat) (h:id.length=32) (hg:g<32):aL (id.take (g+1))=aL (id.take g)++ [hexD ((id.getD g 0).toNat / 16)]++ [hexD ((id.getD g 0).toNat%16)]:=by
 have ht:id.take (g+1)=id.take g++ [id.getD g 0]:=by
  rw[List.take_add_one]
  simp[List.getD_eq_getElem?_getD,h,hg]
 rw[ht];simp[aL,hexB]
def Fd0 (n:Nat) (h:n<16): (hexL.take (n+1)).drop n= [hexD n]:=by
 have: ∀i:Fin 16,(hexL.take (i.val+1)).drop i.val= [hexD i.val]:=by decide+kernel
 exact this ⟨n,h⟩
def pq (l:List UInt8) (n:Nat):List UInt8:=(List.range n).map fun i=>UInt8.ofInt (fr (l.getD (2*i) 0)*16+fr (l.getD (2*i+1) 0))
def mj (l:List UInt8):Bool:=l.length==64&&l.all fun c=>decide (0≤fr c)
def mV (l:List UInt8):List UInt8:=if mj l then pq l 32 else List.replicate 32 0
def vh (l:List UInt8) (g:Nat):List UInt8:=pq l g++List.replicate (32 - g) 0
def VF_ (l:List UInt8) (g:Nat) (hg:g≤32): (vh l g).length=32:=by simp[vh,pq];omega
def Mu (l:List UInt8) (g:Nat) (hg:g<32) (x:UInt8) (hx:x=UInt8.ofInt (fr (l.getD (2*g) 0)*16+fr (l.getD (2*g+1) 0))): (vh l g).set g x=vh l (g+1):=by
 have hr:List.replicate (32 - g) (0:UInt8)=0::List.replicate (32 - (g+1)) 0:=by
  have:32 - g=(32 - (g+1))+1:=by omega
  rw[this];rfl
 have hl: (pq l g).length=g:=by simp[pq]
 have key: ∀ (p q:List UInt8) (a:UInt8),(p++a::q).set p.length x=p++x::q:=by
  intro p q a
  induction p with
  |nil=>rfl
  |cons c r ih=>simp only[List.cons_append,List.length_cons,List.set_cons_succ,ih]
 unfold vh
 rw[hr]
 have:=key (pq l g) (List.replicate (32 - (g+1)) 0) 0
 rw[hl] at this
 rw[this]
 simp[pq,List.range_succ,hx]
def Lf (b:UInt8): -1≤fr b∧fr b≤15:=by unfold fr;repeat' split<;>omega
def wR (l:List UInt8) (i:Nat) (hl:l.length=64) (hi:i<64) (h:fr (l.getD i 0)<0):mj l=false:=by
 unfold mj
 rw[Bool.and_eq_false_iff]
 right
 rw[Bool.eq_false_iff]
 intro ha
 rw[List.all_eq_true] at ha
 have hm:l.getD i 0∈l:=by
  rw[List.getD_eq_getElem?_getD,List.getElem?_eq_getElem oM]
  exact List.getElem_mem _
 have:=ha _ hm
 simp only[decide_eq_true_eq] at this
 omega
def LP (l:List UInt8) (hl:l.length=64) (h: ∀i,i<64→0≤fr (l.getD i 0)):mj l=true:=by
 unfold mj
 rw[Bool.and_eq_true]
 refine⟨by simp[hl], ?_⟩
 rw[List.all_eq_true]
 intro c hc
 obtain⟨i,hi,rfl⟩:=List.mem_iff_getElem.1 hc
 have:=h i oM
 rw[List.getD_eq_getElem?_getD,List.getElem?_eq_getElem hi] at this
 simpa using this
def J9 (l:List UInt8) (hl: ¬l.length=64):mj l=false:=by
 unfold mj
 rw[Bool.and_eq_false_iff]
 left;simpa using hl
def nib (a b:Int) (ha:0≤a) (hb:0≤b) (dO:b≤15): (((a*16).toNat|||b.toNat:Nat):Int)=a*16+b:=by
 obtain⟨n,rfl⟩:=Int.eq_ofNat_of_zero_le ha
 obtain⟨m,rfl⟩:=Int.eq_ofNat_of_zero_le hb
 have e: ((n:Int)*16).toNat=n<<<4:=by rw[Nat.shiftLeft_eq];omega
 rw[e,Int.toNat_natCast,←Nat.shiftLeft_add_eq_or_of_lt (by omega:m<2^4),Nat.shiftLeft_eq]
 omega
def refB (l:List UInt8) (i k:Nat):UInt8:=
 if 2*k+1<i then UInt8.ofInt (fr (l.getD (2*k) 0)*16+fr (l.getD (2*k+1) 0)) else if 2*k<i then UInt8.ofInt (fr (l.getD (2*k) 0)) else 0
def lK (l:List UInt8) (i:Nat):List UInt8:=(List.range 32).map (refB l i)
def Ml (l:List UInt8) (i:Nat): (lK l i).length=32:=by simp[lK]
def Rc (l:List UInt8) (i k:Nat) (hk:k<32): (lK l i).getD k 0=refB l i k:=by
 simp[lK,List.getD_eq_getElem?_getD,hk]
def MS (a b:Int):UInt8.ofInt a*16+UInt8.ofInt b=UInt8.ofInt (a*16+b):=by
 apply UInt8.toNat.inj
 have h: ∀n:Int,((UInt8.ofInt n).toNat:Int)=n%256:=fun n=>by
  rw[show UInt8.ofInt n=UInt8.ofNat (n%2^8).toNat from rfl,UInt8.toNat_ofNat'];omega
 have h1:=h a;have h2:=h b;have h3:=h (a*16+b)
 rw[UInt8.toNat_add,UInt8.toNat_mul]
 have h16: (16:UInt8).toNat=16:=rfl
 rw[h16]
 omega
def OL (l:List UInt8) (i:Nat) (hi:i<64):
  (lK l i).set (i / 2) ((lK l i).getD (i / 2) 0*16+UInt8.ofInt (fr (l.getD i 0)))=lK l (i+1):=by
 apply List.ext_getElem
 ·simp[lK]
 intro k cS cZ
 have hk:k<32:=by simpa [lK] using cZ
 have hg: ∀n,(lK l n)[k]'(by simpa [lK] using hk)=refB l n k:=fun n=>by simp[lK]
 rw[List.getElem_set]
 by_cases HN:i / 2=k
 ·rw[if_pos HN,hg,Rc l i (i / 2) oM,HN]
  unfold refB
  rcases Nat.mod_two_eq_zero_or_one i with h2|h2
  ·have sO:i=2*k:=by omega
   subst sO
   rw[if_neg oM,if_neg oM,if_neg oM,if_pos oM]
   simp
  have sO:i=2*k+1:=by omega
  subst sO
  rw[if_neg oM,if_pos oM,if_pos oM,MS]
 rw[if_neg HN,hg,hg]
 unfold refB
 by_cases h1:2*k+1<i
 ·rw[if_pos h1,if_pos oM]
 rw[if_neg h1,if_neg oM,if_neg oM,if_neg oM]
def Q5 (l:List UInt8):lK l 64=pq l 32:=by
 unfold lK pq
 apply List.map_congr_left
 intro k hk
 have:=List.mem_range.1 hk
 unfold refB
 rw[if_pos oM]
def P4 (l:List UInt8):lK l 0=List.replicate 32 0:=by
 apply List.ext_getElem
 ·simp[lK]
 intro k cS cZ
 simp only[lK,List.getElem_map,List.getElem_range,List.getElem_replicate,refB]
 rw[if_neg oM,if_neg oM]
def rgt (x:UInt32) (n:UInt64):UInt32:=fv x n.toNat|||rv x (32 - n).toNat
def rol (x:UInt32) (k:Int):UInt32:=rv x (UInt64.ofInt k&&&31).toNat|||fv x (32 - (UInt64.ofInt k&&&31)).toNat
def qu (x:UInt32) (a b c:Int):UInt32:=rol x (-a)^^^rol x (-b)^^^fv x c.toNat
def qo (x:UInt32) (a b c:Int):UInt32:=rol x (-a)^^^rol x (-b)^^^rol x (-c)
def S1 (e:UInt32):UInt32:=rgt e 6^^^rgt e 11^^^rgt e 25
def S0 (a:UInt32):UInt32:=rgt a 2^^^rgt a 13^^^rgt a 22
def s1 (y:UInt32):UInt32:=rgt y 17^^^rgt y 19^^^fv y 10
def s0 (x:UInt32):UInt32:=rgt x 7^^^rgt x 18^^^fv x 3
def rol6 (x:UInt32):rol x (-6)=rgt x 6:=by unfold rol rgt;rw[UInt32.or_comm];rfl
def Zc (x:UInt32):rol x (-11)=rgt x 11:=by unfold rol rgt;rw[UInt32.or_comm];rfl
def Zd (x:UInt32):rol x (-25)=rgt x 25:=by unfold rol rgt;rw[UInt32.or_comm];rfl
def rol2 (x:UInt32):rol x (-2)=rgt x 2:=by unfold rol rgt;rw[UInt32.or_comm];rfl
def Zz (x:UInt32):rol x (-13)=rgt x 13:=by unfold rol rgt;rw[UInt32.or_comm];rfl
def ZV (x:UInt32):rol x (-22)=rgt x 22:=by unfold rol rgt;rw[UInt32.or_comm];rfl
def ZW (x:UInt32):rol x (-17)=rgt x 17:=by unfold rol rgt;rw[UInt32.or_comm];rfl
def Z_ (x:UInt32):rol x (-19)=rgt x 19:=by unfold rol rgt;rw[UInt32.or_comm];rfl
def rol7 (x:UInt32):rol x (-7)=rgt x 7:=by unfold rol rgt;rw[UInt32.or_comm];rfl
def ZS (x:UInt32):rol x (-18)=rgt x 18:=by unfold rol rgt;rw[UInt32.or_comm];rfl
def Zs (x:UInt32):qo x 6 11 25=S1 x:=by unfold qo S1;rw[rol6,Zc,Zd]
def ZU (x:UInt32):qo x 2 13 22=S0 x:=by unfold qo S0;rw[rol2,Zz,ZV]
def ZQ (x:UInt32):qu x 17 19 10=s1 x:=by unfold qu s1;rw[ZW,Z_];rfl
def ZP (x:UInt32):qu x 7 18 3=s0 x:=by unfold qu s0;rw[rol7,ZS];rfl
def kL:List UInt32:= [1116352408,1899447441,3049323471,3921009573,961987163,1508970993,2453635748,2870763221,3624381080,310598401,607225278,1426881987,1925078388,2162078206,2614888103,3248222580,3835390401,4022224774,264347078,604807628,770255983,1249150122,1555081692,1996064986,2554220882,2821834349,2952996808,3210313671,3336571891,3584528711,113926993,338241895,666307205,773529912,1294757372,1396182291,1695183700,1986661051,2177026350,2456956037,2730485921,2820302411,3259730800,3345764771,3516065817,3600352804,4094571909,275423344,430227734,506948616,659060556,883997877,958139571,1322822218,1537002063,1747873779,1955562222,2024104815,2227730452,2361852424,2428436474,2756734187,3204031479,3329325298]
def initL:List UInt32:= [1779033703,3144134277,1013904242,2773480762,1359893119,2600822924,528734635,1541459225]
def tj (b:List UInt8) (i:Nat):UInt32:=
 UInt32.ofNat (b.getD (4*i) 0).toNat*16777216+UInt32.ofNat (b.getD (4*i+1) 0).toNat*65536+UInt32.ofNat (b.getD (4*i+2) 0).toNat*256+UInt32.ofNat (b.getD (4*i+3) 0).toNat
def wPre (b:List UInt8) (i:Nat):List UInt32:=(List.range 64).map fun j=>if j<i then tj b j else 0
def JQ (b:List UInt8) (i:Nat): (wPre b i).length=64:=by simp[wPre]
def CM (b:List UInt8) (i:Nat): (wPre b i).set i (tj b i)=wPre b (i+1):=by
 apply List.ext_getElem
 ·simp[wPre]
 intro k cS cZ
 have hk:k<64:=by simpa [wPre] using cZ
 rw[List.getElem_set]
 by_cases h:i=k
 ·subst h;simp[wPre]
 rw[if_neg h]
 simp only[wPre,List.getElem_map,List.getElem_range]
 by_cases h1:k<i
 ·rw[if_pos h1,if_pos oM]
 rw[if_neg h1,if_neg oM]
def CE (b:List UInt8):wPre b 0=List.replicate 64 0:=by
 apply List.ext_getElem
 ·simp[wPre]
 intro k cS cZ
 simp only[wPre,List.getElem_map,List.getElem_range,List.getElem_replicate]
 rw[if_neg oM]
def tf (w:List UInt32) (g:Nat):List UInt32:=w.set g (s1 (w.getD (g - 2) 0)+w.getD (g - 7) 0+s0 (w.getD (g - 15) 0)+w.getD (g - 16) 0)
def wGo (w:List UInt32):Nat→List UInt32
 |0=>w
 |n+1=>tf (wGo w n) (16+n)
def Br (w:List UInt32) (n:Nat): (wGo w n).length=w.length:=by
 induction n with
 |zero=>rfl
 |succ n ih=>simp[wGo,tf,ih]
def wAll (b:List UInt8):List UInt32:=wGo (wPre b 16) 48
def VQ_ (b:List UInt8): (wAll b).length=64:=by rw[wAll,Br,JQ]
def xi (s:List UInt32) (k w:UInt32):List UInt32:=
 let t:=s.getD 7 0+S1 (s.getD 4 0)+ (s.getD 4 0&&&s.getD 5 0||| ~~~ s.getD 4 0&&&s.getD 6 0)+k+w
 let u:=S0 (s.getD 0 0)+ (s.getD 0 0&&&s.getD 1 0|||s.getD 0 0&&&s.getD 2 0|||s.getD 1 0&&&s.getD 2 0)
 [t+u,s.getD 0 0,s.getD 1 0,s.getD 2 0,s.getD 3 0+t,s.getD 4 0,s.getD 5 0,s.getD 6 0]
def rGo (st w:List UInt32):Nat→List UInt32
 |0=>st
 |n+1=>xi (rGo st w n) (kL.getD n 0) (w.getD n 0)
def QE (st w:List UInt32) (n:Nat) (h:st.length=8): (rGo st w n).length=8:=by
 cases n with
 |zero=>exact h
 |succ n=>rfl
def mS (st s:List UInt32) (i:Nat):List UInt32:=(List.range 8).map fun j=>if j<i then st.getD j 0+s.getD j 0 else st.getD j 0
def XO_ (st s:List UInt32) (i:Nat): (mS st s i).length=8:=by simp[mS]
def Qe (st s:List UInt32) (i j:Nat) (hj:j<8): (mS st s i).getD j 0=if j<i then st.getD j 0+s.getD j 0 else st.getD j 0:=by
 simp[mS,List.getD_eq_getElem?_getD,hj]
def PT (st s:List UInt32) (i:Nat): (mS st s i).set i (st.getD i 0+s.getD i 0)=mS st s (i+1):=by
 apply List.ext_getElem
 ·simp[mS]
 intro k cS cZ
 rw[List.getElem_set]
 by_cases h:i=k
 ·subst h;simp[mS]
 rw[if_neg h]
 simp only[mS,List.getElem_map,List.getElem_range]
 by_cases h1:k<i
 ·rw[if_pos h1,if_pos oM]
 rw[if_neg h1,if_neg oM]
def Ou (st s:List UInt32) (h:st.length=8):mS st s 0=st:=by
 apply List.ext_getElem
 ·simp[mS,h]
 intro k cS cZ
 simp[mS,List.getD_eq_getElem?_getD,cZ]
def comp (st:List UInt32) (b:List UInt8):List UInt32:=mS st (rGo st (wAll b) 64) 8
def Ka (st:List UInt32) (b:List UInt8): (comp st b).length=8:=XO_ _ _ _
def mn (st:List UInt32) (m:List UInt8):Nat→List UInt32
 |0=>st
 |n+1=>comp (mn st m n) ((m.drop (64*n)).take 64)
def Ni (st:List UInt32) (m:List UInt8) (n:Nat) (h:st.length=8): (mn st m n).length=8:=by
 cases n with
 |zero=>exact h
 |succ n=>exact Ka _ _
def NX (st:List UInt32) (m x:List UInt8) (n:Nat) (h:64*n≤m.length):mn st (m++x) n=mn st m n:=by
 induction n with
 |zero=>rfl
 |succ n ih=>
  simp only[mn]
  rw[ih oM,List.drop_append_of_le_length oM,List.take_append_of_le_length (by simp;omega)]
def lA (bg:Bool) (st:List UInt32) (rest:List UInt8) (many:Int) (taken:UInt64):List Value:=
 .bool bg:: (st.map (fun x=>Value.int .u32 (x.toNat:Int))++ (rest.map (fun x=>Value.int .u8 (x.toNat:Int))++ [vi many,v64 taken]))
def bW (bg:Bool) (st:List UInt32) (rest:List UInt8) (many:Int) (taken:UInt64):Array Value:=(lA bg st rest many taken).toArray
section
variable {bg:Bool} {st:List UInt32} {rest:List UInt8} {many:Int} {taken:UInt64} {E:TypeId}
def sk (h:st.length=8∧rest.length=64): (bW bg st rest many taken).size=75:=by simp[bW,lA,h]
def RY: (bW bg st rest many taken)[0]? =some (.bool bg):=rfl
def R' (k:Nat) (hk:k<8) (h:st.length=8): (bW bg st rest many taken)[1+k]? =some (v32 (st.getD k 0)):=by
 have:1+k=k+1:=by omega
 rw[this,bW,List.getElem?_toArray,lA,List.getElem?_cons_succ,List.getElem?_append_left (by simp;omega)]
 simp[v32,List.getD_eq_getElem?_getD,h,hk]
def DU (k:Nat) (hk:k<64) (h:st.length=8∧rest.length=64): (bW bg st rest many taken)[9+k]? =some (v8 (rest.getD k 0)):=by
 have:9+k=(8+k)+1:=by omega
 rw[this,bW,List.getElem?_toArray,lA,List.getElem?_cons_succ,List.getElem?_append_right (by simp;omega),List.getElem?_append_left (by simp;omega)]
 have e:8+k - (List.map (fun x:UInt32=>Value.int .u32 (x.toNat:Int)) st).length=k:=by simp;omega
 rw[e]
 simp[v8,List.getD_eq_getElem?_getD,h,hk]
def SU (h:st.length=8∧rest.length=64): (bW bg st rest many taken)[73]? =some (vi many):=by
 rw[bW,List.getElem?_toArray,lA,List.getElem?_cons_succ,List.getElem?_append_right (by simp;omega),List.getElem?_append_right (by simp;omega)]
 simp[h]
def S9 (h:st.length=8∧rest.length=64): (bW bg st rest many taken)[74]? =some (v64 taken):=by
 rw[bW,List.getElem?_toArray,lA,List.getElem?_cons_succ,List.getElem?_append_right (by simp;omega),List.getElem?_append_right (by simp;omega)]
 simp[h]
def Ii (n:Nat):aG (some (false,n)) (some (.cells (bW bg st rest many taken) E (0,0))) 0=some (.bool bg):=RY
def Ip (n k:Nat) (h:k<8∧st.length=8):aG (some (false,n)) (some (.cells (bW bg st rest many taken) E (0,0))) (1+k)=some (v32 (st.getD k 0)):=R' k h.1 h.2
def Iv (n k:Nat) (h:k<64∧st.length=8∧rest.length=64):aG (some (false,n)) (some (.cells (bW bg st rest many taken) E (0,0))) (9+k)=some (v8 (rest.getD k 0)):=DU k h.1 h.2
def JO (n j k:Nat) (h:j+k<64∧st.length=8∧rest.length=64):aG (some (false,n)) (some (.cells (bW bg st rest many taken) E (0,0))) (9+j+k)=some (v8 (rest.getD (j+k) 0)):=by
 rw[Nat.add_assoc];exact DU (j+k) h.1 h.2
def In (n:Nat) (h:st.length=8∧rest.length=64):aG (some (false,n)) (some (.cells (bW bg st rest many taken) E (0,0))) 73=some (vi many):=SU h
def Ir (n:Nat) (h:st.length=8∧rest.length=64):aG (some (false,n)) (some (.cells (bW bg st rest many taken) E (0,0))) 74=some (v64 taken):=S9 h
def JV (h:st.length=8∧rest.length=64):aG (some (true,8)) (some (.cells (bW bg st rest many taken) E (0,0))) 1=some (.agg (a32 st)):=by
 have hs:1+8≤ (bW bg st rest many taken).size:=by rw[sk h];omega
 simp only[aG,hs, ↓reduceIte]
 congr 2
 rw[bW,a32,lA]
 simp only[List.extract_toArray,List.extract_eq_take_drop]
 congr 1
 simp[h]
def KD (h:st.length=8∧rest.length=64):aG (some (true,75)) (some (.cells (bW bg st rest many taken) E (0,0))) 0=some (.agg (bW bg st rest many taken)):=rx _ _ _ _ (sk h)
def W1: (bW bg st rest many taken).toList.all Value.oneCell'=true:=by
 simp[bW,lA,Value.oneCell',vi,v64]
def IN (old:Array Value) (h:st.length=8∧rest.length=64∧old.size=75):ad (some (true,75)) (some (.cells old E (0,0))) 0 (.agg (bW bg st rest many taken))=some (.cells (bW bg st rest many taken) E (0,0)):=
 IR _ _ _ _ _ ⟨sk ⟨h.1,h.2.1⟩,h.2.2⟩ W1
def Ax (i:Nat) (v:Value): (bW bg st rest many taken).setIfInBounds i v=((lA bg st rest many taken).set i v).toArray:=by simp[bW]
def JR (b:Bool) (h:st.length=8∧rest.length=64):ad (some (false,1)) (some (.cells (bW bg st rest many taken) E (0,0))) 0 (.bool b)=some (.cells (bW b st rest many taken) E (0,0)):=by
 rw[z7 _ _ _ _ _ (by rw[sk h];omega) rfl rfl,Ax];rfl
def KS (k:Nat) (x:UInt32) (h:k<8∧st.length=8∧rest.length=64):ad (some (false,1)) (some (.cells (bW bg st rest many taken) E (0,0))) (1+k) (v32 x)=some (.cells (bW bg (st.set k x) rest many taken) E (0,0)):=by
 have e:1+k=k+1:=by omega
 rw[z7 _ _ _ _ _ (by rw[sk h.2];omega) rfl rfl,Ax,e,lA,List.set_cons_succ,List.set_append_left _ _ (by simp;omega)]
 simp only[bW,lA,List.map_set];rfl
def JU (k:Nat) (x:UInt8) (h:k<64∧st.length=8∧rest.length=64):ad (some (false,1)) (some (.cells (bW bg st rest many taken) E (0,0))) (9+k) (v8 x)=some (.cells (bW bg st (rest.set k x) many taken) E (0,0)):=by
 have e:9+k=(8+k)+1:=by omega
 rw[z7 _ _ _ _ _ (by rw[sk h.2];omega) rfl rfl,Ax,e,lA,List.set_cons_succ,List.set_append_right _ _ (by simp;omega),List.set_append_left _ _ (by simp;omega)]
 have e2:8+k - (List.map (fun x:UInt32=>Value.int .u32 (x.toNat:Int)) st).length=k:=by simp;omega
 rw[e2]
 simp only[bW,lA,List.map_set];rfl
def KR (m:Int) (h:st.length=8∧rest.length=64):ad (some (false,1)) (some (.cells (bW bg st rest many taken) E (0,0))) 73 (vi m)=some (.cells (bW bg st rest m taken) E (0,0)):=by
 rw[z7 _ _ _ _ _ (by rw[sk h];omega) rfl rfl,Ax,lA,List.set_cons_succ,List.set_append_right _ _ (by simp;omega),List.set_append_right _ _ (by simp;omega)]
 simp[bW,lA,h]
def KQ (t:UInt64) (h:st.length=8∧rest.length=64):ad (some (false,1)) (some (.cells (bW bg st rest many taken) E (0,0))) 74 (v64 t)=some (.cells (bW bg st rest many t) E (0,0)):=by
 rw[z7 _ _ _ _ _ (by rw[sk h];omega) rfl rfl,Ax,lA,List.set_cons_succ,List.set_append_right _ _ (by simp;omega),List.set_append_right _ _ (by simp;omega)]
 simp[bW,lA,h]
def KT (st':List UInt32) (h:st.length=8∧rest.length=64∧st'.length=8):ad (some (true,8)) (some (.cells (bW bg st rest many taken) E (0,0))) 1 (.agg (a32 st'))=some (.cells (bW bg st' rest many taken) E (0,0)):=by
 have hs:1+8≤ (bW bg st rest many taken).size:=by rw[sk ⟨h.1,h.2.1⟩];omega
 have hp:eb (bW bg st rest many taken) 1 (a32 st').toList=bW bg st' rest many taken:=by
  have:=tD (a32 st').toList [.bool bg] (st.map fun x=>Value.int .u32 (x.toNat:Int)) (rest.map (fun x=>Value.int .u8 (x.toNat:Int))++ [vi many,v64 taken]) (by simp[a32,h])
  simpa [bW,lA,a32] using this
 have h1: (a32 st').size=8:=by rw[At];exact h.2.2
 simp only[ad,aS,h1,hs,bq,true_or,FM,and_self, ↓reduceIte,hp]
end
def acc (b:List UInt8) (i:Nat):Nat→UInt32
 |0=>0
 |k+1=>rv (acc b i k) 8|||UInt32.ofNat (b.getD (4*i+k) 0).toNat
def Iw (x:UInt32) (c:UInt8) (h:x.toNat<16777216): (rv x 8|||UInt32.ofNat c.toNat).toNat=x.toNat*256+c.toNat:=by
 have hc:=c.toNat_lt
 rw[UInt32.toNat_or,rv,UInt32.toNat_ofNat',UInt32.toNat_ofNat',Nat.mod_eq_of_lt oM,Nat.mod_eq_of_lt oM,←Nat.shiftLeft_eq,←Nat.shiftLeft_add_eq_or_of_lt (by omega:c.toNat<2^8),Nat.shiftLeft_eq]
def UB (b:List UInt8) (i:Nat):acc b i 4=tj b i:=by
 have h0:=(b.getD (4*i) 0).toNat_lt
 have h1:=(b.getD (4*i+1) 0).toNat_lt
 have h2:=(b.getD (4*i+2) 0).toNat_lt
 have h3:=(b.getD (4*i+3) 0).toNat_lt
 have e1: (acc b i 1).toNat=(b.getD (4*i) 0).toNat:=by
  have:=Iw 0 (b.getD (4*i+0) 0) (by decide)
  simpa [acc] using this
 have l1: (acc b i 1).toNat<16777216:=by omega
 have e2: (acc b i 2).toNat=(acc b i 1).toNat*256+ (b.getD (4*i+1) 0).toNat:=Iw _ _ l1
 have l2: (acc b i 2).toNat<16777216:=by omega
 have e3: (acc b i 3).toNat=(acc b i 2).toNat*256+ (b.getD (4*i+2) 0).toNat:=Iw _ _ l2
 have l3: (acc b i 3).toNat<16777216:=by omega
 have e4: (acc b i 4).toNat=(acc b i 3).toNat*256+ (b.getD (4*i+3) 0).toNat:=Iw _ _ l3
 apply UInt32.toNat.inj
 rw[e4,e3,e2,e1]
 unfold tj
 simp only[UInt32.toNat_add,UInt32.toNat_mul,UInt32.toNat_ofNat']
 have k1: (16777216:UInt32).toNat=16777216:=rfl
 have k2: (65536:UInt32).toNat=65536:=rfl
 have k3: (256:UInt32).toNat=256:=rfl
 rw[k1,k2,k3]
 omega
def Rt (b:List UInt8) (g:Nat):wPre b g=(wPre b g).set g (acc b g 0):=by
 apply List.ext_getElem
 ·simp
 intro k cS cZ
 rw[List.getElem_set]
 by_cases h:g=k
 ·subst h;simp[wPre,acc]
 rw[if_neg h]
def AU {α:Type} (l:List α) (i:Nat) (x d:α) (h:i<l.length): (l.set i x).getD i d=x:=by
 simp[List.getD_eq_getElem?_getD,h]
def wG (b:List UInt8) (g:Nat):List UInt32:=wGo (wPre b 16) (g - 16)
def Co (b:List UInt8) (g:Nat): (wG b g).length=64:=by rw[wG,Br,JQ]
def F6 (b:List UInt8) (g:Nat) (h:16≤g):wG b (g+1)=tf (wG b g) g:=by
 unfold wG
 have:g+1 - 16=(g - 16)+1:=by omega
 rw[this]
 show tf _ (16+ (g - 16))=_
 rw[show 16+ (g - 16)=g from by omega]
def G6 (b:List UInt8):wG b 64=wAll b:=rfl
def Dx (b:List UInt8):wPre b 16=wG b 16:=rfl
def Z4 (a b c:UInt32): (a&&&b^^^ ~~~a&&&c)=(a&&&b||| ~~~a&&&c):=by
 apply UInt32.toBitVec_inj.1
 simp only[UInt32.toBitVec_xor,UInt32.toBitVec_or,UInt32.toBitVec_and,UInt32.toBitVec_not]
 ext i hi
 simp only[BitVec.getElem_xor,BitVec.getElem_or,BitVec.getElem_and,BitVec.getElem_not]
 cases a.toBitVec[i]<;>simp
def XI (a b c:UInt32): (a&&&b^^^a&&&c^^^b&&&c)=(a&&&b|||a&&&c|||b&&&c):=by
 apply UInt32.toBitVec_inj.1
 simp only[UInt32.toBitVec_xor,UInt32.toBitVec_or,UInt32.toBitVec_and]
 ext i hi
 simp only[BitVec.getElem_xor,BitVec.getElem_or,BitVec.getElem_and]
 cases a.toBitVec[i]<;>cases b.toBitVec[i]<;>simp
def Glob (w:World):Prop:= ∃e0 e1 f0 f1,w.heap[0]? =some (.cells (a32 initL) e0 f0)∧w.heap[1]? =some (.cells (a32 kL) e1 f1)
def Glob.of {w0 w:World} {L:aB} (hg:Glob w0) (h:Hp w0 L w) (hk: ∀b,b∈keys L→1<b):Glob w:=by
 obtain⟨e0,e1,f0,f1,h0,h1⟩:=hg
 refine⟨e0,e1,f0,f1, ?_, ?_⟩
 ·rw[h.old 0 (Array.getElem?_eq_some_iff.1 h0).1 (fun hm=>by have:=hk 0 hm;omega)];exact h0
 rw[h.old 1 (Array.getElem?_eq_some_iff.1 h1).1 (fun hm=>by have:=hk 1 hm;omega)];exact h1
structure Hs where
 st:List UInt32
 rest:List UInt8
 many:Nat
structure Hs.Ok (s:Hs):Prop where
 st:s.st.length=8
 rest:s.rest.length=64
 many:s.many<64
def gP (s:Hs) (x:UInt8):Hs:=
 if s.many+1=64 then⟨comp s.st (s.rest.set s.many x),s.rest.set s.many x,0⟩ else⟨s.st,s.rest.set s.many x,s.many+1⟩
def tC {s:Hs} (x:UInt8) (h:s.Ok): (gP s x).Ok:=by
 unfold gP
 split
 ·exact⟨Ka _ _,by simp[h.rest],by show(0:Nat)<64;omega⟩
 exact⟨h.st,by simp[h.rest],by show s.many+1<64;have:=h.many;omega⟩
def dw (s:Hs) (l:List UInt8):Hs:=l.foldl gP s
def wN {s:Hs} (l:List UInt8) (h:s.Ok): (dw s l).Ok:=by
 induction l generalizing s with
 |nil=>exact h
 |cons x r ih=>exact ih (tC x h)
def AT (s:Hs) (a b:List UInt8):dw s (a++b)=dw (dw s a) b:=List.foldl_append
def wn_ {α:Type} (l:List α) (g:Nat) (d:α) (h:g<l.length):l.take (g+1)=l.take g++ [l.getD g d]:=by
 rw[List.take_add_one]
 simp[List.getD_eq_getElem?_getD,h]
def BD (s:Hs) (l:List UInt8) (g:Nat) (h:g<l.length):dw s (l.take (g+1))=gP (dw s (l.take g)) (l.getD g 0):=by
 rw[wn_ l g 0 h,AT];rfl
def s9 (bg:Bool) (s:Hs):Hs:=if bg then s else{s with st:=initL}
def CI {s:Hs} (bg:Bool) (h:s.Ok): (s9 bg s).Ok:=by
 unfold s9;split
 ·exact h
 exact⟨rfl,h.rest,h.many⟩
def js (s:Hs) (taken:UInt64):Array Value:=bW true s.st s.rest s.many taken
def pW (t:UInt64) (l:List (List UInt8)):UInt64:=l.foldl (fun t a=>t+UInt64.ofNat a.length) t
def PS (t:UInt64) (l:List (List UInt8)) (g:Nat) (h:g<l.length):pW t (l.take (g+1))=pW t (l.take g)+UInt64.ofNat (l.getD g []).length:=by
 rw[wn_ l g [] h,pW,List.foldl_append];rfl
def Na (l:List (List UInt8)) (g:Nat) (h:g<l.length): (l.take (g+1)).flatten=(l.take g).flatten++l.getD g []:=by
 rw[wn_ l g [] h,List.flatten_append];simp
def loadV_one (cs:Array Value) (E:TypeId) (fz:Nat×Nat) (n i:Nat):aG (some (false,n)) (some (.cells cs E fz)) i=cs[i]? :=(rfl)
end Go.Dig
section
open Go Go.Proofs Go.Sx Go.Dig
namespace Go.Proofs
def GlobE (w:World):Prop:= ∃e0 e1 f0 f1,w.heap[1]? =some (.cells (a32 initL) e0 f0)∧w.heap[3]? =some (.cells (a32 kL) e1 f1)
def GlobE.of {w0 w:World} {L:aB} (hg:GlobE w0) (h:Hp w0 L w) (hk: ∀b,b∈keys L→3<b):GlobE w:=by
 obtain⟨e0,e1,f0,f1,h0,h1⟩:=hg
 refine⟨e0,e1,f0,f1, ?_, ?_⟩
 ·rw[h.old _ (Array.getElem?_eq_some_iff.1 h0).1 (fun hm=>by have:=hk _ hm;omega)];exact h0
 rw[h.old _ (Array.getElem?_eq_some_iff.1 h1).1 (fun hm=>by have:=hk _ hm;omega)];exact h1
def AX (x:UInt32) (k:Int) (w:World):Rets prog 215 #[v32 x,vi k] w (fun v D=>v=v32 (rol x k)∧D= []):=by
 refine Rets.enterV func215 rfl (rs:= [.tmp 4]) results215 ntmps215 ?_
 refine kf ?_
 refine ky @Nat.add_zero ?_
 refine⟨_,(ke @Nat.add_zero),trivial, ?_⟩
 rfl
def sX (x:UInt32) (n:UInt64) (w:World):Rets prog 113 #[v32 x,v64 n] w (fun v D=>v=v32 (rgt x n)∧D= []):=by
 refine Rets.enterV func113 rfl (rs:= [.tmp 4]) results113 ntmps113 ?_
 refine kf ?_
 refine ky @Nat.add_zero ?_
 refine⟨_,(ke @Nat.add_zero),trivial, ?_⟩
 rfl
def Ci (x:UInt32) (a b c:Int) (ha:0≤a∧a≤64) (hb:0≤b∧b≤64) (hc:0≤c∧c≤64) (w:World):Rets prog 198 #[v32 x,vi a,vi b,vi c] w (fun v D=>v=v32 (qu x a b c)∧D= []):=by
 refine Rets.enterV func198 rfl (rs:= [.tmp 8]) results198 ntmps198 ?_
 refine kf ?_
 refine ky @Nat.add_zero ?_
 refine Cw.regionO [0,1,2,4,5,6,9,10,11,3,7,8,12,13] [] rfl kR kR ?_
 simp only[ai, ↓ah, ↓ab, ↓ag, ↓ae,ac]
 refine kq @Nat.add_zero ?_
 refine Ow.callFV rfl call215 (fun w' aA=>AX _ _ w') ?_
 refine kq @Nat.add_zero ?_
 refine Ow.callFV rfl call215 (fun w' aA=>AX _ _ w') ?_
 refine kq @Nat.add_zero ?_
 refine ky @Nat.add_zero ?_
 refine⟨_,(ke @Nat.add_zero),trivial, ?_⟩
 rfl
def Da (x:UInt32) (a b c:Int) (ha:0≤a∧a≤64) (hb:0≤b∧b≤64) (hc:0≤c∧c≤64) (w:World):Rets prog 199 #[v32 x,vi a,vi b,vi c] w (fun v D=>v=v32 (qo x a b c)∧D= []):=by
 refine Rets.enterV func199 rfl (rs:= [.tmp 8]) results199 ntmps199 ?_
 refine kf ?_
 refine ky @Nat.add_zero ?_
 refine Ow.callFV rfl call215 (fun w' aA=>AX _ _ w') ?_
 refine ko @Nat.add_zero ?_
 refine Ow.callFV rfl call215 (fun w' aA=>AX _ _ w') ?_
 refine ko @Nat.add_zero ?_
 refine Ow.callFV rfl call215 (fun w' aA=>AX _ _ w') ?_
 refine ko @Nat.add_zero ?_
 refine ky @Nat.add_zero ?_
 refine⟨_,(ke @Nat.add_zero),trivial, ?_⟩
 rfl
def Oz (w:World):Rets prog 114 #[] w (fun v D=>v= .agg (a32 kL)∧D= []):=by
 refine Rets.enterV func114 rfl (rs:= [.cell 0 185]) results114 ntmps114 ?_
 refine kf ?_
 refine ky @Nat.add_zero ?_
 have hkl:kL.length=64:=rfl
 refine Ow.alloc rfl rfl zr185 fun b1 _ aI=> ?_
 refine ko @Nat.add_zero ?_
 refine ky @Nat.add_zero ?_
 refine Ow.build (.agg (a32 kL)) rfl kR ?_
 refine ko @Nat.add_zero ?_
 refine ky @Nat.add_zero ?_
 refine⟨_,(ke @Nat.add_zero),⟨aI,trivial⟩, ?_⟩
 rfl
def et:=aN (aN (aN (aN @Ii @Ip) (aN @Iv @JO)) (aN (aN @In @Ir) (aN @JV @KD))) (aN (aN (aN @IN @JR) (aN @KS @JU)) (aN (aN @KR @KQ) (aN @KT @AU)))
def RF (b:Nat) (bg:Bool) (st:List UInt32) (rest:List UInt8) (many:Int) (taken:UInt64) (w:World) (hG:GlobE w) (hb:3<b) (hs:st.length=8) (hr:rest.length=64)
  (ho:w.heap[b]? =some (.cells (bW bg st rest many taken) 196 (0,0))):
  Rets prog 168 #[vp b 0] w (fun v D=> ∃o,D= [(b,o)]∧v= .tuple #[]∧o= .cells (bW bg (comp st rest) rest 0 taken) 196 (0,0)):=by
 obtain⟨e0,e1,f0,f1,h0,h1⟩:=hG
 have iJ:=(Array.getElem?_eq_some_iff.1 ho).1
 have hkl:kL.length=64:=rfl
 refine Rets.enterM func168 rfl (rs:= []) results168 ntmps168 ho ?_
 refine kf ?_
 refine ky @et ?_
 refine Ow.alloc rfl rfl zr185 fun b1 aW aI=> ?_
 obtain⟨h01,-⟩:=aW
 refine ko @et ?_
 refine ky @et ?_
 rw[←CE rest]
 refine Cw.loopG (G:=Nat) [14,15,3,16,17,18,19,20,21,22,23,24,25,26,27,28,29,5,30,31,32,33,34,35,36,37,38,39,40,13] (fun g=> [(13,vi g)]) (fun g=> [(b, .cells (bW bg st rest many taken) 196),(b1, .cells (a32 (wPre rest g)) 185)]) (fun g=>g≤16) (fun g=>16 - g) 0 rfl rfl ?_ ?_
 ·omega
 intro g j hg
 refine kv ?_
 have aP:=JQ rest g
 by_cases aC:g<16
 ·refine ky @et ?_
  rw[Rt rest g]
  refine Cw.loopG (G:=Nat) [27,28,29,5,30,31,32,33,34,35,36,37,38,39,26] (fun k=> [(26,vi k)]) (fun k=> [(b, .cells (bW bg st rest many taken) 196 (0,0)),(b1, .cells (a32 ((wPre rest g).set g (acc rest g k))) 185 (0,0))]) (fun k=>k≤4) (fun k=>4 - k) 0 rfl rfl ?_ ?_
  ·omega
  intro k jk hk
  refine kv ?_
  by_cases hk4:k<4
  ·refine ky @et ?_
   exact Again.mk (k+1) oM oM rfl rfl
  have hk:k=4:=by omega
  subst hk
  refine ky @et ?_
  refine Again.mk (g+1) oM oM ?_ rfl
  rw[UB,CM]
 have yN:g=16:=by omega
 subst yN
 refine ky @et ?_
 rw[Dx]
 refine Cw.loopG (G:=Nat) [41,42,45,46,47,48,49,50,51,52,53,54,55,56,57,58,59,60,61,62,63,64,65,66,67,43,44,6] (fun g=> [(6,vi g)]) (fun g=> [(b, .cells (bW bg st rest many taken) 196 (0,0)),(b1, .cells (a32 (wG rest g)) 185)]) (fun g=>16≤g∧g≤64) (fun g=>64 - g) 16 rfl rfl ?_ ?_
 ·omega
 intro g j hg
 refine kv ?_
 obtain⟨jY,kg⟩:=hg
 have aP:=Co rest g
 by_cases aC:g<64
 ·refine ky @et ?_
  refine Cw.regionO [0,1,2,3,6,7,8,11,12,13,17,18,19,4,9,14,20,5,10,15,16,21,22,23] [23] rfl kR kR ?_
  simp only[ai, ↓ah, ↓ab, ↓ag, ↓ae,ac]
  refine kq @et ?_
  refine Ow.callFV rfl call198 (fun w' aA=>Ci _ _ _ _ oM oM oM w') ?_
  refine kq @et ?_
  refine Ow.callFV rfl call198 (fun w' aA=>Ci _ _ _ _ oM oM oM w') ?_
  refine kq @et ?_
  refine Ow.store rfl rfl rfl (ke @et) ?_
  refine ko @et ?_
  refine ky @et ?_
  refine Again.mk (g+1) oM oM ?_ rfl
  rw[F6 rest g jY,ZQ,ZP];rfl
 have nJ:g=64:=by omega
 subst nJ
 rw[G6]
 have hwl:=VQ_ rest
 refine ky (aN @et @h1) ?_
 refine Ow.alloc rfl rfl zr151 fun b2 aq bV=> ?_
 obtain⟨h02,oe,-⟩:=aq
 refine ko (aN @et @h1) ?_
 refine ky (aN @et @h1) ?_
 refine Cw.loopG (G:=Nat) [74,75,76,8,9,77,78,79,80,81,82,83,84,85,86,87,88,89,90,91,92,93,94,95,96,97,98,99,100,101,10,102,103,104,105,106,107,108,109,110,111,112,113,114,115,116,117,118,119,120,121,122,11,123,124,125,126,127,128,129,130,131,132,133,134,135,136,137,138,139,140,141,142,143,73] (fun g=> [(73,vi g)]) (fun g=> [(b, .cells (bW bg st rest many taken) 196 (0,0)),(b1, .cells (a32 (wAll rest)) 185),(b2, .cells (a32 (rGo st (wAll rest) g)) 151)]) (fun g=>g≤64) (fun g=>64 - g) 0 rfl rfl ?_ ?_
 ·omega
 intro g j hg
 refine kv ?_
 have nR:=QE st (wAll rest) g hs
 by_cases aC:g<64
 ·refine ky @et ?_
  refine Cw.regionO [0,2,6,8,11,14,19,21,22,1,3,7,9,10,12,13,15,16,17,23,4,5,18,20,24,25] [] rfl kR kR ?_
  simp only[ai, ↓ah, ↓ab, ↓ag, ↓ae,ac]
  refine kq @et ?_
  refine Ow.callFV rfl call199 (fun w' aA=>Da _ _ _ _ oM oM oM w') ?_
  refine kq @et ?_
  refine ky @et ?_
  refine Cw.regionO [0,3,5,8,10,14,16,1,4,6,7,9,11,12,13,15,17,18,19,2,20,21] [] rfl kR kR ?_
  simp only[ai, ↓ah, ↓ab, ↓ag, ↓ae,ac]
  refine kq @et ?_
  refine Ow.callFV rfl call199 (fun w' aA=>Da _ _ _ _ oM oM oM w') ?_
  refine kq @et ?_
  refine ky @et ?_
  rw[Zs,ZU,Z4,XI]
  refine Ow.build (.agg (a32 (xi (rGo st (wAll rest) g) (kL.getD g 0) ((wAll rest).getD g 0)))) rfl kR ?_
  have hrl2: (xi (rGo st (wAll rest) g) (kL.getD g 0) ((wAll rest).getD g 0)).length=8:=rfl
  refine ko @et ?_
  refine ky @et ?_
  exact Again.mk (g+1) oM oM rfl rfl
 have nJ:g=64:=by omega
 subst nJ
 refine ky @et ?_
 rw[←Ou st (rGo st (wAll rest) 64) hs]
 refine Cw.loopG (G:=Nat) [145,146,12,147,148,149,150,151,152,153,154,155,156,157,158,159,160,144] (fun k=> [(144,vi k)]) (fun k=> [(b, .cells (bW bg (mS st (rGo st (wAll rest) 64) k) rest many taken) 196 (0,0)),(b1, .cells (a32 (wAll rest)) 185),(b2, .cells (a32 (rGo st (wAll rest) 64)) 151)]) (fun k=>k≤8) (fun k=>8 - k) 0 rfl rfl ?_ ?_
 ·omega
 intro k jk hk
 refine kv ?_
 have eC:=XO_ st (rGo st (wAll rest) 64) k
 by_cases hk8:k<8
 ·refine ky @et ?_
  refine Cw.regionO [0,1,2,3,4,6,7,10,11,5,8,9,12,13] [13] rfl kR kR ?_
  simp only[ai, ↓ah, ↓ab, ↓ag, ↓ae,ac]
  refine kq @et ?_
  refine Ow.store rfl rfl rfl (ke @et) ?_
  refine ko @et ?_
  refine ky @et ?_
  refine Again.mk (k+1) oM oM ?_ rfl
  rw[←PT,Qe _ _ _ _ oM,if_neg oM]
 have hk8':k=8:=by omega
 subst hk8'
 refine ky @et ?_
 refine⟨_,_,_,(ke @et),rfl,⟨aI,bV,trivial⟩, ?_⟩
 exact⟨rfl,rfl⟩
def Ld (n:Nat):UInt64.ofInt (n:Int)=UInt64.ofNat n:=by
 apply UInt64.toNat.inj
 rw[show UInt64.ofInt (n:Int)=UInt64.ofNat ((n:Int)%2^64).toNat from rfl,UInt64.toNat_ofNat',UInt64.toNat_ofNat']
 omega
def xm (b o:Nat):bF prog .eql 228 (vp b o) (.pointer none)=some (.bool false):=by
 simp[bF,eqX,eu,eW,underlying228,vp]
def xY:bF prog .eql 228 (.pointer none) (.pointer none)=some (.bool true):=by
 simp[bF,eqX,eu,eW,underlying228]
def xf (b o:Nat):bF prog .neq 228 (vp b o) (.pointer none)=some (.bool true):=by
 simp[bF,eqX,eu,eW,underlying228,vp]
def xD:bF prog .neq 228 (.pointer none) (.pointer none)=some (.bool false):=by
 simp[bF,eqX,eu,eW,underlying228]
def i9:=aN (aN (aN (aN @Ii @Ip) (aN @Iv (aN @JO @In))) (aN (aN @Ir @JV) (aN @KD (aN @IN @JR)))) (aN (aN (aN @KS @JU) (aN @KR (aN @KQ @KT))) (aN (aN @AU @xm) (aN @xY (aN @xf @xD))))
def C6 (b:Nat) (bg:Bool) (st:List UInt32) (rest:List UInt8) (many:Int) (taken:UInt64) (w:World) (hG:GlobE w) (hb:3<b) (hs:st.length=8) (hr:rest.length=64)
  (ho:w.heap[b]? =some (.cells (bW bg st rest many taken) 196 (0,0))):
  Rets prog 144 #[vp b 0] w (fun v D=> ∃o,D= [(b,o)]∧v= .tuple #[]∧o= .cells (bW true (if bg then st else initL) rest many taken) 196 (0,0)):=by
 obtain⟨e0,e1,f0,f1,h0,h1⟩:=hG
 have gm:initL.length=8:=rfl
 refine Rets.enterM func144 rfl (rs:= []) results144 ntmps144 ho ?_
 refine kf ?_
 cases bg
 ·refine ky (aN @i9 @h0) ?_
  refine⟨_,_,_,(ke @i9),rfl,trivial, ?_⟩
  exact⟨rfl,rfl⟩
 refine ky (aN @i9 @h0) ?_
 refine⟨_,_,_,(ke @i9),rfl,trivial, ?_⟩
 exact⟨rfl,rfl⟩
def IZ (b:Nat) (s:Hs) (taken:UInt64) (x:UInt8) (w:World) (hG:GlobE w) (hb:3<b) (hs:s.Ok)
  (ho:w.heap[b]? =some (.cells (js s taken) 196 (0,0))):
  Rets prog 145 #[vp b 0,v8 x] w (fun v D=> ∃o,D= [(b,o)]∧v= .tuple #[]∧o= .cells (js (gP s x) taken) 196 (0,0)):=by
 obtain⟨st,rest,many⟩:=s
 obtain⟨bK,re,HY⟩:=hs
 simp only[js] at ho bK re HY ⊢
 refine Rets.enterM func145 rfl (rs:= []) results145 ntmps145 ho ?_
 refine kf ?_
 refine ky @i9 ?_
 refine Cw.regionO [0,1,2,3,5,6,7,4,8,9] [9] rfl kR kR ?_
 simp only[ai, ↓ah, ↓ab, ↓ag, ↓ae,ac]
 refine kq @i9 ?_
 refine Ow.store rfl rfl rfl (ke @i9) ?_
 refine ko @i9 ?_
 refine ky @i9 ?_
 unfold gP
 by_cases kX:many+1=64
 ·simp only[kX, ↓reduceIte]
  have h64': (many:Int)+1=64:=by omega
  have h63:many=63:=by omega
  subst h63
  rw[GQ _ _ _ _ _ _ oM]
  refine ky @i9 ?_
  refine Ow.callM rfl rfl call168 (by simp[keys]) (fun w' aA=>RF _ _ _ _ _ _ w' (GlobE.of hG aA (by simp[keys];omega)) hb bK (by simp[re]) (aA.has _ _ am)) ?_
  refine ko @i9 ?_
  refine ky @i9 ?_
  refine⟨_,_,_,(ke @i9),rfl,trivial, ?_⟩
  exact⟨rfl,rfl⟩
 rw[GT _ _ _ _ _ _ oM]
 simp only[kX, ↓reduceIte]
 refine ky @i9 ?_
 refine⟨_,_,_,(ke @i9),rfl,trivial, ?_⟩
 exact⟨rfl,by rw[if_neg kX];simp⟩
def Nz (b:Nat) (bg:Bool) (s:Hs) (taken:UInt64) (x:Value) (b2 off:Nat) (l:List (List UInt8)) (arr:Array Value) (E:TypeId) (fz:Nat×Nat) (w:World) (hG:GlobE w) (hb:3<b) (hs:s.Ok) (aX:0<l.length→b≠b2)
  (hS:StrS w x l b2 off arr E fz) (hn:l.length<1099511627776) (hz: ∀i,i<l.length→(l.getD i []).length<1099511627776)
  (ho:w.heap[b]? =some (.cells (bW bg s.st s.rest s.many taken) 196 (0,0))):
  Rets prog 119 #[vp b 0,x] w (fun v D=> ∃o,D= [(b,o)]∧v= .tuple #[]∧o= .cells (js (dw (s9 bg s) l.flatten) (pW taken l)) 196 (0,0)):=by
 obtain⟨e0,e1,f0,f1,h0,h1⟩:=id hG
 obtain⟨st,rest,many⟩:=s
 obtain⟨bK,re,HY⟩:=id hs
 simp only[js] at ho bK re HY ⊢
 refine Rets.enterM func119 rfl (rs:= []) results119 ntmps119 ho ?_
 refine kf ?_
 refine ky @i9 ?_
 refine Ow.callM rfl rfl call144 (by simp[keys]) (fun w' aA=>C6 _ _ _ _ _ _ w' (GlobE.of hG aA (by simp[keys];omega)) hb bK re (aA.has _ _ am)) ?_
 refine ko @i9 ?_
 ((try with_reducible refine Cw.go [] ?_);(try simp(disch:=first|exact dD|fail) only[↓Sx.S0,Sx.S1,fx,i9,Nat.reduceAdd,Nat.reducePow,Int.reducePow,Nat.reduceBEq, ↓reduceIte,UInt8.reduceToNat,UInt16.reduceToNat,UInt32.reduceToNat,UInt64.reduceToNat,Int.reduceToNat,hS.len]))
 have e:bW true (if bg=true then st else initL) rest many taken=js (dw (s9 bg ⟨st,rest,many⟩) (l.take 0).flatten) (pW taken (l.take 0)):=by cases bg<;>rfl
 rw[e]
 have uL:=CI bg hs
 generalize s9 bg ⟨st,rest,many⟩=S0 at*
 refine Cw.loopG (G:=Nat) [14,15,16,5,17,18,19,20,21,6,22,23,24,25,26,27,28,29,30,31,32,33,34,35,36,37,38,13] (fun g=> [(13,vi g)]) (fun g=> [(b, .cells (js (dw S0 (l.take g).flatten) (pW taken (l.take g))) 196 (0,0))]) (fun g=>g≤l.length) (fun g=>l.length - g) 0 rfl rfl ?_ ?_
 ·omega
 intro g j hg
 refine kv ?_
 by_cases aC:g<l.length
 ·have uH:=hS.get g aC
  have aq:=hS.has oM
  have hne2:=aX oM
  have hzg:=hz g aC
  ((try with_reducible refine Cw.go [] ?_);(try simp(disch:=first|exact dD|fail) only[↓Sx.S0,Sx.S1,fx,i9,Nat.reduceAdd,Nat.reducePow,Int.reducePow,Nat.reduceBEq, ↓reduceIte,UInt8.reduceToNat,UInt16.reduceToNat,UInt32.reduceToNat,UInt64.reduceToNat,Int.reduceToNat,Sx.loadV_one,aq,uH,hS.idx]))
  have bU:=wN (l.take g).flatten uL
  rw[show js (dw S0 (l.take g).flatten) (pW taken (l.take g))=js (dw (dw S0 (l.take g).flatten) ((l.getD g []).take 0)) (pW taken (l.take g)) from rfl]
  refine Cw.loopG (G:=Nat) [20,21,6,22,23,24,25,26,27,19] (fun k=> [(19,vi k)]) (fun k=> [(b, .cells (js (dw (dw S0 (l.take g).flatten) ((l.getD g []).take k)) (pW taken (l.take g))) 196 (0,0))]) (fun k=>k≤ (l.getD g []).length) (fun k=>(l.getD g []).length - k) 0 rfl rfl ?_ ?_
  ·omega
  intro k jk hk
  refine kv ?_
  by_cases bQ:k< (l.getD g []).length
  ·refine ky @i9 ?_
   refine Ow.callM rfl rfl call145 (by simp[keys]) (fun w' aA=>IZ _ _ _ _ w' (GlobE.of hG aA (by simp[keys];omega)) hb (wN _ bU) (aA.has _ _ am)) ?_
   refine ko @i9 ?_
   refine ky @i9 ?_
   refine Again.mk (k+1) oM oM ?_ rfl
   rw[BD _ _ _ bQ]
  have yU:k=(l.getD g []).length:=by omega
  subst yU
  have uM:=wN (l.getD g []) bU
  have hok3:=uM.st
  have hok4:=uM.rest
  rw[List.take_length]
  unfold js
  refine ky @i9 ?_
  refine Again.mk (g+1) oM oM ?_ rfl
  rw[Na _ _ aC,AT,PS _ _ _ aC,show UInt64.ofInt ((l.getD g []).length:Int)=UInt64.ofNat (l.getD g []).length from Ld _]
 have yP:g=l.length:=by omega
 subst yP
 refine ky @i9 ?_
 rw[List.take_length]
 refine⟨_,_,_,(ke @i9),rfl,trivial, ?_⟩
 exact⟨rfl,rfl⟩
end Go.Proofs
end
namespace Go.Dig
open Go.Sx
def kM (m:Nat):Nat:=(120 - m)%64
def lenB (t:UInt64) (g:Nat):UInt8:=UInt8.ofNat (ud (8*t) (56 - 8*g)).toNat
def len8 (t:UInt64):List UInt8:=(List.range 8).map (lenB t)
def outB (st:List UInt32) (j:Nat):UInt8:=UInt8.ofNat (fv (st.getD (j / 4) 0) (24 - 8* (j%4))).toNat
def l4 (st:List UInt32) (k:Nat):List UInt8:=(List.range 32).map fun j=>if j<k then outB st j else 0
def tZ (s:Hs) (taken:UInt64):Hs:=dw (dw (gP s 128) (List.replicate (kM (gP s 128).many) 0)) (len8 taken)
def hsum (s:Hs) (taken:UInt64):List UInt8:=l4 (tZ s taken).st 32
def H0:Hs:=⟨initL,List.replicate 64 0,0⟩
def GM:H0.Ok:=⟨rfl,by simp[H0],by show(0:Nat)<64;omega⟩
def sumV (l:List (List UInt8)):List UInt8:=hsum (dw H0 l.flatten) (pW 0 l)
def Tt {s:Hs} (x:UInt8) (h:s.Ok): (gP s x).many=(s.many+1)%64:=by
 have:=h.many
 unfold gP
 split
 ·show 0=_;omega
 show s.many+1=_;omega
def Qc {s:Hs} (l:List UInt8) (h:s.Ok): (dw s l).many=(s.many+l.length)%64:=by
 induction l generalizing s with
 |nil=>have:=h.many;show s.many=_;simp;omega
 |cons x r ih=>
  show(dw (gP s x) r).many=_
  rw[ih (tC x h),Tt x h,List.length_cons];omega
def SE (s:Hs) (x:UInt8) (j:Nat):dw s (List.replicate (j+1) x)=gP (dw s (List.replicate j x)) x:=by
 rw[List.replicate_succ',AT];rfl
def outPre_length (st:List UInt32) (k:Nat): (l4 st k).length=32:=by simp[l4]
def WE_ (st:List UInt32):l4 st 0=List.replicate 32 0:=by
 apply List.ext_getElem
 ·simp[l4]
 intro k cS cZ
 simp only[l4,List.getElem_map,List.getElem_range,List.getElem_replicate]
 rw[if_neg oM]
def IE (st:List UInt32) (k:Nat): (l4 st k).set k (outB st k)=l4 st (k+1):=by
 apply List.ext_getElem
 ·simp[l4]
 intro j cS cZ
 rw[List.getElem_set]
 by_cases h:k=j
 ·subst h;simp[l4]
 rw[if_neg h]
 simp only[l4,List.getElem_map,List.getElem_range]
 by_cases h1:j<k
 ·rw[if_pos h1,if_pos oM]
 rw[if_neg h1,if_neg oM]
def tJ (st:List UInt32) (i r:Nat) (h:r<4):outB st (4*i+r)=UInt8.ofNat (fv (st.getD i 0) (24 - 8*r)).toNat:=by
 unfold outB
 rw[show(4*i+r) / 4=i by omega,show(4*i+r)%4=r by omega]
def N9 (x:UInt32):fv x 0=x:=by
 apply UInt32.toNat.inj
 have:=x.toNat_lt
 rw[fv,UInt32.toNat_ofNat']
 simp
def PR (st:List UInt32) (i:Nat):
  ((((l4 st (4*i)).set (4*i) (UInt8.ofNat (fv (st.getD i 0) 24).toNat)).set (4*i+1) (UInt8.ofNat (fv (st.getD i 0) 16).toNat)).set (4*i+2) (UInt8.ofNat (fv (st.getD i 0) 8).toNat)).set (4*i+3) (UInt8.ofNat (st.getD i 0).toNat)=l4 st (4* (i+1)):=by
 have h0:=tJ st i 0 oM
 have h1:=tJ st i 1 oM
 have h2:=tJ st i 2 oM
 have h3:=tJ st i 3 oM
 rw[Nat.add_zero] at h0
 rw[show 24 - 8*3=0 from rfl,N9] at h3
 rw[←h3,←h2,←h1,←h0,IE,IE,IE,IE]
 rw[show 4* (i+1)=4*i+1+1+1+1 by omega]
def VT_ (t:UInt64): (len8 t).length=8:=by simp[len8]
def Ta (t:UInt64) (g:Nat) (h:g<8): (len8 t).getD g 0=lenB t g:=by simp[len8,List.getD_eq_getElem?_getD,h]
end Go.Dig
section
open Go Go.Proofs Go.Sx Go.Dig
namespace Go.Proofs
def jJ:=aN (aN (aN (aN @Ii @Ip) (aN @Iv (aN @JO @In))) (aN (aN @Ir @JV) (aN @KD (aN @IN @JR)))) (aN (aN (aN @KS @JU) (aN @KR (aN @KQ @KT))) (aN (aN @AU @xm) (aN @xY (aN @xf @xD))))
def GA:an prog 196=some (.agg (bW false (List.replicate 8 0) (List.replicate 64 0) 0 0)):=id kR
def Bm (bg:Bool) (st:List UInt32) (rest:List UInt8) (many:Int) (taken:UInt64):Value.cells (.agg (bW bg st rest many taken))=bW bg st rest many taken:=aS _
def Jk_ {bg bg':Bool} {st st':List UInt32} {rest rest':List UInt8} {many many':Int} {taken taken':UInt64} {E:TypeId} (h:st.length=8∧rest.length=64∧st'.length=8∧rest'.length=64):
  ad (some (true,75)) (some (.cells (bW bg' st' rest' many' taken') E (0,0))) 0 (.agg (bW bg st rest many taken))=some (.cells (bW bg st rest many taken) E (0,0)):=
 IN _ ⟨h.1,h.2.1,sk h.2.2⟩
def RW (b:Nat) (bg:Bool) (s:Hs) (taken:UInt64) (w:World) (hG:GlobE w) (hb:3<b) (hs:s.Ok)
  (ho:w.heap[b]? =some (.cells (bW bg s.st s.rest s.many taken) 196 (0,0))):
  Rets prog 120 #[vp b 0] w (fun v D=>v= .agg (a8 (hsum (s9 bg s) taken))∧D= []):=by
 obtain⟨e0,e1,f0,f1,h0,h1⟩:=id hG
 obtain⟨st,rest,many⟩:=s
 obtain⟨bK,re,HY⟩:=id hs
 simp only at ho bK re HY ⊢
 refine Rets.enterV func120 rfl (rs:= [.cell 2 39]) results120 ntmps120 ?_
 refine kf ?_
 refine ky @jJ ?_
 refine Ow.alloc rfl rfl zr39 fun b1 aW aI=> ?_
 refine ko @jJ ?_
 refine ky @jJ ?_
 refine Ow.alloc rfl rfl GA fun b2 aq bV=> ?_
 obtain⟨oe,-⟩:=aq
 have iJ:=(Array.getElem?_eq_some_iff.1 ho).1
 rw[Bm]
 refine ko @jJ ?_
 refine ky (aN @jJ (aN @ho @Jk_)) ?_
 refine Ow.callM rfl rfl call144 (by simp[keys]) (fun w' aA=>C6 _ _ _ _ _ _ w' (GlobE.of hG aA (by simp[keys];omega)) oM bK re (aA.has _ _ (cN _ am))) ?_
 refine ko @jJ ?_
 refine ky @jJ ?_
 have e:bW true (if bg=true then st else initL) rest many taken=js (s9 bg ⟨st,rest,many⟩) taken:=by cases bg<;>rfl
 rw[e]
 have uL:=CI bg hs
 generalize s9 bg ⟨st,rest,many⟩=S0 at*
 refine Ow.callM rfl rfl call145 (by simp[keys]) (fun w' aA=>IZ _ _ _ 128 w' (GlobE.of hG aA (by simp[keys];omega)) oM uL (aA.has _ _ (cN _ am))) ?_
 refine ko @jJ ?_
 have kr:=tC 128 uL
 have ep:tZ S0 taken=dw (dw (gP S0 128) (List.replicate (kM (gP S0 128).many) 0)) (len8 taken):=rfl
 unfold hsum
 rw[ep]
 generalize gP S0 128=S1 at*
 refine ky @jJ ?_
 rw[show js S1 taken=js (dw S1 (List.replicate 0 0)) taken from rfl]
 have hz: (S1.many+kM S1.many)%64=56∧kM S1.many<64:=by have:=kr.many;unfold kM;omega
 refine Cw.loopG (G:=Nat) [15,16,17,18] (fun g=> []) (fun g=> [(b1, .cells (a8 (List.replicate 32 0)) 39 (0,0)),(b2, .cells (js (dw S1 (List.replicate g 0)) taken) 196 (0,0))]) (fun g=>g≤kM S1.many) (fun g=>kM S1.many - g) 0 rfl rfl ?_ ?_
 ·omega
 intro g j hg
 refine kv ?_
 have rT:=wN (List.replicate g 0) kr
 have hm:=Qc (List.replicate g 0) kr
 rw[List.length_replicate] at hm
 have jY:=rT.st
 have kg:=rT.rest
 by_cases aC:g<kM S1.many
 ·have hzz: (S1.many+g)%64≠56:=by have:=kr.many;unfold kM at aC;omega
  unfold js
  refine ky @jJ ?_
  refine Ow.callM rfl rfl call145 (by simp[keys]) (fun w' aA=>IZ _ _ _ 0 w' (GlobE.of hG aA (by simp[keys];omega)) oM rT (aA.has _ _ (cN _ am))) ?_
  refine ko @jJ ?_
  refine ky @jJ ?_
  refine Again.mk (g+1) oM oM ?_ rfl
  rw[SE];rfl
 have yP:g=kM S1.many:=by omega
 subst yP
 unfold js
 refine ky @jJ ?_
 generalize dw S1 (List.replicate (kM S1.many) 0)=S2 at*
 rw[show bW true S2.st S2.rest S2.many taken=js (dw S2 ((len8 taken).take 0)) taken from rfl]
 have h8:=VT_ taken
 refine Cw.loopG (G:=Nat) [19,20,23,24,25,26,27,28,29,21,22,4] (fun k=> [(4,vi (56 - 8*k))]) (fun k=> [(b1, .cells (a8 (List.replicate 32 0)) 39 (0,0)),(b2, .cells (js (dw S2 ((len8 taken).take k)) taken) 196 (0,0))]) (fun k=>k≤8) (fun k=>8 - k) 0 rfl rfl ?_ ?_
 ·omega
 intro k jk hk
 refine kv ?_
 have yf:=wN ((len8 taken).take k) rT
 have cS:=yf.st
 have cZ:=yf.rest
 by_cases hk8:k<8
 ·unfold js
  refine ky @jJ ?_
  rw[show(56 - 8* (k:Int)).toNat=56 - 8*k from by omega]
  refine Ow.callM rfl rfl call145 (by simp[keys]) (fun w' aA=>IZ _ _ _ (lenB taken k) w' (GlobE.of hG aA (by simp[keys];omega)) oM yf (aA.has _ _ (cN _ am))) ?_
  refine ko @jJ ?_
  refine ky @jJ ?_
  refine Again.mk (k+1) oM oM ?_ ?_
  ·rw[BD _ _ _ oM,Ta _ _ hk8];rfl
  rw[show(56 - 8* ((k+1:Nat):Int))=56 - 8* (k:Int) - 8 from by omega];rfl
 have yU:k=8:=by omega
 subst yU
 refine ky @jJ ?_
 rw[List.take_of_length_le (show(len8 taken).length≤8 by omega)] at*
 generalize dw S2 (len8 taken)=S3 at*
 refine Ow.alloc rfl rfl zr39 fun b3 da dV=> ?_
 obtain⟨xq,zZ,-⟩:=da
 unfold js
 refine ko @jJ ?_
 refine ky @jJ ?_
 rw[show a8 (List.replicate 32 0)=a8 (l4 S3.st (4*0)) from by rw[WE_]]
 have h3s:=(wN (len8 taken) rT).st
 have eO:S3.st.length=8:=cS
 refine Cw.loopG (G:=Nat) [33,34,35,6,7,36,37,38,39,40,41,42,43,44,45,46,47,48,49,50,51,52,53,54,55,56,57,58,59,60,61,62,32] (fun i=> [(32,vi i)]) (fun i=> [(b1, .cells (a8 (l4 S3.st (4*0))) 39 (0,0)),(b2, .cells (bW true S3.st S3.rest S3.many taken) 196 (0,0)),(b3, .cells (a8 (l4 S3.st (4*i))) 39 (0,0))]) (fun i=>i≤8) (fun i=>8 - i) 0 rfl rfl ?_ ?_
 ·omega
 intro i ji hi
 refine kv ?_
 have ja:=outPre_length S3.st (4*i)
 have uN:=outPre_length S3.st (4*0)
 by_cases hi8:i<8
 ·refine ky @jJ ?_
  refine Again.mk (i+1) oM oM ?_ rfl
  rw[PR]
 have rJ:i=8:=by omega
 subst rJ
 refine ky @jJ ?_
 rw[show 4*8=32 from rfl]
 refine⟨_,(ke @jJ),⟨aI,bV,dV,trivial⟩, ?_⟩
 rfl
def s8:=aN (aN (aN (aN @Ii @Ip) (aN @Iv (aN @JO @In))) (aN (aN @Ir @JV) (aN @KD (aN @IN @JR)))) (aN (aN (aN @KS @JU) (aN @KR (aN @KQ @KT))) (aN (aN @AU @xm) (aN @xY (aN @xf @xD))))
def To (x:Value) (b2 off:Nat) (l:List (List UInt8)) (arr:Array Value) (E:TypeId) (fz:Nat×Nat) (w:World) (hG:GlobE w)
  (hS:StrS w x l b2 off arr E fz) (hn:l.length<1099511627776) (hz: ∀i,i<l.length→(l.getD i []).length<1099511627776):
  Rets prog 82 #[x] w (fun v D=>v= .agg (a8 (sumV l))∧D= []):=by
 obtain⟨e0,e1,f0,f1,h0,h1⟩:=id hG
 have jY:3<w.heap.size:=(Array.getElem?_eq_some_iff.1 h1).1
 have iJ:0<l.length→b2<w.heap.size:=fun h=>(Array.getElem?_eq_some_iff.1 (hS.has h)).1
 refine Rets.enterV func82 rfl (rs:= [.cell 2 39]) results82 ntmps82 ?_
 refine kf ?_
 refine ky @s8 ?_
 refine Ow.alloc rfl rfl zr39 fun b1 aW aI=> ?_
 refine ko @s8 ?_
 refine ky @s8 ?_
 refine Ow.alloc rfl rfl GA fun b3 da dV=> ?_
 obtain⟨xq,-⟩:=da
 rw[Bm]
 refine ko @s8 ?_
 refine ky @s8 ?_
 refine Ow.callM rfl rfl call119 (by simp[keys]) (fun w' aA=>Nz _ _ ⟨List.replicate 8 0,List.replicate 64 0,0⟩ _ _ _ _ _ _ _ _ w' (GlobE.of hG aA (by simp[keys];omega)) oM ⟨by simp,by simp,by simp⟩ (fun h=>by have:=iJ h;omega) (hS.old aA (fun h=>by have:=iJ h;simp[keys];omega)) hn hz (aA.has _ _ (cN _ am))) ?_
 refine ko @s8 ?_
 refine ky @s8 ?_
 have bU:=wN l.flatten GM
 have e:s9 false ⟨List.replicate 8 0,List.replicate 64 0,0⟩=H0:=rfl
 rw[e]
 refine Ow.callFV rfl call120 (fun w' aA=>RW _ true _ _ w' (GlobE.of hG aA (by simp[keys];omega)) oM bU (aA.has _ _ (cN _ am))) ?_
 have bh: (hsum (s9 true (dw H0 l.flatten)) (pW 0 l)).length=32:=outPre_length _ _
 refine ko @s8 ?_
 refine ky @s8 ?_
 refine⟨_,(ke @s8),⟨aI,dV,trivial⟩, ?_⟩
 rfl
end Go.Proofs
end
namespace Go.Dig
open Go.Sx
def quoN (t:UInt64):Nat→UInt64
 |0=>t
 |n+1=>quoN t n / 256
def Rl (t:UInt64) (n:Nat): (quoN t n).toNat=t.toNat / 256^n:=by
 induction n with
 |zero=>simp[quoN]
 |succ n ih=>
  show(quoN t n / 256).toNat=_
  rw[UInt64.toNat_div,ih,Nat.pow_succ,Nat.div_div_eq_div_mul];rfl
def xp (t:UInt64) (j:Nat):UInt8:=UInt8.ofNat (ud t (56 - 8*j)).toNat
def VF (t:UInt64) (i:Nat) (h:i<8):UInt8.ofNat (quoN t i%256).toNat=xp t (7 - i):=by
 apply UInt8.toNat.inj
 unfold xp
 rw[UInt8.toNat_ofNat',UInt8.toNat_ofNat',UInt64.toNat_mod,Rl,ud,UInt64.toNat_ofNat']
 have e:56 - 8* (7 - i)=8*i:=by omega
 have ht:=t.toNat_lt
 have hd:t.toNat / 2^ (8*i)≤t.toNat:=Nat.div_le_self _ _
 rw[e,Nat.mod_eq_of_lt (a:=t.toNat / 2^ (8*i)) oM]
 have e2:256^i=2^ (8*i):=by rw[Nat.pow_mul]
 rw[e2,show(256:UInt64).toNat=256 from rfl]
 omega
def mg (t:UInt64) (i:Nat):List UInt8:=(List.range 8).map fun j=>if 8≤j+i then xp t j else 0
def MI (t:UInt64) (i:Nat): (mg t i).length=8:=by simp[mg]
def OF (t:UInt64):mg t 0=List.replicate 8 0:=by
 apply List.ext_getElem
 ·simp[mg]
 intro k cS cZ
 have:k<8:=by simpa [mg] using cS
 simp only[mg,List.getElem_map,List.getElem_range,List.getElem_replicate]
 rw[if_neg oM]
def NS (t:UInt64) (i:Nat) (h:i<8): (mg t i).set (7 - i) (UInt8.ofNat (quoN t i%256).toNat)=mg t (i+1):=by
 rw[VF t i h]
 apply List.ext_getElem
 ·simp[mg]
 intro j hj1 hj2
 have hj:j<8:=by simpa [mg] using hj2
 rw[List.getElem_set]
 by_cases h1:7 - i=j
 ·rw[if_pos h1]
  simp only[mg,List.getElem_map,List.getElem_range]
  rw[if_pos oM,h1]
 rw[if_neg h1]
 simp only[mg,List.getElem_map,List.getElem_range]
 by_cases h2:8≤j+i
 ·rw[if_pos h2,if_pos oM]
 rw[if_neg h2,if_neg oM]
def On (t:UInt64):mg (8*t) 8=len8 t:=by
 unfold mg len8
 apply List.map_congr_left
 intro j hj
 rw[if_pos oM];rfl
def padR (m:List UInt8):List UInt8:=m++ [128]++List.replicate (kM ((m.length+1)%64)) 0++len8 (UInt64.ofNat m.length)
def BK (n:Nat): (n+kM (n%64))%64=56∧kM (n%64)<64:=by unfold kM;omega
def Pk (m:List UInt8): (padR m).length%64=0∧(padR m).length≤m.length+72:=by
 have:=BK (m.length+1)
 simp only[padR,List.length_append,List.length_replicate,VT_,List.length_cons,List.length_nil]
 omega
def shaR (m:List UInt8):List UInt8:=l4 (mn initL (padR m) ((padR m).length / 64)) 32
def QO (st s:List UInt32):mS st s 8= [st.getD 0 0+s.getD 0 0,st.getD 1 0+s.getD 1 0,st.getD 2 0+s.getD 2 0,st.getD 3 0+s.getD 3 0,st.getD 4 0+s.getD 4 0,st.getD 5 0+s.getD 5 0,st.getD 6 0+s.getD 6 0,st.getD 7 0+s.getD 7 0]:=rfl
end Go.Dig
section
open Go Go.Proofs Go.Sx Go.Dig
namespace Go.Proofs
def cd:= @AU
def WP_ (m:List UInt8) (hm:m.length<1099511627776) (w:World):
  Rets prog 78 #[vs m] w (fun v D=>v=vs (padR m)∧D= []):=by
 refine Rets.enterV func78 rfl (rs:= [.tmp 2]) results78 ntmps78 ?_
 refine kf ?_
 refine ky @cd ?_
 have hz:=BK (m.length+1)
 rw[show m++ [128]=m++ [128]++List.replicate 0 0 from(List.append_nil _).symm]
 refine Cw.loopG (G:=Nat) [9,10,11,12,13,14,3] (fun g=> [(3,vs (m++ [128]++List.replicate g 0))]) (fun g=> []) (fun g=>g≤kM ((m.length+1)%64)) (fun g=>kM ((m.length+1)%64) - g) 0 rfl rfl ?_ ?_
 ·omega
 intro g j hg
 refine kv ?_
 have hl: (m++ [128]++List.replicate g 0).length=m.length+1+g:=by simp;omega
 by_cases aC:g<kM ((m.length+1)%64)
 ·have h56: (m.length+1+g)%64≠56:=by unfold kM at*;omega
  refine ky (aN @cd @hl) ?_
  refine Again.mk (g+1) oM oM rfl ?_
  rw[show m++ [128]++List.replicate (g+1) 0=m++ [128]++List.replicate g 0++ [0] from by rw[List.replicate_succ'];simp]
  rfl
 have yP:g=kM ((m.length+1)%64):=by omega
 subst yP
 refine ky (aN @cd @hl) ?_
 refine Ow.alloc rfl rfl zr184 fun b1 aW aI=> ?_
 rw[show UInt64.ofInt (m.length:Int)=UInt64.ofNat m.length from Ld _]
 refine ko @cd ?_
 refine ky @cd ?_
 generalize ht:UInt64.ofNat m.length*8=t
 rw[←OF t]
 refine Cw.loopG (G:=Nat) [19,20,23,24,25,26,27,28,29,30,4,21,22,6] (fun i=> [(4,v64 (quoN t i)),(6,vi i)]) (fun i=> [(b1, .cells (a8 (mg t i)) 184 (0,0))]) (fun i=>i≤8) (fun i=>8 - i) 0 rfl rfl ?_ ?_
 ·omega
 intro i ji hi
 refine kv ?_
 have kC:=MI t i
 by_cases hi8:i<8
 ·refine ky @cd ?_
  refine Again.mk (i+1) oM oM ?_ rfl
  rw[NS t i hi8]
 have rJ:i=8:=by omega
 subst rJ
 refine ky @cd ?_
 rw[List.drop_zero,List.take_of_length_le (show(mg t 8).length≤8 by omega),←ht,UInt64.mul_comm,On]
 refine⟨_,(ke @cd),⟨aI,trivial⟩, ?_⟩
 rfl
def Pr (st:List UInt32) (blk:List UInt8) (bK:st.length=8) (uz:blk.length=64) (w:World):
  Rets prog 79 #[.agg (a32 st),vs blk] w (fun v D=>v= .agg (a32 (comp st blk))∧D= []):=by
 have hkl:kL.length=64:=rfl
 refine Rets.enterV func79 rfl (rs:= [.cell 4 151]) results79 ntmps79 ?_
 refine kf ?_
 refine ky @cd ?_
 refine Ow.box rfl rfl fun b1 aW aI=> ?_
 refine ko @cd ?_
 refine Ow.alloc rfl rfl zr151 fun b2 aq bV=> ?_
 obtain⟨oe,-⟩:=aq
 refine ko @cd ?_
 refine ky @cd ?_
 refine Ow.alloc rfl rfl zr185 fun b3 da dV=> ?_
 obtain⟨xq,zZ,-⟩:=da
 refine ko @cd ?_
 refine ky @cd ?_
 rw[←CE blk]
 refine Cw.loopG (G:=Nat) [22,23,26,27,28,29,30,31,32,33,34,35,36,37,38,39,40,41,42,43,44,45,46,47,48,49,50,51,52,53,54,55,56,24,25,6] (fun g=> [(6,vi g)]) (fun g=> [(b1, .cells (a32 st) 151 (0,0)),(b2, .cells (a32 (List.replicate 8 0)) 151 (0,0)),(b3, .cells (a32 (wPre blk g)) 185 (0,0))]) (fun g=>g≤16) (fun g=>16 - g) 0 rfl rfl ?_ ?_
 ·omega
 intro g j hg
 refine kv ?_
 have aP:=JQ blk g
 by_cases aC:g<16
 ·refine ky @cd ?_
  refine Cw.regionO [0,1,2,3,4,5,6,7,8,9,10,11,12,13,14,15,16,17,18,19,20,21,22,23,24,25,26,27,28,29,30,31] [31] rfl kR kR ?_
  simp only[ai, ↓ah, ↓ab, ↓ag, ↓ae,ac]
  refine kq @cd ?_
  refine Ow.store rfl rfl rfl (ke @cd) ?_
  refine ko @cd ?_
  refine ky @cd ?_
  exact Again.mk (g+1) oM oM (by rw[←CM];rfl) rfl
 have yN:g=16:=by omega
 subst yN
 refine ky @cd ?_
 rw[Dx]
 refine Cw.loopG (G:=Nat) [57,58,61,62,63,64,65,66,67,68,8,9,69,70,71,72,73,74,75,76,77,78,79,80,81,82,83,84,85,86,87,88,89,90,91,92,93,94,95,96,97,59,60,7] (fun g=> [(7,vi g)]) (fun g=> [(b1, .cells (a32 st) 151 (0,0)),(b2, .cells (a32 (List.replicate 8 0)) 151 (0,0)),(b3, .cells (a32 (wG blk g)) 185 (0,0))]) (fun g=>16≤g∧g≤64) (fun g=>64 - g) 16 rfl rfl ?_ ?_
 ·omega
 intro g j hg
 refine kv ?_
 obtain⟨jY,kg⟩:=hg
 have aP:=Co blk g
 by_cases aC:g<64
 ·refine ky @cd ?_
  refine Cw.regionO [0,1,2,4,5,6,3,8,7,9] [] rfl kR kR ?_
  simp only[ai, ↓ah, ↓ab, ↓ag, ↓ae,ac]
  refine kq @cd ?_
  refine ky @cd ?_
  refine Cw.regionO [0,1,3,6,7,9,10,11,14,16,19,20,23,24,25,12,26,2,4,5,8,13,15,17,18,21,22,27,28,29] [29] rfl kR kR ?_
  simp only[ai, ↓ah, ↓ab, ↓ag, ↓ae,ac]
  refine kq @cd ?_
  refine Ow.callFV rfl call113 (fun w' aA=>sX _ 17 w') ?_
  refine kq @cd ?_
  refine Ow.callFV rfl call113 (fun w' aA=>sX _ 19 w') ?_
  refine kq @cd ?_
  refine Ow.callFV rfl call113 (fun w' aA=>sX _ 7 w') ?_
  refine kq @cd ?_
  refine Ow.callFV rfl call113 (fun w' aA=>sX _ 18 w') ?_
  refine kq @cd ?_
  refine Ow.store rfl rfl rfl (ke @cd) ?_
  refine ko @cd ?_
  refine ky @cd ?_
  exact Again.mk (g+1) oM oM (by rw[F6 blk g jY];rfl) rfl
 have nJ:g=64:=by omega
 subst nJ
 rw[G6]
 have hwl:=VQ_ blk
 refine ky @cd ?_
 refine Ow.callFV rfl call114 (fun w' aA=>Oz w') ?_
 refine ko @cd ?_
 refine Ow.alloc rfl rfl zr185 fun b4 g4 cr=> ?_
 obtain⟨JW,h24,za,-⟩:=g4
 refine ko @cd ?_
 refine ky @cd ?_
 refine Cw.regionO [0,2,4,6,1,8,3,9,5,10,7,11] [] rfl kR kR ?_
 simp only[ai, ↓ah, ↓ab, ↓ag, ↓ae,ac]
 refine kq @cd ?_
 refine ky @cd ?_
 refine Cw.regionO [0,2,4,6,1,8,3,9,5,10,7,11] [] rfl kR kR ?_
 simp only[ai, ↓ah, ↓ab, ↓ag, ↓ae,ac]
 refine kq @cd ?_
 refine ky @cd ?_
 generalize hw:wAll blk=W at*
 refine Cw.loopG (G:=Nat) [115,116,119,120,121,122,123,124,125,126,127,128,129,130,131,132,133,134,135,136,137,138,139,140,141,142,143,144,145,20,146,147,148,149,150,151,152,153,154,155,156,157,158,159,160,161,162,163,164,165,21,166,18,167,17,168,16,169,170,171,15,172,14,173,13,174,12,175,176,177,11,117,118,19] (fun g=> [(19,vi g),(11,v32 ((rGo st W g).getD 0 0)),(12,v32 ((rGo st W g).getD 1 0)),(13,v32 ((rGo st W g).getD 2 0)),(14,v32 ((rGo st W g).getD 3 0)),(15,v32 ((rGo st W g).getD 4 0)),(16,v32 ((rGo st W g).getD 5 0)),(17,v32 ((rGo st W g).getD 6 0)),(18,v32 ((rGo st W g).getD 7 0))]) (fun g=> [(b1, .cells (a32 st) 151 (0,0)),(b2, .cells (a32 (List.replicate 8 0)) 151 (0,0)),(b3, .cells (a32 W) 185 (0,0)),(b4, .cells (a32 kL) 185 (0,0))]) (fun g=>g≤64) (fun g=>64 - g) 0 rfl rfl ?_ ?_
 ·omega
 intro g j hg
 refine kv ?_
 by_cases aC:g<64
 ·refine ky @cd ?_
  refine Cw.regionO [0,1,3,6,10,11,12,13,14,15,16,17,19,20,23,24,21,25,2,4,5,7,8,9,18,22,26,27] [] rfl kR kR ?_
  simp only[ai, ↓ah, ↓ab, ↓ag, ↓ae,ac]
  refine kq @cd ?_
  refine Ow.callFV rfl call113 (fun w' aA=>sX _ 6 w') ?_
  refine kq @cd ?_
  refine Ow.callFV rfl call113 (fun w' aA=>sX _ 11 w') ?_
  refine kq @cd ?_
  refine Ow.callFV rfl call113 (fun w' aA=>sX _ 25 w') ?_
  refine kq @cd ?_
  refine ky @cd ?_
  refine Ow.callFV rfl call113 (fun w' aA=>sX _ 2 w') ?_
  refine ko @cd ?_
  refine Ow.callFV rfl call113 (fun w' aA=>sX _ 13 w') ?_
  refine ko @cd ?_
  refine Ow.callFV rfl call113 (fun w' aA=>sX _ 22 w') ?_
  refine ko @cd ?_
  refine ky @cd ?_
  exact Again.mk (g+1) oM oM rfl rfl
 have nJ:g=64:=by omega
 subst nJ
 refine ky @cd ?_
 have HD:comp st blk=mS st (rGo st W 64) 8:=by rw[←hw];rfl
 rw[HD]
 generalize rGo st W 64=R at*
 rw[QO]
 refine Ow.build (.agg (a32 [st.getD 0 0+R.getD 0 0,st.getD 1 0+R.getD 1 0,st.getD 2 0+R.getD 2 0,st.getD 3 0+R.getD 3 0,st.getD 4 0+R.getD 4 0,st.getD 5 0+R.getD 5 0,st.getD 6 0+R.getD 6 0,st.getD 7 0+R.getD 7 0])) rfl kR ?_
 refine ko @cd ?_
 refine ky @cd ?_
 refine⟨_,(ke @cd),⟨aI,bV,dV,cr,trivial⟩, ?_⟩
 rfl
def kP:= @AU
def P2 (m:List UInt8) (hm:m.length<1099511627776) (w:World):
  Rets prog 42 #[vs m] w (fun v D=>v= .agg (a8 (shaR m))∧D= []):=by
 refine Rets.enterV func42 rfl (rs:= [.cell 2 39]) results42 ntmps42 ?_
 refine kf ?_
 refine ky @kP ?_
 refine Ow.alloc rfl rfl zr39 fun b1 aW aI=> ?_
 refine ko @kP ?_
 refine ky @kP ?_
 refine Ow.callFV rfl call78 (fun w' aA=>WP_ m hm w') ?_
 have hp:=Pk m
 unfold shaR
 generalize padR m=p at*
 refine ko @kP ?_
 refine ky @kP ?_
 refine Ow.build (.agg (a32 initL)) rfl kR ?_
 refine ko @kP ?_
 refine Ow.alloc rfl rfl zr151 fun b2 aq bV=> ?_
 obtain⟨oe,-⟩:=aq
 have gm:initL.length=8:=rfl
 refine ko @kP ?_
 refine ky @kP ?_
 rw[show a32 initL=a32 (mn initL p 0) from rfl]
 refine Cw.loopG (G:=Nat) [11,12,13,14,17,18,19,20,21,22,23,15,16,5] (fun g=> [(5,vi (64*g))]) (fun g=> [(b1, .cells (a8 (List.replicate 32 0)) 39 (0,0)),(b2, .cells (a32 (mn initL p g)) 151 (0,0))]) (fun g=>64*g≤p.length) (fun g=>p.length - 64*g) 0 rfl rfl ?_ ?_
 ·omega
 intro g j hg
 refine kv ?_
 have lj:=Ni initL p g rfl
 by_cases aC:64*g<p.length
 ·refine ky @kP ?_
  refine Cw.regionO [1,2,3,4,5,0,6,7] [7] rfl kR kR ?_
  simp only[ai, ↓ah, ↓ab, ↓ag, ↓ae,ac]
  refine kq @kP ?_
  rw[show List.drop (64*g) (List.take (64*g+64) p)=(p.drop (64*g)).take 64 from by rw[List.drop_take];congr 1;omega]
  refine Ow.callFV rfl call79 (fun w' aA=>Pr _ _ lj (by simp;omega) w') ?_
  have hcl2:=Ka (mn initL p g) ((p.drop (64*g)).take 64)
  refine kq @kP ?_
  refine Ow.store rfl rfl rfl (ke @kP) ?_
  refine ko @kP ?_
  refine ky @kP ?_
  exact Again.mk (g+1) oM oM rfl (by rw[show 64* ((g+1:Nat):Int)=64* (g:Int)+64 from by omega];rfl)
 have yP:g=p.length / 64:=by omega
 refine ky @kP ?_
 rw[←yP]
 refine Ow.alloc rfl rfl zr39 fun b3 da dV=> ?_
 obtain⟨xq,zZ,-⟩:=da
 refine ko @kP ?_
 refine ky @kP ?_
 generalize mn initL p g=S at*
 rw[show [(b1,Obj.cells (a8 (List.replicate 32 0)) 39 (0,0)),(b2, .cells (a32 S) 151 (0,0)),(b3, .cells (a8 (List.replicate 32 0)) 39 (0,0))]= [(b1,Obj.cells (a8 (List.replicate 32 0)) 39 (0,0)),(b2, .cells (a32 S) 151 (0,0)),(b3, .cells (a8 (l4 S 0)) 39 (0,0))] from by rw[WE_]]
 refine Cw.loopG (G:=Nat) [24,25,28,29,30,31,32,33,34,35,36,37,38,39,40,26,27,7] (fun k=> [(7,vi k)]) (fun k=> [(b1, .cells (a8 (List.replicate 32 0)) 39 (0,0)),(b2, .cells (a32 S) 151 (0,0)),(b3, .cells (a8 (l4 S k)) 39 (0,0))]) (fun k=>k≤32) (fun k=>32 - k) 0 rfl rfl ?_ ?_
 ·omega
 intro k jk hk
 refine kv ?_
 have ja:=outPre_length S k
 by_cases hk:k<32
 ·refine ky @kP ?_
  refine Again.mk (k+1) oM oM ?_ rfl
  have e: (UInt64.ofInt (24 - 8* ((k:Int)%4))).toNat=24 - 8* (k%4):=by
   rw[show(24 - 8* ((k:Int)%4))=((24 - 8* (k%4):Nat):Int) from by omega,Ld,UInt64.toNat_ofNat',Nat.mod_eq_of_lt oM]
  rw[e,←IE];rfl
 have yU:k=32:=by omega
 subst yU
 refine ky @kP ?_
 refine⟨_,(ke @kP),⟨aI,bV,dV,trivial⟩, ?_⟩
 rfl
end Go.Proofs
end
namespace Go.Dig
open Go.Sx
structure Inv (s:Hs) (p:List UInt8):Prop where
 ok:s.Ok
 st:s.st=mn initL p (p.length / 64)
 many:s.many=p.length%64
 rest:s.rest.take s.many=p.drop (64* (p.length / 64))
def Inv.put {s:Hs} {p:List UInt8} (h:Inv s p) (x:UInt8):Inv (gP s x) (p++ [x]):=by
 obtain⟨bU,bK,vL,rZ⟩:=h
 have hk:=tC x bU
 have hm64:=bU.many
 have nR:=bU.rest
 have dc:64* (p.length / 64)≤p.length:=by omega
 have vS: (s.rest.set s.many x).take (s.many+1)=p.drop (64* (p.length / 64))++ [x]:=by
  rw[List.take_add_one,List.take_set,←rZ]
  congr 1
  ·rw[List.set_eq_of_length_le (by simp only[List.length_take];exact Nat.min_le_left _ _)]
  simp[nR,hm64]
 have aP: (p++ [x]).length=p.length+1:=by simp
 have hc:mn initL (p++ [x]) (p.length / 64)=mn initL p (p.length / 64):=NX _ _ _ _ dc
 by_cases kX:s.many+1=64
 ·have e:gP s x=⟨comp s.st (s.rest.set s.many x),s.rest.set s.many x,0⟩:=by unfold gP;rw[if_pos kX]
  have hd: (p.length+1) / 64=p.length / 64+1:=by omega
  have hr: (s.rest.set s.many x)=p.drop (64* (p.length / 64))++ [x]:=by
   rw[←vS,kX,List.take_of_length_le (by simp[nR])]
  refine⟨hk, ?_, ?_, ?_⟩
  ·rw[e,aP,hd]
   show comp s.st _=comp (mn initL (p++ [x]) (p.length / 64)) _
   rw[hc,←bK,hr,List.drop_append_of_le_length dc,List.take_of_length_le (by simp;omega)]
  ·rw[e,aP];show 0=_;omega
  rw[e,aP]
  show List.take 0 _=_
  rw[List.take_zero,List.drop_of_length_le (by rw[aP];omega)]
 have e:gP s x=⟨s.st,s.rest.set s.many x,s.many+1⟩:=by unfold gP;rw[if_neg kX]
 have hd: (p.length+1) / 64=p.length / 64:=by omega
 refine⟨hk, ?_, ?_, ?_⟩
 ·rw[e,aP,hd,hc];exact bK
 ·rw[e,aP];show s.many+1=_;omega
 rw[e,aP,hd]
 show List.take (s.many+1) (s.rest.set s.many x)=_
 rw[vS,List.drop_append_of_le_length dc]
def Inv.puts {s:Hs} {p:List UInt8} (h:Inv s p) (l:List UInt8):Inv (dw s l) (p++l):=by
 induction l generalizing s p with
 |nil=>rw[List.append_nil];exact h
 |cons x r ih=>
  have:=ih (h.put x)
  rw[List.append_assoc] at this
  exact this
def Inv.zero:Inv H0 []:=⟨GM,rfl,rfl,rfl⟩
def WA (p:List UInt8): (dw H0 p).st=mn initL p (p.length / 64):=(Inv.zero.puts p).st
def Sw (l:List (List UInt8)) (n:Nat):pW (UInt64.ofNat n) l=UInt64.ofNat (n+l.flatten.length):=by
 induction l generalizing n with
 |nil=>rfl
 |cons a r ih=>
  show pW (UInt64.ofNat n+UInt64.ofNat a.length) r=_
  rw[←UInt64.ofNat_add,ih,List.flatten_cons,List.length_append,Nat.add_assoc]
def WN (m:List UInt8):hsum (dw H0 m) (UInt64.ofNat m.length)=shaR m:=by
 unfold hsum shaR
 rw[←WA]
 suffices h:tZ (dw H0 m) (UInt64.ofNat m.length)=dw H0 (padR m) by rw[h]
 have vL: (gP (dw H0 m) 128).many=(m.length+1)%64:=by
  have:=((Inv.zero.puts m).put 128).many
  rw[this];simp
 unfold tZ padR
 rw[vL,AT,AT,AT,show dw (dw H0 m) [128]=gP (dw H0 m) 128 from rfl]
def sumV_eq (l:List (List UInt8)):sumV l=shaR l.flatten:=by
 unfold sumV
 have:=Sw l 0
 rw[Nat.zero_add] at this
 rw[show(0:UInt64)=UInt64.ofNat 0 from rfl,this,WN]
end Go.Dig
section
open Go Go.Proofs Go.Sx Go.StP
namespace Go.Proofs
def GlobE.new {w0 w:World} {L:aB} (hg:GlobE w0) (h:Hp w0 L w) (hn:New w0.heap.size L):GlobE w:=by
 obtain⟨e0,e1,f0,f1,h0,h1⟩:=id hg
 have:3<w0.heap.size:=(Array.getElem?_eq_some_iff.1 h1).1
 exact hg.of h fun b hb=>by have:=hn.le b hb;omega
def KY {k:Int} {t:List UInt8} (h:cm k t=true): (fI k t).length<100000:=by
 obtain⟨h1,h2,h3⟩:=vx h
 have hh: (lO k).length≤4:=by unfold lO;simp only[List.length_drop,List.length_take,List.length_cons,List.length_nil];omega
 have:=qP (t.length:Int)
 unfold fI fy
 rw[List.length_append,List.length_append]
 omega
def zP (m:List UInt8): (Dig.shaR m).length=32:=Dig.outPre_length _ _
def eM:=aN (aN (aN @j7 @jB) (aN @j9 @j8)) (aN (aN @Sx.tup2_0 @Sx.tup2_1) (aN @av @au))
def idV (k:Int) (t:List UInt8):IdL:=if cm k t then⟨Dig.shaR (fI k t),zP _⟩ else id0
def RB:dl (cC prog 39) (an prog 39) []=some (.agg (a8 id0.l)):=id kR
def Dl (k:Int) (t:List UInt8) (w:World) (hG:GlobE w):Rets prog 44 #[obV k t] w (fun v D=>v= .tuple #[.agg (a8 (idV k t).l), .bool (cm k t)]∧D= []):=by
 refine Rets.enterV func44 rfl (rs:= [.cell 2 39, .tmp 3]) results44 ntmps44 ?_
 refine kf ?_
 refine ky @eM ?_
 refine Ow.box rfl rfl fun b1 aW aI=> ?_
 simp only[dC,cy,dA,aS,List.nil_append]
 refine ko @eM ?_
 refine Ow.alloc rfl rfl gM fun b2 aq bV=> ?_
 simp only[aS,List.nil_append,List.cons_append]
 have oe:b1<b2:=ak aq (by simp[keys])
 have rI:=id0.h
 refine ko @eM ?_
 refine Ow.callC rfl rfl call81 (fun w' aA=>VL_ k t w') (fun B v D hA hB hN hS=> ?_)
 have hD:New w.heap.size D:=New.mono hB hN
 unfold idV
 cases hr:cm k t
 ·rw[hr,if_neg (by decide)] at hS
  subst hS
  have e: ((1:Int) !=0)=true:=rfl
  refine ko @eM ?_
  refine ky (aN @eM @e) ?_
  refine Ow.build (.agg (a8 id0.l)) rfl RB ?_
  refine ko @eM ?_
  refine ky @eM ?_
  refine⟨_,(ke @eM),⟨aI,bV,hD⟩, ?_⟩
  rfl
 rw[hr,if_pos rfl] at hS
 subst hS
 have e: ((0:Int) !=0)=false:=rfl
 have eV:=KY hr
 have hzl: ∀i,i< [fI k t].length→([fI k t].getD i []).length<1099511627776:=fun i hi=>by
  obtain rfl:i=0:=by simpa using hi
  show(fI k t).length<_;omega
 refine ko @eM ?_
 refine ky (aN @eM @e) ?_
 refine Ow.buildSlice (e:=9) #[vs (fI k t)] rfl rfl kR fun b15 ka pH=> ?_
 refine ko @eM ?_
 refine Ow.callFV rfl call82 (fun w' aA=>To _ b15 0 [fI k t] _ _ _ w' (hG.new aA (by exact⟨aI,bV,New.app hD ⟨pH,trivial⟩⟩)) (StrS.lit [fI k t] rfl rfl (aA.has _ (.cells #[vs (fI k t)] 9 (0,0)) (by simp))) (by show(1:Nat)<1099511627776;omega) hzl) ?_
 rw[Dig.sumV_eq,show([fI k t]:List (List UInt8)).flatten=fI k t by simp]
 have bh:=zP (fI k t)
 refine ko @eM ?_
 refine ky @eM ?_
 refine⟨_,(ke @eM),⟨aI,bV,hD.app ⟨pH,trivial⟩⟩, ?_⟩
 rfl
def pT (k:Int) (t:List UInt8):List UInt8:=(if k=3 then [99] else if k=2 then [116] else [98])++fy t
def JG {k:Int} {t:List UInt8} (h:cm k t=true):pT k t=fI k t:=by
 obtain⟨h1,h2,-⟩:=vx h
 unfold pT fI
 rcases(show k=1∨k=2∨k=3 by omega) with rfl|rfl|rfl<;>rfl
def Wh_ (k:Int) (t:List UInt8) (w:World) (ht:t.length<100000):Rets prog 43 #[obV k t] w (fun v D=>v=vs (pT k t)∧D= []):=by
 have tl:=AM (s:=t) oM
 refine Rets.enterV func43 rfl (rs:= [.tmp 2]) results43 ntmps43 ?_
 refine kf ?_
 refine ky @eM ?_
 refine Ow.box rfl rfl fun b1 aW aI=> ?_
 simp only[dC,cy,dA,aS,List.nil_append]
 unfold pT
 by_cases h3:k=3
 ·have e2: (k==2)=false:=beq_eq_false_iff_ne.2 oM
  have e3: (k==3)=true:=by simp[h3]
  rw[if_pos h3]
  refine ko (aN @eM (aN @e2 @e3)) ?_
  refine ky (aN @eM (aN @e2 @e3)) ?_
  refine Ow.callFV rfl call80 (fun w' aA=>IL t w' oM) ?_
  refine ko @eM ?_
  refine ky @eM ?_
  refine⟨_,(ke @eM),⟨aI,trivial⟩, ?_⟩
  rfl
 have e3: (k==3)=false:=by simpa using h3
 rw[if_neg h3]
 by_cases h2:k=2
 ·have e2: (k==2)=true:=by simp[h2]
  rw[if_pos h2]
  refine ko (aN @eM (aN @e2 @e3)) ?_
  refine ky (aN @eM (aN @e2 @e3)) ?_
  refine Ow.callFV rfl call80 (fun w' aA=>IL t w' oM) ?_
  refine ko @eM ?_
  refine ky @eM ?_
  refine⟨_,(ke @eM),⟨aI,trivial⟩, ?_⟩
  rfl
 have e2: (k==2)=false:=by simpa using h2
 rw[if_neg h2]
 refine ko (aN @eM (aN @e2 @e3)) ?_
 refine ky (aN @eM (aN @e2 @e3)) ?_
 refine Ow.callFV rfl call80 (fun w' aA=>IL t w' oM) ?_
 refine ko @eM ?_
 refine ky @eM ?_
 refine⟨_,(ke @eM),⟨aI,trivial⟩, ?_⟩
 rfl
def J2 (k:Int) (t:List UInt8) (w:World) (ht:t.length<100000):Rets prog 11 #[obV k t] w (fun v D=>v= .agg (a8 (Dig.shaR (pT k t)))∧D= []):=by
 have tl:=AM (s:=t) oM
 have fl: (pT k t).length<1099511627776:=by
  have nl:=qP (t.length:Int)
  unfold pT fy;rw[List.length_append,List.length_append]
  have: ((if k=3 then [99] else if k=2 then [116] else [98]:List UInt8)).length=1:=by split<;>(try split)<;>rfl
  omega
 have bh:=zP (pT k t)
 refine Rets.enterV func11 rfl (rs:= [.cell 2 39]) results11 ntmps11 ?_
 refine kf ?_
 refine ky @eM ?_
 refine Ow.box rfl rfl fun b1 aW aI=> ?_
 simp only[dC,cy,dA,aS,List.nil_append]
 refine ko @eM ?_
 refine Ow.alloc rfl rfl gM fun b2 aq bV=> ?_
 simp only[aS,List.nil_append,List.cons_append]
 have oe:b1<b2:=ak aq (by simp[keys])
 have rI:=id0.h
 refine ko @eM ?_
 refine Ow.callFV rfl call43 (fun w' aA=>Wh_ k t w' ht) ?_
 refine ko @eM ?_
 refine Ow.callFV rfl call42 (fun w' aA=>P2 _ fl w') ?_
 refine ko @eM ?_
 refine ky @eM ?_
 refine⟨_,(ke @eM),⟨aI,bV,trivial⟩, ?_⟩
 rfl
end Go.Proofs
end
section
open Go Go.Proofs Go.Sx Go.StP Go.Flo
namespace Go.Proofs
structure ObL where
 k:Int
 t:List UInt8
def ob0:ObL:=⟨0,[]⟩
def obC (o:ObL):List Value:= [vi o.k,vs o.t]
def rt (o:ObL): (obC o).length=2:=rfl
def zL (o:ObL): (obC o).all Value.oneCell'=true:=rfl
def lS (s:List UInt8):ObL:=⟨if f_ s then frK s else 0,if f_ s then(frT s).1 else []⟩
def idOf (s:List UInt8):IdL:=idV (lS s).k (lS s).t
def Fq:List (List UInt8)→List IdL→List ObL→Option (List IdL×List ObL)
 | [],ids,os=>some (ids,os)
 |s::r,ids,os=>if f_ s=true∧(ids.any fun y=>(idOf s).l==y.l)=false then Fq r (ids++ [idOf s]) (os++ [lS s]) else none
def fillV (l:List PartL):Option (List IdL×List ObL):=match allV l with
 | .ok ts=>Fq ts [] []
 | .error _=>none
end Go.Proofs
end
section
open Go Go.Proofs Go.Sx
namespace Go.Proofs
def hvL:List UInt32:= [0x00000000,0x1db71064,0x3b6e20c8,0x26d930ac,0x76dc4190,0x6b6b51f4,0x4db26158,0x5005713c,0xedb88320,0xf00f9344,0xd6d6a3e8,0xcb61b38c,0x9b64c2b0,0x86d3d2d4,0xa00ae278,0xbdbdf21c]
def qf (n:UInt32):UInt32:=fv n 4^^^hvL.getD (n&&&15).toNat 0
def oZ (n:UInt32):Nat→UInt32
 |0=>n
 |k+1=>qf (oZ n k)
def oY (n:UInt32) (b:UInt8):UInt32:=oZ (n^^^UInt32.ofNat b.toNat) 2
def SA (n:UInt32): (n&&&15).toNat<16:=by
 rw[UInt32.toNat_and]
 exact Nat.lt_of_le_of_lt Nat.and_le_right (by decide)
def GlobC (w:World):Prop:= ∃e f,w.heap[(4:Nat)]? =some (.cells (a32 hvL) e f)
def GlobC.of {w w':World} {L:aB} (h:GlobC w) (hw:Hp w L w') (hn: (4:Nat)∉keys L):GlobC w':=by
 obtain⟨e,f,h⟩:=h
 exact⟨e,f,by rw[hw.old _ (Array.getElem?_eq_some_iff.1 h).1 hn];exact h⟩
def WW:hvL.length=16:=rfl
def er:=aN (aN @av @vf) (aN @wL (aN @zG @au))
def RQ (n:UInt32) (b:UInt8) (w:World) (hG:GlobC w):
  Rets prog 169 #[v32 n,v8 b] w (fun v D=>v=v32 (oY n b)∧D= []):=by
 obtain⟨e,f,htab⟩:=hG
 refine Rets.enterV func169 rfl (rs:= [.tmp 4]) results169 ntmps169 ?_
 refine kf ?_
 refine ky @er ?_
 unfold oY
 generalize n^^^UInt32.ofNat b.toNat=m
 rw[show v32 m=v32 (oZ m 0) from rfl]
 refine Cw.loopG (G:=Nat) [10,11,12,13,14,15,16,17,0,18,9] (fun g=> [(0,v32 (oZ m g)),(9,vi g)]) (fun g=> []) (fun g=>g≤2) (fun g=>2 - g) 0 rfl rfl ?_ ?_
 ·omega
 intro g j hg
 refine kv ?_
 by_cases aC:g<2
 ·have h15:=SA (oZ m g)
  have hl:=WW
  refine ky (aN @er @htab) ?_
  refine Again.mk (g+1) oM oM rfl rfl
 obtain rfl:g=2:=by omega
 refine ky @er ?_
 refine⟨_,(ke @er),trivial, ?_⟩
 rfl
def kT (n:UInt32) (s:List UInt8):UInt32:=s.foldl oY n
def C5 (n:UInt32) (s:List UInt8) (g:Nat) (h:g<s.length):kT n (s.take (g+1))=oY (kT n (s.take g)) (s.getD g 0):=by
 unfold kT
 rw[List.take_succ_eq_append_getElem h,List.foldl_append,List.getD_eq_getElem?_getD,List.getElem?_eq_getElem h]
 rfl
def Si (n:UInt32) (s:List UInt8) (w:World) (hG:GlobC w) (hs:s.length<1099511627776):
  Rets prog 146 #[v32 n,vs s] w (fun v D=>v=v32 (~~~ (kT (~~~ n) s))∧D= []):=by
 refine Rets.enterV func146 rfl (rs:= [.tmp 4]) results146 ntmps146 ?_
 refine kf ?_
 refine ky @er ?_
 rw[show v32 (~~~ n)=v32 (kT (~~~ n) (s.take 0)) from rfl]
 refine Cw.loopG (G:=Nat) [12,13,6,14,15,16,17,18,5,19,11] (fun g=> [(5,v32 (kT (~~~ n) (s.take g))),(11,vi g)]) (fun g=> []) (fun g=>g≤s.length) (fun g=>s.length - g) 0 rfl rfl ?_ ?_
 ·omega
 intro g j hg
 refine kv ?_
 by_cases aC:g<s.length
 ·refine ky @er ?_
  refine Ow.callFV rfl call169 (fun w' aA=>RQ _ _ w' (GlobC.of hG aA (by simp[keys]))) ?_
  refine ko @er ?_
  refine ky @er ?_
  refine Again.mk (g+1) oM oM rfl ?_
  rw[C5 _ _ _ aC]
  rfl
 obtain rfl:g=s.length:=by omega
 refine ky @er ?_
 rw[List.take_length]
 refine⟨_,(ke @er),trivial, ?_⟩
 rfl
def crcV (s:List UInt8):UInt32:= ~~~ (kT (~~~ (0:UInt32)) s)
def Tq (b:Nat) (s:List UInt8) (E:TypeId) (w:World) (hG:GlobC w) (hs:s.length<1099511627776) (ho:w.heap[b]? =some (.cells #[vs s] E (0,0))):
  Rets prog 121 #[vsl b 0 1 1] w (fun v D=>v=v32 (crcV s)∧D= []):=by
 have hS:StrS w (vsl b 0 1 1) [s] b 0 #[vs s] E (0,0):=StrS.lit [s] rfl rfl ho
 refine Rets.enterV func121 rfl (rs:= [.tmp 2]) results121 ntmps121 ?_
 refine kf ?_
 refine ky @er ?_
 refine Cw.loopG (G:=Nat) [9,10,11,5,12,13,14,3,15,8] (fun g=> [(3,v32 (if g=0 then 0 else crcV s)),(8,vi g)]) (fun g=> []) (fun g=>g≤1) (fun g=>1 - g) 0 rfl rfl ?_ ?_
 ·omega
 intro g j hg
 refine kv ?_
 by_cases aC:g<1
 ·obtain rfl:g=0:=by omega
  have uH:=hS.get 0 (by simp)
  have ce:=hS.has (by simp)
  have hix:=fun m=>hS.idx m 0 (by simp)
  ((try with_reducible refine Cw.go [] ?_);(try simp(disch:=first|exact dD|fail) only[↓Sx.S0,Sx.S1,fx,er,Nat.reduceAdd,Nat.reducePow,Int.reducePow,Nat.reduceBEq, ↓reduceIte,UInt8.reduceToNat,UInt16.reduceToNat,UInt32.reduceToNat,UInt64.reduceToNat,Int.reduceToNat,Sx.loadV_one,ce,uH,hix]))
  refine Ow.callFV rfl call146 (fun w' aA=>Si 0 s w' (GlobC.of hG aA (by simp[keys])) hs) ?_
  refine ko @er ?_
  refine ky @er ?_
  refine Again.mk 1 oM oM rfl rfl
 obtain rfl:g=1:=by omega
 refine ky @er ?_
 refine⟨_,(ke @er),trivial, ?_⟩
 rfl
def w7 (n:UInt32) (g:Nat):List UInt8:=(List.range 4).map fun j=>if j<g then UInt8.ofNat (fv n (8*j)).toNat else 0
def sum4 (n:UInt32):List UInt8:=w7 n 4
def BQ (n:UInt32) (g:Nat): (w7 n g).length=4:=by simp[w7]
def O_ (n:UInt32) (g:Nat) (h:g<4): (w7 n g).set g (UInt8.ofNat (fv n (8*g)).toNat)=w7 n (g+1):=by
 have:g=0∨g=1∨g=2∨g=3:=by omega
 rcases this with rfl|rfl|rfl|rfl<;>rfl
def nb (s:List UInt8):List UInt8:=s++sum4 (crcV s)
def Bp (s:List UInt8) (w:World) (hG:GlobC w) (hs:s.length<1099511627776):
  Rets prog 83 #[vs s] w (fun v D=>v=vs (nb s)∧D= []):=by
 have zr: (4:Nat)<w.heap.size:=by obtain⟨e,f,h⟩:=hG;exact(Array.getElem?_eq_some_iff.1 h).1
 refine Rets.enterV func83 rfl (rs:= [.tmp 2]) results83 ntmps83 ?_
 refine kf ?_
 refine ky @er ?_
 refine Ow.buildSlice (e:=9) #[vs s] rfl rfl kR fun b1 aW aI=> ?_
 refine ko @er ?_
 refine Ow.callFV rfl call121 (fun w' aA=>Tq b1 s _ w' (GlobC.of hG aA (by simp[keys];omega)) hs (aA.has _ _ am)) ?_
 refine ko @er ?_
 refine ky @er ?_
 unfold nb
 generalize crcV s=n
 refine Ow.alloc rfl rfl zr198 fun b2 aq bV=> ?_
 obtain⟨oe,-⟩:=aq
 refine ko @er ?_
 refine ky @er ?_
 rw[show a8 (List.replicate 4 0)=a8 (w7 n 0) from rfl]
 refine Cw.loopG (G:=Nat) [10,11,5,12,13,14,15,16,17,18,19,9] (fun g=> [(9,vi g)]) (fun g=> [(b1, .cells #[vs s] 9 (0,0)),(b2, .cells (a8 (w7 n g)) 198 (0,0))]) (fun g=>g≤4) (fun g=>4 - g) 0 rfl rfl ?_ ?_
 ·omega
 intro g j hg
 refine kv ?_
 have fc:=BQ n g
 by_cases aC:g<4
 ·refine ky @er ?_
  refine Again.mk (g+1) oM oM ?_ rfl
  rw[O_ n g aC]
 obtain rfl:g=4:=by omega
 refine ky @er ?_
 refine⟨_,(ke @er),⟨aI,bV,trivial⟩, ?_⟩
 rw[List.drop_zero,List.take_of_length_le oM];rfl
def d_ (s:List UInt8):List UInt8×Bool:=
 if s.length<4 then([],false) else if nb (s.take (s.length - 4))=s then(s.take (s.length - 4),true) else([],false)
def LW (s:List UInt8): (nb s).length=s.length+4:=by unfold nb sum4;rw[List.length_append,BQ]
def NB (s:List UInt8) (w:World) (hG:GlobC w) (hs:s.length<1099511627776):
  Rets prog 90 #[vs s] w (fun v D=>v= .tuple #[vs (d_ s).1, .bool (d_ s).2]∧D= []):=by
 refine Rets.enterV func90 rfl (rs:= [.tmp 2, .tmp 3]) results90 ntmps90 ?_
 refine kf ?_
 refine ky @er ?_
 unfold d_
 by_cases h4:s.length<4
 ·have e1:decide ((s.length:Int)<4)=true:=aK oM
  rw[if_pos h4]
  refine ky (aN @er @e1) ?_
  refine⟨_,(ke @er),trivial, ?_⟩
  rfl
 have e1:decide ((s.length:Int)<4)=false:=aO oM
 have e2: ((s.length:Int) - 4).toNat=s.length - 4:=by omega
 rw[if_neg h4]
 refine ky (aN @er (aN @e1 @e2)) ?_
 refine Ow.callFV rfl call83 (fun w' aA=>Bp (s.take (s.length - 4)) w' (GlobC.of hG aA (by simp[keys])) (by rw[List.length_take];omega)) ?_
 refine ko @er ?_
 cases hq: (nb (s.take (s.length - 4)) !=s)
 ·rw[if_pos (by simpa using hq)]
  refine ky (aN @er (aN @hq @e2)) ?_
  refine⟨_,(ke @er),trivial, ?_⟩
  rfl
 rw[if_neg (by simpa using hq)]
 refine ky (aN @er @hq) ?_
 refine⟨_,(ke @er),trivial, ?_⟩
 rfl
end Go.Proofs
end
section
open Go Go.Proofs Go.Sx Go.StP Go.Flo
namespace Go.Proofs
def magB:List UInt8:= [83,80,75,49]
def ul (s:List UInt8) (i a:Nat) (e:Int):PartL×Nat×Int:=
 (⟨decide (0< (aF s a e 200).1),if 0< (aF s a e 200).1 then(i:Int) - (aF s a e 200).1 else 0,(bL s (aF s a e 200).2.1 (aF s a e 200).2.2 65536).1⟩,(bL s (aF s a e 200).2.1 (aF s a e 200).2.2 65536).2)
def mi (s:List UInt8):Nat→Nat→Nat→Int→List PartL×List Nat×Nat×Int
 |0,_,a,e=>([],[],a,e)
 |k+1,i,a,e=>if(ul s i a e).2.2=0 then((ul s i a e).1:: (mi s k (i+1) (ul s i a e).2.1 0).1,a:: (mi s k (i+1) (ul s i a e).2.1 0).2.1,(mi s k (i+1) (ul s i a e).2.1 0).2.2) else([],[],(ul s i a e).2)
def jH (s:List UInt8):Int×Bool×Nat×Int:=
 if(bS s 0 0 4).1=magB then((aF s (bS s 0 0 4).2.1 (bS s 0 0 4).2.2 200).1,(aF s (bS s 0 0 4).2.1 (bS s 0 0 4).2.2 200).2.2==0,(aF s (bS s 0 0 4).2.1 (bS s 0 0 4).2.2 200).2) else(0,false,(bS s 0 0 4).2)
def kJ (s:List UInt8):List PartL×List Nat×Nat×Int:=mi s (jH s).1.toNat 0 (jH s).2.2.1 (jH s).2.2.2
instance:DecidableEq ObL:=fun a b=>if h:a.k=b.k∧a.t=b.t then .isTrue (by cases a;cases b;simp only at h;obtain⟨rfl,rfl⟩:=h;rfl) else .isFalse (fun e=>h (by rw[e];exact⟨rfl,rfl⟩))
def pY (l:List PartL):Nat→List ObL
 |0=> []
 |k+1=>match partV l (k:Nat) with
  | .ok s=>if f_ s=true∧lS s∉pY l k then pY l k++ [lS s] else pY l k
  | .error _=>pY l k
def kW (b:List UInt8):List ObL:=if(jH b).2.1=true then pY (kJ b).1 (kJ b).1.length else []
theorem WC_ {s:List UInt8}: ∀ (k i a:Nat) (e:Int),(mi s k i a e).1.length≤k∧(mi s k i a e).2.1.length=(mi s k i a e).1.length
 |0,i,a,e=>⟨bq _,rfl⟩
 |k+1,i,a,e=>by
  have:=WC_ (s:=s) k (i+1) (ul s i a e).2.1 0
  unfold mi
  split
  ·simp only[List.length_cons];omega
  simp
def QK {b d:List UInt8} (_h: (m4 b d).2=0): (m4 b d).1.length≤4099:=by
 unfold m4
 split
 ·simp
 rename_i p hp
 split
 ·simp
 rename_i hb
 obtain⟨m,hm⟩:=C8 hp
 rw[show p.1=b.length by omega] at hm
 have hk:chkV (b.length:Nat) p.2=(((eS (b.length:Nat) p.2:Nat):Int),(0:Int)):=by
  unfold chkV at hm ⊢
  split at hm
  ·cases hm
  rename_i h1
  rw[if_neg h1]
  split at hm
  ·cases hm
  rename_i h2
  rw[if_neg h2]
  split at hm
  ·cases hm
  rename_i h3;rw[if_neg h3]
 obtain⟨-,-,h1,h2,-⟩:=ws hk
 show(txtP b p.2).length≤4099
 rw[wj h1]
 exact h2
def Ru {l:List PartL} {a:Int} {s:List UInt8} (h:partV l a= .ok s):s.length≤4099:=by
 unfold partV at h
 cases hp:kQ l a with
 |error e=>rw[hp] at h;cases h
 |ok p=>
  rw[hp] at h
  change kS l p= .ok s at h
  cases p with
  |nil=>cases h;simp
  |cons x p=>
   unfold kS at h
   cases hf:kS l p with
   |error e=>rw[hf] at h;cases h
   |ok t=>
    rw[hf] at h
    change(if(ir (l.getD x gL) t).2=0 then _ else _)=_ at h
    split at h
    ·rename_i h0
     cases h
     unfold ir at h0 ⊢
     split
     ·rename_i hd;rw[if_pos hd] at h0;exact QK h0
     rename_i hd
     split
     ·simp
     show(l.getD x gL).x.length≤4099;omega
    cases h
def ru {D:aB} {E:TypeId} {m n:Nat} {v:Value} {cs:List Value} (h:GrI D E m v n cs) (x:Bool×Nat):gY (.sl x) v=some (vi n):=by
 obtain⟨X,-,h⟩:=h;exact h.len x
def PJ (p:PartL) (E:TypeId) (a:Bool) (x:Bool):ad (some (a,1)) (some (.cells (dL p).toArray E (0,0))) 0 (.bool x)=some (.cells (dL ⟨x,p.b,p.x⟩).toArray E (0,0)):=(rfl)
def Nn (p:PartL) (E:TypeId) (a:Bool) (x:Int):ad (some (a,1)) (some (.cells (dL p).toArray E (0,0))) 1 (vi x)=some (.cells (dL ⟨p.d,x,p.x⟩).toArray E (0,0)):=(rfl)
def R6 (p:PartL) (E:TypeId):aG (some (true,3)) (some (.cells (dL p).toArray E (0,0))) 0=some (.agg (dL p).toArray):=Am (n:=3) [] (dL p) [] E (0,0) rfl rfl
def OM (t:List UInt8):dl (cC prog 245) (an prog 245) [(2,vs t)]=some (.agg (dL ⟨false,0,t⟩).toArray):=by
 rw[show cC prog 245=some [(0,1),(1,1),(2,1)] from id kR,qY];rfl
abbrev ObSl (w:World) (v:Value) (l:List ObL):Prop:=SlV 2 obC ob0 w v l
def pI {w0:World} {L X D:aB} (hC:Came w0 L X D) (hX:New w0.heap.size X):New w0.heap.size D:=New.of_le fun c hc=>by
 rcases hC.new c hc with h| ⟨-,h⟩
 ·exact hX.le c h
 exact h
def Fk (l:List PartL):Prop:= ∀g,g<l.length→(l.getD g gL).x.length≤17000000
def eqDi (a b:Int):eqD prog 7 3 (vi a) (vi b)=some (a==b):=by unfold eqD;rw[underlying3];rfl
def eqDs (a b:List UInt8):eqD prog 7 9 (vs a) (vs b)=some (a==b):=by unfold eqD;rw[underlying9];simp only[vs,oV]
def agI:aR prog 3=some (false,1):=id kR
def agS:aR prog 9=some (false,1):=id kR
def GK (a b:ObL):eqD prog 8 33 (obV a.k a.t) (obV b.k b.t)=some (decide (a=b)):=by
 have p0: ∀o:ObL,Sx.partV (false,1) #[vi o.k,vs o.t] 0=some (vi o.k):=fun _=>rfl
 have p1: ∀o:ObL,Sx.partV (false,1) #[vi o.k,vs o.t] 1=some (vs o.t):=fun _=>rfl
 unfold eqD obV
 rw[underlying33]
 simp only
 rw[show Tryz.prog.stoodInHeld 33=false by kernel_rfl]
 simp only[Bool.false_eq_true, ↓reduceIte,AI,sx,agI,agS,p0,p1,eqDi,eqDs]
 obtain⟨k,t⟩:=a
 obtain⟨k',t'⟩:=b
 have e:decide ((⟨k,t⟩:ObL)=⟨k',t'⟩)=((k==k')&& (t==t')):=by rw[Bool.eq_iff_iff];simp
 rw[e]
 cases(k==k')<;>cases(t==t')<;>rfl
def ZT (a b:ObL):bF prog .eql 33 (obV a.k a.t) (obV b.k b.t)=some (.bool (decide (a=b))):=by
 have h:=GK a b
 unfold bF eqX obV at*;rw[show Tryz.prog.eqGuardType Tryz.prog.depth 33=false by kernel_rfl];simp[eu,h]
def Zt (a b:ObL):bF prog .neq 33 (obV a.k a.t) (obV b.k b.t)=some (.bool (!decide (a=b))):=by
 have h:=GK a b
 unfold bF eqX obV at*;rw[show Tryz.prog.eqGuardType Tryz.prog.depth 33=false by kernel_rfl];simp[eu,h]
instance:DecidableEq PartL:=fun a b=>if h:a.d=b.d∧a.b=b.b∧a.x=b.x then .isTrue (by cases a;cases b;simp only at h;obtain⟨rfl,rfl,rfl⟩:=h;rfl) else .isFalse (fun e=>h (by rw[e];exact⟨rfl,rfl,rfl⟩))
def Wb (s:List UInt8): ∃n:Nat,(jH s).1=n∧n≤200:=by
 unfold jH
 split
 ·have:=sZ (s:=s) (a:=(bS s 0 0 4).2.1) (e:=(bS s 0 0 4).2.2) (most:=200) oM
  exact⟨(aF s (bS s 0 0 4).2.1 (bS s 0 0 4).2.2 200).1.toNat,by simp only;omega,by omega⟩
 exact⟨0,rfl,by omega⟩
def R1 (s:List UInt8) (a:Nat) (e most:Int) (hm:0≤most): ((bL s a e most).1.length:Int)≤most:=by
 have h1:=sZ (s:=s) (a:=a) (e:=e) (most:=most) hm
 have h2: ∀ (b:Nat) (e n:Int),0≤n→((bS s b e n).1.length:Int)≤n:=by
  intro b e n hn
  unfold bS
  split
  ·simpa using hn
  split
  ·simpa using hn
  split
  ·simpa using hn
  simp only[List.length_take,List.length_drop];omega
 unfold bL
 simp only
 split
 ·simpa using hm
 have:=h2 (aF s a e most).2.1 (aF s a e most).2.2 (aF s a e most).1 h1.1
 omega
theorem CR {s:List UInt8}: ∀ (k i a:Nat) (e:Int) (p:PartL),p∈ (mi s k i a e).1→p.x.length≤65536
 |0,i,a,e,p,h=>by cases h
 |k+1,i,a,e,p,h=>by
  unfold mi at h
  split at h
  ·rcases List.mem_cons.1 h with rfl|h
   ·have:=R1 s (aF s a e 200).2.1 (aF s a e 200).2.2 65536 oM
    show(bL s (aF s a e 200).2.1 (aF s a e 200).2.2 65536).1.length≤65536
    omega
   exact CR k _ _ _ p h
  cases h
def Oc (s:List UInt8):Fk (kJ s).1:=fun g hg=>Nat.le_trans (CR _ _ _ _ _ (n_ hg)) oM
def Cp (s:List UInt8): (kJ s).1.length≤200∧(kJ s).2.1.length=(kJ s).1.length:=by
 obtain⟨n,hn,dc⟩:=Wb s
 have:=WC_ (s:=s) (jH s).1.toNat 0 (jH s).2.2.1 (jH s).2.2.2
 unfold kJ
 rw[hn,Int.toNat_natCast] at this ⊢
 omega
def E6 {D:aB} {E:TypeId} {m n:Nat} {v:Value} {cs:List Value} (h:GrI D E m v n cs):Value.oneCell' v=true∧v.cells= #[v]:=by
 obtain⟨X,hX,h⟩:=h;exact h.cell
end Go.Proofs
end
section
open Go Go.Proofs Go.Sx Go.Dig
namespace Go.Proofs
def iO:=aN @av @au
def Vs (id:List UInt8) (lu:id.length=32) (w:World):Rets prog 65 #[.agg (a8 id)] w (fun v D=>v=vs (aL id)∧D= []):=by
 refine Rets.enterV func65 rfl (rs:= [.tmp 2]) results65 ntmps65 ?_
 refine kf ?_
 refine ky @iO ?_
 refine Ow.box rfl rfl fun b1 aW aI=> ?_
 refine ko @iO ?_
 refine ky @iO ?_
 refine Ow.alloc rfl rfl zr179 fun b2 aq bV=> ?_
 refine ko @iO ?_
 refine ky @iO ?_
 obtain⟨oe,-⟩:=aq
 refine Cw.loopG (G:=Nat) [8,9,10,4,5,11,12,13,14,15,16,17,18,19,20,21,22,23,24,7] (fun g=> [(7,vi g)]) (fun g=> [(b1, .cells (a8 id) 39),(b2, .cells (a8 (ui id g)) 179)]) (fun g=>g≤32) (fun g=>32 - g) 0 rfl rfl ?_ ?_
 ·omega
 intro g j hg
 refine kv ?_
 by_cases aC:g<32
 ·have hl:=XP_ id g lu hg
  refine ky @iO ?_
  have h4:=WP (id.getD g 0)
  have h15:=Vw (id.getD g 0)
  refine Cw.regionO [0,1,2,3,4,5,6,7,8,9,10,11,12,13,14] [12,14] rfl kR kR ?_
  simp only[ai, ↓ah, ↓ab, ↓ag, ↓ae,ac]
  refine kq @iO ?_
  refine Ow.store rfl rfl rfl (ke @iO) ?_
  refine ko @iO ?_
  refine ky @iO ?_
  refine Again.mk (g+1) oM oM ?_ rfl
  exact congrArg (fun l=> [(b1,Obj.cells (a8 id) 39),(b2,Obj.cells (a8 l) 179)]) (PW id g lu aC _ _ (YV _) (VK _))
 have nI:g=32:=by omega
 subst nI
 have hl:=XP_ id 32 lu oM
 refine ky @iO ?_
 exact⟨_,rfl,⟨aI,bV,trivial⟩,by show vs _=_;rw[List.drop_zero,List.take_of_length_le oM,Qb id lu]⟩
def A8 (id:List UInt8) (lu:id.length=32) (w:World):Rets prog 32 #[.agg (a8 id)] w (fun v D=>v=vs (aL id)∧D= []):=by
 refine Rets.enterV func32 rfl (rs:= [.tmp 2]) results32 ntmps32 ?_
 refine kf ?_
 refine ky @iO ?_
 refine Ow.box rfl rfl fun b1 _ aI=> ?_
 refine ko @iO ?_
 refine ky @iO ?_
 refine Cw.loopG (G:=Nat) [7,8,11,12,13,14,15,16,17,18,19,20,5,6,21,22,23,24,25,26,27,28,29,30,31,3,9,10,4] (fun g=> [(4,vi g),(3,vs (aL (id.take g)))]) (fun g=> [(b1, .cells (a8 id) 39)]) (fun g=>g≤32) (fun g=>32 - g) 0 rfl rfl ?_ ?_
 ·omega
 intro g j hg
 refine kv ?_
 by_cases aC:g<32
 ·have hl: (aL (id.take g)).length≤64:=by rw[pR,List.length_take];omega
  have hx:=(id.getD g 0).toNat_lt
  have e1: ((hexL.take ((id.getD g 0).toNat / 16+1)).drop ((id.getD g 0).toNat / 16))=_:=Fd0 _ oM
  have e2: ((hexL.take ((id.getD g 0).toNat%16+1)).drop ((id.getD g 0).toNat%16))=_:=Fd0 _ oM
  simp only[hexL] at e1 e2
  refine ky @iO ?_
  refine Cw.regionO [0,1,5,6,2,3,4,10,7,8,9,11] [] rfl kR kR ?_
  simp only[ai, ↓ah, ↓ab, ↓ag, ↓ae,ac]
  refine kq @iO ?_
  refine ky @iO ?_
  refine Cw.regionO [0,1,2,3,4,5,6,7,8,9,10,11] [] rfl kR kR ?_
  simp only[ai, ↓ah, ↓ab, ↓ag, ↓ae,ac]
  refine kq (aN @iO (aN @e1 @e2)) ?_
  refine ky @iO ?_
  refine Again.mk (g+1) oM oM rfl ?_
  rw[TI id g lu aC]
  rfl
 have nI:g=32:=by omega
 subst nI
 refine ky @iO ?_
 exact⟨_,rfl,⟨aI,trivial⟩,by show vs _=_;rw[List.take_of_length_le oM]⟩
def Ma (s p:List UInt8) (w:World) (_hs:s.length<1099511627776):Rets prog 152 #[vs s,vs p] w (fun v D=>v= .bool (decide (p.length≤s.length)&& (s.take p.length==p))∧D= []):=by
 refine Rets.enterV func152 rfl (rs:= [.tmp 4]) results152 ntmps152 ?_
 refine kf ?_
 by_cases h:p.length≤s.length
 ·have e1:decide ((p.length:Int)≤ (s.length:Int))=true:=aK oM
  refine ky (aN @iO @e1) ?_
  refine⟨_,(ke @iO),trivial, ?_⟩
  simp[cM,h]
 have e1:decide ((p.length:Int)≤ (s.length:Int))=false:=aO oM
 refine ky (aN @iO @e1) ?_
 refine⟨_,(ke @iO),trivial, ?_⟩
 simp[cM,h]
end Go.Proofs
end
section
open Go Go.Proofs Go.Sx Go.StP Go.Flo Go.Dig
namespace Go.Proofs
section
variable {P:Program} {w0:World} {f:Fr} {L:aB} {N:Fr→aB→Prop} {ops:Array Oper} {rest:List Oper} {md:Md} {d:Option Tmp} {ty:TypeId} {ps:String} {af:Array Edge} {g:Option (Nat×Bool)}
end
end Go.Proofs
end
section
open Go Go.Proofs Go.Sx Go.StP Go.Flo
namespace Go.Proofs
abbrev qv (w:World) (v:Value) (l:List (List UInt8)):Prop:=SlV 1 strC [] w v l
def Ac {w:World} {v:Value} {l:List (List UInt8)} {b off:Nat} {arr:Array Value} {E:TypeId} {fz:Nat×Nat} (h:RowS 1 strC [] w v l b off arr E fz) {k:Nat} (hk:k<l.length) (n:Nat):
  aG (some (false,n)) (some (.cells arr E fz)) (off+k)=some (vs (l.getD k [])):=by
 have:=h.cell (j:=0) (n:=n) hk oM
 rwa [Nat.mul_one,Nat.add_zero] at this
end Go.Proofs
end
