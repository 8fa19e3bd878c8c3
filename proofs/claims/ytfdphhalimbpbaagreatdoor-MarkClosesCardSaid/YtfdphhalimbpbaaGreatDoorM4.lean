/-
  Part 4 of the walk: contracts of the functions that the law reaches, and the calculus they stand on.
  No conditions.
-/
import Derived.Test.YtfdphhalimbpbaaGreatDoorM3
import Derived.ProofKit
import Derived.OpenShut
import Derived.WideKeyArgs
import Derived.ChangeSame
import Derived.ChangeMaps5
import Derived.Lib.LaidTab
import Derived.SliceStrings
import Derived.DataReads
import Derived.Deep.Strs
section
open Go Go.Proofs Go.Sx Go.StP Go.RooP
namespace Go.Proofs
set_option maxRecDepth 10000
set_option maxHeartbeats 400000
set_option linter.unusedSimpArgs false
set_option linter.defProp false
def gx:=And.intro (And.intro (@cP) (@cO)) (And.intro (@j6) (And.intro (@mB) (@pw)))
theorem GF (v:Value) (l:List IdL) (x:IdL) (w:World) (hv:RowX 32 aJ id0 w v l []) (hl:l.length<1000000):
  Rets Tryz.prog 31 #[v, .agg (a8 x.l)] w (fun v' D=>v'= .bool (decide (x∈l))∧D= []):=by
 obtain⟨b,off,arr,E,fz,hr,-⟩:=hv
 have ln:=fun x=>hr.len x
 have hx:=x.h
 refine Rets.enterV Tryz.func31 rfl (rs:= [.tmp 4]) Tryz.results31 Tryz.ntmps31 ?_
 refine kf ?_
 first|with_reducible refine ks [] @gx ?_|refine kp @gx ?_
 refine Ow.box rfl rfl fun b1 bJ aG=> ?_
 simp only[bp,bj,cJ,aU,List.nil_append,List.cons_append]
 refine Ow.go rfl ?_
 simp(disch:=(first|assumption|omega| (simp only[ac,ab,UInt64.reduceToNat];try omega))) only[↓Sx.S0,Sx.S1,Tryz.fx,gx,Nat.reduceAdd,Nat.reducePow,Int.reducePow,Nat.reduceBEq, ↓reduceIte,UInt8.reduceToNat,UInt16.reduceToNat,UInt32.reduceToNat,UInt64.reduceToNat,Int.reduceToNat]
 first|with_reducible refine ks [] @gx ?_|refine kp @gx ?_
 refine Cw.loopG (G:=Nat) [6,7,8,9,12,13,14,15,16,17,4,10,11,5] (fun g=> [(5,vi g)]) (fun g=> [(b1, .cells (a8 x.l) 24 (0,0))]) (fun g=>g≤l.length∧x∉l.take g) (fun g=>l.length - g) 0 rfl rfl ?_ ?_
 ·exact⟨Nat.zero_le _,by simp⟩
 intro k jk hk
 refine kv ?_
 obtain⟨h1,h2⟩:=hk
 by_cases hk:k<l.length
 ·have dg:=hr.lt (by omega)
  have jI:b1≠b:=by omega
  have r2:=hr.has (by omega)
  have i2:=hr.idx true k hk
  have l2:=rR hr hk
  have RP:l.getD k id0∈l:=by
   rw[List.getD_eq_getElem?_getD,List.getElem?_eq_getElem hk];exact List.getElem_mem _
  have dj:=StP.take_snoc (z:=id0) hk
  have d1:decide ((k:Int)< (l.length:Int))=true:=decide_eq_true (by omega)
  generalize l.getD k id0=y at*
  first|with_reducible refine ks [] (And.intro @gx (And.intro @ln (@d1))) ?_|refine kp (And.intro @gx (And.intro @ln (@d1))) ?_
  refine Cw.regionS [b1,b] [0,1,2,3,4,5] [] (by kernel_rfl) (by kernel_rfl) (by kernel_rfl) ?_
  simp only[aN, ↓aM, ↓aH, ↓aL, ↓aK,aI]
  refine kq (And.intro @gx (And.intro @i2 (And.intro @r2 (@l2)))) ?_
  cases hq: (y.l==x.l)
  ·first|with_reducible refine ks [] @gx ?_|refine kp @gx ?_
   refine Again.mk (k+1) (by omega) ⟨hk, ?_⟩ rfl rfl
   rw[dj,List.mem_append,List.mem_singleton]
   rintro(h|h)
   ·exact h2 h
   ·subst h;simp at hq
  ·have e:x∈l:=by rw[←IdL.ext2 (eq_of_beq hq)];exact RP
   rw[decide_eq_true e]
   first|with_reducible refine ks [] @gx ?_|refine kp @gx ?_
   refine⟨_,(ke @gx),⟨aG,trivial⟩, ?_⟩
   rfl
 ·obtain rfl:k=l.length:=by omega
  rw[List.take_length] at h2
  rw[decide_eq_false h2]
  have d1:decide ((l.length:Int)< (l.length:Int))=false:=by simp
  first|with_reducible refine ks [] (And.intro @gx (And.intro @ln (@d1))) ?_|refine kp (And.intro @gx (And.intro @ln (@d1))) ?_
  refine⟨_,(ke @gx),⟨aG,trivial⟩, ?_⟩
  rfl
def cC (o:ObK):List Value:= [vi o.k,vs o.t]
theorem vg (o:ObK): (cC o).length=2:=rfl
theorem EM (o:ObK): (cC o).all Value.oneCell'=true:=rfl
theorem rQ {w:World} {v:Value} {l:List ObK} {b off:Nat} {arr:Array Value} {E:TypeId} {fz:Nat×Nat} (h:RowS 2 cC a_ w v l b off arr E fz) {k:Nat} (hk:k<l.length):
  aS (some (true,2)) (some (.cells arr E fz)) (off+k*2)=some (obV (l.getD k a_).k (l.getD k a_).t):=RowS.load h vg (by omega) hk
def bn (l:List ObK):bR:=fun i=>match l.find? (fun o=>decide (idK o=i)) with|some o=>(o,true) |none=>(a_,false)
theorem GY (l:List ObK):bn (l.filter rdK)=srcD l:=rfl
theorem Lp (a b:Value) (E:TypeId) (n:Nat) (fz:Nat×Nat):aS (some (false,n)) (some (.cells #[a,b] E fz)) 0=some a:=(rfl)
theorem LU (a b:Value) (E:TypeId) (n:Nat) (fz:Nat×Nat):aS (some (false,n)) (some (.cells #[a,b] E fz)) 1=some b:=(rfl)
theorem Ld (a b:Value) (E:TypeId) (fz:Nat×Nat):aS (some (true,2)) (some (.cells #[a,b] E fz)) 0=some (.agg #[a,b]):=(rfl)
theorem qt (x y:Int) (s t:List UInt8) (E:TypeId):aZ (some (true,2)) (some (Obj.cells #[vi x,vs s] E (0,0))) 0 (obV y t)=some (.cells #[vi y,vs t] E (0,0)):=(rfl)
set_option linter.defProp false
def g9:=And.intro (And.intro (And.intro (@cP) (@cO)) (And.intro (@j6) (@mB))) (And.intro (And.intro (@pw) (@Lp)) (And.intro (@LU) (And.intro (@qt) (@gB))))
theorem Di (vL vI:Value) (l:List ObK) (i:IdL) (w:World) (hL:RowX 2 cC a_ w vL l []) (hI:RowX 32 aJ id0 w vI (l.map idK) []) (hl:l.length<1000000):
  Rets Tryz.prog 18 #[.agg #[vL,vI], .agg (a8 i.l)] w (fun v D=>v= .tuple #[obKV (bn l i).1, .bool (bn l i).2]∧D= []):=by
 obtain⟨b1,off1,arr1,E1,fz1,nQ,-⟩:=hL
 obtain⟨b2,off2,arr2,E2,fz2,mX,-⟩:=hI
 have ln2:=fun x=>mX.len x
 rw[List.length_map] at ln2
 have hi:=i.h
 refine Rets.enterV Tryz.func18 rfl (rs:= [.cell 4 35, .tmp 5]) Tryz.results18 Tryz.ntmps18 ?_
 refine kf ?_
 first|with_reducible refine ks [] @g9 ?_|refine kp @g9 ?_
 refine Ow.box rfl rfl fun b3 cQ bA=> ?_
 simp only[bp,bj,cJ,aU,List.nil_append,List.cons_append]
 refine Ow.go rfl ?_
 simp(disch:=(first|assumption|omega| (simp only[ac,ab,UInt64.reduceToNat];try omega))) only[↓Sx.S0,Sx.S1,Tryz.fx,g9,Nat.reduceAdd,Nat.reducePow,Int.reducePow,Nat.reduceBEq, ↓reduceIte,UInt8.reduceToNat,UInt16.reduceToNat,UInt32.reduceToNat,UInt64.reduceToNat,Int.reduceToNat]
 refine Ow.box rfl rfl fun b4 dN cB=> ?_
 simp only[bp,bj,cJ,aU,List.nil_append,List.cons_append]
 refine Ow.go rfl ?_
 simp(disch:=(first|assumption|omega| (simp only[ac,ab,UInt64.reduceToNat];try omega))) only[↓Sx.S0,Sx.S1,Tryz.fx,g9,Nat.reduceAdd,Nat.reducePow,Int.reducePow,Nat.reduceBEq, ↓reduceIte,UInt8.reduceToNat,UInt16.reduceToNat,UInt32.reduceToNat,UInt64.reduceToNat,Int.reduceToNat]
 obtain⟨qN,-⟩:=dN
 refine Ow.alloc rfl rfl gC fun b5 cx eF=> ?_
 simp only[aU,List.nil_append,List.cons_append]
 obtain⟨QY,Sg,-⟩:=cx
 refine ko @g9 ?_
 first|with_reducible refine ks [] @g9 ?_|refine kp @g9 ?_
 refine Cw.loopG (G:=Nat) [7,8,9,10,11,14,15,16,17,18,19,20,21,22,23,24,25,5,12,13,6] (fun g=> [(6,vi g)]) (fun g=> [(b3, .cells #[vL,vI] 32 (0,0)),(b4, .cells (a8 i.l) 24 (0,0)),(b5, .cells #[vi 0,vs []] 35 (0,0))]) (fun g=>g≤l.length∧bn l i=bn (l.drop g) i) (fun g=>l.length - g) 0 rfl rfl ?_ ?_
 ·exact⟨Nat.zero_le _,rfl⟩
 intro k jk hk
 refine kv ?_
 obtain⟨h1,h2⟩:=hk
 rw[h2]
 by_cases hk:k<l.length
 ·have ap:k< (l.map idK).length:=by rw[List.length_map];exact hk
  have kP:=mX.lt (by omega)
  have jl:=nQ.lt (by omega)
  have r1: ∀x y z,aO w [(b3,x),(b4,y),(b5,z)] b1=some (.cells arr1 E1 fz1):=fun x y z=>by rw[dD _ _ _ _ _ (by omega),dD _ _ _ _ _ (by omega),dD _ _ _ _ _ (by omega),wB];exact nQ.has (by omega)
  have r2: ∀x y z,aO w [(b3,x),(b4,y),(b5,z)] b2=some (.cells arr2 E2 fz2):=fun x y z=>by rw[dD _ _ _ _ _ (by omega),dD _ _ _ _ _ (by omega),dD _ _ _ _ _ (by omega),wB];exact mX.has (by omega)
  have i1:=nQ.idx true k hk
  have l1:=rQ nQ hk
  have i2:=mX.idx true k ap
  have l2:=rR mX ap
  have eg: (l.map idK).getD k id0=idK (l.getD k a_):=by
   rw[List.getD_eq_getElem?_getD,List.getD_eq_getElem?_getD,List.getElem?_eq_getElem ap,List.getElem?_eq_getElem hk];simp
  rw[eg] at l2
  have RH:=StP.drop_cons (z:=a_) hk
  have d1:decide ((k:Int)< (l.length:Int))=true:=decide_eq_true (by omega)
  generalize l.getD k a_=o at*
  have qm:bn (l.drop k) i=if idK o=i then(o,true) else bn (l.drop (k+1)) i:=by
   rw[RH]
   unfold bn
   rw[List.find?_cons]
   by_cases h:idK o=i<;>simp[h]
  first|with_reducible refine ks [] (And.intro @g9 (And.intro @ln2 (@d1))) ?_|refine kp (And.intro @g9 (And.intro @ln2 (@d1))) ?_
  refine Cw.regionS [b3,b4,b2] [0,2,1,3,4,5,6] [] (by kernel_rfl) (by kernel_rfl) (by kernel_rfl) ?_
  simp only[aN, ↓aM, ↓aH, ↓aL, ↓aK,aI]
  refine kq (And.intro @g9 (And.intro @i2 (And.intro @r2 (@l2)))) ?_
  cases hq: ((idK o).l==i.l)
  ·have e: ¬idK o=i:=fun h=>by rw[h] at hq;simp at hq
   rw[if_neg e] at qm
   first|with_reducible refine ks [] @g9 ?_|refine kp @g9 ?_
   exact Again.mk (k+1) (by omega) ⟨hk,qm⟩ rfl rfl
  ·have e:idK o=i:=IdL.ext2 (eq_of_beq hq)
   rw[if_pos e] at qm
   rw[qm]
   first|with_reducible refine ks [] (And.intro @g9 (And.intro @i1 (And.intro @r1 (@l1)))) ?_|refine kp (And.intro @g9 (And.intro @i1 (And.intro @r1 (@l1)))) ?_
   refine⟨_,(ke @g9),⟨bA,cB,eF,trivial⟩, ?_⟩
   rfl
 ·obtain rfl:k=l.length:=by omega
  have d1:decide ((l.length:Int)< (l.length:Int))=false:=by simp
  have qm:bn (l.drop l.length) i=(a_,false):=by rw[List.drop_length];rfl
  rw[qm]
  first|with_reducible refine ks [] (And.intro @g9 (And.intro @ln2 (@d1))) ?_|refine kp (And.intro @g9 (And.intro @ln2 (@d1))) ?_
  refine Ow.build (obV 0 []) rfl xp ?_
  refine ko @g9 ?_
  refine⟨_,(ke @g9),⟨bA,cB,eF,trivial⟩, ?_⟩
  rfl
theorem oe {o:ObK} (h:rdK o=true):Dig.shaR (mp o.k o.t)=(idK o).l:=by
 have h':bN o.k o.t=true:=h
 have e:idK o=⟨Dig.shaR (gh o.k o.t),wR _⟩:=if_pos h'
 rw[e]
 exact congrArg Dig.shaR (Cm h')
theorem LX (o:ObK):jR Tryz.prog 22 1 [(0,obV o.k o.t)]=some (35,(cC o).toArray):=
 gw Tryz.underlying22 Tryz.ag35 gC (by decide) (vg o)
theorem BR:eP (dK Tryz.prog 32) (aw Tryz.prog 32) []=some (.agg #[.slice none 0 0, .slice none 0 0]):=id (by kernel_rfl)
theorem tP:aw Tryz.prog 32=some (.agg #[.slice none 0 0, .slice none 0 0]):=id (by kernel_rfl)
theorem BM (a b v:Value) (E:TypeId) (h:Value.oneCell' v=true∧v.cells= #[v]):aZ (some (false,1)) (some (.cells #[a,b] E (0,0))) 0 v=some (.cells #[v,b] E (0,0)):=by
 simp[aZ,h,bQ]
theorem Az (a b v:Value) (E:TypeId) (h:Value.oneCell' v=true∧v.cells= #[v]):aZ (some (false,1)) (some (.cells #[a,b] E (0,0))) 1 v=some (.cells #[a,v] E (0,0)):=by
 simp[aZ,h,bQ]
theorem Bo (E:TypeId):aZ (some (true,2)) (some (.cells #[.slice none 0 0, .slice none 0 0] E (0,0))) 0 (.agg #[.slice none 0 0, .slice none 0 0])=some (.cells #[.slice none 0 0, .slice none 0 0] E (0,0)):=(rfl)
theorem Ce (a b x y:Value) (E:TypeId) (hx:Value.oneCell' x=true) (hy:Value.oneCell' y=true):aZ (some (true,2)) (some (.cells #[a,b] E (0,0))) 0 (.agg #[x,y])=some (.cells #[x,y] E (0,0)):=by
 simp[aZ,hx,hy,bQ,aU]
structure MkOdG where
 i:Nat
 vL:Value
 vI:Value
 DL:a6
 DI:a6
 DG:a6
def fl (l:List ObK) (i:Nat):List ObK:=(l.take i).filter rdK
theorem Hi (l:List ObK) (i:Nat): (fl l i).length≤i:=Nat.le_trans (List.length_filter_le _ _) (by rw[List.length_take];omega)
theorem Gb {l:List ObK} {i:Nat} (h:i<l.length):fl l (i+1)=if rdK (l.getD i a_)=true then fl l i++ [l.getD i a_] else fl l i:=by
 unfold fl
 rw[StP.take_snoc (z:=a_) h,List.filter_append]
 generalize l.getD i a_=o
 by_cases hr:rdK o=true
 ·rw[if_pos hr,List.filter_cons,if_pos hr];rfl
 ·rw[if_neg hr,List.filter_cons,if_neg hr];simp
set_option linter.defProp false
def dQ:=And.intro (And.intro (And.intro (@cP) (@cO)) (And.intro (@Lp) (@LU))) (And.intro (And.intro (@Ld) (@qt)) (And.intro (@gB) (@Bo)))
theorem Fq (v:Value) (l:List ObK) (w:World) (hv:RowX 2 cC a_ w v l []) (hl:l.length<100000) (ht: ∀o,o∈l→o.t.length<100000):
  Rets Tryz.prog 17 #[v] w (XS w [] (fun v' D=> ∃vL vI,v'= .agg #[vL,vI]∧GrI D 35 2 vL (l.filter rdK).length ((l.filter rdK).map cC).flatten∧GrI D 24 32 vI ((l.filter rdK).map idK).length (((l.filter rdK).map idK).map aJ).flatten)):=by
 obtain⟨rb,off,arr,E,fz,hr,-⟩:=hv
 have ln:=fun x=>hr.len x
 refine Rets.enterX Tryz.func17 rfl (rs:= [.cell 2 32]) Tryz.results17 Tryz.ntmps17 (fun p hp=>by cases hp) (by simp[keys]) ?_
 refine kf ?_
 first|with_reducible refine ks [] @dQ ?_|refine kp @dQ ?_
 refine Ow.alloc rfl rfl tP fun b2 ck ar=> ?_
 simp only[aU,List.nil_append,List.cons_append]
 refine ko @dQ ?_
 first|with_reducible refine ks [] @dQ ?_|refine kp @dQ ?_
 refine Ow.build (.agg #[.slice none 0 0, .slice none 0 0]) rfl BR ?_
 refine ko @dQ ?_
 refine Ow.alloc rfl rfl tP fun b3 cQ bA=> ?_
 simp only[aU,List.nil_append,List.cons_append]
 have mE:b2<b3:=aP cQ (by simp[keys])
 refine Ow.permL (M:= [(b3, .cells #[.slice none 0 0, .slice none 0 0] 32 (0,0)),(b2, .cells #[.slice none 0 0, .slice none 0 0] 32 (0,0))]) (by classical exact List.perm_iff_count.2 fun a=>by simp only[List.count_append,List.count_cons,List.count_nil]<;>omega) ?_
 refine ko @dQ ?_
 first|with_reducible refine ks [] @dQ ?_|refine kp @dQ ?_
 refine Cw.loopG (G:=MkOdG) [6,7,8,9,12,13,14,15,16,17,18,19,20,21,22,23,24,25,26,27,28,29,30,31,32,33,34,35,10,11,4] (fun g=> [(4,vi g.i)]) (fun g=>g.DL++ ((b3, .cells #[g.vL,g.vI] 32 (0,0)):: (b2, .cells #[.slice none 0 0, .slice none 0 0] 32 (0,0)):: (g.DI++g.DG))) (fun g=>g.i≤l.length∧Gr g.DL 35 2 g.vL (fl l g.i).length ((fl l g.i).map cC).flatten∧Gr g.DI 24 32 g.vI ((fl l g.i).map idK).length (((fl l g.i).map idK).map aJ).flatten∧New w.heap.size g.DL∧New w.heap.size g.DI∧New w.heap.size g.DG) (fun g=>l.length - g.i) ⟨0, .slice none 0 0, .slice none 0 0,[],[],[]⟩ rfl rfl ?_ ?_
 ·exact⟨Nat.zero_le _,Gr.nl,Gr.nl,trivial,trivial,trivial⟩
 intro g j hg
 refine kv ?_
 obtain⟨i,vL,vI,DL,DI,DG⟩:=g
 simp only at hg ⊢
 obtain⟨hi,tk,tj,p7,qV,p6⟩:=hg
 refine Cw.world fun wz ej=> ?_
 have dh:=ej.nodup
 clear ej wz
 have uZ:=dh
 rw[aT,List.nodup_append] at uZ
 obtain⟨-,ua,mT⟩:=uZ
 have Mf:b3∉keys DL:=fun h=>mT b3 h b3 (by simp[keys]) rfl
 have SW:b2∉keys DL:=fun h=>mT b2 h b2 (by simp[keys]) rfl
 simp only[keys,List.map_cons,List.map_append,List.nodup_cons,List.mem_cons,List.mem_append,not_or] at ua
 obtain⟨⟨-,Me,Sb⟩,⟨SV,SU⟩,-⟩:=ua
 have N0:=Hi l i
 have lb3:=fun Y=>cp (D:=DL) (Y:=Y) (o:= .cells #[vL,vI] 32 (0,0)) Mf
 have rb3:=fun Y=>ah (w0:=w) (lb3 Y)
 by_cases aC:i<l.length
 ·have jn:=hr.lt (by omega)
  have rd: ∀L:a6,(∀c,c∈keys L→w.heap.size≤c)→aO w L rb=some (.cells arr E fz):=fun L hL=>by
   rw[jT (fun hm=>by have:=hL _ hm;omega)];exact hr.has (by omega)
  have ix:=hr.idx true i aC
  have ld:=rQ hr aC
  have dj:=Gb aC
  have uf:l.getD i a_∈l:=by
   rw[List.getD_eq_getElem?_getD,List.getElem?_eq_getElem aC];exact List.getElem_mem _
  have Sz:=ht _ uf
  generalize l.getD i a_=o at*
  have kE:New w.heap.size (DL++ ((b3, .cells #[vL,vI] 32 (0,0)):: (b2, .cells #[.slice none 0 0, .slice none 0 0] 32 (0,0)):: (DI++DG))):=p7.app ⟨bA,ar,qV.app p6⟩
  have d1:decide ((i:Int)< (l.length:Int))=true:=decide_eq_true (by omega)
  have rd0:=rd _ kE.le
  first|with_reducible refine ks [4] (And.intro @dQ (And.intro @d1 (And.intro @ln (And.intro @ix (And.intro @rd0 (@ld)))))) ?_|refine kp (And.intro @dQ (And.intro @d1 (And.intro @ln (And.intro @ix (And.intro @rd0 (@ld)))))) ?_
  refine Ow.callFV rfl Tryz.call19 (fun w' a7=>KX o.k o.t w') ?_
  rw[←ux,show bN o.k o.t=rdK o from rfl]
  cases cG:rdK o with
  |false=>
   rw[cG,if_neg (by simp)] at dj
   refine ko @dQ ?_
   first|with_reducible refine ks [] @dQ ?_|refine kp @dQ ?_
   exact Again.mk ⟨i+1,vL,vI,DL,DI,DG⟩ (by show l.length - (i+1)<l.length - i;omega) ⟨aC,by show Gr DL _ 2 vL (fl l (i+1)).length _;rw[dj];exact tk,by show Gr DI _ 32 vI ((fl l (i+1)).map idK).length _;rw[dj];exact tj,p7,qV,p6⟩ rfl rfl
  |true=>
   rw[cG,if_pos rfl] at dj
   refine ko @dQ ?_
   first|with_reducible refine ks [] @dQ ?_|refine kp @dQ ?_
   refine Cw.regionG [b3,rb] [9] 10 (by kernel_rfl) rfl ?_
   simp only[List.replicate_succ,List.replicate_zero]
   refine OwG.run [0,1,2,3,4,5] [true,true,true,true,true,true,false,false,false,false] 4 rfl (by kernel_rfl) (by kernel_rfl) fun k hk=> ?_
   simp only[aN, ↓aM, ↓aH, ↓aL, ↓aK,aI]
   simp(disch:=(first|assumption|omega| (simp only[ac,ab,UInt64.reduceToNat];try omega))) only[↓Sx.S0,Sx.S1,Tryz.fx,dQ,Nat.reduceAdd,Nat.reducePow,Int.reducePow,Nat.reduceBEq, ↓reduceIte,UInt8.reduceToNat,UInt16.reduceToNat,UInt32.reduceToNat,UInt64.reduceToNat,Int.reduceToNat,Md.next_sofnil,rb3,ix,rd0,ld]
   (with_reducible refine hk _ _ _ ?_);clear hk k
   refine OwG.one 6 _ (by kernel_rfl) rfl ?_
   refine Ow.buildSlice (e:=35) (cC o).toArray rfl rfl (LX o) fun ba wq lG=> ?_
   have ww: ∀r,r∈ [b3,rb]→aO w (DL++ ((b3, .cells #[vL,vI] 32 (0,0)):: (b2, .cells #[.slice none 0 0, .slice none 0 0] 32 (0,0)):: (DI++DG))++ [(ba, .cells (cC o).toArray 35 (0,0))]) r=aO w (DL++ ((b3, .cells #[vL,vI] 32 (0,0)):: (b2, .cells #[.slice none 0 0, .slice none 0 0] 32 (0,0)):: (DI++DG))) r:=fun r hr=>by
    simp only[List.mem_cons,List.not_mem_nil,or_false] at hr
    rcases hr with rfl|rfl
    ·exact vO (by simp[keys])
    ·rw[rd0];exact rd _ (kE.app (show New w.heap.size [(ba,Obj.cells (cC o).toArray 35 (0,0))] from⟨lG,trivial⟩)).le
   with_reducible refine Ow.nil ?_
   refine⟨ww, ?_⟩
   simp only[List.set_cons_zero,List.set_cons_succ,ax,an,ao]
   refine OwG.one 7 _ (by kernel_rfl) rfl ?_
   refine Ow.appendXG (e:=35) (k:=1) (new:=cC o) (X:=DL) vL (List.append_assoc _ _ _) rfl rfl rfl Tryz.underlying22 Tryz.ag35 (by kernel_rfl) gC (by simp[aU]) Tryz.underlying22 (by intro k h;cases h) tk (fun w' a7=>AppX.one1 (a7.has ba (.cells (cC o).toArray 35 (0,0)) (by simp)) (vg _) (EM _)) (by omega) (fun B5 v5 D5 i9 nA ja fH cd iK=> ?_)
   have eW:New w.heap.size D5:=New.of_le fun q hq=>by
    rcases cd q hq with h|h
    ·exact p7.le q h
    ·omega
   have qO:b3∉keys D5:=gV i9 (by simp[keys]) Mf cd
   have lD5:=fun Y=>cp (D:=D5) (Y:=Y) (o:= .cells #[vL,vI] 32 (0,0)) qO
   have st5:=BM vL vI v5 32 ja.cell
   have mL:New w.heap.size (D5++ ((b3, .cells #[vL,vI] 32 (0,0)):: (b2, .cells #[.slice none 0 0, .slice none 0 0] 32 (0,0)):: (DI++ (DG++ [(ba, .cells (cC o).toArray 35 (0,0))])))):=eW.app ⟨bA,ar,qV.app (p6.app ⟨lG,trivial⟩)⟩
   have Jd: ∀r,r∈ [b3,rb]→aO w (D5++ ((b3, .cells #[vL,vI] 32 (0,0)):: (b2, .cells #[.slice none 0 0, .slice none 0 0] 32 (0,0)):: (DI++DG)++ [(ba, .cells (cC o).toArray 35 (0,0))])) r=aO w (DL++ ((b3, .cells #[vL,vI] 32 (0,0)):: (b2, .cells #[.slice none 0 0, .slice none 0 0] 32 (0,0)):: (DI++DG))++ [(ba, .cells (cC o).toArray 35 (0,0))]) r:=fun r hr=>by
    rw[ww r hr]
    simp only[List.mem_cons,List.not_mem_nil,or_false] at hr
    rcases hr with rfl|rfl
    ·exact(ah (lD5 _)).trans (rb3 _).symm
    ·rw[rd0]
     refine rd _ fun c hc=>mL.le c ?_
     simpa [keys] using hc
   with_reducible refine Ow.nil ?_
   refine⟨Jd, ?_⟩
   simp only[List.set_cons_zero,List.set_cons_succ,ax,an,ao]
   refine OwG.rest [8,9] rfl (by kernel_rfl) (by kernel_rfl) ?_
   simp only[aN, ↓aM, ↓aH, ↓aL, ↓aK,aI]
   refine kq @dQ ?_
   refine Ow.store rfl rfl rfl (ke (And.intro @dQ (And.intro @lD5 (@st5)))) ?_
   have es:=fun Y x=>lN (D:=D5) (Y:=Y) (o:= .cells #[vL,vI] 32 (0,0)) (x:=x) qO
   simp only[List.cons_append,List.append_assoc] at*
   rw[es]
   refine ko @dQ ?_
   refine Cw.permL (M:=DI++ ((b3, .cells #[v5,vI] 32 (0,0)):: (b2, .cells #[.slice none 0 0, .slice none 0 0] 32 (0,0)):: (D5++ (DG++ [(ba, .cells (cC o).toArray 35 (0,0))])))) (by classical exact List.perm_iff_count.2 fun a=>by simp only[List.count_append,List.count_cons,List.count_nil]<;>omega) ?_
   have lb5:=fun Y=>cp (D:=DI) (Y:=Y) (o:= .cells #[v5,vI] 32 (0,0)) Me
   have rb5:=fun Y=>ah (w0:=w) (lb5 Y)
   have fX:New w.heap.size (DI++ ((b3, .cells #[v5,vI] 32 (0,0)):: (b2, .cells #[.slice none 0 0, .slice none 0 0] 32 (0,0)):: (D5++ (DG++ [(ba, .cells (cC o).toArray 35 (0,0))])))):=qV.app ⟨bA,ar,eW.app (p6.app ⟨lG,trivial⟩)⟩
   have rd8:=rd _ fX.le
   refine Cw.regionG [b3,rb] [10] 11 (by kernel_rfl) rfl ?_
   simp only[List.replicate_succ,List.replicate_zero]
   refine OwG.run [0,1,2,3,4,5] [true,true,true,true,true,true,false,false,false,false,false] 5 rfl (by kernel_rfl) (by kernel_rfl) fun k hk=> ?_
   simp only[aN, ↓aM, ↓aH, ↓aL, ↓aK,aI]
   simp(disch:=(first|assumption|omega| (simp only[ac,ab,UInt64.reduceToNat];try omega))) only[↓Sx.S0,Sx.S1,Tryz.fx,dQ,Nat.reduceAdd,Nat.reducePow,Int.reducePow,Nat.reduceBEq, ↓reduceIte,UInt8.reduceToNat,UInt16.reduceToNat,UInt32.reduceToNat,UInt64.reduceToNat,Int.reduceToNat,Md.next_sofnil,rb5,ix,rd8,ld]
   (with_reducible refine hk _ _ _ ?_);clear hk k
   refine OwG.one 6 _ (by kernel_rfl) rfl ?_
   refine Ow.callFV rfl Tryz.call20 (fun w' a7=>yR o.k o.t w' (by omega)) ?_
   rw[oe cG]
   with_reducible refine Ow.nil ?_
   refine⟨(fun r hr=>rfl), ?_⟩
   simp only[List.set_cons_zero,List.set_cons_succ,ax,an,ao]
   refine OwG.one 7 _ (by kernel_rfl) rfl ?_
   refine Ow.buildSlice (e:=24) (aJ (idK o)).toArray rfl rfl (lM (idK o)) fun bi lC gU=> ?_
   have uM: ∀r,r∈ [b3,rb]→aO w (DI++ ((b3, .cells #[v5,vI] 32 (0,0)):: (b2, .cells #[.slice none 0 0, .slice none 0 0] 32 (0,0)):: (D5++ (DG++ [(ba, .cells (cC o).toArray 35 (0,0))])))++ [(bi, .cells (aJ (idK o)).toArray 24 (0,0))]) r=aO w (DI++ ((b3, .cells #[v5,vI] 32 (0,0)):: (b2, .cells #[.slice none 0 0, .slice none 0 0] 32 (0,0)):: (D5++ (DG++ [(ba, .cells (cC o).toArray 35 (0,0))])))) r:=fun r hr=>by
    simp only[List.mem_cons,List.not_mem_nil,or_false] at hr
    rcases hr with rfl|rfl
    ·exact vO (by simp[keys])
    ·rw[rd8];exact rd _ (fX.app (show New w.heap.size [(bi,Obj.cells (aJ (idK o)).toArray 24 (0,0))] from⟨gU,trivial⟩)).le
   with_reducible refine Ow.nil ?_
   refine⟨uM, ?_⟩
   simp only[List.set_cons_zero,List.set_cons_succ,ax,an,ao]
   refine OwG.one 8 _ (by kernel_rfl) rfl ?_
   refine Ow.appendXG (e:=24) (k:=1) (new:=aJ (idK o)) (X:=DI) vI (List.append_assoc _ _ _) rfl rfl rfl Tryz.underlying30 Tryz.ag24 (by kernel_rfl) k6 (by simp[aU,a8]) Tryz.underlying30 (by intro k h;cases h) tj (fun w' a7=>AppX.one1 (a7.has bi (.cells (aJ (idK o)).toArray 24 (0,0)) (by simp)) (fQ _) (mm _)) (by rw[List.length_map];omega) (fun B7 v7 D7 gF mH fW eE bF jH=> ?_)
   have je:New w.heap.size D7:=New.of_le fun q hq=>by
    rcases bF q hq with h|h
    ·exact qV.le q h
    ·omega
   have j7:b3∉keys D7:=gV gF (by simp[keys]) Me bF
   have lD7:=fun Y=>cp (D:=D7) (Y:=Y) (o:= .cells #[v5,vI] 32 (0,0)) j7
   have st7:=Az v5 vI v7 32 fW.cell
   have iA:New w.heap.size (D7++ (((b3, .cells #[v5,vI] 32 (0,0)):: (b2, .cells #[.slice none 0 0, .slice none 0 0] 32 (0,0)):: (D5++ (DG++ [(ba, .cells (cC o).toArray 35 (0,0))])))++ [(bi, .cells (aJ (idK o)).toArray 24 (0,0))])):=je.app (New.app (show New w.heap.size ((b3, .cells #[v5,vI] 32 (0,0)):: (b2, .cells #[.slice none 0 0, .slice none 0 0] 32 (0,0)):: (D5++ (DG++ [(ba, .cells (cC o).toArray 35 (0,0))]))) from⟨bA,ar,eW.app (p6.app ⟨lG,trivial⟩)⟩) ⟨gU,trivial⟩)
   have Je: ∀r,r∈ [b3,rb]→aO w (D7++ (((b3, .cells #[v5,vI] 32 (0,0)):: (b2, .cells #[.slice none 0 0, .slice none 0 0] 32 (0,0)):: (D5++ (DG++ [(ba, .cells (cC o).toArray 35 (0,0))])))++ [(bi, .cells (aJ (idK o)).toArray 24 (0,0))])) r=aO w (DI++ ((b3, .cells #[v5,vI] 32 (0,0)):: (b2, .cells #[.slice none 0 0, .slice none 0 0] 32 (0,0)):: (D5++ (DG++ [(ba, .cells (cC o).toArray 35 (0,0))])))++ [(bi, .cells (aJ (idK o)).toArray 24 (0,0))]) r:=fun r hr=>by
    rw[uM r hr]
    simp only[List.mem_cons,List.not_mem_nil,or_false] at hr
    rcases hr with rfl|rfl
    ·exact(ah (lD7 _)).trans (rb5 _).symm
    ·rw[rd8]
     exact rd _ iA.le
   with_reducible refine Ow.nil ?_
   refine⟨Je, ?_⟩
   simp only[List.set_cons_zero,List.set_cons_succ,ax,an,ao]
   refine OwG.rest [9,10] rfl (by kernel_rfl) (by kernel_rfl) ?_
   simp only[aN, ↓aM, ↓aH, ↓aL, ↓aK,aI]
   refine kq @dQ ?_
   refine Ow.store rfl rfl rfl (ke (And.intro @dQ (And.intro @lD7 (@st7)))) ?_
   have es7:=fun Y x=>lN (D:=D7) (Y:=Y) (o:= .cells #[v5,vI] 32 (0,0)) (x:=x) j7
   simp only[List.cons_append,List.append_assoc] at*
   rw[es7]
   refine ko @dQ ?_
   refine Cw.permL (M:=D5++ ((b3, .cells #[v5,v7] 32 (0,0)):: (b2, .cells #[.slice none 0 0, .slice none 0 0] 32 (0,0)):: (D7++ (DG++ [(ba, .cells (cC o).toArray 35 (0,0)),(bi, .cells (aJ (idK o)).toArray 24 (0,0))])))) (by classical exact List.perm_iff_count.2 fun a=>by simp only[List.count_append,List.count_cons,List.count_nil]<;>omega) ?_
   first|with_reducible refine ks [] @dQ ?_|refine kp @dQ ?_
   refine Again.mk ⟨i+1,v5,v7,D5,D7,DG++ [(ba, .cells (cC o).toArray 35 (0,0)),(bi, .cells (aJ (idK o)).toArray 24 (0,0))]⟩ (by show l.length - (i+1)<l.length - i;omega) ⟨aC, ?_, ?_,eW,je,p6.app ⟨lG,gU,trivial⟩⟩ rfl rfl
   ·show Gr D5 _ 2 v5 (fl l (i+1)).length ((fl l (i+1)).map cC).flatten
    rw[dj]
    simpa [List.map_append] using ja
   ·show Gr D7 _ 32 v7 ((fl l (i+1)).map idK).length (((fl l (i+1)).map idK).map aJ).flatten
    rw[dj]
    simpa [List.map_append] using fW
 ·obtain rfl:i=l.length:=by omega
  have kN:fl l l.length=l.filter rdK:=by unfold fl;rw[List.take_length]
  rw[kN] at tk tj
  have cK:decide ((l.length:Int)< (l.length:Int))=false:=by simp
  refine Cw.permL (M:=(b2, .cells #[.slice none 0 0, .slice none 0 0] 32 (0,0)):: (b3, .cells #[vL,vI] 32 (0,0)):: (DL++ (DI++DG))) (by classical exact List.perm_iff_count.2 fun a=>by simp only[List.count_append,List.count_cons,List.count_nil]<;>omega) ?_
  have stf:=Ce (.slice none 0 0) (.slice none 0 0) vL vI 32 tk.cell.1 tj.cell.1
  first|with_reducible refine ks [] (And.intro @dQ (And.intro @cK (And.intro @ln (@stf)))) ?_|refine kp (And.intro @dQ (And.intro @cK (And.intro @ln (@stf)))) ?_
  refine⟨_,(ke @dQ), ?_⟩
  exact⟨Ext.of_new ⟨ar,bA,p7.app (qV.app p6)⟩,vL,vI,rfl,tk.i fun p hp=>by simp[hp],tj.i fun p hp=>by simp[hp]⟩
end Go.Proofs
end
section
open Go Go.Proofs Go.Sx Go.StP Go.RooP
namespace Go.Proofs
set_option maxRecDepth 10000
set_option maxHeartbeats 400000
set_option linter.unusedSimpArgs false
structure MkClG where
 W:WkS
 X:a6
structure WkN (s:bR) (ids r:List IdL) (n:Nat) (W:WkS):Prop where
 I:WkI s r W
 B:WkB n W
 ids: ∀i,(s i).2=true→i∈ids
theorem WkN.ms {s:bR} {ids r:List IdL} {n:Nat} {W:WkS} (h:WkN s ids r n W):W.ms.length≤ids.length:=h.I.msLe h.ids
theorem WkN.vis {s:bR} {ids r:List IdL} {n:Nat} {W:WkS} (h:WkN s ids r n W):W.vis.length≤r.length+40*ids.length:=Nat.le_trans (h.I.le h.ids) (Bu s ids r)
theorem WkN.q {s:bR} {ids r:List IdL} {n:Nat} {W:WkS} (h:WkN s ids r n W):W.q.length≤n+40*ids.length:=Nat.le_trans h.B.q (by have:=h.ms;omega)
theorem WkN.lk {s:bR} {ids r:List IdL} {n:Nat} {W:WkS} (h:WkN s ids r n W):W.lk.length≤r.length+40*ids.length:=Nat.le_trans h.B.lk h.vis
theorem WkN.step {s:bR} {ids r:List IdL} {n:Nat} {W:WkS} (h:WkN s ids r n W):WkN s ids r n (eQ s W).2:=⟨h.I.step,h.B.step s,h.ids⟩
theorem WkN.new {s:bR} {ids:List IdL} (r:List IdL) (h: ∀i,(s i).2=true→i∈ids):WkN s ids r r.length (newK r):=⟨WkI.new s r,WkB.new r,h⟩
theorem WkN.add {s:bR} {ids r:List IdL} {n:Nat} {W:WkS} (h:WkN s ids r n W) (r':List IdL):WkN s ids (r++r') (n+r'.length) (dJ W r'):=⟨h.I.add r',h.B.add r',h.ids⟩
theorem rv {s:bR} {W:WkS} (h: (eQ s W).1=true): (eQ s W).2.q= []:=by
 have:=Lx s W W.q h
 unfold eQ;rw[this]
theorem pq (sv:Value) (m:List (IdL×ObK)) (v:Value) (l:List IdL) (w:World) (hS:SrcW w sv m []) (hR:RowX 32 aJ id0 w v l []) (hl:l.length≤1000) (hm:m.length≤1000):
  Rets Tryz.prog 29 #[sv,v] w (XS w [] (fun v' D=> ∃W v1 v2,WkI (bK m) l W∧W.q= []∧W.ms.length≤m.length∧W.lk.length≤41000∧v'= .tuple #[v1,v2]∧GrI D 24 32 v1 (bZ W.ms).length ((bZ W.ms).map aJ).flatten∧GrI D 24 32 v2 (eH W.lk).length ((eH W.lk).map aJ).flatten)):=by
 have Jh: ∀i,(bK m i).2=true→i∈m.map Prod.fst:=fun i h=>Fp h
 have Jg: (m.map Prod.fst).length=m.length:=List.length_map _
 refine Rets.enterX Tryz.func29 rfl (rs:= [.tmp 4, .tmp 5]) Tryz.results29 Tryz.ntmps29 (fun p hp=>by cases hp) (by simp[keys]) ?_
 refine kf ?_
 first|with_reducible refine ks [] @Nat.add_zero ?_|refine kp @Nat.add_zero ?_
 refine Ow.callC rfl rfl Tryz.call21 (fun w' a7=>CB sv m v l w' (hS.old a7 (fun _ h=>h)) (hR.old a7 (fun _ h=>h)) (by omega)) (fun B1 v1 D1 Mg im jd cz=> ?_)
 obtain⟨bw,rfl,Mp⟩:=cz
 rw[List.nil_append]
 refine ko @Nat.add_zero ?_
 refine Cw.loopG (G:=MkClG) [10,11,12] (fun g=> []) (fun g=>g.X) (fun g=>WkP bw sv g.W g.X∧Ext w [] g.X∧WkN (bK m) (m.map Prod.fst) l l.length g.W) (fun g=>50000 - g.W.vis.length) ⟨newK l,D1⟩ rfl rfl ?_ ?_
 ·exact⟨Mp,Ext.of_new (jd.mono im),WkN.new l Jh⟩
 intro g j hg
 refine kv ?_
 clear Mp jd Mg
 obtain⟨W,X⟩:=g
 simp only at hg ⊢
 obtain⟨hP,hE,hN⟩:=hg
 have b1:=hN.q
 have b2:=hN.lk
 have b3:=hN.vis
 have jc:=hN.step
 have b4:=jc.vis
 have b5:=jc.ms
 have b6:=jc.lk
 first|with_reducible refine ks [] @Nat.add_zero ?_|refine kp @Nat.add_zero ?_
 refine Ow.callX (X:=X) (Y:= []) (List.append_nil _).symm rfl rfl Tryz.call24 (fun w' a7 jf g6=>Bj bw sv W m X w' jf g6 hP ((hS.ext hE.new).old a7 fun _ h=>h) (by omega) (by omega)) (fun v2 D2 qS bu=> ?_)
 rw[List.append_nil]
 obtain⟨rfl,qW⟩:=bu
 have oz:=hE.came0 qS
 cases bP: (eQ (bK m) W).1 with
 |false=>
  have hv:=s6 bP
  generalize (eQ (bK m) W).2=W2 at*
  refine ko @Nat.add_zero ?_
  first|with_reducible refine ks [] @Nat.add_zero ?_|refine kp @Nat.add_zero ?_
  exact Again.mk ⟨W2,D2⟩ (by show 50000 - W2.vis.length<50000 - W.vis.length;omega) ⟨qW,oz,jc⟩ rfl rfl
 |true=>
  have hq:=rv bP
  generalize (eQ (bK m) W).2=W2 at*
  refine ko @Nat.add_zero ?_
  first|with_reducible refine ks [] @Nat.add_zero ?_|refine kp @Nat.add_zero ?_
  refine Ow.callC rfl rfl Tryz.call27 (fun w' a7=>PI bw sv W2 w' ⟨D2,fun p hp=>a7.has _ _ hp,qW⟩ jc.I.nm (by omega)) (fun B3 v3 D3 wh l7 l9 gG=> ?_)
  refine ko @Nat.add_zero ?_
  refine Ow.callC rfl rfl Tryz.call28 (fun w' a7=>O9 bw sv W2 w' ⟨D2,fun p hp=>a7.has _ _ (List.mem_append_left _ hp),qW⟩ (by omega)) (fun B4 v4 D4 dv eL cq iD=> ?_)
  refine ko @Nat.add_zero ?_
  refine⟨_,(ke @Nat.add_zero), ?_⟩
  exact⟨y8 (y8 oz (l9.mono l7)) (cq.mono eL),W2,v3,v4,jc.I,hq,by omega,by omega,rfl,gG.mono fun p hp=>List.mem_append_left _ (List.mem_append_right _ hp),iD.mono fun p hp=>List.mem_append_right _ hp⟩
def SrcK (D:a6) (v:Value) (m:List (IdL×ObK)):Prop:= ∃bx bm om,v= .iface 118 (vp bx 0)∧(bx,Obj.cells #[vm bm] 121 (0,0))∈D∧(bm,om)∈D∧gD eC obKV om m
theorem SrcK.mono {D D':a6} {v:Value} {m:List (IdL×ObK)} (h:SrcK D v m) (hD: ∀p,p∈D→p∈D'):SrcK D' v m:=by
 obtain⟨bx,bm,om,h1,h2,h3,h4⟩:=h
 exact⟨bx,bm,om,h1,hD _ h2,hD _ h3,h4⟩
theorem SrcK.W {w0 w:World} {D:a6} {v:Value} {m:List (IdL×ObK)} (h:SrcK D v m) (hw:Hp w0 D w):SrcW w v m []:=by
 obtain⟨bx,bm,om,h1,h2,h3,h4⟩:=h
 exact⟨bx,bm,om,⟨h1,hw.has _ _ h2,hw.has _ _ h3,h4⟩,(fun h=>by cases h),(fun h=>by cases h)⟩
section
variable {P:Program} {w0:World} {f:Fr} {L:a6} {N:Fr→a6→Prop} {ops:Array Oper} {rest:List Oper} {md:Md}
 {d:Option Tmp} {ty:TypeId} {ps:String} {af:Array Edge} {g:Option (Nat×Bool)}
theorem _root_.Go.Sx.Ow.ifacePtr {t e:TypeId} {x:Operand} {v:Value} (hs:aq ops f ⟨d, .makeInterface t x,ty,ps,af,g⟩=false) (hu:P.underlying t=some (.pointer e)) (hx:ev f x=v)
  (hn:Ow P w0 ops md.next rest (aX f d (.iface t v)) L N):Ow P w0 ops md (⟨d, .makeInterface t x,ty,ps,af,g⟩::rest) f L N:=by
 refine Ow.calm rfl rfl hs (fun w hw=> .inl ⟨.iface t v,w,L, ?_,hw,rfl,rfl⟩) hn
 simp only[execOp,Instr.makeInterface,Sem.run_bind,run_underlying hu w,Result.andThen_ok,hx]
 rfl
end
structure MkOfG where
 k:Nat
 o:Obj
 DG:a6
theorem DM (b:Nat):eP (dK Tryz.prog 121) (aw Tryz.prog 121) [(0,vm b)]=some (.agg #[vm b]):=by
 rw[show dK Tryz.prog 121=some [(0,1)] from id (by kernel_rfl),show aw Tryz.prog 121=some (.agg #[.map none]) from id (by kernel_rfl)];rfl
set_option linter.defProp false
def dq:=And.intro (And.intro (And.intro (@gB) (@gZ)) (And.intro (@gY) (And.intro (@gX) (@qt)))) (And.intro (And.intro (@Sx.tup2_0) (And.intro (@Sx.tup2_1) (@cP))) (And.intro (@cO) (And.intro (@pw) (@oN))))
theorem p' (v:Value) (l:List ObK) (w:World) (hG:GlobE w) (hv:RowX 2 cC a_ w v l []) (hl:l.length<100000):
  Rets Tryz.prog 16 #[v] w (XS w [] (fun v' D=>SrcK D v' (dR l))):=by
 obtain⟨rb,off,arr,E,fz,hr,-⟩:=hv
 have ln:=fun x=>hr.len x
 refine Rets.enterX Tryz.func16 rfl (rs:= [.tmp 2]) Tryz.results16 Tryz.ntmps16 (fun p hp=>by cases hp) (by simp[keys]) ?_
 refine kf ?_
 first|with_reducible refine ks [] @dq ?_|refine kp @dq ?_
 refine Ow.makeMapG (encK:=eC) (encV:=obKV) rfl rfl fun b1 o1 bJ aG jb=> ?_
 rw[List.nil_append]
 refine ko @dq ?_
 refine Ow.build (.agg #[vm b1]) rfl (DM b1) ?_
 refine ko @dq ?_
 refine Ow.box rfl rfl fun b2 ck ar=> ?_
 simp only[bp,bj,cJ,aU,List.cons_append,List.nil_append]
 have jZ:b1<b2:=aP ck (by simp[keys])
 refine ko @dq ?_
 first|with_reducible refine ks [] (And.intro @dq @ln) ?_|refine kp (And.intro @dq @ln) ?_
 refine Cw.loopG (G:=MkOfG) [14,15,16,5,18,19,17,20,21,6,7,22,23,24,25,26,27,28,29,13] (fun g=> [(13,vi g.k)]) (fun g=>(b1,g.o):: (b2, .cells #[vm b1] 121 (0,0))::g.DG) (fun g=>g.k≤l.length∧gD eC obKV g.o (dR (l.take g.k))∧New w.heap.size g.DG) (fun g=>l.length - g.k) ⟨0,o1,[]⟩ rfl rfl ?_ ?_
 ·exact⟨Nat.zero_le _,jb,trivial⟩
 intro g j hg
 refine kv ?_
 obtain⟨k,o,DG⟩:=g
 simp only at hg ⊢
 obtain⟨hk,hM,hN⟩:=hg
 have kE:New w.heap.size ((b1,o):: (b2, .cells #[vm b1] 121 (0,0))::DG):=⟨aG,ar,hN⟩
 by_cases aC:k<l.length
 ·have jn:=hr.lt (by omega)
  have ix:=hr.idx true k aC
  have ld:=rQ hr aC
  have rd:aO w ((b1,o):: (b2, .cells #[vm b1] 121 (0,0))::DG) rb=some (.cells arr E fz):=by rw[jT (kE.not jn)];exact hr.has (by omega)
  have dj:=StP.take_snoc (z:=a_) aC
  have cK:decide ((k:Int)< (l.length:Int))=true:=decide_eq_true (by omega)
  generalize l.getD k a_=x at*
  have T8:=(idK x).h
  have uN:=id0.h
  first|with_reducible refine ks [8] (And.intro @dq (And.intro @cK (And.intro @ix (And.intro @rd (@ld))))) ?_|refine kp (And.intro @dq (And.intro @cK (And.intro @ix (And.intro @rd (@ld))))) ?_
  refine Ow.alloc rfl rfl gC fun b5 cx eF=> ?_
  simp only[aU,List.nil_append,List.cons_append]
  have wg:b1<b5:=aP cx (by simp[keys])
  have mF:b2<b5:=aP cx (by simp[keys])
  refine Ow.permL (M:=(b5, .cells #[vi 0,vs []] 35 (0,0)):: (b1,o):: (b2, .cells #[vm b1] 121 (0,0))::DG) (by classical exact List.perm_iff_count.2 fun a=>by simp only[List.count_append,List.count_cons,List.count_nil]<;>omega) ?_
  refine ko @dq ?_
  first|with_reducible refine ks [] @dq ?_|refine kp @dq ?_
  refine Ow.callFV rfl Tryz.call66 (fun w' a7=>xy x.k x.t w' (hG.new a7 ⟨eF,kE⟩)) ?_
  have e1: (idV x.k x.t).l=(idK x).l:=rfl
  have e2:bN x.k x.t=rdK x:=rfl
  rw[e1,e2]
  refine ko @dq ?_
  refine Ow.alloc rfl rfl jV fun b6 jB ei=> ?_
  simp only[aU,List.nil_append,List.cons_append]
  have MX:b1<b6:=aP jB (by simp[keys])
  have Ma:b2<b6:=aP jB (by simp[keys])
  have Qd:b5<b6:=aP jB (by simp[keys])
  refine Ow.permL (M:=(b6, .cells (a8 id0.l) 24 (0,0)):: (b5, .cells #[vi x.k,vs x.t] 35 (0,0)):: (b1,o):: (b2, .cells #[vm b1] 121 (0,0))::DG) (by classical exact List.perm_iff_count.2 fun a=>by simp only[List.count_append,List.count_cons,List.count_nil]<;>omega) ?_
  cases cG:rdK x with
  |false=>
   have lD:dR (l.take (k+1))=dR (l.take k):=by rw[dj,yf];unfold addO;rw[cG];rfl
   refine ko @dq ?_
   refine Cw.permL (M:=(b1,o):: (b2, .cells #[vm b1] 121 (0,0)):: ((b6, .cells (a8 (idK x).l) 24 (0,0)):: (b5, .cells #[vi x.k,vs x.t] 35 (0,0))::DG)) (by classical exact List.perm_iff_count.2 fun a=>by simp only[List.count_append,List.count_cons,List.count_nil]<;>omega) ?_
   first|with_reducible refine ks [] @dq ?_|refine kp @dq ?_
   exact Again.mk ⟨k+1,o,(b6, .cells (a8 (idK x).l) 24 (0,0)):: (b5, .cells #[vi x.k,vs x.t] 35 (0,0))::DG⟩ (by show l.length - (k+1)<l.length - k;omega) ⟨aC,by show gD _ _ o (dR (l.take (k+1)));rw[lD];exact hM,⟨ei,eF,hN⟩⟩ rfl rfl
  |true=>
   have lD:dR (l.take (k+1))=fD (idK x) x (dR (l.take k)):=by rw[dj,yf];unfold addO;rw[cG];rfl
   refine ko @dq ?_
   first|with_reducible refine ks [] @dq ?_|refine kp @dq ?_
   refine Cw.regionS [b2,b5,b6] [0,1,2,3,4,5,6] [6] (by kernel_rfl) (by kernel_rfl) (by kernel_rfl) ?_
   simp only[aN, ↓aM, ↓aH, ↓aL, ↓aK,aI]
   refine kq @dq ?_
   refine Ow.mapUpdateG (encK:=eC) (encV:=obKV) (k:=idK x) (v:=x) rfl rfl Tryz.underlying119 rW rfl rfl rfl (by rw[ii _ _ _ _ (by omega),ii _ _ _ _ (by omega)];exact eA _ _ _) hM (fun o2 pX=> ?_)
   rw[jU _ _ _ _ _ (by omega),jU _ _ _ _ _ (by omega),j1]
   refine ko @dq ?_
   refine Cw.permL (M:=(b1,o2):: (b2, .cells #[vm b1] 121 (0,0)):: ((b6, .cells (a8 (idK x).l) 24 (0,0)):: (b5, .cells #[vi x.k,vs x.t] 35 (0,0))::DG)) (by classical exact List.perm_iff_count.2 fun a=>by simp only[List.count_append,List.count_cons,List.count_nil]<;>omega) ?_
   first|with_reducible refine ks [] @dq ?_|refine kp @dq ?_
   exact Again.mk ⟨k+1,o2,(b6, .cells (a8 (idK x).l) 24 (0,0)):: (b5, .cells #[vi x.k,vs x.t] 35 (0,0))::DG⟩ (by show l.length - (k+1)<l.length - k;omega) ⟨aC,by show gD _ _ o2 (dR (l.take (k+1)));rw[lD];exact pX,⟨ei,eF,hN⟩⟩ rfl rfl
 ·obtain rfl:k=l.length:=by omega
  rw[List.take_length] at hM
  have cK:decide ((l.length:Int)< (l.length:Int))=false:=by simp
  first|with_reducible refine ks [] (And.intro @dq @cK) ?_|refine kp (And.intro @dq @cK) ?_
  refine Ow.ifacePtr rfl Tryz.underlying118 rfl ?_
  refine ko @dq ?_
  refine⟨_,(ke @dq), ?_⟩
  exact⟨Ext.of_new kE,b2,b1,o,rfl,by simp,by simp,hM⟩
end Go.Proofs
end
section
open Go Go.Proofs Go.Sx Go.StP Go.RooP
namespace Go.Proofs
set_option maxRecDepth 10000
set_option maxHeartbeats 400000
set_option linter.unusedSimpArgs false
structure DwA (bd:Nat) (vL vI:Value) (W:WkS) (vq vv vl vm vn:Value) (Q V M K X:a6):Prop where
 perm:X.Perm ((bd, .cells #[vL,vI,vq,vv,vl,vm,vn] 46 (0,0)):: (Q++ (V++ (M++K))))
 q:Qu Q 59 33 vq W.q.length (W.q.map aB).flatten
 v:Gr V 59 33 vv W.vis.length (W.vis.map aB).flatten
 l:Gr M 59 33 vl W.lk.length (W.lk.map aB).flatten
 m:GrI K 24 32 vm (bZ W.ms).length ((bZ W.ms).map aJ).flatten
 n:GrI K 24 32 vn (eH W.lk).length ((eH W.lk).map aJ).flatten
def DwP (bd:Nat) (vL vI:Value) (W:WkS) (X:a6):Prop:= ∃vq vv vl vm vn Q V M K,DwA bd vL vI W vq vv vl vm vn Q V M K X
theorem DwA.ne {bd:Nat} {vL vI:Value} {W:WkS} {vq vv vl vm vn:Value} {Q V M K X:a6} (h:DwA bd vL vI W vq vv vl vm vn Q V M K X) (hn: (keys X).Nodup):bd∉keys Q∧bd∉keys V∧bd∉keys M∧bd∉keys K:=by
 have:=(h.perm.map Prod.fst).nodup_iff.1 hn
 simp only[List.map_cons,List.map_append,List.nodup_cons,List.mem_append,not_or] at this
 exact⟨this.1.1,this.1.2.1,this.1.2.2.1,this.1.2.2.2⟩
theorem DwA.keysX {bd:Nat} {vL vI:Value} {W:WkS} {vq vv vl vm vn:Value} {Q V M K X:a6} (h:DwA bd vL vI W vq vv vl vm vn Q V M K X) (x:Nat):x∈keys X↔x=bd∨x∈keys Q∨x∈keys V∨x∈keys M∨x∈keys K:=by
 have:=(h.perm.map Prod.fst).mem_iff (a:=x)
 simp only[List.map_cons,List.map_append,List.mem_cons,List.mem_append] at this
 exact this
theorem DwA.ext2 {bd:Nat} {vL vI:Value} {W:WkS} {vq vv vl vm vn:Value} {Q V M K X Q' V' M' K':a6} {a:Obj} {w:World} (h:DwA bd vL vI W vq vv vl vm vn Q V M K X)
  (h1: ∀x,x∈keys Q→x∈keys Q') (h2: ∀x,x∈keys Q'→x∈keys Q∨w.heap.size≤x) (h3: ∀x,x∈keys V→x∈keys V') (h4: ∀x,x∈keys V'→x∈keys V∨w.heap.size≤x)
  (h5: ∀x,x∈keys M→x∈keys M') (h6: ∀x,x∈keys M'→x∈keys M∨w.heap.size≤x) (h7: ∀x,x∈keys K→x∈keys K') (h8: ∀x,x∈keys K'→x∈keys K∨w.heap.size≤x):
  Ext w X ((bd,a):: (Q'++ (V'++ (M'++K')))):=by
 have hk:=h.keysX
 refine⟨fun x hx=> ?_,fun x hx=> ?_⟩
 ·simp only[keys,List.map_cons,List.map_append,List.mem_cons,List.mem_append] at hx
  rcases hx with hx|hx|hx|hx|hx
  ·exact .inl ((hk x).2 (.inl hx))
  ·exact(h2 x hx).imp (fun h=>(hk x).2 (.inr (.inl h))) id
  ·exact(h4 x hx).imp (fun h=>(hk x).2 (.inr (.inr (.inl h)))) id
  ·exact(h6 x hx).imp (fun h=>(hk x).2 (.inr (.inr (.inr (.inl h))))) id
  ·exact(h8 x hx).imp (fun h=>(hk x).2 (.inr (.inr (.inr (.inr h))))) id
 ·simp only[keys,List.map_cons,List.map_append,List.mem_cons,List.mem_append]
  rcases(hk x).1 hx with hx|hx|hx|hx|hx
  ·exact .inl hx
  ·exact .inr (.inl (h1 x hx))
  ·exact .inr (.inr (.inl (h3 x hx)))
  ·exact .inr (.inr (.inr (.inl (h5 x hx))))
  ·exact .inr (.inr (.inr (.inr (h7 x hx))))
theorem l7_0 (a b c d e f g:Value) (E:TypeId) (fz:Nat×Nat):aS (some (true,2)) (some (.cells #[a,b,c,d,e,f,g] E fz)) 0=some (.agg #[a,b]):=(rfl)
theorem l7_2 (a b c d e f g:Value) (n:Nat) (E:TypeId) (fz:Nat×Nat):aS (some (false,n)) (some (.cells #[a,b,c,d,e,f,g] E fz)) 2=some c:=(rfl)
theorem l7_3 (a b c d e f g:Value) (n:Nat) (E:TypeId) (fz:Nat×Nat):aS (some (false,n)) (some (.cells #[a,b,c,d,e,f,g] E fz)) 3=some d:=(rfl)
theorem l7_4 (a b c d e f g:Value) (n:Nat) (E:TypeId) (fz:Nat×Nat):aS (some (false,n)) (some (.cells #[a,b,c,d,e,f,g] E fz)) 4=some e:=(rfl)
theorem l7_5 (a b c d e f g:Value) (n:Nat) (E:TypeId) (fz:Nat×Nat):aS (some (false,n)) (some (.cells #[a,b,c,d,e,f,g] E fz)) 5=some f:=(rfl)
theorem l7_6 (a b c d e f g:Value) (n:Nat) (E:TypeId) (fz:Nat×Nat):aS (some (false,n)) (some (.cells #[a,b,c,d,e,f,g] E fz)) 6=some g:=(rfl)
theorem s7_2 (a b c d e f g v:Value) (E:TypeId) (h:Value.oneCell' v=true∧v.cells= #[v]):aZ (some (false,1)) (some (.cells #[a,b,c,d,e,f,g] E (0,0))) 2 v=some (.cells #[a,b,v,d,e,f,g] E (0,0)):=by simp[aZ,h,bQ]
theorem s7_3 (a b c d e f g v:Value) (E:TypeId) (h:Value.oneCell' v=true∧v.cells= #[v]):aZ (some (false,1)) (some (.cells #[a,b,c,d,e,f,g] E (0,0))) 3 v=some (.cells #[a,b,c,v,e,f,g] E (0,0)):=by simp[aZ,h,bQ]
theorem s7_4 (a b c d e f g v:Value) (E:TypeId) (h:Value.oneCell' v=true∧v.cells= #[v]):aZ (some (false,1)) (some (.cells #[a,b,c,d,e,f,g] E (0,0))) 4 v=some (.cells #[a,b,c,d,v,f,g] E (0,0)):=by simp[aZ,h,bQ]
theorem s7_5 (a b c d e f g v:Value) (E:TypeId) (h:Value.oneCell' v=true∧v.cells= #[v]):aZ (some (false,1)) (some (.cells #[a,b,c,d,e,f,g] E (0,0))) 5 v=some (.cells #[a,b,c,d,e,v,g] E (0,0)):=by simp[aZ,h,bQ]
theorem s7_6 (a b c d e f g v:Value) (E:TypeId) (h:Value.oneCell' v=true∧v.cells= #[v]):aZ (some (false,1)) (some (.cells #[a,b,c,d,e,f,g] E (0,0))) 6 v=some (.cells #[a,b,c,d,e,f,v] E (0,0)):=by simp[aZ,h,bQ]
theorem PutS.gri {K D:a6} {v v':Value} {l:List IdL} {x:IdL} (h:PutS v l x v' D) (hK:GrI K 24 32 v l.length (l.map aJ).flatten):GrI (K++D) 24 32 v' (du x l).length ((du x l).map aJ).flatten:=by
 rcases h with⟨rfl,h⟩ |h
 ·rw[h];exact hK.mono fun p hp=>List.mem_append_left _ hp
 ·exact h.mono fun p hp=>List.mem_append_right _ hp
theorem u' {L:a6} {b:Nat} {o:Obj} (hn: (keys L).Nodup) (h: (b,o)∈L) {w:World}:aO w L b=some o:=ah (KT hn h)
theorem xn {D:a6} {E:TypeId} {m n:Nat} {v:Value} {cs:List Value} (h:GrI D E m v n cs):Value.oneCell' v=true∧v.cells= #[v]:=by
 obtain⟨X,-,h⟩:=h;exact h.cell
structure MkInG where
 k:Nat
 b:Bool
theorem sN {l:List ObK} {i:IdL} (h: (bn l i).2=true): (bn l i).1∈l∧idK (bn l i).1=i:=by
 unfold bn at h ⊢
 cases hf:l.find? (fun o=>decide (idK o=i)) with
 |none=>rw[hf] at h;cases h
 |some o=>exact⟨List.mem_of_find?_eq_some hf,by simpa using List.find?_some hf⟩
theorem I4 (a b:ChildL): ((a.id.l==b.id.l)&& (a.kind==b.kind))=decide (a=b):=by
 rw[Bool.eq_iff_iff,Bool.and_eq_true,beq_iff_eq,beq_iff_eq,decide_eq_true_eq]
 exact⟨fun h=>ChildL.ext' (by simp[h.1,h.2]),fun h=>by rw[h];exact⟨rfl,rfl⟩⟩
theorem IJ (a b:ChildL):aj Tryz.prog .eql 59 (.agg (aB a).toArray) (.agg (aB b).toArray)=some (.bool (decide (a=b))):=by
 rw[Im,I4]
set_option linter.defProp false
def aa:=And.intro (And.intro (And.intro (And.intro (@gB) (@gZ)) (And.intro (@gY) (And.intro (@gX) (@qt)))) (And.intro (And.intro (@Sx.tup2_0) (And.intro (@Sx.tup2_1) (@cP))) (And.intro (@cO) (And.intro (@jO) (@rE))))) (And.intro (And.intro (And.intro (@qs) (@q_)) (And.intro (@fj) (And.intro (@rM) (@l7_0)))) (And.intro (And.intro (@l7_2) (And.intro (@l7_3) (@l7_4))) (And.intro (@l7_5) (And.intro (@l7_6) (@IJ)))))
theorem Bb (bd:Nat) (vL vI:Value) (l:List ObK) (W:WkS) (X:a6) (w:World) (hX: ∀p,p∈X→w.heap[p.1]? =some p.2) (hn: (keys X).Nodup) (hP:DwP bd vL vI W X) (hL:RowX 2 cC a_ w vL l X) (hI:RowX 32 aJ id0 w vI (l.map idK) X)
  (hr: ∀o,o∈l→rdK o=true) (hl:l.length<1000000) (bJ:W.q.length<10000000) (ck:W.lk.length<90000) (cQ:W.vis.length<1000000) (dN:W.ms.length<90000):
  Rets Tryz.prog 25 #[vp bd 0] w (XS w X (fun v D=>v= .bool (eQ (bn l) W).1∧DwP bd vL vI (eQ (bn l) W).2 D)):=by
 refine Rets.enterX Tryz.func25 rfl (rs:= [.tmp 2]) Tryz.results25 Tryz.ntmps25 hX hn ?_
 refine kf ?_
 first|with_reducible refine ks [] @aa ?_|refine kp @aa ?_
 refine Cw.loopG (G:=MkStG) [8,9,10,11,12,13,14,15,16,17,18,19,3,20,21,22,23,24,25,26,27,4,5,28,29,30,31,32,33,34,37,38,39,40,41,42,43,44,45,46,47,48,35,36,49,50,51,52,53,54,55,56,57,58,59,61,62,63,64,65,66,67,60,68,69,6,7,70,71,72,73,74,75,76,77,78,79,80,81,82,83,84,85,86,87,88,89,90,91,92,93,94,95,96,97,98,99,100,101,102,103,2,104,105,106,107,108,109,110,111,112,113,114,115,116,117,118,119,120,121,122,123,124,125,126,127,128,129,130,131] (fun g=> []) (fun g=>g.X) (fun g=>DwP bd vL vI {W with q:=g.q} g.X∧Ext w X g.X∧stepQ (bn l) W g.q=eQ (bn l) W∧g.q.length≤W.q.length) (fun g=>g.q.length) ⟨W.q,X⟩ rfl rfl ?_ ?_
 ·exact⟨hP,Ext.refl _ _,rfl,Nat.le_refl _⟩
 intro g j hg
 refine kv ?_
 clear hP hX hn
 obtain⟨q,X'⟩:=g
 simp only at hg ⊢
 obtain⟨hP,hE,bP,uh⟩:=hg
 refine Cw.world fun wz ej=> ?_
 have nN:=ej.nodup
 clear ej wz
 obtain⟨vq,vv,vl,vm,vn,Q,V,M,K,hA⟩:=hP
 obtain⟨jI,jJ,iv,mS⟩:=hA.ne nN
 have f9:=hA.keysX
 refine Cw.permL hA.perm.symm ?_
 have ln:=fun x=>hA.q.len x
 cases q with
 |nil=>
  have d0:decide ((0:Int)< (([]:List ChildL).length:Int))=false:=rfl
  simp only at ln
  first|with_reducible refine ks [] (And.intro @aa (And.intro @ln (@d0))) ?_|refine kp (And.intro @aa (And.intro @ln (@d0))) ?_
  refine⟨_,(ke @aa), ?_⟩
  rw[←bP]
  exact⟨hE.perm hA.perm.symm,rfl,vq,vv,vl,vm,vn,Q,V,M,K,List.Perm.refl _,hA.q,hA.v,hA.l,hA.m,hA.n⟩
 |cons c q=>
  have mW:=hA.q
  simp only at ln mW
  rw[List.length_cons] at mW ln uh
  obtain⟨bq,offq,arrq,w_,kO,kR⟩:=Qu.head mW bU
  obtain⟨vt,lF,lE⟩:=Qu.tail mW bU
  have Jy: (keys ((bd,Obj.cells #[vL,vI,vq,vv,vl,vm,vn] 46 (0,0)):: (Q++ (V++ (M++K))))).Nodup:=((hA.perm.map Prod.fst).nodup_iff).1 nN
  have rq:aO w ((bd, .cells #[vL,vI,vq,vv,vl,vm,vn] 46 (0,0)):: (Q++ (V++ (M++K)))) bq=some (.cells arrq 59 (0,0)):=u' Jy (by simp[dC w_])
  have d0:decide ((0:Int)< ((q.length+1:Nat):Int))=true:=decide_eq_true (by omega)
  first|with_reducible refine ks [1000012] (And.intro @aa (And.intro @ln (And.intro @d0 (And.intro @kO (And.intro @rq (@kR)))))) ?_|refine kp (And.intro @aa (And.intro @ln (And.intro @d0 (And.intro @kO (And.intro @rq (@kR)))))) ?_
  refine Ow.alloc rfl rfl d_ fun b3 cQ bA=> ?_
  simp only[aU,List.nil_append,List.cons_append]
  have R9:=c.id.h
  refine Ow.permL (M:=(b3, .cells (aB chd0).toArray 59 (0,0)):: (bd, .cells #[vL,vI,vq,vv,vl,vm,vn] 46 (0,0)):: (Q++ (V++ (M++K)))) (by classical exact List.perm_iff_count.2 fun a=>by simp only[List.count_append,List.count_cons,List.count_nil]<;>omega) ?_
  have Qb:bd<b3:=aP cQ (by simp[keys])
  have st1:=s7_2 vL vI vq vv vl vm vn vt 46 lE.cell
  refine ko @aa ?_
  first|with_reducible refine ks [] (And.intro @aa (And.intro @lF (@st1))) ?_|refine kp (And.intro @aa (And.intro @lF (@st1))) ?_
  refine Cw.world fun wz ej=> ?_
  have mT:=ej.nodup
  clear ej wz
  have lnv:=fun x=>hA.v.len x
  simp only at lnv
  obtain⟨was,SD⟩: ∃b,b=decide (c∈W.vis):=⟨_,rfl⟩
  have R6:bd∉keys Q:=jI
  refine Cw.loopG (G:=MkInG) [28,29,30,31,32,33,34,37,38,39,40,41,42,43,44,45,46,47,48,4,35,36,5] (fun k=> [(4, .bool k.b),(5,vi k.k)]) (fun k=>(b3, .cells (aB c).toArray 59 (0,0)):: (bd, .cells #[vL,vI,vt,vv,vl,vm,vn] 46 (0,0)):: (Q++ (V++ (M++K)))) (fun k=>k.k≤W.vis.length∧k.b=decide (c∈W.vis.take k.k)) (fun k=>W.vis.length - k.k) ⟨0,false⟩ rfl rfl ?_ ?_
  ·exact⟨Nat.zero_le _,by simp⟩
  intro k jk hk
  refine kv ?_
  obtain⟨k,b⟩:=k
  simp only at hk ⊢
  obtain⟨bk,ap⟩:=hk
  by_cases aC:k<W.vis.length
  ·obtain⟨bV,cV,restV,NJ,Rd⟩:=Go.Proofs.Gr.rows hA.v (show 0<W.vis.length by omega)
   have rV:aO w ((b3, .cells (aB c).toArray 59 (0,0)):: (bd, .cells #[vL,vI,vt,vv,vl,vm,vn] 46 (0,0)):: (Q++ (V++ (M++K)))) bV=some (rowO aB 59 restV W.vis):=u' mT (by simp[dC Rd])
   simp only at NJ
   have ixV: ∀a,gi (.sl (a,33)) vv (some (k:Int))=some (vp bV (k*33)):=fun a=>by
    rw[NJ,nY _ _ _ _ _ _ ⟨by omega,by omega⟩];simp
   have ldV:=yP (z:=chd0) (E:=59) (rest:=restV) bU k aC
   have dj:=StP.take_snoc (z:=chd0) aC
   have d1:decide ((k:Int)< (W.vis.length:Int))=true:=decide_eq_true (by omega)
   generalize W.vis.getD k chd0=y at*
   first|with_reducible refine ks [] (And.intro @aa (And.intro @lnv (@d1))) ?_|refine kp (And.intro @aa (And.intro @lnv (@d1))) ?_
   cases b with
   |true=>
    refine Cw.regionS [b3,bd,bV] [0,1,2,3,4,6,5,7,8,9,10,11,12] [] (by kernel_rfl) (by kernel_rfl) (by kernel_rfl) ?_
    simp only[aN, ↓aM, ↓aH, ↓aL, ↓aK,aI]
    refine kq @aa ?_
    first|with_reducible refine ks [] @aa ?_|refine kp @aa ?_
    refine Again.mk ⟨k+1,true⟩ (by show W.vis.length - (k+1)<W.vis.length - k;omega) ⟨aC, ?_⟩ rfl rfl
    show true=decide (c∈W.vis.take (k+1))
    rw[dj,eq_comm,decide_eq_true_eq,List.mem_append]
    exact .inl (of_decide_eq_true ap.symm)
   |false=>
    refine Cw.regionS [b3,bd,bV] [0,1,2,3,4,6,5,7,8,9,10,11,12] [] (by kernel_rfl) (by kernel_rfl) (by kernel_rfl) ?_
    simp only[aN, ↓aM, ↓aH, ↓aL, ↓aK,aI]
    refine kq (And.intro @aa (And.intro @ixV (And.intro @rV (@ldV)))) ?_
    first|with_reducible refine ks [] @aa ?_|refine kp @aa ?_
    refine Again.mk ⟨k+1,decide (y=c)⟩ (by show W.vis.length - (k+1)<W.vis.length - k;omega) ⟨aC, ?_⟩ rfl rfl
    show decide (y=c)=decide (c∈W.vis.take (k+1))
    have nK:=of_decide_eq_false ap.symm
    rw[dj,decide_eq_decide,List.mem_append,List.mem_singleton]
    exact⟨fun h=> .inr h.symm,fun h=>h.elim (fun h=>absurd h nK) Eq.symm⟩
  ·obtain rfl:k=W.vis.length:=by omega
   rw[List.take_length] at ap
   have d1:decide ((W.vis.length:Int)< (W.vis.length:Int))=false:=by simp
   first|with_reducible refine ks [1000012] (And.intro @aa (And.intro @lnv (@d1))) ?_|refine kp (And.intro @aa (And.intro @lnv (@d1))) ?_
   cases b with
   |true=>
    have hc:c∈W.vis:=of_decide_eq_true ap.symm
    first|with_reducible refine ks [] @aa ?_|refine kp @aa ?_
    refine Again.mk ⟨q,_⟩ (by show q.length< (c::q).length;simp) ⟨⟨vt,vv,vl,vm,vn,Q,V,M,K++ [(b3, .cells (aB c).toArray 59 (0,0))],⟨(by classical exact List.perm_iff_count.2 fun a=>by simp only[List.count_append,List.count_cons,List.count_nil]<;>omega),lE,hA.v,hA.l,hA.m.mono fun p hp=>List.mem_append_left _ hp,hA.n.mono fun p hp=>List.mem_append_left _ hp⟩⟩, ?_, ?_,by show q.length≤_;omega⟩ rfl rfl
    ·exact hE.trans2 ((hA.ext2 (a:= .cells #[vL,vI,vt,vv,vl,vm,vn] 46 (0,0)) (K':=K++ [(b3, .cells (aB c).toArray 59 (0,0))]) (fun x h=>h) (fun x h=> .inl h) (fun x h=>h) (fun x h=> .inl h) (fun x h=>h) (fun x h=> .inl h) (fun x h=>by rw[aT];exact List.mem_append_left _ h) (fun x h=>by rw[aT,List.mem_append] at h;exact h.imp id fun h=>by simp[keys] at h;omega)).perm (by classical exact List.perm_iff_count.2 fun a=>by simp only[List.count_append,List.count_cons,List.count_nil]<;>omega))
    ·show stepQ (bn l) W q=_
     rw[←bP,stepQ,if_pos hc]
   |false=>
    have hc:c∉W.vis:=of_decide_eq_false ap.symm
    have It:b3∉keys V:=fun h=>by
     have:=hE.new b3 ((f9 b3).2 (.inr (.inr (.inl h))))
     have h2:=aP cQ (b:=b3) (by simp only[keys,List.map_cons,List.map_append,List.mem_cons,List.mem_append];exact .inr (.inr (.inl h)))
     omega
    first|with_reducible refine ks [] @aa ?_|refine kp @aa ?_
    refine Cw.permL (M:=V++ ((bd, .cells #[vL,vI,vt,vv,vl,vm,vn] 46 (0,0)):: (b3, .cells (aB c).toArray 59 (0,0)):: (Q++ (M++K)))) (by classical exact List.perm_iff_count.2 fun a=>by simp only[List.count_append,List.count_cons,List.count_nil]<;>omega) ?_
    have rbd:=fun Y=>ah (w0:=w) (cp (D:=V) (Y:=Y) (o:= .cells #[vL,vI,vt,vv,vl,vm,vn] 46 (0,0)) jJ)
    have rb3:=fun Y=>ah (w0:=w) (fS (D:=V) (Y:=Y) (o:= .cells #[vL,vI,vt,vv,vl,vm,vn] 46 (0,0)) (x:= .cells (aB c).toArray 59 (0,0)) It (show bd≠b3 by omega))
    refine Cw.regionG [bd,b3] [10] 11 (by kernel_rfl) rfl ?_
    simp only[List.replicate_succ,List.replicate_zero]
    refine OwG.run [0,1,2,3,4,5] [true,true,true,true,true,true,false,false,false,false,false] 5 rfl (by kernel_rfl) (by kernel_rfl) fun k hk=> ?_
    simp only[aN, ↓aM, ↓aH, ↓aL, ↓aK,aI]
    simp(disch:=(first|assumption|omega| (simp only[ac,ab,UInt64.reduceToNat];try omega))) only[↓Sx.S0,Sx.S1,Tryz.fx,aa,Nat.reduceAdd,Nat.reducePow,Int.reducePow,Nat.reduceBEq, ↓reduceIte,UInt8.reduceToNat,UInt16.reduceToNat,UInt32.reduceToNat,UInt64.reduceToNat,Int.reduceToNat,Md.next_sofnil,rbd,rb3]
    (with_reducible refine hk _ _ _ ?_);clear hk k
    refine OwG.one 6 _ (by kernel_rfl) rfl ?_
    refine Ow.buildSlice (e:=59) (aB c).toArray rfl rfl (qw c) fun ba wq lG=> ?_
    with_reducible refine Ow.nil ?_
    refine⟨(cv (fun r hr=>by simp only[List.mem_cons,List.not_mem_nil,or_false] at hr;rcases hr with rfl|rfl<;>simp[keys])), ?_⟩
    simp only[List.set_cons_zero,List.set_cons_succ,ax,an,ao]
    refine OwG.one 7 _ (by kernel_rfl) rfl ?_
    refine Ow.appendXG (e:=59) (k:=1) (new:=aB c) (X:=V) vv (List.append_assoc _ _ _) rfl rfl rfl Tryz.underlying44 fK (by kernel_rfl) d_ (by rw[fj,List.size_toArray,bU]) Tryz.underlying44 (by intro k h;cases h) hA.v (fun w' a7=>AppX.one1 (a7.has ba (.cells (aB c).toArray 59 (0,0)) (by simp)) (bU _) (iQ _)) (by show 2* (W.vis.length+1)+768≤2^38;omega) (fun B5 v5 D5 i9 nA ja fH cd iK=> ?_)
    have fo:bd∉keys D5:=gV i9 (by simp[keys]) jJ cd
    have qO:b3∉keys D5:=gV i9 (by simp[keys]) It cd
    have c5:=ja.cell
    have lD5:=fun Y=>cp (D:=D5) (Y:=Y) (o:= .cells #[vL,vI,vt,vv,vl,vm,vn] 46 (0,0)) fo
    have st5:=s7_3 vL vI vt vv vl vm vn v5 46 c5
    with_reducible refine Ow.nil ?_
    refine⟨(fun r hr=>by simp only[List.mem_cons,List.not_mem_nil,or_false] at hr;rcases hr with rfl|rfl;exact(ah (cp fo)).trans (ah (bB (cp jJ))).symm;exact(ah (fS qO (by omega))).trans (ah (bB (fS It (by omega)))).symm), ?_⟩
    simp only[List.set_cons_zero,List.set_cons_succ,ax,an,ao]
    refine OwG.rest [8,9,10] rfl (by kernel_rfl) (by kernel_rfl) ?_
    simp only[aN, ↓aM, ↓aH, ↓aL, ↓aK,aI]
    refine kq @aa ?_
    refine Ow.store rfl rfl rfl (ke (And.intro @aa (And.intro @lD5 (@st5)))) ?_
    have es:=fun Y x=>lN (D:=D5) (Y:=Y) (o:= .cells #[vL,vI,vt,vv,vl,vm,vn] 46 (0,0)) (x:=x) fo
    simp only[List.cons_append] at*
    rw[es]
    refine ko @aa ?_
    refine Cw.permL (M:=(bd, .cells #[vL,vI,vt,v5,vl,vm,vn] 46 (0,0)):: (b3, .cells (aB c).toArray 59 (0,0)):: (Q++ (D5++ (M++ (K++ [(ba, .cells (aB c).toArray 59 (0,0))]))))) (by classical exact List.perm_iff_count.2 fun a=>by simp only[List.count_append,List.count_cons,List.count_nil]<;>omega) ?_
    have i9:DwA bd vL vI {W with q:=q,vis:=W.vis++ [c]} vt v5 vl vm vn Q D5 M (K++ [(ba, .cells (aB c).toArray 59 (0,0)),(b3, .cells (aB c).toArray 59 (0,0))]) ((bd, .cells #[vL,vI,vt,v5,vl,vm,vn] 46 (0,0)):: (b3, .cells (aB c).toArray 59 (0,0)):: (Q++ (D5++ (M++ (K++ [(ba, .cells (aB c).toArray 59 (0,0))]))))):=⟨(by classical exact List.perm_iff_count.2 fun a=>by simp only[List.count_append,List.count_cons,List.count_nil]<;>omega),lE,by simpa [List.map_append] using ja,hA.l,hA.m.mono fun p hp=>List.mem_append_left _ hp,hA.n.mono fun p hp=>List.mem_append_left _ hp⟩
    have wi:Ext w X ((bd, .cells #[vL,vI,vt,v5,vl,vm,vn] 46 (0,0)):: (b3, .cells (aB c).toArray 59 (0,0)):: (Q++ (D5++ (M++ (K++ [(ba, .cells (aB c).toArray 59 (0,0))]))))):=hE.trans2 ((hA.ext2 (a:= .cells #[vL,vI,vt,v5,vl,vm,vn] 46 (0,0)) (K':=K++ [(ba, .cells (aB c).toArray 59 (0,0)),(b3, .cells (aB c).toArray 59 (0,0))]) (fun x h=>h) (fun x h=> .inl h) fH (fun x h=>(cd x h).imp id fun h=>by omega) (fun x h=>h) (fun x h=> .inl h) (fun x h=>by rw[aT];exact List.mem_append_left _ h) (fun x h=>by rw[aT,List.mem_append] at h;exact h.imp id fun h=>by simp[keys] at h;omega)).perm (by classical exact List.perm_iff_count.2 fun a=>by simp only[List.count_append,List.count_cons,List.count_nil]<;>omega))
    refine Cw.world fun wz ej=> ?_
    have J_:=ej.nodup
    clear ej wz
    have rbd5:aO w ((bd, .cells #[vL,vI,vt,v5,vl,vm,vn] 46 (0,0)):: (b3, .cells (aB c).toArray 59 (0,0)):: (Q++ (D5++ (M++ (K++ [(ba, .cells (aB c).toArray 59 (0,0))]))))) bd=some (.cells #[vL,vI,vt,v5,vl,vm,vn] 46 (0,0)):=fT _ _ _ _
    have rb35:aO w ((bd, .cells #[vL,vI,vt,v5,vl,vm,vn] 46 (0,0)):: (b3, .cells (aB c).toArray 59 (0,0)):: (Q++ (D5++ (M++ (K++ [(ba, .cells (aB c).toArray 59 (0,0))]))))) b3=some (.cells (aB c).toArray 59 (0,0)):=u' J_ (by simp)
    have pC:bd∈keys ((bd, .cells #[vL,vI,vt,v5,vl,vm,vn] 46 (0,0)):: (b3, .cells (aB c).toArray 59 (0,0)):: (Q++ (D5++ (M++ (K++ [(ba, .cells (aB c).toArray 59 (0,0))]))))):=by simp[keys]
    have p8:b3∈keys ((bd, .cells #[vL,vI,vt,v5,vl,vm,vn] 46 (0,0)):: (b3, .cells (aB c).toArray 59 (0,0)):: (Q++ (D5++ (M++ (K++ [(ba, .cells (aB c).toArray 59 (0,0))]))))):=by simp[keys]
    obtain⟨L5,Ml⟩: ∃L5,L5=(bd, .cells #[vL,vI,vt,v5,vl,vm,vn] 46 (0,0)):: (b3, .cells (aB c).toArray 59 (0,0)):: (Q++ (D5++ (M++ (K++ [(ba, .cells (aB c).toArray 59 (0,0))])))):=⟨_,rfl⟩
    rw[←Ml] at i9 wi rbd5 rb35 pC p8 ⊢
    refine Cw.regionD [bd,b3] [11] 10 6 35 12 _ rfl (by kernel_rfl) (by kernel_rfl) rfl (by kernel_rfl) gC (fun hD=> ?_)
    simp only[List.replicate_succ,List.replicate_zero]
    refine OwD.run [0,1,2,3,4,5] [true,true,true,true,true,true,false,false,false,false,false,false,false] 6 rfl hD (by kernel_rfl) fun k hk=> ?_
    simp only[aN, ↓aM, ↓aH, ↓aL, ↓aK,aI]
    simp(disch:=(first|assumption|omega| (simp only[ac,ab,UInt64.reduceToNat];try omega))) only[↓Sx.S0,Sx.S1,Tryz.fx,aa,Nat.reduceAdd,Nat.reducePow,Int.reducePow,Nat.reduceBEq, ↓reduceIte,UInt8.reduceToNat,UInt16.reduceToNat,UInt32.reduceToNat,UInt64.reduceToNat,Int.reduceToNat,Md.next_sofnil,rbd5,rb35]
    (with_reducible refine hk _ _ _ ?_);clear hk k
    refine OwD.soft 6 _ hD rfl (by kernel_rfl) (fun E Ql=> ?_)
    have N7: ∀x,x∈keys (L5++E)→x∈keys X∨w.heap.size≤x:=fun x hx=>by
     rw[aT,List.mem_append] at hx
     exact hx.elim (wi.new x) fun h=> .inr ((oZ Ql).le x h)
    refine Ow.callFV rfl Tryz.call18 (fun w' a7=>Di vL vI l c.id w' ((hL.ext N7).old a7 (fun _ h=>by cases h)) ((hI.ext N7).old a7 (fun _ h=>by cases h)) hl) ?_
    with_reducible refine Ow.nil ?_
    refine⟨_,List.Perm.refl _,fun _ _=>rfl, ?_⟩
    simp only[List.set_cons_zero,List.set_cons_succ,ax,an,ao]
    refine OwD.run [7,8,9] [true,true,true,true,true,true,true,true,true,true,false,false,false] 2 rfl hD (by kernel_rfl) fun k hk=> ?_
    simp only[aN, ↓aM, ↓aH, ↓aL, ↓aK,aI]
    simp(disch:=(first|assumption|omega| (simp only[ac,ab,UInt64.reduceToNat];try omega))) only[↓Sx.S0,Sx.S1,Tryz.fx,aa,Nat.reduceAdd,Nat.reducePow,Int.reducePow,Nat.reduceBEq, ↓reduceIte,UInt8.reduceToNat,UInt16.reduceToNat,UInt32.reduceToNat,UInt64.reduceToNat,Int.reduceToNat,Md.next_sofnil,Sx.tup2_0,Sx.tup2_1]
    (with_reducible refine hk _ _ _ ?_);clear hk k
    refine OwD.real [11,12] rfl hD (by kernel_rfl) (by kernel_rfl) (by kernel_rfl) (by kernel_rfl) (fun r hr=>by simp only[List.mem_cons,List.not_mem_nil,or_false] at hr;rcases hr with rfl|rfl;exact .inl pC;exact .inl p8) ?_
    simp only[aN, ↓aM, ↓aH, ↓aL, ↓aK,aI]
    intro b6 ei dU
    simp only[an,ao]
    have jj:=sN (l:=l) (i:=c.id)
    have e1:dZ (bn l) c=((bn l c.id).2&& (c.kind==0||c.kind==(bn l c.id).1.k)):=rfl
    have ek:dY (bn l) c.id=eO (bn l c.id).1.k (bn l c.id).1.t:=rfl
    obtain⟨is,RU⟩: ∃b,b=(bn l c.id).2:=⟨_,rfl⟩
    obtain⟨o,ho⟩: ∃o,o=(bn l c.id).1:=⟨_,rfl⟩
    rw[←RU,←ho] at e1 jj ⊢
    rw[←ho] at ek
    obtain⟨ok,ot⟩:=o
    simp only at e1 ek
    refine Ow.store rfl rfl rfl (L':=L5++ [(b6, .cells #[vi ok,vs ot] 35 (0,0))]) ?_ ?_
    ·simp only[bp,bj,cJ]
     have bP:aZ (some (true,2)) (some (Obj.cells (Value.cells (obV 0 [])) 35 (0,0))) 0 (obKV ⟨ok,ot⟩)=some (.cells #[vi ok,vs ot] 35 (0,0)):=rfl
     rw[Tryz.ag35,nk,xD dU,bP,ni,rK dU]
     exact []
    refine ko @aa ?_
    have Qa:b3≠b6:=fun e=>dU (e▸p8)
    have pH:bd≠b6:=fun e=>dU (e▸pC)
    subst Ml
    refine Cw.permL (M:=(b6, .cells #[vi ok,vs ot] 35 (0,0)):: (b3, .cells (aB c).toArray 59 (0,0)):: (bd, .cells #[vL,vI,vt,v5,vl,vm,vn] 46 (0,0)):: (Q++ (D5++ (M++ (K++ [(ba, .cells (aB c).toArray 59 (0,0))]))))) (by classical exact List.perm_iff_count.2 fun a=>by simp only[List.count_append,List.count_cons,List.count_nil]<;>omega) ?_
    have l6:b3∉keys M:=fun h=>by
     have:=hE.new b3 ((f9 b3).2 (.inr (.inr (.inr (.inl h)))))
     have h2:=aP cQ (b:=b3) (by simp only[keys,List.map_cons,List.map_append,List.mem_cons,List.mem_append];exact .inr (.inr (.inr (.inl h))))
     omega
    refine Cw.cutO (G:=Unit) [2,70,71,72,73,74,75,76,77,78,79,80,81,82,83,84,85,86,87,88,89,90,91,92,93,94,95,96,97,98,99,100,101,102,103] (fun g=> []) (fun g=>(b6, .cells #[vi ok,vs ot] 35 (0,0)):: (b3, .cells (aB c).toArray 59 (0,0)):: (bd, .cells #[vL,vI,vt,v5,vl,vm,vn] 46 (0,0)):: (Q++ (D5++ (M++ (K++ [(ba, .cells (aB c).toArray 59 (0,0))]))))) (fun g=>dZ (bn l) c=true) ?_ ?_
    ·cases is with
     |false=>
      have ir:dZ (bn l) c=false:=by rw[e1];rfl
      first|with_reducible refine ks [] @aa ?_|refine kp @aa ?_
      refine Cw.permL (M:=M++ ((bd, .cells #[vL,vI,vt,v5,vl,vm,vn] 46 (0,0)):: (b3, .cells (aB c).toArray 59 (0,0)):: (b6, .cells #[vi ok,vs ot] 35 (0,0)):: (Q++ (D5++ (K++ [(ba, .cells (aB c).toArray 59 (0,0))]))))) (by classical exact List.perm_iff_count.2 fun a=>by simp only[List.count_append,List.count_cons,List.count_nil]<;>omega) ?_
      have rbd:=fun Y=>ah (w0:=w) (cp (D:=M) (Y:=Y) (o:= .cells #[vL,vI,vt,v5,vl,vm,vn] 46 (0,0)) iv)
      have rb3:=fun Y=>ah (w0:=w) (fS (D:=M) (Y:=Y) (o:= .cells #[vL,vI,vt,v5,vl,vm,vn] 46 (0,0)) (x:= .cells (aB c).toArray 59 (0,0)) l6 (show bd≠b3 by omega))
      refine Cw.regionG [bd,b3] [10] 11 (by kernel_rfl) rfl ?_
      simp only[List.replicate_succ,List.replicate_zero]
      refine OwG.run [0,1,2,3,4,5] [true,true,true,true,true,true,false,false,false,false,false] 5 rfl (by kernel_rfl) (by kernel_rfl) fun k hk=> ?_
      simp only[aN, ↓aM, ↓aH, ↓aL, ↓aK,aI]
      simp(disch:=(first|assumption|omega| (simp only[ac,ab,UInt64.reduceToNat];try omega))) only[↓Sx.S0,Sx.S1,Tryz.fx,aa,Nat.reduceAdd,Nat.reducePow,Int.reducePow,Nat.reduceBEq, ↓reduceIte,UInt8.reduceToNat,UInt16.reduceToNat,UInt32.reduceToNat,UInt64.reduceToNat,Int.reduceToNat,Md.next_sofnil,rbd,rb3]
      (with_reducible refine hk _ _ _ ?_);clear hk k
      refine OwG.one 6 _ (by kernel_rfl) rfl ?_
      refine Ow.buildSlice (e:=59) (aB c).toArray rfl rfl (qw c) fun bb pB qp=> ?_
      with_reducible refine Ow.nil ?_
      refine⟨(cv (fun r hr=>by simp only[List.mem_cons,List.not_mem_nil,or_false] at hr;rcases hr with rfl|rfl<;>simp[keys])), ?_⟩
      simp only[List.set_cons_zero,List.set_cons_succ,ax,an,ao]
      refine OwG.one 7 _ (by kernel_rfl) rfl ?_
      refine Ow.appendXG (e:=59) (k:=1) (new:=aB c) (X:=M) vl (List.append_assoc _ _ _) rfl rfl rfl Tryz.underlying44 fK (by kernel_rfl) d_ (by rw[fj,List.size_toArray,bU]) Tryz.underlying44 (by intro k h;cases h) hA.l (fun w' a7=>AppX.one1 (a7.has bb (.cells (aB c).toArray 59 (0,0)) (by simp)) (bU _) (iQ _)) (by show 2* (W.lk.length+1)+768≤2^38;omega) (fun B7 v7 D7 gF mH fW eE bF jH=> ?_)
      have eY:bd∉keys D7:=gV gF (by simp[keys]) iv bF
      have j7:b3∉keys D7:=gV gF (by simp[keys]) l6 bF
      have lD7:=fun Y=>cp (D:=D7) (Y:=Y) (o:= .cells #[vL,vI,vt,v5,vl,vm,vn] 46 (0,0)) eY
      have st7:=s7_4 vL vI vt v5 vl vm vn v7 46 fW.cell
      with_reducible refine Ow.nil ?_
      refine⟨(fun r hr=>by simp only[List.mem_cons,List.not_mem_nil,or_false] at hr;rcases hr with rfl|rfl;exact(ah (cp eY)).trans (ah (bB (cp iv))).symm;exact(ah (fS j7 (by omega))).trans (ah (bB (fS l6 (by omega)))).symm), ?_⟩
      simp only[List.set_cons_zero,List.set_cons_succ,ax,an,ao]
      refine OwG.rest [8,9,10] rfl (by kernel_rfl) (by kernel_rfl) ?_
      simp only[aN, ↓aM, ↓aH, ↓aL, ↓aK,aI]
      refine kq @aa ?_
      refine Ow.store rfl rfl rfl (ke (And.intro @aa (And.intro @lD7 (@st7)))) ?_
      have es7:=fun Y x=>lN (D:=D7) (Y:=Y) (o:= .cells #[vL,vI,vt,v5,vl,vm,vn] 46 (0,0)) (x:=x) eY
      simp only[List.cons_append] at*
      rw[es7]
      refine ko @aa ?_
      refine Cw.permL (M:=(bd, .cells #[vL,vI,vt,v5,v7,vm,vn] 46 (0,0)):: (b3, .cells (aB c).toArray 59 (0,0)):: (b6, .cells #[vi ok,vs ot] 35 (0,0)):: (Q++ (D5++ (D7++ (K++ [(ba, .cells (aB c).toArray 59 (0,0)),(bb, .cells (aB c).toArray 59 (0,0))]))))) (by classical exact List.perm_iff_count.2 fun a=>by simp only[List.count_append,List.count_cons,List.count_nil]<;>omega) ?_
      refine Cw.regionG [bd,b3] [10] 11 (by kernel_rfl) rfl ?_
      simp only[List.replicate_succ,List.replicate_zero]
      refine OwG.run [0,1,2,3,4,5,6] [true,true,true,true,true,true,true,false,false,false,false] 4 rfl (by kernel_rfl) (by kernel_rfl) fun k hk=> ?_
      simp only[aN, ↓aM, ↓aH, ↓aL, ↓aK,aI]
      simp(disch:=(first|assumption|omega| (simp only[ac,ab,UInt64.reduceToNat];try omega))) only[↓Sx.S0,Sx.S1,Tryz.fx,aa,Nat.reduceAdd,Nat.reducePow,Int.reducePow,Nat.reduceBEq, ↓reduceIte,UInt8.reduceToNat,UInt16.reduceToNat,UInt32.reduceToNat,UInt64.reduceToNat,Int.reduceToNat,Md.next_sofnil,Md.next_sofnil]
      (with_reducible refine hk _ _ _ ?_);clear hk k
      refine OwG.one 7 _ (by kernel_rfl) rfl ?_
      obtain⟨Xn,t_,tn⟩:=hA.n
      refine Ow.callC rfl rfl Tryz.call73 (fun w' a7=>yb vn (eH W.lk) c.id w' (tn.slM (z:=id0) (fun b o hm=>a7.has b o (by have:=t_ _ hm;simp[this])) rfl rfl fQ) (by have:=pv (W.lk.map ChildL.id);rw[List.length_map] at this;show(bZ (W.lk.map ChildL.id)).length<_;omega)) (fun B8 v8 D8 n9 gP fX gR=> ?_)
      have cr:=fX.mono gP
      have fY:=gR.gri (K:=K) ⟨Xn,t_,tn⟩
      have st8:=s7_6 vL vI vt v5 v7 vm vn v8 46 (xn fY)
      with_reducible refine Ow.nil ?_
      refine⟨(cv (fun r hr=>by simp only[List.mem_cons,List.not_mem_nil,or_false] at hr;rcases hr with rfl|rfl<;>simp[keys])), ?_⟩
      simp only[List.set_cons_zero,List.set_cons_succ,ax,an,ao]
      refine OwG.rest [8,9,10] rfl (by kernel_rfl) (by kernel_rfl) ?_
      simp only[aN, ↓aM, ↓aH, ↓aL, ↓aK,aI]
      refine kq @aa ?_
      refine Ow.store rfl rfl rfl (ke (And.intro @aa @st8)) ?_
      refine ko @aa ?_
      first|with_reducible refine ks [] @aa ?_|refine kp @aa ?_
      refine⟨_,(ke @aa), ?_⟩
      rw[←bP,stepQ,if_neg hc]
      have pk:en (bn l) {W with q:=q} c={W with q:=q,vis:=W.vis++ [c],lk:=W.lk++ [c]}:=by unfold en;rw[if_neg (by rw[ir];simp)]
      rw[pk]
      refine⟨hE.trans2 ((hA.ext2 (a:= .cells #[vL,vI,vt,v5,v7,vm,v8] 46 (0,0)) (K':=K++ ([(ba, .cells (aB c).toArray 59 (0,0)),(bb, .cells (aB c).toArray 59 (0,0)),(b3, .cells (aB c).toArray 59 (0,0)),(b6, .cells #[vi ok,vs ot] 35 (0,0))]++D8)) (fun x h=>h) (fun x h=> .inl h) fH (fun x h=>(cd x h).imp id fun h=>by omega) eE (fun x h=>(bF x h).imp id fun h=>by omega) (fun x h=>by rw[aT];exact List.mem_append_left _ h) (fun x h=>by rw[aT,aT,List.mem_append,List.mem_append] at h;exact h.imp id fun h=>h.elim (fun h=>by simp[keys] at h;omega) (cr.le x))).perm (by classical exact List.perm_iff_count.2 fun a=>by simp only[List.count_append,List.count_cons,List.count_nil]<;>omega)),rfl,vt,v5,v7,vm,v8,Q,D5,D7,K++ ([(ba, .cells (aB c).toArray 59 (0,0)),(bb, .cells (aB c).toArray 59 (0,0)),(b3, .cells (aB c).toArray 59 (0,0)),(b6, .cells #[vi ok,vs ot] 35 (0,0))]++D8),⟨(by classical exact List.perm_iff_count.2 fun a=>by simp only[List.count_append,List.count_cons,List.count_nil]<;>omega),lE,i9.v,by simpa [List.map_append] using fW,hA.m.mono fun p hp=>List.mem_append_left _ hp, ?_⟩⟩
      show GrI _ _ 32 v8 (eH (W.lk++ [c])).length ((eH (W.lk++ [c])).map aJ).flatten
      rw[MB]
      exact fY.mono fun p hp=>by rw[List.mem_append] at hp;rcases hp with h|h<;>simp[h]
     |true=>
      cases jE: (c.kind==0) with
      |true=>
       have f0: (c.kind !=0)=false:=by simpa using jE
       first|with_reducible refine ks [] (And.intro @aa @f0) ?_|refine kp (And.intro @aa @f0) ?_
       exact CutO.mk () (by rw[e1,jE];rfl) rfl rfl
      |false=>
       have f0: (c.kind !=0)=true:=by simpa using jE
       cases nK: (c.kind==ok) with
       |true=>
        have f1: (c.kind !=ok)=false:=by simpa using nK
        first|with_reducible refine ks [] (And.intro @aa (And.intro @f0 (@f1))) ?_|refine kp (And.intro @aa (And.intro @f0 (@f1))) ?_
        exact CutO.mk () (by rw[e1,jE,nK];rfl) rfl rfl
       |false=>
        have ir:dZ (bn l) c=false:=by rw[e1,jE,nK];rfl
        have f1: (c.kind !=ok)=true:=by simpa using nK
        first|with_reducible refine ks [] (And.intro @aa (And.intro @f0 (@f1))) ?_|refine kp (And.intro @aa (And.intro @f0 (@f1))) ?_
        refine Cw.permL (M:=M++ ((bd, .cells #[vL,vI,vt,v5,vl,vm,vn] 46 (0,0)):: (b3, .cells (aB c).toArray 59 (0,0)):: (b6, .cells #[vi ok,vs ot] 35 (0,0)):: (Q++ (D5++ (K++ [(ba, .cells (aB c).toArray 59 (0,0))]))))) (by classical exact List.perm_iff_count.2 fun a=>by simp only[List.count_append,List.count_cons,List.count_nil]<;>omega) ?_
        have rbd:=fun Y=>ah (w0:=w) (cp (D:=M) (Y:=Y) (o:= .cells #[vL,vI,vt,v5,vl,vm,vn] 46 (0,0)) iv)
        have rb3:=fun Y=>ah (w0:=w) (fS (D:=M) (Y:=Y) (o:= .cells #[vL,vI,vt,v5,vl,vm,vn] 46 (0,0)) (x:= .cells (aB c).toArray 59 (0,0)) l6 (show bd≠b3 by omega))
        refine Cw.regionG [bd,b3] [10] 11 (by kernel_rfl) rfl ?_
        simp only[List.replicate_succ,List.replicate_zero]
        refine OwG.run [0,1,2,3,4,5] [true,true,true,true,true,true,false,false,false,false,false] 5 rfl (by kernel_rfl) (by kernel_rfl) fun k hk=> ?_
        simp only[aN, ↓aM, ↓aH, ↓aL, ↓aK,aI]
        simp(disch:=(first|assumption|omega| (simp only[ac,ab,UInt64.reduceToNat];try omega))) only[↓Sx.S0,Sx.S1,Tryz.fx,aa,Nat.reduceAdd,Nat.reducePow,Int.reducePow,Nat.reduceBEq, ↓reduceIte,UInt8.reduceToNat,UInt16.reduceToNat,UInt32.reduceToNat,UInt64.reduceToNat,Int.reduceToNat,Md.next_sofnil,rbd,rb3]
        (with_reducible refine hk _ _ _ ?_);clear hk k
        refine OwG.one 6 _ (by kernel_rfl) rfl ?_
        refine Ow.buildSlice (e:=59) (aB c).toArray rfl rfl (qw c) fun bb pB qp=> ?_
        with_reducible refine Ow.nil ?_
        refine⟨(cv (fun r hr=>by simp only[List.mem_cons,List.not_mem_nil,or_false] at hr;rcases hr with rfl|rfl<;>simp[keys])), ?_⟩
        simp only[List.set_cons_zero,List.set_cons_succ,ax,an,ao]
        refine OwG.one 7 _ (by kernel_rfl) rfl ?_
        refine Ow.appendXG (e:=59) (k:=1) (new:=aB c) (X:=M) vl (List.append_assoc _ _ _) rfl rfl rfl Tryz.underlying44 fK (by kernel_rfl) d_ (by rw[fj,List.size_toArray,bU]) Tryz.underlying44 (by intro k h;cases h) hA.l (fun w' a7=>AppX.one1 (a7.has bb (.cells (aB c).toArray 59 (0,0)) (by simp)) (bU _) (iQ _)) (by show 2* (W.lk.length+1)+768≤2^38;omega) (fun B7 v7 D7 gF mH fW eE bF jH=> ?_)
        have eY:bd∉keys D7:=gV gF (by simp[keys]) iv bF
        have j7:b3∉keys D7:=gV gF (by simp[keys]) l6 bF
        have lD7:=fun Y=>cp (D:=D7) (Y:=Y) (o:= .cells #[vL,vI,vt,v5,vl,vm,vn] 46 (0,0)) eY
        have st7:=s7_4 vL vI vt v5 vl vm vn v7 46 fW.cell
        with_reducible refine Ow.nil ?_
        refine⟨(fun r hr=>by simp only[List.mem_cons,List.not_mem_nil,or_false] at hr;rcases hr with rfl|rfl;exact(ah (cp eY)).trans (ah (bB (cp iv))).symm;exact(ah (fS j7 (by omega))).trans (ah (bB (fS l6 (by omega)))).symm), ?_⟩
        simp only[List.set_cons_zero,List.set_cons_succ,ax,an,ao]
        refine OwG.rest [8,9,10] rfl (by kernel_rfl) (by kernel_rfl) ?_
        simp only[aN, ↓aM, ↓aH, ↓aL, ↓aK,aI]
        refine kq @aa ?_
        refine Ow.store rfl rfl rfl (ke (And.intro @aa (And.intro @lD7 (@st7)))) ?_
        have es7:=fun Y x=>lN (D:=D7) (Y:=Y) (o:= .cells #[vL,vI,vt,v5,vl,vm,vn] 46 (0,0)) (x:=x) eY
        simp only[List.cons_append] at*
        rw[es7]
        refine ko @aa ?_
        refine Cw.permL (M:=(bd, .cells #[vL,vI,vt,v5,v7,vm,vn] 46 (0,0)):: (b3, .cells (aB c).toArray 59 (0,0)):: (b6, .cells #[vi ok,vs ot] 35 (0,0)):: (Q++ (D5++ (D7++ (K++ [(ba, .cells (aB c).toArray 59 (0,0)),(bb, .cells (aB c).toArray 59 (0,0))]))))) (by classical exact List.perm_iff_count.2 fun a=>by simp only[List.count_append,List.count_cons,List.count_nil]<;>omega) ?_
        refine Cw.regionG [bd,b3] [10] 11 (by kernel_rfl) rfl ?_
        simp only[List.replicate_succ,List.replicate_zero]
        refine OwG.run [0,1,2,3,4,5,6] [true,true,true,true,true,true,true,false,false,false,false] 4 rfl (by kernel_rfl) (by kernel_rfl) fun k hk=> ?_
        simp only[aN, ↓aM, ↓aH, ↓aL, ↓aK,aI]
        simp(disch:=(first|assumption|omega| (simp only[ac,ab,UInt64.reduceToNat];try omega))) only[↓Sx.S0,Sx.S1,Tryz.fx,aa,Nat.reduceAdd,Nat.reducePow,Int.reducePow,Nat.reduceBEq, ↓reduceIte,UInt8.reduceToNat,UInt16.reduceToNat,UInt32.reduceToNat,UInt64.reduceToNat,Int.reduceToNat,Md.next_sofnil,Md.next_sofnil]
        (with_reducible refine hk _ _ _ ?_);clear hk k
        refine OwG.one 7 _ (by kernel_rfl) rfl ?_
        obtain⟨Xn,t_,tn⟩:=hA.n
        refine Ow.callC rfl rfl Tryz.call73 (fun w' a7=>yb vn (eH W.lk) c.id w' (tn.slM (z:=id0) (fun b o hm=>a7.has b o (by have:=t_ _ hm;simp[this])) rfl rfl fQ) (by have:=pv (W.lk.map ChildL.id);rw[List.length_map] at this;show(bZ (W.lk.map ChildL.id)).length<_;omega)) (fun B8 v8 D8 n9 gP fX gR=> ?_)
        have cr:=fX.mono gP
        have fY:=gR.gri (K:=K) ⟨Xn,t_,tn⟩
        have st8:=s7_6 vL vI vt v5 v7 vm vn v8 46 (xn fY)
        with_reducible refine Ow.nil ?_
        refine⟨(cv (fun r hr=>by simp only[List.mem_cons,List.not_mem_nil,or_false] at hr;rcases hr with rfl|rfl<;>simp[keys])), ?_⟩
        simp only[List.set_cons_zero,List.set_cons_succ,ax,an,ao]
        refine OwG.rest [8,9,10] rfl (by kernel_rfl) (by kernel_rfl) ?_
        simp only[aN, ↓aM, ↓aH, ↓aL, ↓aK,aI]
        refine kq @aa ?_
        refine Ow.store rfl rfl rfl (ke (And.intro @aa @st8)) ?_
        refine ko @aa ?_
        first|with_reducible refine ks [] @aa ?_|refine kp @aa ?_
        refine⟨_,(ke @aa), ?_⟩
        rw[←bP,stepQ,if_neg hc]
        have pk:en (bn l) {W with q:=q} c={W with q:=q,vis:=W.vis++ [c],lk:=W.lk++ [c]}:=by unfold en;rw[if_neg (by rw[ir];simp)]
        rw[pk]
        refine⟨hE.trans2 ((hA.ext2 (a:= .cells #[vL,vI,vt,v5,v7,vm,v8] 46 (0,0)) (K':=K++ ([(ba, .cells (aB c).toArray 59 (0,0)),(bb, .cells (aB c).toArray 59 (0,0)),(b3, .cells (aB c).toArray 59 (0,0)),(b6, .cells #[vi ok,vs ot] 35 (0,0))]++D8)) (fun x h=>h) (fun x h=> .inl h) fH (fun x h=>(cd x h).imp id fun h=>by omega) eE (fun x h=>(bF x h).imp id fun h=>by omega) (fun x h=>by rw[aT];exact List.mem_append_left _ h) (fun x h=>by rw[aT,aT,List.mem_append,List.mem_append] at h;exact h.imp id fun h=>h.elim (fun h=>by simp[keys] at h;omega) (cr.le x))).perm (by classical exact List.perm_iff_count.2 fun a=>by simp only[List.count_append,List.count_cons,List.count_nil]<;>omega)),rfl,vt,v5,v7,vm,v8,Q,D5,D7,K++ ([(ba, .cells (aB c).toArray 59 (0,0)),(bb, .cells (aB c).toArray 59 (0,0)),(b3, .cells (aB c).toArray 59 (0,0)),(b6, .cells #[vi ok,vs ot] 35 (0,0))]++D8),⟨(by classical exact List.perm_iff_count.2 fun a=>by simp only[List.count_append,List.count_cons,List.count_nil]<;>omega),lE,i9.v,by simpa [List.map_append] using fW,hA.m.mono fun p hp=>List.mem_append_left _ hp, ?_⟩⟩
        show GrI _ _ 32 v8 (eH (W.lk++ [c])).length ((eH (W.lk++ [c])).map aJ).flatten
        rw[MB]
        exact fY.mono fun p hp=>by rw[List.mem_append] at hp;rcases hp with h|h<;>simp[h]
    intro g j hg
    refine kv ?_
    have ir:dZ (bn l) c=true:=hg
    have Jj:is=true:=by rw[e1,Bool.and_eq_true] at ir;exact ir.1
    have cG:rdK ⟨ok,ot⟩=true:=hr _ (jj Jj).1
    have QZ:b3∉keys Q:=fun h=>by
     have:=hE.new b3 ((f9 b3).2 (.inr (.inl h)))
     have h2:=aP cQ (b:=b3) (by simp only[keys,List.map_cons,List.map_append,List.mem_cons,List.mem_append];exact .inr (.inl h))
     omega
    have I_:b6∉keys Q:=fun h=>dU (by simp only[keys,List.map_cons,List.map_append,List.mem_cons,List.mem_append];exact .inr (.inr (.inl h)))
    first|with_reducible refine ks [] @aa ?_|refine kp @aa ?_
    refine Cw.regionS [bd,b3] [0,1,2,4,3,5,6,7] [] (by kernel_rfl) (by kernel_rfl) (by kernel_rfl) ?_
    simp only[aN, ↓aM, ↓aH, ↓aL, ↓aK,aI]
    refine kq @aa ?_
    refine Ow.soft rfl rfl rfl ?_
    obtain⟨Xm,JN,J9⟩:=hA.m
    have iu:=pv W.ms
    refine Ow.callFV rfl Tryz.call31 (fun w' a7=>GF vm (bZ W.ms) c.id w' (SlV.rowX (J9.slM (z:=id0) (fun b o hm=>a7.has b o (by have:=JN _ hm;simp[this])) rfl rfl fQ)) (by omega)) ?_
    with_reducible refine Ow.nil ?_
    refine⟨by intro b hb;simp only[List.mem_cons,List.not_mem_nil,or_false] at hb;(try subst hb);rfl, ?_⟩
    by_cases hm:c.id∈W.ms
    ·have em:decide (c.id∈bZ W.ms)=true:=decide_eq_true (mem_srtI.2 hm)
     refine Ow.goQ ?_
     simp(disch:=(first|assumption|omega| (simp only[ac,ab,UInt64.reduceToNat];try omega))) only[↓Sx.S0,Sx.S1,Tryz.fx,aa,Nat.reduceAdd,Nat.reducePow,Int.reducePow,Nat.reduceBEq, ↓reduceIte,UInt8.reduceToNat,UInt16.reduceToNat,UInt32.reduceToNat,UInt64.reduceToNat,Int.reduceToNat,em,Bool.not_true]
     try with_reducible refine Ow.nil ?_
     first|with_reducible refine ks [] @aa ?_|refine kp @aa ?_
     refine⟨_,(ke @aa), ?_⟩
     rw[←bP,stepQ,if_neg hc]
     have pk:en (bn l) {W with q:=q} c={W with q:=q,vis:=W.vis++ [c]}:=by unfold en;rw[if_pos ir,if_pos hm]
     rw[pk]
     exact⟨hE.trans2 ((hA.ext2 (a:= .cells #[vL,vI,vt,v5,vl,vm,vn] 46 (0,0)) (K':=K++ [(ba, .cells (aB c).toArray 59 (0,0)),(b3, .cells (aB c).toArray 59 (0,0)),(b6, .cells #[vi ok,vs ot] 35 (0,0))]) (fun x h=>h) (fun x h=> .inl h) fH (fun x h=>(cd x h).imp id fun h=>by omega) (fun x h=>h) (fun x h=> .inl h) (fun x h=>by rw[aT];exact List.mem_append_left _ h) (fun x h=>by rw[aT,List.mem_append] at h;exact h.imp id fun h=>by simp[keys] at h;omega)).perm (by classical exact List.perm_iff_count.2 fun a=>by simp only[List.count_append,List.count_cons,List.count_nil]<;>omega)),rfl,vt,v5,vl,vm,vn,Q,D5,M,K++ [(ba, .cells (aB c).toArray 59 (0,0)),(b3, .cells (aB c).toArray 59 (0,0)),(b6, .cells #[vi ok,vs ot] 35 (0,0))],⟨(by classical exact List.perm_iff_count.2 fun a=>by simp only[List.count_append,List.count_cons,List.count_nil]<;>omega),lE,i9.v,hA.l,hA.m.mono fun p hp=>List.mem_append_left _ hp,hA.n.mono fun p hp=>List.mem_append_left _ hp⟩⟩
    ·have em:decide (c.id∈bZ W.ms)=false:=decide_eq_false (fun h=>hm (mem_srtI.1 h))
     refine Ow.goQ ?_
     simp(disch:=(first|assumption|omega| (simp only[ac,ab,UInt64.reduceToNat];try omega))) only[↓Sx.S0,Sx.S1,Tryz.fx,aa,Nat.reduceAdd,Nat.reducePow,Int.reducePow,Nat.reduceBEq, ↓reduceIte,UInt8.reduceToNat,UInt16.reduceToNat,UInt32.reduceToNat,UInt64.reduceToNat,Int.reduceToNat,em,Bool.not_false]
     try with_reducible refine Ow.nil ?_
     first|with_reducible refine ks [] @aa ?_|refine kp @aa ?_
     refine Cw.regionG [bd,b3] [10] 11 (by kernel_rfl) rfl ?_
     simp only[List.replicate_succ,List.replicate_zero]
     refine OwG.run [0,1,2,3,4,5,6] [true,true,true,true,true,true,true,false,false,false,false] 4 rfl (by kernel_rfl) (by kernel_rfl) fun k hk=> ?_
     simp only[aN, ↓aM, ↓aH, ↓aL, ↓aK,aI]
     simp(disch:=(first|assumption|omega| (simp only[ac,ab,UInt64.reduceToNat];try omega))) only[↓Sx.S0,Sx.S1,Tryz.fx,aa,Nat.reduceAdd,Nat.reducePow,Int.reducePow,Nat.reduceBEq, ↓reduceIte,UInt8.reduceToNat,UInt16.reduceToNat,UInt32.reduceToNat,UInt64.reduceToNat,Int.reduceToNat,Md.next_sofnil,Md.next_sofnil]
     (with_reducible refine hk _ _ _ ?_);clear hk k
     refine OwG.one 7 _ (by kernel_rfl) rfl ?_
     refine Ow.callC rfl rfl Tryz.call73 (fun w' a7=>yb vm (bZ W.ms) c.id w' (J9.slM (z:=id0) (fun b o hm=>a7.has b o (by have:=JN _ hm;simp[this])) rfl rfl fQ) (by omega)) (fun B8 v8 D8 n9 gP fX gR=> ?_)
     have cr:=fX.mono gP
     have fY:=gR.gri (K:=K) ⟨Xm,JN,J9⟩
     have st8:=s7_5 vL vI vt v5 vl vm vn v8 46 (xn fY)
     with_reducible refine Ow.nil ?_
     refine⟨(cv (fun r hr=>by simp only[List.mem_cons,List.not_mem_nil,or_false] at hr;rcases hr with rfl|rfl<;>simp[keys])), ?_⟩
     simp only[List.set_cons_zero,List.set_cons_succ,ax,an,ao]
     refine OwG.rest [8,9,10] rfl (by kernel_rfl) (by kernel_rfl) ?_
     simp only[aN, ↓aM, ↓aH, ↓aL, ↓aK,aI]
     refine kq @aa ?_
     refine Ow.store rfl rfl rfl (ke (And.intro @aa @st8)) ?_
     refine ko @aa ?_
     refine Cw.permL (M:=Q++ ((bd, .cells #[vL,vI,vt,v5,vl,v8,vn] 46 (0,0)):: (b6, .cells #[vi ok,vs ot] 35 (0,0)):: (b3, .cells (aB c).toArray 59 (0,0)):: (D5++ (M++ (K++ ((ba, .cells (aB c).toArray 59 (0,0))::D8)))))) (by classical exact List.perm_iff_count.2 fun a=>by simp only[List.count_append,List.count_cons,List.count_nil]<;>omega) ?_
     have rbd:=fun Y=>ah (w0:=w) (cp (D:=Q) (Y:=Y) (o:= .cells #[vL,vI,vt,v5,vl,v8,vn] 46 (0,0)) jI)
     have rb6:=fun Y=>ah (w0:=w) (fS (D:=Q) (Y:=Y) (o:= .cells #[vL,vI,vt,v5,vl,v8,vn] 46 (0,0)) (x:= .cells #[vi ok,vs ot] 35 (0,0)) I_ pH)
     refine Cw.regionG [bd,b6] [10] 11 (by kernel_rfl) rfl ?_
     simp only[List.replicate_succ,List.replicate_zero]
     refine OwG.run [0,1,2,3,4,5] [true,true,true,true,true,true,false,false,false,false,false] 5 rfl (by kernel_rfl) (by kernel_rfl) fun k hk=> ?_
     simp only[aN, ↓aM, ↓aH, ↓aL, ↓aK,aI]
     simp(disch:=(first|assumption|omega| (simp only[ac,ab,UInt64.reduceToNat];try omega))) only[↓Sx.S0,Sx.S1,Tryz.fx,aa,Nat.reduceAdd,Nat.reducePow,Int.reducePow,Nat.reduceBEq, ↓reduceIte,UInt8.reduceToNat,UInt16.reduceToNat,UInt32.reduceToNat,UInt64.reduceToNat,Int.reduceToNat,Md.next_sofnil,rbd,rb6]
     (with_reducible refine hk _ _ _ ?_);clear hk k
     refine OwG.one 6 _ (by kernel_rfl) rfl ?_
     refine Ow.callC rfl rfl Tryz.call74 (fun w' a7=>Nk ok ot w' cG) (fun B9 v9 D9 qP j9 iA wm=> ?_)
     have db:=iA.mono j9
     rw[←ek] at wm
     have wy:=yQ (bn l) c.id
     with_reducible refine Ow.nil ?_
     refine⟨(cv (fun r hr=>by simp only[List.mem_cons,List.not_mem_nil,or_false] at hr;rcases hr with rfl|rfl<;>simp[keys])), ?_⟩
     simp only[List.set_cons_zero,List.set_cons_succ,ax,an,ao]
     refine OwG.one 7 _ (by kernel_rfl) rfl ?_
     refine Ow.appendQ (e:=59) (k:=(dY (bn l) c.id).length) (new:=((dY (bn l) c.id).map aB).flatten) (X:=Q) vt (List.append_assoc _ _ _) rfl rfl rfl Tryz.underlying44 fK (by kernel_rfl) d_ (by rw[fj,List.size_toArray,bU]) Tryz.underlying44 (by intro k h;cases h) lE (fun w' a7=>(wm.slM (z:=chd0) (fun b o hm=>a7.has b o (List.mem_append_right _ hm)) rfl rfl bU).appX bU iQ) (by omega) (fun B7 v7 D7 gF mH fW eE bF jH=> ?_)
     have eY:bd∉keys D7:=gV gF (by simp[keys]) jI bF
     have Iz:b6∉keys D7:=gV gF (by simp[keys]) I_ bF
     have lD7:=fun Y=>cp (D:=D7) (Y:=Y) (o:= .cells #[vL,vI,vt,v5,vl,v8,vn] 46 (0,0)) eY
     have st7:=s7_2 vL vI vt v5 vl v8 vn v7 46 fW.cell
     with_reducible refine Ow.nil ?_
     refine⟨(fun r hr=>by simp only[List.mem_cons,List.not_mem_nil,or_false] at hr;rcases hr with rfl|rfl;exact(ah (cp eY)).trans (ah (bB (cp jI))).symm;exact(ah (fS Iz pH)).trans (ah (bB (fS I_ pH))).symm), ?_⟩
     simp only[List.set_cons_zero,List.set_cons_succ,ax,an,ao]
     refine OwG.rest [8,9,10] rfl (by kernel_rfl) (by kernel_rfl) ?_
     simp only[aN, ↓aM, ↓aH, ↓aL, ↓aK,aI]
     refine kq @aa ?_
     refine Ow.store rfl rfl rfl (ke (And.intro @aa (And.intro @lD7 (@st7)))) ?_
     have es7:=fun Y x=>lN (D:=D7) (Y:=Y) (o:= .cells #[vL,vI,vt,v5,vl,v8,vn] 46 (0,0)) (x:=x) eY
     simp only[List.cons_append] at*
     rw[es7]
     refine ko @aa ?_
     first|with_reducible refine ks [] @aa ?_|refine kp @aa ?_
     refine⟨_,(ke @aa), ?_⟩
     rw[←bP,stepQ,if_neg hc]
     have pk:en (bn l) {W with q:=q} c={W with q:=q++dY (bn l) c.id,vis:=W.vis++ [c],ms:=W.ms++ [c.id]}:=by unfold en;rw[if_pos ir,if_neg hm]
     rw[pk]
     refine⟨hE.trans2 ((hA.ext2 (a:= .cells #[vL,vI,v7,v5,vl,v8,vn] 46 (0,0)) (K':=K++ ([(ba, .cells (aB c).toArray 59 (0,0)),(b3, .cells (aB c).toArray 59 (0,0)),(b6, .cells #[vi ok,vs ot] 35 (0,0))]++ (D8++D9))) eE (fun x h=>(bF x h).imp id fun h=>by omega) fH (fun x h=>(cd x h).imp id fun h=>by omega) (fun x h=>h) (fun x h=> .inl h) (fun x h=>by rw[aT];exact List.mem_append_left _ h) (fun x h=>by rw[aT,aT,aT,List.mem_append,List.mem_append,List.mem_append] at h;exact h.imp id fun h=>h.elim (fun h=>by simp[keys] at h;omega) fun h=>h.elim (cr.le x) (db.le x))).perm (by classical exact List.perm_iff_count.2 fun a=>by simp only[List.count_append,List.count_cons,List.count_nil]<;>omega)),rfl,v7,v5,vl,v8,vn,D7,D5,M,K++ ([(ba, .cells (aB c).toArray 59 (0,0)),(b3, .cells (aB c).toArray 59 (0,0)),(b6, .cells #[vi ok,vs ot] 35 (0,0))]++ (D8++D9)),⟨(by classical exact List.perm_iff_count.2 fun a=>by simp only[List.count_append,List.count_cons,List.count_nil]<;>omega),by simpa [List.map_append] using fW,i9.v,hA.l, ?_,hA.n.mono fun p hp=>List.mem_append_left _ hp⟩⟩
     show GrI _ _ 32 v8 (bZ (W.ms++ [c.id])).length ((bZ (W.ms++ [c.id])).map aJ).flatten
     rw[Lr]
     exact fY.mono fun p hp=>by rw[List.mem_append] at hp;rcases hp with h|h<;>simp[h]
end Go.Proofs
end
section
open Go Go.Proofs Go.Sx Go.StP Go.RooP
namespace Go.Proofs
set_option maxRecDepth 10000
set_option maxHeartbeats 400000
set_option linter.unusedSimpArgs false
set_option linter.defProp false
def dB:=And.intro (And.intro (And.intro (And.intro (@gB) (@gZ)) (And.intro (@gY) (And.intro (@gX) (@qt)))) (And.intro (And.intro (@Sx.tup2_0) (And.intro (@Sx.tup2_1) (@cP))) (And.intro (@cO) (And.intro (@pw) (@rE))))) (And.intro (And.intro (And.intro (@qs) (@q_)) (And.intro (@fj) (And.intro (@rM) (@l7_0)))) (And.intro (And.intro (@l7_2) (And.intro (@l7_3) (@l7_4))) (And.intro (@l7_5) (And.intro (@l7_6) (@Ld)))))
theorem Dk (bd:Nat) (vL vI:Value) (W:WkS) (v:Value) (l:List IdL) (X:a6) (w:World) (hX: ∀p,p∈X→w.heap[p.1]? =some p.2) (hn: (keys X).Nodup) (hP:DwP bd vL vI W X) (hR:RowX 32 aJ id0 w v l X)
  (bJ:W.q.length<10000000) (hl:l.length<1000000):
  Rets Tryz.prog 22 #[vp bd 0,v] w (XS w X (fun v D=>v= .tuple #[]∧DwP bd vL vI (dJ W l) D)):=by
 obtain⟨rb,off,arr,E,fz,hr,mY⟩:=hR
 have lnv:=fun x=>hr.len x
 refine Rets.enterX Tryz.func22 rfl (rs:= []) Tryz.results22 Tryz.ntmps22 hX hn ?_
 refine kf ?_
 first|with_reducible refine ks [] @dB ?_|refine kp @dB ?_
 refine Cw.loopG (G:=MkAdG) [5,6,7,8,11,12,13,14,15,16,17,18,19,20,21,22,23,24,9,10,4] (fun g=> [(4,vi g.i)]) (fun g=>g.X) (fun g=>g.i≤l.length∧DwP bd vL vI (dJ W (l.take g.i)) g.X∧Ext w X g.X) (fun g=>l.length - g.i) ⟨0,X⟩ rfl rfl ?_ ?_
 ·refine⟨Nat.zero_le _, ?_,Ext.refl _ _⟩
  have:dJ W (l.take 0)=W:=by unfold dJ;simp
  rw[this];exact hP
 intro g j hg
 refine kv ?_
 clear hP hX hn
 obtain⟨i,X'⟩:=g
 simp only at hg ⊢
 obtain⟨hi,hP,hE⟩:=hg
 by_cases aC:i<l.length
 ·refine Cw.world fun wz ej=> ?_
  have nN:=ej.nodup
  clear ej wz
  obtain⟨vq,vv,vl,vm,vn,Q,V,M,K,hA⟩:=hP
  obtain⟨jI,jJ,iv,mS⟩:=hA.ne nN
  have f9:=hA.keysX
  have jn:=hr.lt (by omega)
  have ql:rb∉keys X':=hE.not jn (mY (by omega))
  have rd: ∀L:a6,(∀c,c∈keys L→c∈keys X'∨w.heap.size≤c)→aO w L rb=some (.cells arr E fz):=fun L hL=>by
   rw[jT (fun hm=>by rcases hL _ hm with h|h;exact ql h;omega)];exact hr.has (by omega)
  have ix:=hr.idx true i aC
  have ld:=rR hr aC
  have dj:dJ W (l.take (i+1))={dJ W (l.take i) with q:=(dJ W (l.take i)).q++ [⟨l.getD i id0,0⟩]}:=by
   rw[StP.take_snoc (z:=id0) aC]
   unfold dJ
   simp
  have uh: (dJ W (l.take i)).q.length<20000000:=by
   unfold dJ
   simp only[List.length_append,List.length_map,List.length_take]
   omega
  have cK:decide ((i:Int)< (l.length:Int))=true:=decide_eq_true (by omega)
  generalize hx:l.getD i id0=x at*
  have KH:=x.h
  refine Cw.permL (M:=Q++ ((bd, .cells #[vL,vI,vq,vv,vl,vm,vn] 46 (0,0)):: (V++ (M++K)))) (((by classical exact List.perm_iff_count.2 fun a=>by simp only[List.count_append,List.count_cons,List.count_nil]<;>omega):List.Perm _ _).trans hA.perm.symm) ?_
  have Jp: ∀D,(∀c,c∈keys D→c∈keys Q∨w.heap.size≤c)→ ∀Z,New w.heap.size Z→ ∀c,c∈keys (D++ ((bd,Obj.cells #[vL,vI,vq,vv,vl,vm,vn] 46 (0,0)):: (V++ (M++ (K++Z)))))→c∈keys X'∨w.heap.size≤c:=fun D hD Z hZ c hc=>by
   simp only[keys,List.map_append,List.map_cons,List.mem_append,List.mem_cons] at hc
   rcases hc with h|h|h|h|h|h
   ·exact(hD c h).imp (fun h=>(f9 c).2 (.inr (.inl h))) id
   ·exact .inl ((f9 c).2 (.inl h))
   ·exact .inl ((f9 c).2 (.inr (.inr (.inl h))))
   ·exact .inl ((f9 c).2 (.inr (.inr (.inr (.inl h)))))
   ·exact .inl ((f9 c).2 (.inr (.inr (.inr (.inr h)))))
   ·exact .inr (hZ.le c h)
  have rd0:=rd _ (Jp Q (fun c h=> .inl h) [] trivial)
  simp only[List.append_nil] at rd0
  have rbd:=fun Y=>ah (w0:=w) (cp (D:=Q) (Y:=Y) (o:= .cells #[vL,vI,vq,vv,vl,vm,vn] 46 (0,0)) jI)
  have bdc:=MI ⟨x,0⟩
  first|with_reducible refine ks [2] (And.intro @dB (And.intro @cK (@lnv))) ?_|refine kp (And.intro @dB (And.intro @cK (@lnv))) ?_
  refine Cw.regionG [bd,rb] [14] 15 (by kernel_rfl) rfl ?_
  simp only[List.replicate_succ,List.replicate_zero]
  refine OwG.run [0,1,2,3,4,5,6,7,8] [true,true,true,true,true,true,true,true,true,false,false,false,false,false,false] 6 rfl (by kernel_rfl) (by kernel_rfl) fun k hk=> ?_
  simp only[aN, ↓aM, ↓aH, ↓aL, ↓aK,aI]
  simp(disch:=(first|assumption|omega| (simp only[ac,ab,UInt64.reduceToNat];try omega))) only[↓Sx.S0,Sx.S1,Tryz.fx,dB,Nat.reduceAdd,Nat.reducePow,Int.reducePow,Nat.reduceBEq, ↓reduceIte,UInt8.reduceToNat,UInt16.reduceToNat,UInt32.reduceToNat,UInt64.reduceToNat,Int.reduceToNat,Md.next_sofnil,rbd,ix,rd0,ld]
  (with_reducible refine hk _ _ _ ?_);clear hk k
  refine OwG.one 9 _ (by kernel_rfl) rfl ?_
  refine Ow.build (.agg (aB ⟨x,0⟩).toArray) rfl bdc ?_
  with_reducible refine Ow.nil ?_
  refine⟨(fun r hr=>rfl), ?_⟩
  simp only[List.set_cons_zero,List.set_cons_succ,ax,an,ao]
  refine OwG.one 10 _ (by kernel_rfl) rfl ?_
  refine Ow.buildSlice (e:=59) (aB ⟨x,0⟩).toArray rfl rfl (qw ⟨x,0⟩) fun ba wq lG=> ?_
  have JI:New w.heap.size [(ba,Obj.cells (aB ⟨x,0⟩).toArray 59 (0,0))]:=⟨lG,trivial⟩
  have rd1:=rd _ (Jp Q (fun c h=> .inl h) [(ba,Obj.cells (aB ⟨x,0⟩).toArray 59 (0,0))] JI)
  with_reducible refine Ow.nil ?_
  refine⟨(fun r hr=>by simp only[List.mem_cons,List.not_mem_nil,or_false] at hr;rcases hr with rfl|rfl;exact(vO (by simp[keys]));simp only[List.append_assoc,List.cons_append] at*;exact rd1.trans rd0.symm), ?_⟩
  simp only[List.set_cons_zero,List.set_cons_succ,ax,an,ao]
  refine OwG.one 11 _ (by kernel_rfl) rfl ?_
  refine Ow.appendQ (e:=59) (k:=1) (new:=aB ⟨x,0⟩) (X:=Q) vq (List.append_assoc _ _ _) rfl rfl rfl Tryz.underlying44 fK (by kernel_rfl) d_ (by rw[fj,List.size_toArray,bU]) Tryz.underlying44 (by intro k h;cases h) hA.q (fun w' a7=>AppX.one1 (a7.has ba (.cells (aB ⟨x,0⟩).toArray 59 (0,0)) (by simp)) (bU _) (iQ _)) (by omega) (fun B7 v7 D7 gF mH fW eE bF jH=> ?_)
  have fo:bd∉keys D7:=gV gF (by simp[keys]) jI bF
  have lD7:=fun Y=>cp (D:=D7) (Y:=Y) (o:= .cells #[vL,vI,vq,vv,vl,vm,vn] 46 (0,0)) fo
  have st7:=s7_2 vL vI vq vv vl vm vn v7 46 fW.cell
  have rd2:=rd _ (Jp D7 (fun c h=>(bF c h).imp id fun h=>by omega) [(ba,Obj.cells (aB ⟨x,0⟩).toArray 59 (0,0))] JI)
  with_reducible refine Ow.nil ?_
  refine⟨(fun r hr=>by simp only[List.mem_cons,List.not_mem_nil,or_false] at hr;rcases hr with rfl|rfl;exact(ah (cp fo)).trans (ah (bB (cp jI))).symm;simp only[List.append_assoc,List.cons_append] at*;exact rd2.trans rd1.symm), ?_⟩
  simp only[List.set_cons_zero,List.set_cons_succ,ax,an,ao]
  refine OwG.rest [12,13,14] rfl (by kernel_rfl) (by kernel_rfl) ?_
  simp only[aN, ↓aM, ↓aH, ↓aL, ↓aK,aI]
  refine kq @dB ?_
  refine Ow.store rfl rfl rfl (ke (And.intro @dB (And.intro @lD7 (@st7)))) ?_
  have es:=fun Y x=>lN (D:=D7) (Y:=Y) (o:= .cells #[vL,vI,vq,vv,vl,vm,vn] 46 (0,0)) (x:=x) fo
  simp only[List.cons_append,List.append_assoc] at*
  rw[es]
  refine ko @dB ?_
  first|with_reducible refine ks [] @dB ?_|refine kp @dB ?_
  refine Again.mk ⟨i+1,_⟩ (by show l.length - (i+1)<l.length - i;omega) ⟨aC, ?_, ?_⟩ rfl rfl
  ·show DwP bd vL vI (dJ W (l.take (i+1))) _
   rw[dj]
   refine⟨v7,vv,vl,vm,vn,D7,V,M,K++ [(ba, .cells (aB ⟨x,0⟩).toArray 59 (0,0))],⟨(by classical exact List.perm_iff_count.2 fun a=>by simp only[List.count_append,List.count_cons,List.count_nil]<;>omega), ?_,hA.v,hA.l,hA.m.mono fun p hp=>List.mem_append_left _ hp,hA.n.mono fun p hp=>List.mem_append_left _ hp⟩⟩
   simpa [List.map_append] using fW
  ·have h1:=(hA.ext2 (w:=w) (a:= .cells #[vL,vI,v7,vv,vl,vm,vn] 46 (0,0)) (K':=K++ [(ba, .cells (aB ⟨x,0⟩).toArray 59 (0,0))]) (fun x h=>eE x h) (fun x h=>(bF x h).imp id fun h=>by omega) (fun x h=>h) (fun x h=> .inl h) (fun x h=>h) (fun x h=> .inl h) (fun x h=>by rw[aT];exact List.mem_append_left _ h) (fun x h=>by rw[aT,List.mem_append] at h;exact h.imp id (JI.le x))).perm (D':=D7++ ((bd, .cells #[vL,vI,v7,vv,vl,vm,vn] 46 (0,0)):: (V++ (M++ (K++ [(ba, .cells (aB ⟨x,0⟩).toArray 59 (0,0))]))))) (by classical exact List.perm_iff_count.2 fun a=>by simp only[List.count_append,List.count_cons,List.count_nil]<;>omega)
   exact hE.trans2 h1
 ·obtain rfl:i=l.length:=by omega
  rw[List.take_length] at hP
  have cK:decide ((l.length:Int)< (l.length:Int))=false:=by simp
  first|with_reducible refine ks [] (And.intro @dB (And.intro @cK (@lnv))) ?_|refine kp (And.intro @dB (And.intro @cK (@lnv))) ?_
  refine⟨_,(ke @dB), ?_⟩
  exact⟨hE,rfl,hP⟩
theorem Ej (vL vI:Value):eP (dK Tryz.prog 46) (aw Tryz.prog 46) [(0, .agg #[vL,vI])]=some (.agg #[vL,vI, .slice none 0 0, .slice none 0 0, .slice none 0 0, .slice none 0 0, .slice none 0 0]):=by
 rw[show dK Tryz.prog 46=some [(0,2),(2,1),(3,1),(4,1),(5,1),(6,1)] from id (by kernel_rfl),show aw Tryz.prog 46=some (.agg #[.slice none 0 0, .slice none 0 0, .slice none 0 0, .slice none 0 0, .slice none 0 0, .slice none 0 0, .slice none 0 0]) from id (by kernel_rfl)]
 simp[eP,Sx.fillV,aU,bQ]
theorem GJ {l:List ObK} (i:IdL) (h: (bn l i).2=true):i∈l.map idK:=by
 obtain⟨h1,h2⟩:=sN h
 rw[←h2];exact List.mem_map_of_mem h1
theorem Hh (bd:Nat) (vL vI:Value):DwP bd vL vI mz [(bd, .cells #[vL,vI, .slice none 0 0, .slice none 0 0, .slice none 0 0, .slice none 0 0, .slice none 0 0] 46 (0,0))]:=
 ⟨.slice none 0 0, .slice none 0 0, .slice none 0 0, .slice none 0 0, .slice none 0 0,[],[],[],[],⟨List.Perm.refl _, .nl,Gr.nl,Gr.nl,Gr.nl.i fun _ h=>h,Gr.nl.i fun _ h=>h⟩⟩
theorem Af (vL vI:Value) (L:List ObK) (v:Value) (l:List IdL) (w:World) (hL:RowX 2 cC a_ w vL L []) (hI:RowX 32 aJ id0 w vI (L.map idK) []) (hr: ∀o,o∈L→rdK o=true) (hR:RowX 32 aJ id0 w v l []) (hl:l.length≤1000) (hm:L.length≤1000):
  Rets Tryz.prog 30 #[.agg #[vL,vI],v] w (XS w [] (fun v' D=> ∃W v1 v2,WkI (bn L) l W∧W.q= []∧W.ms.length≤L.length∧W.lk.length≤41000∧v'= .tuple #[v1,v2]∧GrI D 24 32 v1 (bZ W.ms).length ((bZ W.ms).map aJ).flatten∧GrI D 24 32 v2 (eH W.lk).length ((eH W.lk).map aJ).flatten)):=by
 have Jg: (L.map idK).length=L.length:=List.length_map _
 refine Rets.enterX Tryz.func30 rfl (rs:= [.tmp 4, .tmp 5]) Tryz.results30 Tryz.ntmps30 (fun p hp=>by cases hp) (by simp[keys]) ?_
 refine kf ?_
 first|with_reducible refine ks [] @dB ?_|refine kp @dB ?_
 refine Ow.box rfl rfl fun b2 ck ar=> ?_
 simp only[bp,bj,cJ,aU,List.nil_append,List.cons_append]
 refine Ow.go rfl ?_
 simp(disch:=(first|assumption|omega| (simp only[ac,ab,UInt64.reduceToNat];try omega))) only[↓Sx.S0,Sx.S1,Tryz.fx,dB,Nat.reduceAdd,Nat.reducePow,Int.reducePow,Nat.reduceBEq, ↓reduceIte,UInt8.reduceToNat,UInt16.reduceToNat,UInt32.reduceToNat,UInt64.reduceToNat,Int.reduceToNat]
 first|with_reducible refine ks [] @dB ?_|refine kp @dB ?_
 refine Ow.build (.agg #[vL,vI, .slice none 0 0, .slice none 0 0, .slice none 0 0, .slice none 0 0, .slice none 0 0]) rfl (Ej vL vI) ?_
 refine ko @dB ?_
 refine Ow.box rfl rfl fun bd R5 SF=> ?_
 simp only[bp,bj,cJ,aU,List.cons_append,List.nil_append]
 refine ko @dB ?_
 first|with_reducible refine ks [] @dB ?_|refine kp @dB ?_
 have SX:b2<bd:=aP R5 (by simp[keys])
 refine Ow.permL (M:= [(bd, .cells #[vL,vI, .slice none 0 0, .slice none 0 0, .slice none 0 0, .slice none 0 0, .slice none 0 0] 46 (0,0))]++ [(b2, .cells #[vL,vI] 32 (0,0))]) (by classical exact List.perm_iff_count.2 fun a=>by simp only[List.count_append,List.count_cons,List.count_nil]<;>omega) ?_
 have Mo:New w.heap.size [(bd,Obj.cells #[vL,vI, .slice none 0 0, .slice none 0 0, .slice none 0 0, .slice none 0 0, .slice none 0 0] 46 (0,0))]:=⟨SF,trivial⟩
 have cw:New w.heap.size [(b2,Obj.cells #[vL,vI] 32 (0,0))]:=⟨ar,trivial⟩
 have RZ: ∀c,c∈keys ([(bd,Obj.cells #[vL,vI, .slice none 0 0, .slice none 0 0, .slice none 0 0, .slice none 0 0, .slice none 0 0] 46 (0,0))]++ [(b2, .cells #[vL,vI] 32 (0,0))])→c∈keys ([]:a6)∨w.heap.size≤c:=fun c hc=> .inr ((Mo.app cw).le c hc)
 refine Ow.callX (X:= [(bd, .cells #[vL,vI, .slice none 0 0, .slice none 0 0, .slice none 0 0, .slice none 0 0, .slice none 0 0] 46 (0,0))]) (Y:= [(b2, .cells #[vL,vI] 32 (0,0))]) rfl rfl rfl Tryz.call22 (fun w' a7 jf g6=>Dk bd vL vI mz v l _ w' jf g6 (Hh bd vL vI) ((hR.ext RZ).old a7 fun c hc=>by simp[keys] at hc ⊢;exact .inl hc) (by decide) (by omega)) (fun v4 D4 l8 iD=> ?_)
 obtain⟨rfl,qX⟩:=iD
 have o_:Ext w [] D4:=(Ext.of_new Mo).came0 l8
 have cq:New w.heap.size D4:=New.of_le fun c hc=>(o_.new c hc).elim (fun h=>by cases h) id
 refine Ow.permL (M:=D4++ [(b2, .cells #[vL,vI] 32 (0,0))]) (by classical exact List.perm_iff_count.2 fun a=>by simp only[List.count_append,List.count_cons,List.count_nil]<;>omega) ?_
 refine ko @dB ?_
 refine Cw.loopG (G:=MkClG) [13,14,15] (fun g=> []) (fun g=>g.X++ [(b2, .cells #[vL,vI] 32 (0,0))]) (fun g=>DwP bd vL vI g.W g.X∧Ext w [] g.X∧WkN (bn L) (L.map idK) l l.length g.W) (fun g=>50000 - g.W.vis.length) ⟨newK l,D4⟩ rfl rfl ?_ ?_
 ·exact⟨qX,o_,WkN.new l GJ⟩
 intro g j hg
 refine kv ?_
 clear qX o_ cq l8
 obtain⟨W,X⟩:=g
 simp only at hg ⊢
 obtain⟨hP,hE,hN⟩:=hg
 have b1:=hN.q
 have b2':=hN.lk
 have b3:=hN.vis
 have b3':=hN.ms
 have jc:=hN.step
 have b4:=jc.vis
 have b5:=jc.ms
 have b6:=jc.lk
 have ap: ∀c,c∈keys (X++ [(b2,Obj.cells #[vL,vI] 32 (0,0))])→c∈keys ([]:a6)∨w.heap.size≤c:=fun c hc=>by
  rw[aT,List.mem_append] at hc
  exact hc.elim (hE.new c) fun h=> .inr (cw.le c h)
 first|with_reducible refine ks [] @dB ?_|refine kp @dB ?_
 refine Ow.callX (X:=X) (Y:= [(b2, .cells #[vL,vI] 32 (0,0))]) rfl rfl rfl Tryz.call25 (fun w' a7 jf g6=>Bb bd vL vI L W X w' jf g6 hP ((hL.ext ap).old a7 fun c hc=>by rw[aT];exact List.mem_append_left _ hc) ((hI.ext ap).old a7 fun c hc=>by rw[aT];exact List.mem_append_left _ hc) hr (by omega) (by omega) (by omega) (by omega) (by omega)) (fun v2 D2 qS bu=> ?_)
 obtain⟨rfl,qW⟩:=bu
 have oz:=hE.came0 qS
 cases bP: (eQ (bn L) W).1 with
 |false=>
  have hv:=s6 bP
  generalize (eQ (bn L) W).2=W2 at*
  refine ko @dB ?_
  first|with_reducible refine ks [] @dB ?_|refine kp @dB ?_
  exact Again.mk ⟨W2,D2⟩ (by show 50000 - W2.vis.length<50000 - W.vis.length;omega) ⟨qW,oz,jc⟩ rfl rfl
 |true=>
  have hq:=rv bP
  generalize (eQ (bn L) W).2=W2 at*
  obtain⟨vq,vv,vl,vm,vn,Q,V,M,K,hA⟩:=qW
  refine Ow.permL (M:=(bd, .cells #[vL,vI,vq,vv,vl,vm,vn] 46 (0,0)):: ((Q++ (V++ (M++K)))++ [(b2, .cells #[vL,vI] 32 (0,0))])) ((hA.perm.append_right _).symm) ?_
  refine ko @dB ?_
  first|with_reducible refine ks [] @dB ?_|refine kp @dB ?_
  refine Cw.regionS [bd] [0,1,2,4,5,6,3,8,7,9] [] (by kernel_rfl) (by kernel_rfl) (by kernel_rfl) ?_
  simp only[aN, ↓aM, ↓aH, ↓aL, ↓aK,aI]
  refine kq @dB ?_
  refine⟨_,(ke @dB), ?_⟩
  refine⟨(y8 oz cw).perm (hA.perm.append_right _).symm,W2,vm,vn,jc.I,hq,by omega,by omega,rfl,hA.m.mono fun p hp=>by simp[hp],hA.n.mono fun p hp=>by simp[hp]⟩
end Go.Proofs
end
section
open Go Go.Proofs Go.Sx Go.StP Go.RooP
namespace Go.Proofs
set_option maxRecDepth 10000
set_option maxHeartbeats 400000
set_option linter.unusedSimpArgs false
theorem Hf (a b:ObK):eqD Tryz.prog 8 35 (obV a.k a.t) (obV b.k b.t)=some (decide (a=b)):=by
 have p0: ∀o:ObK,Sx.partV (false,1) #[vi o.k,vs o.t] 0=some (vi o.k):=fun _=>rfl
 have p1: ∀o:ObK,Sx.partV (false,1) #[vi o.k,vs o.t] 1=some (vs o.t):=fun _=>rfl
 have e1: ∀a b:Int,eqD Tryz.prog 7 3 (vi a) (vi b)=some (a==b):=fun a b=>by unfold eqD;rw[Tryz.underlying3];rfl
 have e2: ∀a b:List UInt8,eqD Tryz.prog 7 9 (vs a) (vs b)=some (a==b):=fun a b=>by
  unfold eqD;rw[Tryz.underlying9];simp only[vs,rX]
 have a1:aF Tryz.prog 3=some (false,1):=id (by kernel_rfl)
 have a2:aF Tryz.prog 9=some (false,1):=id (by kernel_rfl)
 unfold eqD obV
 rw[Tryz.underlying35]
 simp only
 rw[show Tryz.prog.stoodInHeld 35=false by kernel_rfl]
 simp only[Bool.false_eq_true, ↓reduceIte,r8,mn,a1,a2,p0,p1,e1,e2]
 obtain⟨k,t⟩:=a
 obtain⟨k',t'⟩:=b
 have e:decide ((⟨k,t⟩:ObK)=⟨k',t'⟩)=((k==k')&& (t==t')):=by rw[Bool.eq_iff_iff];simp
 rw[e]
 cases(k==k')<;>cases(t==t')<;>rfl
theorem I6 (a b:ObK):aj Tryz.prog .neq 35 (obV a.k a.t) (obV b.k b.t)=some (.bool (!decide (a=b))):=by
 have h:=Hf a b
 unfold aj eqX obV at*;rw[show Tryz.prog.eqGuardType Tryz.prog.depth 35=false by kernel_rfl];simp[er,h]
def rU (l:List ObK):Bool:=decide (40<l.length) ||l.any fun o=>decide (2500<o.t.length)
theorem EA {l:List ObK} (h:rU l=false):l.length≤40∧ ∀o,o∈l→o.t.length≤2500:=by
 unfold rU at h
 rw[Bool.or_eq_false_iff,decide_eq_false_iff_not,List.any_eq_false] at h
 exact⟨by omega,fun o ho=>by have:=h.2 o ho;simpa using this⟩
theorem FK {w:World} {v:Value} {l:List ObK} {b off:Nat} {arr:Array Value} {E:TypeId} {fz:Nat×Nat} (h:RowS 2 cC a_ w v l b off arr E fz) {k n:Nat} (hk:k<l.length):
  aS (some (false,n)) (some (.cells arr E fz)) (off+k*2+1)=some (vs (l.getD k a_).t):=h.cell hk (by omega)
set_option linter.defProp false
def j5:=And.intro (@cP) (@cO)
theorem zP (v:Value) (l:List ObK) (w:World) (hv:RowX 2 cC a_ w v l []):
  Rets Tryz.prog 14 #[v] w (fun v' D=>v'= .bool (rU l)∧D= []):=by
 obtain⟨rb,off,arr,E,fz,hr,-⟩:=hv
 have ln:=fun x=>hr.len x
 refine Rets.enterV Tryz.func14 rfl (rs:= [.tmp 2]) Tryz.results14 Tryz.ntmps14 ?_
 refine kf ?_
 unfold rU
 by_cases Iu:40<l.length
 ·have d1:decide ((40:Int)< (l.length:Int))=true:=decide_eq_true (by omega)
  rw[decide_eq_true Iu]
  first|with_reducible refine ks [] (And.intro @j5 (And.intro @ln (@d1))) ?_|refine kp (And.intro @j5 (And.intro @ln (@d1))) ?_
  refine⟨_,(ke @j5),trivial, ?_⟩
  rfl
 ·have d1:decide ((40:Int)< (l.length:Int))=false:=decide_eq_false (by omega)
  rw[decide_eq_false Iu,Bool.false_or]
  first|with_reducible refine ks [] (And.intro @j5 (And.intro @ln (@d1))) ?_|refine kp (And.intro @j5 (And.intro @ln (@d1))) ?_
  refine Cw.loopG (G:=Nat) [7,8,9,10,13,14,15,16,17,18,19,2,11,12,3] (fun g=> [(3,vi g)]) (fun g=> []) (fun g=>g≤l.length∧(l.take g).any (fun o=>decide (2500<o.t.length))=false) (fun g=>l.length - g) 0 rfl rfl ?_ ?_
  ·exact⟨Nat.zero_le _,rfl⟩
  intro k jk hk
  refine kv ?_
  obtain⟨h1,h2⟩:=hk
  by_cases hk:k<l.length
  ·have cK:decide ((k:Int)< (l.length:Int))=true:=decide_eq_true (by omega)
   have ix:=hr.idx true k hk
   have ld:=fun n=>FK (n:=n) hr hk
   have rd:=hr.has (by omega)
   have dj:=StP.take_snoc (z:=a_) hk
   have hm:l.getD k a_∈l:=by rw[List.getD_eq_getElem?_getD,List.getElem?_eq_getElem hk];exact List.getElem_mem _
   generalize l.getD k a_=o at*
   by_cases mF:2500<o.t.length
   ·have d2:decide ((2500:Int)< (o.t.length:Int))=true:=decide_eq_true (by omega)
    have e:l.any (fun o=>decide (2500<o.t.length))=true:=List.any_eq_true.2 ⟨o,hm,decide_eq_true mF⟩
    rw[e]
    first|with_reducible refine ks [] (And.intro @j5 (And.intro @ln (And.intro @cK (And.intro @ix (And.intro @rd (And.intro @ld (@d2))))))) ?_|refine kp (And.intro @j5 (And.intro @ln (And.intro @cK (And.intro @ix (And.intro @rd (And.intro @ld (@d2))))))) ?_
    refine⟨_,(ke @j5),trivial, ?_⟩
    rfl
   ·have d2:decide ((2500:Int)< (o.t.length:Int))=false:=decide_eq_false (by omega)
    first|with_reducible refine ks [] (And.intro @j5 (And.intro @ln (And.intro @cK (And.intro @ix (And.intro @rd (And.intro @ld (@d2))))))) ?_|refine kp (And.intro @j5 (And.intro @ln (And.intro @cK (And.intro @ix (And.intro @rd (And.intro @ld (@d2))))))) ?_
    refine Again.mk (k+1) (by omega) ⟨hk, ?_⟩ rfl rfl
    rw[dj,List.any_append,h2]
    simp[mF]
  ·obtain rfl:k=l.length:=by omega
   rw[List.take_length] at h2
   have cK:decide ((l.length:Int)< (l.length:Int))=false:=by simp
   rw[h2]
   first|with_reducible refine ks [] (And.intro @j5 (And.intro @ln (@cK))) ?_|refine kp (And.intro @j5 (And.intro @ln (@cK))) ?_
   refine⟨_,(ke @j5),trivial, ?_⟩
   rfl
def ClK (a b:ObK):Prop:=a≠b∧rdK a=true∧rdK b=true∧idK a=idK b
theorem I1 {l:List ObK} (h: ∀p,p<l.length→ ∀q,q<p→ ¬ClK (l.getD p a_) (l.getD q a_)):NoCl l:=by
 intro a ha b hb ui mY he
 obtain⟨i,hi,rfl⟩:=List.getElem_of_mem ha
 obtain⟨j,hj,rfl⟩:=List.getElem_of_mem hb
 have gd: ∀k (hk:k<l.length),l.getD k a_=l[k]:=fun k hk=>by rw[List.getD_eq_getElem?_getD,List.getElem?_eq_getElem hk];rfl
 refine Classical.byContradiction fun ai=> ?_
 rcases Nat.lt_trichotomy i j with jh|jh|jh
 ·exact h j hj i jh ⟨by rw[gd _ hj,gd _ hi];exact Ne.symm ai,by rw[gd _ hj];exact mY,by rw[gd _ hi];exact ui,by rw[gd _ hj,gd _ hi];exact he.symm⟩
 ·subst jh;exact ai rfl
 ·exact h i hi j jh ⟨by rw[gd _ hj,gd _ hi];exact ai,by rw[gd _ hi];exact ui,by rw[gd _ hj];exact mY,by rw[gd _ hj,gd _ hi];exact he⟩
set_option linter.defProp false
def da:=And.intro (And.intro (@cP) (@cO)) (And.intro (@I6) (@j6))
theorem Oo (v:Value) (l:List ObK) (w:World) (hv:RowX 2 cC a_ w v l []) (hl:l.length<1000000) (ht: ∀o,o∈l→o.t.length<100000):
  Rets Tryz.prog 15 #[v] w (fun v' D=>(∃b,v'= .bool b∧(b=false→NoCl l))∧D= []):=by
 obtain⟨rb,off,arr,E,fz,hr,-⟩:=hv
 have ln:=fun x=>hr.len x
 have gm: ∀k,k<l.length→l.getD k a_∈l:=fun k hk=>by rw[List.getD_eq_getElem?_getD,List.getElem?_eq_getElem hk];exact List.getElem_mem _
 refine Rets.enterV Tryz.func15 rfl (rs:= [.tmp 2]) Tryz.results15 Tryz.ntmps15 ?_
 refine kf ?_
 first|with_reducible refine ks [] @da ?_|refine kp @da ?_
 refine Cw.loopG (G:=Nat) [5,6,7,8,4,11,12,13,16,17,18,19,20,21,22,23,24,25,26,27,28,29,30,31,32,33,34,35,36,37,38,39,40,41,42,43,44,45,46,47,48,49,50,51,2,14,15,9,10,3] (fun g=> [(3,vi g)]) (fun g=> []) (fun g=>g≤l.length∧(∀p,p<g→ ∀q,q<p→ ¬ClK (l.getD p a_) (l.getD q a_))) (fun g=>l.length - g) 0 rfl rfl ?_ ?_
 ·exact⟨Nat.zero_le _,fun p hp=>absurd hp (Nat.not_lt_zero _)⟩
 intro i ji hi
 refine kv ?_
 obtain⟨hi,NB⟩:=hi
 by_cases aC:i<l.length
 ·have cK:decide ((i:Int)< (l.length:Int))=true:=decide_eq_true (by omega)
  have ixi:=hr.idx true i aC
  have ldi:=rQ hr aC
  have rd:=hr.has (by omega)
  have pj:=ht _ (gm i aC)
  first|with_reducible refine ks [] (And.intro @da (And.intro @ln (@cK))) ?_|refine kp (And.intro @da (And.intro @ln (@cK))) ?_
  refine Cw.loopG (G:=Nat) [11,12,13,16,17,18,19,20,21,22,23,24,25,26,27,28,29,30,31,32,33,34,35,36,37,38,39,40,41,42,43,44,45,46,47,48,49,50,51,2,14,15,4] (fun g=> [(4,vi g)]) (fun g=> []) (fun g=>g≤i∧(∀q,q<g→ ¬ClK (l.getD i a_) (l.getD q a_))) (fun g=>i - g) 0 rfl rfl ?_ ?_
  ·exact⟨Nat.zero_le _,fun p hp=>absurd hp (Nat.not_lt_zero _)⟩
  intro k jk hk
  refine kv ?_
  obtain⟨hk,NC⟩:=hk
  by_cases dO:k<i
  ·have pG:decide ((k:Int)< (i:Int))=true:=decide_eq_true (by omega)
   have ixk:=hr.idx true k (show k<l.length by omega)
   have ldk:=rQ hr (show k<l.length by omega)
   have T2:=ht _ (gm k (by omega))
   have next: ¬ClK (l.getD i a_) (l.getD k a_)→ ∀q,q<k+1→ ¬ClK (l.getD i a_) (l.getD q a_):=fun h q hq=>by
    by_cases e:q=k
    ·subst e;exact h
    ·exact NC q (by omega)
   generalize l.getD i a_=a at*
   generalize hb:l.getD k a_=b at*
   first|with_reducible refine ks [] (And.intro @da @pG) ?_|refine kp (And.intro @da @pG) ?_
   by_cases dc:a=b
   ·have eab:decide (a=b)=true:=decide_eq_true dc
    refine Cw.regionS [rb] [0,1,2,4,5,6,3,7,8,9,10,11,12,13,14,15,16,17,18,19,20,21,22,23,24,25,26,29,30,31,27,32,28,33,34,35] [] (by kernel_rfl) (by kernel_rfl) (by kernel_rfl) ?_
    simp only[aN, ↓aM, ↓aH, ↓aL, ↓aK,aI]
    refine Ow.goQ ?_
    simp(disch:=(first|assumption|omega| (simp only[ac,ab,UInt64.reduceToNat];try omega))) only[↓Sx.S0,Sx.S1,Tryz.fx,da,Nat.reduceAdd,Nat.reducePow,Int.reducePow,Nat.reduceBEq, ↓reduceIte,UInt8.reduceToNat,UInt16.reduceToNat,UInt32.reduceToNat,UInt64.reduceToNat,Int.reduceToNat,ixi,rd,ldi,ixk,ldk,eab,Bool.not_true]
    exact Again.mk (k+1) (by omega) ⟨dO,next fun h=>h.1 dc⟩ rfl rfl
   ·have eab:decide (a=b)=false:=decide_eq_false dc
    refine Cw.regionS [rb] [0,1,2,4,5,6,3,7,8,9,10,11,12,13,14,15,16,17,18,19,20,21,22,23,24,25,26,29,30,31,27,32,28,33,34,35] [] (by kernel_rfl) (by kernel_rfl) (by kernel_rfl) ?_
    simp only[aN, ↓aM, ↓aH, ↓aL, ↓aK,aI]
    refine Ow.goQ ?_
    simp(disch:=(first|assumption|omega| (simp only[ac,ab,UInt64.reduceToNat];try omega))) only[↓Sx.S0,Sx.S1,Tryz.fx,da,Nat.reduceAdd,Nat.reducePow,Int.reducePow,Nat.reduceBEq, ↓reduceIte,UInt8.reduceToNat,UInt16.reduceToNat,UInt32.reduceToNat,UInt64.reduceToNat,Int.reduceToNat,ixi,rd,ldi,ixk,ldk,eab,Bool.not_false]
    refine Ow.soft rfl rfl rfl ?_
    refine Ow.callFV rfl Tryz.call19 (fun w' a7=>KX a.k a.t w') ?_
    rw[←ux,show bN a.k a.t=rdK a from rfl]
    with_reducible refine Ow.nil ?_
    refine⟨by intro b hb;simp only[List.mem_cons,List.not_mem_nil,or_false] at hb;(try subst hb);rfl, ?_⟩
    cases ui:rdK a with
    |false=>
     refine kq @da ?_
     try with_reducible refine Ow.nil ?_
     first|with_reducible refine ks [] @da ?_|refine kp @da ?_
     exact Again.mk (k+1) (by omega) ⟨dO,next fun h=>by have:=h.2.1;rw[ui] at this;cases this⟩ rfl rfl
    |true=>
     refine kq (And.intro @da (And.intro @ixi (And.intro @rd (And.intro @ldi (And.intro @ixk (@ldk)))))) ?_
     refine Ow.soft rfl rfl rfl ?_
     refine Ow.callFV rfl Tryz.call19 (fun w' a7=>KX b.k b.t w') ?_
     rw[←ux,show bN b.k b.t=rdK b from rfl]
     with_reducible refine Ow.nil ?_
     refine⟨by intro b hb;simp only[List.mem_cons,List.not_mem_nil,or_false] at hb;(try subst hb);rfl, ?_⟩
     cases mY:rdK b with
     |false=>
      refine kq @da ?_
      try with_reducible refine Ow.nil ?_
      first|with_reducible refine ks [] @da ?_|refine kp @da ?_
      exact Again.mk (k+1) (by omega) ⟨dO,next fun h=>by have:=h.2.2.1;rw[mY] at this;cases this⟩ rfl rfl
     |true=>
      refine kq (And.intro @da (And.intro @ixi (And.intro @rd (And.intro @ldi (And.intro @ixk (@ldk)))))) ?_
      refine Ow.soft rfl rfl rfl ?_
      refine Ow.callFV rfl Tryz.call20 (fun w' a7=>yR a.k a.t w' (by omega)) ?_
      rw[oe ui]
      with_reducible refine Ow.nil ?_
      refine⟨by intro b hb;simp only[List.mem_cons,List.not_mem_nil,or_false] at hb;(try subst hb);rfl, ?_⟩
      refine kq (And.intro @da (And.intro @ixi (And.intro @rd (And.intro @ldi (And.intro @ixk (@ldk)))))) ?_
      refine Ow.soft rfl rfl rfl ?_
      refine Ow.callFV rfl Tryz.call20 (fun w' a7=>yR b.k b.t w' (by omega)) ?_
      rw[oe mY]
      with_reducible refine Ow.nil ?_
      refine⟨by intro b hb;simp only[List.mem_cons,List.not_mem_nil,or_false] at hb;(try subst hb);rfl, ?_⟩
      refine kq @da ?_
      cases hq: ((idK a).l==(idK b).l) with
      |false=>
       try with_reducible refine Ow.nil ?_
       first|with_reducible refine ks [] @da ?_|refine kp @da ?_
       exact Again.mk (k+1) (by omega) ⟨dO,next fun h=>by rw[h.2.2.2] at hq;simp at hq⟩ rfl rfl
      |true=>
       try with_reducible refine Ow.nil ?_
       first|with_reducible refine ks [] @da ?_|refine kp @da ?_
       refine⟨_,(ke @da),trivial, ?_⟩
       exact⟨true,rfl,fun h=>by cases h⟩
  ·obtain rfl:k=i:=by omega
   have pG:decide ((k:Int)< (k:Int))=false:=by simp
   first|with_reducible refine ks [] (And.intro @da @pG) ?_|refine kp (And.intro @da @pG) ?_
   refine Again.mk (k+1) (by omega) ⟨aC,fun p hp q hq=> ?_⟩ rfl rfl
   by_cases e:p=k
   ·subst e;exact NC q hq
   ·exact NB p (by omega) q hq
 ·obtain rfl:i=l.length:=by omega
  have cK:decide ((l.length:Int)< (l.length:Int))=false:=by simp
  first|with_reducible refine ks [] (And.intro @da (And.intro @ln (@cK))) ?_|refine kp (And.intro @da (And.intro @ln (@cK))) ?_
  refine⟨_,(ke @da),trivial, ?_⟩
  exact⟨false,rfl,fun _=>I1 NB⟩
end Go.Proofs
end
section
open Go Go.Proofs Go.Sx Go.StP Go.RooP
namespace Go.Proofs
set_option maxRecDepth 10000
set_option maxHeartbeats 400000
set_option linter.unusedSimpArgs false
def bO:ObK:=⟨1,[97,98]⟩
def xO:IdL:=idK bO
def tE:EntL:=⟨[102],1,xO⟩
def tO:ObK:=⟨2,bE [tE]⟩
def yO:IdL:=idK tO
theorem od:rdK bO=true:=by decide
theorem k9:dr [tE]=true:=by decide+kernel
theorem oU:rdK tO=true:=LN k9
theorem l_:xO≠yO:=by decide+kernel
theorem ss:eO 2 (bE [tE])= [⟨xO,1⟩]:=by
 unfold eO
 rw[LN k9,if_pos rfl,if_pos rfl,Kn fun x hx=>by
  rw[List.mem_singleton.1 hx];decide]
 rfl
theorem HQ:eO 1 [97,98]= []:=by
 unfold eO
 rw[show bN 1 [97,98]=true from od];rfl
theorem Ho {Z:List EntL} (h:SortOf [tE] Z):Z= [tE]:=h.eq ⟨rfl,List.pairwise_singleton _ _,StP.St.refl _ _⟩
theorem Hz {x y:IdL} (h:x≠y): (bZ [y,x]).length=2:=by
 show(du x [y]).length=2
 unfold du
 split
 ·rfl
 ·rw[if_neg (by simp only[beq_iff_eq];exact fun e=>h (IdL.ext2 e.symm))];rfl
theorem Cp {s:bR} {x y:IdL} (lI:x≠y) (hy: (s y).2=true) (hx: (s x).2=true) (hk: (s x).1.k=1) (ky:dY s y= [⟨x,1⟩]) (kx:dY s x= []) {W:WkS} (h:WkI s [y] W) (hq:W.q= []): (bZ W.ms).length=2∧eH W.lk= []:=by
 have fy:dZ s ⟨y,0⟩=true:=by unfold dZ;rw[hy];rfl
 have fx:dZ s ⟨x,1⟩=true:=by unfold dZ;rw[hx,hk];rfl
 have ry:ReachK s [y] ⟨y,0⟩:= .root (List.mem_singleton.2 rfl)
 have rx:ReachK s [y] ⟨x,1⟩:= .kid ry fy (by show _∈dY s y;rw[ky];exact List.mem_singleton.2 rfl)
 have hr: ∀c,ReachK s [y] c→c=⟨y,0⟩∨c=⟨x,1⟩:=by
  intro c hc
  induction hc with
  |root hi=>rw[List.mem_singleton] at hi;subst hi;exact .inl rfl
  |kid _ hf hd ih=>
   rcases ih with rfl|rfl
   ·have fF:_∈dY s y:=hd
    rw[ky,List.mem_singleton] at fF;exact .inr fF
   ·have fF:_∈dY s x:=hd
    rw[kx] at fF;cases fF
 constructor
 ·rw[rD (b:= [y,x]) fun i=> ?_]
  ·exact Hz lI
  ·rw[h.marked hq]
   simp only[List.mem_cons,List.not_mem_nil,or_false]
   constructor
   ·rintro⟨c,h1,h2,rfl⟩
    rcases hr c h1 with rfl|rfl
    ·exact .inl rfl
    ·exact .inr rfl
   ·rintro(rfl|rfl)
    ·exact⟨_,ry,fy,rfl⟩
    ·exact⟨_,rx,fx,rfl⟩
 ·have:W.lk= []:=List.eq_nil_iff_forall_not_mem.2 fun c hc=>by
   obtain⟨h1,h2⟩:=(h.missing hq c).1 hc
   rcases hr c h1 with rfl|rfl
   ·rw[fy] at h2;cases h2
   ·rw[fx] at h2;cases h2
  rw[this];rfl
theorem Dv {s:bR} {x y:IdL} (hy: (s y).2=true) (hx: (s x).2=false) (ky:dY s y= [⟨x,1⟩]) {W:WkS} (h:WkI s [y] W) (hq:W.q= []): (bZ W.ms).length=1∧eH W.lk= [x]:=by
 have fy:dZ s ⟨y,0⟩=true:=by unfold dZ;rw[hy];rfl
 have fx:dZ s ⟨x,1⟩=false:=by unfold dZ;rw[hx];rfl
 have ry:ReachK s [y] ⟨y,0⟩:= .root (List.mem_singleton.2 rfl)
 have rx:ReachK s [y] ⟨x,1⟩:= .kid ry fy (by show _∈dY s y;rw[ky];exact List.mem_singleton.2 rfl)
 have hr: ∀c,ReachK s [y] c→c=⟨y,0⟩∨c=⟨x,1⟩:=by
  intro c hc
  induction hc with
  |root hi=>rw[List.mem_singleton] at hi;subst hi;exact .inl rfl
  |kid _ hf hd ih=>
   rcases ih with rfl|rfl
   ·have fF:_∈dY s y:=hd
    rw[ky,List.mem_singleton] at fF;exact .inr fF
   ·rw[fx] at hf;cases hf
 constructor
 ·rw[rD (b:= [y]) fun i=> ?_]
  ·rfl
  ·rw[h.marked hq,List.mem_singleton]
   constructor
   ·rintro⟨c,h1,h2,rfl⟩
    rcases hr c h1 with rfl|rfl
    ·rfl
    ·rw[fx] at h2;cases h2
   ·rintro rfl
    exact⟨_,ry,fy,rfl⟩
 ·unfold eH
  rw[rD (b:= [x]) fun i=> ?_]
  ·rfl
  ·rw[List.mem_map,List.mem_singleton]
   constructor
   ·rintro⟨c,h1,rfl⟩
    obtain⟨h2,h3⟩:=(h.missing hq c).1 h1
    rcases hr c h2 with rfl|rfl
    ·rw[fy] at h3;cases h3
    ·rfl
   ·rintro rfl
    exact⟨_,(h.missing hq _).2 ⟨rx,fx⟩,rfl⟩
theorem yV:NoCl [bO,tO]:=by
 intro a ha b hb _ _ he
 simp only[List.mem_cons,List.not_mem_nil,or_false] at ha hb
 rcases ha with rfl|rfl<;>rcases hb with rfl|rfl
 ·rfl
 ·exact absurd he l_
 ·exact absurd he.symm l_
 ·rfl
theorem rh:NoCl [tO]:=by
 intro a ha b hb _ _ _
 rw[List.mem_singleton] at ha hb
 rw[ha,hb]
theorem HO:bK (dR [bO,tO]) xO=(bO,true)∧bK (dR [bO,tO]) yO=(tO,true):=by
 rw[xt yV]
 exact⟨oD yV (by simp) od,oD yV (by simp) oU⟩
theorem H4: (bK (dR [tO]) xO).2=false∧bK (dR [tO]) yO=(tO,true):=by
 rw[xt rh]
 refine⟨?_,oD rh (by simp) oU⟩
 cases h: (srcD [tO] xO).2 with
 |false=>rfl
 |true=>
  obtain⟨o,h1,-,h3,-⟩:=H5 h
  rw[List.mem_singleton] at h1
  subst h1
  exact absurd h3.symm l_
theorem yc {W:WkS} (h:WkI (bK (dR [bO,tO])) [yO] W) (hq:W.q= []): (bZ W.ms).length=2∧eH W.lk= []:=by
 obtain⟨h1,h2⟩:=HO
 refine Cp l_ (by rw[h2]) (by rw[h1]) (by rw[h1];rfl) ?_ ?_ h hq
 ·unfold dY;rw[h2];exact ss
 ·unfold dY;rw[h1];exact HQ
theorem ya {W:WkS} (h:WkI (bK (dR [tO])) [yO] W) (hq:W.q= []): (bZ W.ms).length=1∧eH W.lk= [xO]:=by
 obtain⟨h1,h2⟩:=H4
 refine Dv (by rw[h2]) h1 ?_ h hq
 unfold dY;rw[h2];exact ss
theorem Kw (k k':Int) (t t':List UInt8):jR Tryz.prog 22 2 [(0,obV k t),(1,obV k' t')]=some (35, #[vi k,vs t,vi k',vs t']):=id (by kernel_rfl)
theorem yC {w:World} {b:Nat} {k k':Int} {t t':List UInt8} (h:w.heap[b]? =some (.cells #[vi k,vs t,vi k',vs t'] 35 (0,0))):RowX 2 cC a_ w (vsl b 0 2 2) [⟨k,t⟩,⟨k',t'⟩] []:=by
 have hs:SlV 2 cC a_ w (vsl b 0 2 2) [⟨k,t⟩,⟨k',t'⟩]:=SlV.sl (l:=([⟨k,t⟩,⟨k',t'⟩]:List ObK)) h (fun i hi j hj=>by
  have h2:i=0∨i=1:=by simp at hi;omega
  have h3:j=0∨j=1:=by omega
  rcases h2 with rfl|rfl<;>rcases h3 with rfl|rfl<;>rfl) (by simp) (by simp)
 exact SlV.rowX hs
theorem xz {w:World} {b:Nat} {k:Int} {t:List UInt8} (h:w.heap[b]? =some (.cells #[vi k,vs t] 35 (0,0))):RowX 2 cC a_ w (vsl b 0 1 1) [⟨k,t⟩] []:=by
 have hs:SlV 2 cC a_ w (vsl b 0 1 1) [⟨k,t⟩]:=SlV.sl (l:=([⟨k,t⟩]:List ObK)) h (fun i hi j hj=>by
  obtain rfl:i=0:=by simp at hi;omega
  have h3:j=0∨j=1:=by omega
  rcases h3 with rfl|rfl<;>rfl) (by simp) (by simp)
 exact SlV.rowX hs
theorem qM {w:World} {b:Nat} {x:IdL} (h:w.heap[b]? =some (.cells (aJ x).toArray 24 (0,0))):RowX 32 aJ id0 w (vsl b 0 1 1) [x] []:=
 SlV.rowX (SlV.sl (l:= [x]) h (fun i hi j hj=>by
  obtain rfl:i=0:=by simp at hi;omega
  simp) (by simp) (by simp[fQ]))
theorem Ee {w:World} {b:Nat} {x:EntL} (h:w.heap[b]? =some (.cells (aD x).toArray 117 (0,0))):EntS w (vsl b 0 1 1) [x]:=
 SlV.sl (l:= [x]) h (fun i hi j hj=>by
  obtain rfl:i=0:=by simp at hi;omega
  simp) (by simp) (by simp[eB])
theorem Ca (x:EntL):jR Tryz.prog 122 1 [(0, .agg (aD x).toArray)]=some (117,(aD x).toArray):=gw Tryz.underlying122 ny gg (by decide) (eB x)
theorem Lc (k:Int) (t:List UInt8):jR Tryz.prog 22 1 [(0,obV k t)]=some (35, #[vi k,vs t]):=LX ⟨k,t⟩
set_option linter.defProp false
def dP:=And.intro (And.intro (And.intro (@gB) (@gZ)) (And.intro (@gY) (And.intro (@gX) (@qt)))) (And.intro (And.intro (@Sx.tup2_0) (And.intro (@Sx.tup2_1) (@cP))) (And.intro (@cO) (And.intro (@jO) (@j6))))
theorem js {D:a6} {E:TypeId} {m n:Nat} {v:Value} {cs:List Value} (h:GrI D E m v n cs) (x:Bool×Nat):eT (.sl x) v=some (vi n):=by
 obtain⟨X,-,h⟩:=h;exact h.len x
def RowOne (G:a6) (v:Value) (x:IdL):Prop:= ∃bb off arr E,(bb,Obj.cells arr E (0,0))∈G∧(∀a,gi (.sl (a,32)) v (some 0)=some (vp bb off))∧aS (some (true,32)) (some (.cells arr E (0,0))) off=some (.agg (a8 x.l))
theorem RowOne.mono {G G':a6} {v:Value} {x:IdL} (h:RowOne G v x) (hG: ∀p,p∈G→p∈G'):RowOne G' v x:=by
 obtain⟨bb,off,arr,E,h1,h2⟩:=h
 exact⟨bb,off,arr,E,hG _ h1,h2⟩
theorem o0 {D:a6} {v:Value} {x:IdL} {n:Nat} {cs:List Value} (h:GrI D 24 32 v n cs) (hn:n=1) (hc:cs=aJ x):RowOne D v x:=by
 subst hn hc
 obtain⟨X,hX,h⟩:=h
 rcases h with h| ⟨h,-⟩
 ·rcases h.inv with⟨-,h,-⟩ | ⟨b,c,rest,rfl,hl,-⟩
  ·omega
  ·refine⟨b,0,_,_,hX _ (dC hl),fun a=> ?_, ?_⟩
   ·have:=nY (a,32) b 0 1 c 0 ⟨by omega,by omega⟩
    simpa using this
   ·have:=mr [] (aJ x) rest 24 (0,0) rfl (fQ x)
    rw[qL] at this
    simpa using this
 ·omega
structure AlG where
 a:Value
 b:Value
 G:a6
theorem vx (w:World) (hG:GlobE w):Rets Tryz.prog 13 #[] w (fun v D=>v= .bool true∧D= []):=by
 refine Rets.enterV Tryz.func13 rfl (rs:= [.tmp 0]) Tryz.results13 Tryz.ntmps13 ?_
 refine kf ?_
 first|with_reducible refine ks [1000005,1000006] @dP ?_|refine kp @dP ?_
 refine Ow.callFV rfl Tryz.call65 (fun w' a7=>Dt [97,98] w') ?_
 rw[show i6 1 [97,98] true=1 from rfl,show i7 1 [97,98] true= [97,98] from rfl,show i5 1 [97,98] true=0 from rfl]
 refine ko @dP ?_
 refine Ow.alloc rfl rfl gC fun b1 bJ aG=> ?_
 simp only[aU,List.nil_append,List.cons_append]
 refine ko @dP ?_
 first|with_reducible refine ks [] @dP ?_|refine kp @dP ?_
 refine Ow.callFV rfl Tryz.call66 (fun w' a7=>xy 1 [97,98] w' (hG.new a7 ⟨aG,trivial⟩)) ?_
 rw[show idV 1 [97,98]=xO from rfl,show bN 1 [97,98]=true from od]
 have KH:=xO.h
 have TB:=yO.h
 have uN:=id0.h
 generalize hx:xO=x at*
 refine ko @dP ?_
 refine Ow.alloc rfl rfl jV fun b3 cQ bA=> ?_
 simp only[aU,List.nil_append,List.cons_append]
 have mD:b1<b3:=aP cQ (by simp[keys])
 refine Ow.permL (M:= [(b3, .cells (a8 id0.l) 24 (0,0)),(b1, .cells #[vi 1,vs [97,98]] 35 (0,0))]) (by classical exact List.perm_iff_count.2 fun a=>by simp only[List.count_append,List.count_cons,List.count_nil]<;>omega) ?_
 refine ko @dP ?_
 have ND:tE=⟨[102],1,x⟩:=by rw[←hx];rfl
 first|with_reducible refine ks [] @dP ?_|refine kp @dP ?_
 refine Ow.build (.agg (aD tE).toArray) rfl (by rw[ND];exact F0 ⟨[102],1,x⟩) ?_
 refine ko @dP ?_
 refine Ow.buildSlice (e:=117) (aD tE).toArray rfl rfl (Ca tE) fun be Sl SG=> ?_
 refine ko @dP ?_
 refine Ow.callC rfl rfl Tryz.call67 (fun w' a7=>CY _ [tE] w' (Ee (a7.has be (.cells (aD tE).toArray 117 (0,0)) (by simp))) (by simp) (by rw[ND];intro e he;obtain rfl:=List.mem_singleton.1 he;show 1<10000;omega)) (fun B2 v2 D2 te ca cw bu=> ?_)
 obtain⟨Z,hZ,rfl⟩:=bu
 rw[Ho hZ]
 obtain⟨T,hT⟩: ∃T,T=bE [tE]:=⟨_,rfl⟩
 rw[←hT]
 have wn:bN 2 T=true:=by rw[hT];exact oU
 rw[show i6 2 T (dr [tE])=2 by unfold i6;rw[k9,wn];rfl,show i7 2 T (dr [tE])=T by unfold i7;rw[k9,wn];rfl,show i5 2 T (dr [tE])=0 by unfold i5;rw[k9,wn];rfl]
 have qo:tO=⟨2,T⟩:=by rw[hT];rfl
 have SL:idV 2 T=yO:=by rw[hT];rfl
 refine ko @dP ?_
 refine Ow.alloc rfl rfl gC fun b5 cx eF=> ?_
 simp only[aU,List.nil_append,List.cons_append]
 have wg:b1<b5:=aP cx (by simp[keys])
 have QY:b3<b5:=aP cx (by simp[keys])
 have nC:New w.heap.size ((be,Obj.cells (aD tE).toArray 117 (0,0))::D2):=⟨SG,cw.mono ca⟩
 refine Ow.permL (M:=(b5, .cells #[vi 0,vs []] 35 (0,0)):: (b3, .cells (a8 x.l) 24 (0,0)):: (b1, .cells #[vi 1,vs [97,98]] 35 (0,0)):: ((be,Obj.cells (aD tE).toArray 117 (0,0))::D2)) (by classical exact List.perm_iff_count.2 fun a=>by simp only[List.count_append,List.count_cons,List.count_nil]<;>omega) ?_
 generalize (be,Obj.cells (aD tE).toArray 117 (0,0))::D2=G at*
 refine ko @dP ?_
 first|with_reducible refine ks [] @dP ?_|refine kp @dP ?_
 refine Ow.callFV rfl Tryz.call66 (fun w' a7=>xy 2 T w' (hG.new a7 ⟨eF,bA,aG,nC⟩)) ?_
 rw[SL,wn]
 generalize hy:yO=y at*
 refine ko @dP ?_
 refine Ow.alloc rfl rfl jV fun b7 jg ma=> ?_
 simp only[aU,List.nil_append,List.cons_append]
 have ou:b1<b7:=aP jg (by simp[keys])
 have Sa:b3<b7:=aP jg (by simp[keys])
 have Si:b5<b7:=aP jg (by simp[keys])
 refine Ow.permL (M:=(b7, .cells (a8 id0.l) 24 (0,0)):: (b5, .cells #[vi 2,vs T] 35 (0,0)):: (b3, .cells (a8 x.l) 24 (0,0)):: (b1, .cells #[vi 1,vs [97,98]] 35 (0,0))::G) (by classical exact List.perm_iff_count.2 fun a=>by simp only[List.count_append,List.count_cons,List.count_nil]<;>omega) ?_
 refine ko @dP ?_
 refine Cw.cutO (G:=AlG) [34,35,36,37,38,39,40,41,42,43,9,10] (fun g=> [(9,g.a),(10,g.b)]) (fun g=>(b7, .cells (a8 y.l) 24 (0,0)):: (b5, .cells #[vi 2,vs T] 35 (0,0)):: (b3, .cells (a8 x.l) 24 (0,0)):: (b1, .cells #[vi 1,vs [97,98]] 35 (0,0))::g.G) (fun g=>New w.heap.size g.G∧(∀x,eT (.sl x) g.a=some (vi 2))∧(∀x,eT (.sl x) g.b=some (vi 0))) ?_ ?_
 ·have je:New w.heap.size ((b7, .cells (a8 y.l) 24 (0,0)):: (b5, .cells #[vi 2,vs T] 35 (0,0)):: (b3, .cells (a8 x.l) 24 (0,0)):: (b1, .cells #[vi 1,vs [97,98]] 35 (0,0))::G):=⟨ma,eF,bA,aG,nC⟩
  have m7: ∀r,r∈ [b1,b5,b7]→r∈keys ((b7, .cells (a8 y.l) 24 (0,0)):: (b5, .cells #[vi 2,vs T] 35 (0,0)):: (b3, .cells (a8 x.l) 24 (0,0)):: (b1, .cells #[vi 1,vs [97,98]] 35 (0,0))::G):=fun r hr=>by
   simp only[List.mem_cons,List.not_mem_nil,or_false] at hr
   rcases hr with rfl|rfl|rfl<;>simp[keys]
  have r1:aO w ((b7, .cells (a8 y.l) 24 (0,0)):: (b5, .cells #[vi 2,vs T] 35 (0,0)):: (b3, .cells (a8 x.l) 24 (0,0)):: (b1, .cells #[vi 1,vs [97,98]] 35 (0,0))::G) b1=some (.cells #[vi 1,vs [97,98]] 35 (0,0)):=by rw[dD _ _ _ _ _ (by omega),dD _ _ _ _ _ (by omega),dD _ _ _ _ _ (by omega)];exact fT _ _ _ _
  have r5:aO w ((b7, .cells (a8 y.l) 24 (0,0)):: (b5, .cells #[vi 2,vs T] 35 (0,0)):: (b3, .cells (a8 x.l) 24 (0,0)):: (b1, .cells #[vi 1,vs [97,98]] 35 (0,0))::G) b5=some (.cells #[vi 2,vs T] 35 (0,0)):=by rw[dD _ _ _ _ _ (by omega)];exact fT _ _ _ _
  have r7:aO w ((b7, .cells (a8 y.l) 24 (0,0)):: (b5, .cells #[vi 2,vs T] 35 (0,0)):: (b3, .cells (a8 x.l) 24 (0,0)):: (b1, .cells #[vi 1,vs [97,98]] 35 (0,0))::G) b7=some (.cells (a8 y.l) 24 (0,0)):=fT _ _ _ _
  have Rw: ∀D Z:a6,D.Perm (((b7, .cells (a8 y.l) 24 (0,0)):: (b5, .cells #[vi 2,vs T] 35 (0,0)):: (b3, .cells (a8 x.l) 24 (0,0)):: (b1, .cells #[vi 1,vs [97,98]] 35 (0,0))::G)++Z)→(D.Perm ((b7, .cells (a8 y.l) 24 (0,0)):: (b5, .cells #[vi 2,vs T] 35 (0,0)):: (b3, .cells (a8 x.l) 24 (0,0)):: (b1, .cells #[vi 1,vs [97,98]] 35 (0,0)):: (G++Z))):=fun D Z h=>h.trans (by simp)
  obtain⟨L7,mJ⟩: ∃L7,L7=(b7, .cells (a8 y.l) 24 (0,0)):: (b5, .cells #[vi 2,vs T] 35 (0,0)):: (b3, .cells (a8 x.l) 24 (0,0)):: (b1, .cells #[vi 1,vs [97,98]] 35 (0,0))::G:=⟨_,rfl⟩
  rw[←mJ] at je m7 r1 r5 r7 Rw ⊢
  refine Cw.regionG [b1,b5,b7] [] 12 (by kernel_rfl) rfl ?_
  simp only[List.replicate_succ,List.replicate_zero]
  refine OwG.run [0,1,4] [true,true,false,false,true,false,false,false,false,false,false,false] 9 rfl (by kernel_rfl) (by kernel_rfl) fun k hk=> ?_
  simp only[aN, ↓aM, ↓aH, ↓aL, ↓aK,aI]
  simp(disch:=(first|assumption|omega| (simp only[ac,ab,UInt64.reduceToNat];try omega))) only[↓Sx.S0,Sx.S1,Tryz.fx,dP,Nat.reduceAdd,Nat.reducePow,Int.reducePow,Nat.reduceBEq, ↓reduceIte,UInt8.reduceToNat,UInt16.reduceToNat,UInt32.reduceToNat,UInt64.reduceToNat,Int.reduceToNat,Md.next_sofnil,r1,r5,r7]
  (with_reducible refine hk _ _ _ ?_);clear hk k
  refine OwG.two 2 5 _ _ (by kernel_rfl) rfl rfl ?_ ?_
  ·refine Ow.buildSlice (e:=35) #[vi 1,vs [97,98],vi 2,vs T] rfl rfl (Kw 1 2 [97,98] T) fun bo gH mb=> ?_
   with_reducible refine Ow.nil ?_
   refine⟨(cv (fun r hr=>by(try simp only[aT,List.mem_append]);(first|exact m7 r hr|simp only[m7 r hr,true_or]))), ?_⟩
   simp only[List.set_cons_zero,List.set_cons_succ,ax,an,ao]
   have iC:New w.heap.size [(bo,Obj.cells #[vi 1,vs [97,98],vi 2,vs T] 35 (0,0))]:=⟨mb,trivial⟩
   refine OwG.two 3 5 _ _ (by kernel_rfl) rfl rfl ?_ ?_
   ·refine Ow.callC rfl rfl Tryz.call16 (fun w' a7=>p' _ [⟨1,[97,98]⟩,⟨2,T⟩] w' (hG.new a7 (je.app iC)) (yC (a7.has bo (.cells #[vi 1,vs [97,98],vi 2,vs T] 35 (0,0)) (by simp))) (by simp)) (fun B8 v8 D8 n9 gP fX gR=> ?_)
    have cr:=fX.mono gP
    with_reducible refine Ow.nil ?_
    refine⟨(cv (fun r hr=>by(try simp only[aT,List.mem_append]);(first|exact m7 r hr|simp only[m7 r hr,true_or]))), ?_⟩
    simp only[List.set_cons_zero,List.set_cons_succ,ax,an,ao]
    refine OwG.one 5 _ (by kernel_rfl) rfl ?_
    refine Ow.buildSlice (e:=24) (aJ y).toArray rfl rfl (lM y) fun bi lC gU=> ?_
    with_reducible refine Ow.nil ?_
    refine⟨(cv (fun r hr=>by(try simp only[aT,List.mem_append]);(first|exact m7 r hr|simp only[m7 r hr,true_or]))), ?_⟩
    simp only[List.set_cons_zero,List.set_cons_succ,ax,an,ao]
    have iB:New w.heap.size [(bi,Obj.cells (aJ y).toArray 24 (0,0))]:=⟨gU,trivial⟩
    refine OwG.one 6 _ (by kernel_rfl) rfl ?_
    refine Ow.callC rfl rfl Tryz.call29 (fun w' a7=>pq v8 (dR [⟨1,[97,98]⟩,⟨2,T⟩]) _ [y] w' ((gR.mono (fun p hp=>by simp[hp])).W a7) (qM (a7.has bi (.cells (aJ y).toArray 24 (0,0)) (by simp))) (by simp) (Nat.le_trans (nj _) (by simp))) (fun B9 v9 D9 qP j9 iA fY=> ?_)
    have db:=iA.mono j9
    obtain⟨Wf,va,vb,kG,kY,-,-,rfl,fw,f8⟩:=fY
    obtain⟨iJ,jF⟩:=yc (by rw[hy,qo];exact kG) kY
    rw[iJ] at fw
    rw[jF] at f8
    with_reducible refine Ow.nil ?_
    refine⟨(cv (fun r hr=>by(try simp only[aT,List.mem_append]);(first|exact m7 r hr|simp only[m7 r hr,true_or]))), ?_⟩
    simp only[List.set_cons_zero,List.set_cons_succ,ax,an,ao]
    refine OwG.rest [7,8,9,10,11] rfl (by kernel_rfl) (by kernel_rfl) ?_
    simp only[aN, ↓aM, ↓aH, ↓aL, ↓aK,aI]
    refine kq @dP ?_
    subst mJ
    exact CutO.mk ⟨va,vb,G++ [(bo,Obj.cells #[vi 1,vs [97,98],vi 2,vs T] 35 (0,0))]++D8++ [(bi,Obj.cells (aJ y).toArray 24 (0,0))]++D9⟩ ⟨(((nC.app iC).app cr).app iB).app db,js fw,js f8⟩ rfl rfl
   ·refine Ow.buildSlice (e:=24) (aJ y).toArray rfl rfl (lM y) fun bi lC gU=> ?_
    with_reducible refine Ow.nil ?_
    refine⟨(cv (fun r hr=>by(try simp only[aT,List.mem_append]);(first|exact m7 r hr|simp only[m7 r hr,true_or]))), ?_⟩
    simp only[List.set_cons_zero,List.set_cons_succ,ax,an,ao]
    have iB:New w.heap.size [(bi,Obj.cells (aJ y).toArray 24 (0,0))]:=⟨gU,trivial⟩
    refine OwG.one 3 _ (by kernel_rfl) rfl ?_
    refine Ow.callC rfl rfl Tryz.call16 (fun w' a7=>p' _ [⟨1,[97,98]⟩,⟨2,T⟩] w' (hG.new a7 ((je.app iC).app iB)) (yC (a7.has bo (.cells #[vi 1,vs [97,98],vi 2,vs T] 35 (0,0)) (by simp))) (by simp)) (fun B8 v8 D8 n9 gP fX gR=> ?_)
    have cr:=fX.mono gP
    with_reducible refine Ow.nil ?_
    refine⟨(cv (fun r hr=>by(try simp only[aT,List.mem_append]);(first|exact m7 r hr|simp only[m7 r hr,true_or]))), ?_⟩
    simp only[List.set_cons_zero,List.set_cons_succ,ax,an,ao]
    refine OwG.one 6 _ (by kernel_rfl) rfl ?_
    refine Ow.callC rfl rfl Tryz.call29 (fun w' a7=>pq v8 (dR [⟨1,[97,98]⟩,⟨2,T⟩]) _ [y] w' ((gR.mono (fun p hp=>by simp[hp])).W a7) (qM (a7.has bi (.cells (aJ y).toArray 24 (0,0)) (by simp))) (by simp) (Nat.le_trans (nj _) (by simp))) (fun B9 v9 D9 qP j9 iA fY=> ?_)
    have db:=iA.mono j9
    obtain⟨Wf,va,vb,kG,kY,-,-,rfl,fw,f8⟩:=fY
    obtain⟨iJ,jF⟩:=yc (by rw[hy,qo];exact kG) kY
    rw[iJ] at fw
    rw[jF] at f8
    with_reducible refine Ow.nil ?_
    refine⟨(cv (fun r hr=>by(try simp only[aT,List.mem_append]);(first|exact m7 r hr|simp only[m7 r hr,true_or]))), ?_⟩
    simp only[List.set_cons_zero,List.set_cons_succ,ax,an,ao]
    refine OwG.rest [7,8,9,10,11] rfl (by kernel_rfl) (by kernel_rfl) ?_
    simp only[aN, ↓aM, ↓aH, ↓aL, ↓aK,aI]
    refine kq @dP ?_
    subst mJ
    exact CutO.mk ⟨va,vb,G++ [(bo,Obj.cells #[vi 1,vs [97,98],vi 2,vs T] 35 (0,0))]++ [(bi,Obj.cells (aJ y).toArray 24 (0,0))]++D8++D9⟩ ⟨(((nC.app iC).app iB).app cr).app db,js fw,js f8⟩ rfl rfl
  ·refine Ow.buildSlice (e:=24) (aJ y).toArray rfl rfl (lM y) fun bi lC gU=> ?_
   with_reducible refine Ow.nil ?_
   refine⟨(cv (fun r hr=>by(try simp only[aT,List.mem_append]);(first|exact m7 r hr|simp only[m7 r hr,true_or]))), ?_⟩
   simp only[List.set_cons_zero,List.set_cons_succ,ax,an,ao]
   have iB:New w.heap.size [(bi,Obj.cells (aJ y).toArray 24 (0,0))]:=⟨gU,trivial⟩
   refine OwG.one 2 _ (by kernel_rfl) rfl ?_
   refine Ow.buildSlice (e:=35) #[vi 1,vs [97,98],vi 2,vs T] rfl rfl (Kw 1 2 [97,98] T) fun bo gH mb=> ?_
   with_reducible refine Ow.nil ?_
   refine⟨(cv (fun r hr=>by(try simp only[aT,List.mem_append]);(first|exact m7 r hr|simp only[m7 r hr,true_or]))), ?_⟩
   simp only[List.set_cons_zero,List.set_cons_succ,ax,an,ao]
   have iC:New w.heap.size [(bo,Obj.cells #[vi 1,vs [97,98],vi 2,vs T] 35 (0,0))]:=⟨mb,trivial⟩
   refine OwG.one 3 _ (by kernel_rfl) rfl ?_
   refine Ow.callC rfl rfl Tryz.call16 (fun w' a7=>p' _ [⟨1,[97,98]⟩,⟨2,T⟩] w' (hG.new a7 ((je.app iB).app iC)) (yC (a7.has bo (.cells #[vi 1,vs [97,98],vi 2,vs T] 35 (0,0)) (by simp))) (by simp)) (fun B8 v8 D8 n9 gP fX gR=> ?_)
   have cr:=fX.mono gP
   with_reducible refine Ow.nil ?_
   refine⟨(cv (fun r hr=>by(try simp only[aT,List.mem_append]);(first|exact m7 r hr|simp only[m7 r hr,true_or]))), ?_⟩
   simp only[List.set_cons_zero,List.set_cons_succ,ax,an,ao]
   refine OwG.one 6 _ (by kernel_rfl) rfl ?_
   refine Ow.callC rfl rfl Tryz.call29 (fun w' a7=>pq v8 (dR [⟨1,[97,98]⟩,⟨2,T⟩]) _ [y] w' ((gR.mono (fun p hp=>by simp[hp])).W a7) (qM (a7.has bi (.cells (aJ y).toArray 24 (0,0)) (by simp))) (by simp) (Nat.le_trans (nj _) (by simp))) (fun B9 v9 D9 qP j9 iA fY=> ?_)
   have db:=iA.mono j9
   obtain⟨Wf,va,vb,kG,kY,-,-,rfl,fw,f8⟩:=fY
   obtain⟨iJ,jF⟩:=yc (by rw[hy,qo];exact kG) kY
   rw[iJ] at fw
   rw[jF] at f8
   with_reducible refine Ow.nil ?_
   refine⟨(cv (fun r hr=>by(try simp only[aT,List.mem_append]);(first|exact m7 r hr|simp only[m7 r hr,true_or]))), ?_⟩
   simp only[List.set_cons_zero,List.set_cons_succ,ax,an,ao]
   refine OwG.rest [7,8,9,10,11] rfl (by kernel_rfl) (by kernel_rfl) ?_
   simp only[aN, ↓aM, ↓aH, ↓aL, ↓aK,aI]
   refine kq @dP ?_
   subst mJ
   exact CutO.mk ⟨va,vb,G++ [(bi,Obj.cells (aJ y).toArray 24 (0,0))]++ [(bo,Obj.cells #[vi 1,vs [97,98],vi 2,vs T] 35 (0,0))]++D8++D9⟩ ⟨(((nC.app iB).app iC).app cr).app db,js fw,js f8⟩ rfl rfl
 intro g j hg
 refine kv ?_
 obtain⟨va1,vb1,G1⟩:=g
 simp only at hg ⊢
 obtain⟨mM,jl,kP⟩:=hg
 refine Cw.cutO (G:=AlG) [44,45,46,47,48,49,50,51,52,11,12] (fun g=> [(11,g.a),(12,g.b)]) (fun g=>(b7, .cells (a8 y.l) 24 (0,0)):: (b5, .cells #[vi 2,vs T] 35 (0,0)):: (b3, .cells (a8 x.l) 24 (0,0)):: (b1, .cells #[vi 1,vs [97,98]] 35 (0,0))::g.G) (fun g=>New w.heap.size g.G∧(∀x,eT (.sl x) g.a=some (vi 1))∧(∀x,eT (.sl x) g.b=some (vi 1))∧RowOne g.G g.b x) ?_ ?_
 ·have je:New w.heap.size ((b7, .cells (a8 y.l) 24 (0,0)):: (b5, .cells #[vi 2,vs T] 35 (0,0)):: (b3, .cells (a8 x.l) 24 (0,0)):: (b1, .cells #[vi 1,vs [97,98]] 35 (0,0))::G1):=⟨ma,eF,bA,aG,mM⟩
  have m7: ∀r,r∈ [b5,b7]→r∈keys ((b7, .cells (a8 y.l) 24 (0,0)):: (b5, .cells #[vi 2,vs T] 35 (0,0)):: (b3, .cells (a8 x.l) 24 (0,0)):: (b1, .cells #[vi 1,vs [97,98]] 35 (0,0))::G1):=fun r hr=>by
   simp only[List.mem_cons,List.not_mem_nil,or_false] at hr
   rcases hr with rfl|rfl<;>simp[keys]
  have r5:aO w ((b7, .cells (a8 y.l) 24 (0,0)):: (b5, .cells #[vi 2,vs T] 35 (0,0)):: (b3, .cells (a8 x.l) 24 (0,0)):: (b1, .cells #[vi 1,vs [97,98]] 35 (0,0))::G1) b5=some (.cells #[vi 2,vs T] 35 (0,0)):=by rw[dD _ _ _ _ _ (by omega)];exact fT _ _ _ _
  have r7:aO w ((b7, .cells (a8 y.l) 24 (0,0)):: (b5, .cells #[vi 2,vs T] 35 (0,0)):: (b3, .cells (a8 x.l) 24 (0,0)):: (b1, .cells #[vi 1,vs [97,98]] 35 (0,0))::G1) b7=some (.cells (a8 y.l) 24 (0,0)):=fT _ _ _ _
  obtain⟨L7,mJ⟩: ∃L7,L7=(b7, .cells (a8 y.l) 24 (0,0)):: (b5, .cells #[vi 2,vs T] 35 (0,0)):: (b3, .cells (a8 x.l) 24 (0,0)):: (b1, .cells #[vi 1,vs [97,98]] 35 (0,0))::G1:=⟨_,rfl⟩
  rw[←mJ] at je m7 r5 r7 ⊢
  refine Cw.regionG [b5,b7] [] 11 (by kernel_rfl) rfl ?_
  simp only[List.replicate_succ,List.replicate_zero]
  refine OwG.run [0,3] [true,false,false,true,false,false,false,false,false,false,false] 9 rfl (by kernel_rfl) (by kernel_rfl) fun k hk=> ?_
  simp only[aN, ↓aM, ↓aH, ↓aL, ↓aK,aI]
  simp(disch:=(first|assumption|omega| (simp only[ac,ab,UInt64.reduceToNat];try omega))) only[↓Sx.S0,Sx.S1,Tryz.fx,dP,Nat.reduceAdd,Nat.reducePow,Int.reducePow,Nat.reduceBEq, ↓reduceIte,UInt8.reduceToNat,UInt16.reduceToNat,UInt32.reduceToNat,UInt64.reduceToNat,Int.reduceToNat,Md.next_sofnil,r5,r7]
  (with_reducible refine hk _ _ _ ?_);clear hk k
  refine OwG.two 1 4 _ _ (by kernel_rfl) rfl rfl ?_ ?_
  ·refine Ow.buildSlice (e:=35) #[vi 2,vs T] rfl rfl (Lc 2 T) fun bo gH mb=> ?_
   with_reducible refine Ow.nil ?_
   refine⟨(cv (fun r hr=>by(try simp only[aT,List.mem_append]);(first|exact m7 r hr|simp only[m7 r hr,true_or]))), ?_⟩
   simp only[List.set_cons_zero,List.set_cons_succ,ax,an,ao]
   have iC:New w.heap.size [(bo,Obj.cells #[vi 2,vs T] 35 (0,0))]:=⟨mb,trivial⟩
   refine OwG.two 2 4 _ _ (by kernel_rfl) rfl rfl ?_ ?_
   ·refine Ow.callC rfl rfl Tryz.call16 (fun w' a7=>p' _ [⟨2,T⟩] w' (hG.new a7 (je.app iC)) (xz (a7.has bo (.cells #[vi 2,vs T] 35 (0,0)) (by simp))) (by simp)) (fun B8 v8 D8 n9 gP fX gR=> ?_)
    have cr:=fX.mono gP
    with_reducible refine Ow.nil ?_
    refine⟨(cv (fun r hr=>by(try simp only[aT,List.mem_append]);(first|exact m7 r hr|simp only[m7 r hr,true_or]))), ?_⟩
    simp only[List.set_cons_zero,List.set_cons_succ,ax,an,ao]
    refine OwG.one 4 _ (by kernel_rfl) rfl ?_
    refine Ow.buildSlice (e:=24) (aJ y).toArray rfl rfl (lM y) fun bi lC gU=> ?_
    with_reducible refine Ow.nil ?_
    refine⟨(cv (fun r hr=>by(try simp only[aT,List.mem_append]);(first|exact m7 r hr|simp only[m7 r hr,true_or]))), ?_⟩
    simp only[List.set_cons_zero,List.set_cons_succ,ax,an,ao]
    have iB:New w.heap.size [(bi,Obj.cells (aJ y).toArray 24 (0,0))]:=⟨gU,trivial⟩
    refine OwG.one 5 _ (by kernel_rfl) rfl ?_
    refine Ow.callC rfl rfl Tryz.call29 (fun w' a7=>pq v8 (dR [⟨2,T⟩]) _ [y] w' ((gR.mono (fun p hp=>by simp[hp])).W a7) (qM (a7.has bi (.cells (aJ y).toArray 24 (0,0)) (by simp))) (by simp) (Nat.le_trans (nj _) (by simp))) (fun B9 v9 D9 qP j9 iA fY=> ?_)
    have db:=iA.mono j9
    obtain⟨Wf,va,vb,kG,kY,-,-,rfl,fw,f8⟩:=fY
    obtain⟨iJ,jF⟩:=ya (by rw[hy,qo];exact kG) kY
    rw[iJ] at fw
    rw[jF] at f8
    with_reducible refine Ow.nil ?_
    refine⟨(cv (fun r hr=>by(try simp only[aT,List.mem_append]);(first|exact m7 r hr|simp only[m7 r hr,true_or]))), ?_⟩
    simp only[List.set_cons_zero,List.set_cons_succ,ax,an,ao]
    refine OwG.rest [6,7,8,9,10] rfl (by kernel_rfl) (by kernel_rfl) ?_
    simp only[aN, ↓aM, ↓aH, ↓aL, ↓aK,aI]
    refine kq @dP ?_
    subst mJ
    exact CutO.mk ⟨va,vb,G1++ [(bo,Obj.cells #[vi 2,vs T] 35 (0,0))]++D8++ [(bi,Obj.cells (aJ y).toArray 24 (0,0))]++D9⟩ ⟨(((mM.app iC).app cr).app iB).app db,js fw,js f8,(o0 f8 rfl (by simp[hx])).mono (fun p hp=>by simp[hp])⟩ rfl rfl
   ·refine Ow.buildSlice (e:=24) (aJ y).toArray rfl rfl (lM y) fun bi lC gU=> ?_
    with_reducible refine Ow.nil ?_
    refine⟨(cv (fun r hr=>by(try simp only[aT,List.mem_append]);(first|exact m7 r hr|simp only[m7 r hr,true_or]))), ?_⟩
    simp only[List.set_cons_zero,List.set_cons_succ,ax,an,ao]
    have iB:New w.heap.size [(bi,Obj.cells (aJ y).toArray 24 (0,0))]:=⟨gU,trivial⟩
    refine OwG.one 2 _ (by kernel_rfl) rfl ?_
    refine Ow.callC rfl rfl Tryz.call16 (fun w' a7=>p' _ [⟨2,T⟩] w' (hG.new a7 ((je.app iC).app iB)) (xz (a7.has bo (.cells #[vi 2,vs T] 35 (0,0)) (by simp))) (by simp)) (fun B8 v8 D8 n9 gP fX gR=> ?_)
    have cr:=fX.mono gP
    with_reducible refine Ow.nil ?_
    refine⟨(cv (fun r hr=>by(try simp only[aT,List.mem_append]);(first|exact m7 r hr|simp only[m7 r hr,true_or]))), ?_⟩
    simp only[List.set_cons_zero,List.set_cons_succ,ax,an,ao]
    refine OwG.one 5 _ (by kernel_rfl) rfl ?_
    refine Ow.callC rfl rfl Tryz.call29 (fun w' a7=>pq v8 (dR [⟨2,T⟩]) _ [y] w' ((gR.mono (fun p hp=>by simp[hp])).W a7) (qM (a7.has bi (.cells (aJ y).toArray 24 (0,0)) (by simp))) (by simp) (Nat.le_trans (nj _) (by simp))) (fun B9 v9 D9 qP j9 iA fY=> ?_)
    have db:=iA.mono j9
    obtain⟨Wf,va,vb,kG,kY,-,-,rfl,fw,f8⟩:=fY
    obtain⟨iJ,jF⟩:=ya (by rw[hy,qo];exact kG) kY
    rw[iJ] at fw
    rw[jF] at f8
    with_reducible refine Ow.nil ?_
    refine⟨(cv (fun r hr=>by(try simp only[aT,List.mem_append]);(first|exact m7 r hr|simp only[m7 r hr,true_or]))), ?_⟩
    simp only[List.set_cons_zero,List.set_cons_succ,ax,an,ao]
    refine OwG.rest [6,7,8,9,10] rfl (by kernel_rfl) (by kernel_rfl) ?_
    simp only[aN, ↓aM, ↓aH, ↓aL, ↓aK,aI]
    refine kq @dP ?_
    subst mJ
    exact CutO.mk ⟨va,vb,G1++ [(bo,Obj.cells #[vi 2,vs T] 35 (0,0))]++ [(bi,Obj.cells (aJ y).toArray 24 (0,0))]++D8++D9⟩ ⟨(((mM.app iC).app iB).app cr).app db,js fw,js f8,(o0 f8 rfl (by simp[hx])).mono (fun p hp=>by simp[hp])⟩ rfl rfl
  ·refine Ow.buildSlice (e:=24) (aJ y).toArray rfl rfl (lM y) fun bi lC gU=> ?_
   with_reducible refine Ow.nil ?_
   refine⟨(cv (fun r hr=>by(try simp only[aT,List.mem_append]);(first|exact m7 r hr|simp only[m7 r hr,true_or]))), ?_⟩
   simp only[List.set_cons_zero,List.set_cons_succ,ax,an,ao]
   have iB:New w.heap.size [(bi,Obj.cells (aJ y).toArray 24 (0,0))]:=⟨gU,trivial⟩
   refine OwG.one 1 _ (by kernel_rfl) rfl ?_
   refine Ow.buildSlice (e:=35) #[vi 2,vs T] rfl rfl (Lc 2 T) fun bo gH mb=> ?_
   with_reducible refine Ow.nil ?_
   refine⟨(cv (fun r hr=>by(try simp only[aT,List.mem_append]);(first|exact m7 r hr|simp only[m7 r hr,true_or]))), ?_⟩
   simp only[List.set_cons_zero,List.set_cons_succ,ax,an,ao]
   have iC:New w.heap.size [(bo,Obj.cells #[vi 2,vs T] 35 (0,0))]:=⟨mb,trivial⟩
   refine OwG.one 2 _ (by kernel_rfl) rfl ?_
   refine Ow.callC rfl rfl Tryz.call16 (fun w' a7=>p' _ [⟨2,T⟩] w' (hG.new a7 ((je.app iB).app iC)) (xz (a7.has bo (.cells #[vi 2,vs T] 35 (0,0)) (by simp))) (by simp)) (fun B8 v8 D8 n9 gP fX gR=> ?_)
   have cr:=fX.mono gP
   with_reducible refine Ow.nil ?_
   refine⟨(cv (fun r hr=>by(try simp only[aT,List.mem_append]);(first|exact m7 r hr|simp only[m7 r hr,true_or]))), ?_⟩
   simp only[List.set_cons_zero,List.set_cons_succ,ax,an,ao]
   refine OwG.one 5 _ (by kernel_rfl) rfl ?_
   refine Ow.callC rfl rfl Tryz.call29 (fun w' a7=>pq v8 (dR [⟨2,T⟩]) _ [y] w' ((gR.mono (fun p hp=>by simp[hp])).W a7) (qM (a7.has bi (.cells (aJ y).toArray 24 (0,0)) (by simp))) (by simp) (Nat.le_trans (nj _) (by simp))) (fun B9 v9 D9 qP j9 iA fY=> ?_)
   have db:=iA.mono j9
   obtain⟨Wf,va,vb,kG,kY,-,-,rfl,fw,f8⟩:=fY
   obtain⟨iJ,jF⟩:=ya (by rw[hy,qo];exact kG) kY
   rw[iJ] at fw
   rw[jF] at f8
   with_reducible refine Ow.nil ?_
   refine⟨(cv (fun r hr=>by(try simp only[aT,List.mem_append]);(first|exact m7 r hr|simp only[m7 r hr,true_or]))), ?_⟩
   simp only[List.set_cons_zero,List.set_cons_succ,ax,an,ao]
   refine OwG.rest [6,7,8,9,10] rfl (by kernel_rfl) (by kernel_rfl) ?_
   simp only[aN, ↓aM, ↓aH, ↓aL, ↓aK,aI]
   refine kq @dP ?_
   subst mJ
   exact CutO.mk ⟨va,vb,G1++ [(bi,Obj.cells (aJ y).toArray 24 (0,0))]++ [(bo,Obj.cells #[vi 2,vs T] 35 (0,0))]++D8++D9⟩ ⟨(((mM.app iB).app iC).app cr).app db,js fw,js f8,(o0 f8 rfl (by simp[hx])).mono (fun p hp=>by simp[hp])⟩ rfl rfl
 intro g j hg
 refine kv ?_
 obtain⟨va2,vb2,G2⟩:=g
 simp only at hg ⊢
 obtain⟨JJ,gq,Rc,bb,off,arr,E,nF,lC,dg⟩:=hg
 refine Cw.world fun wz ej=> ?_
 have dh:=ej.nodup
 clear ej wz
 have rbb:aO w ((b7, .cells (a8 y.l) 24 (0,0)):: (b5, .cells #[vi 2,vs T] 35 (0,0)):: (b3, .cells (a8 x.l) 24 (0,0)):: (b1, .cells #[vi 1,vs [97,98]] 35 (0,0))::G2) bb=some (.cells arr E (0,0)):=u' dh (by simp[nF])
 have r3:aO w ((b7, .cells (a8 y.l) 24 (0,0)):: (b5, .cells #[vi 2,vs T] 35 (0,0)):: (b3, .cells (a8 x.l) 24 (0,0)):: (b1, .cells #[vi 1,vs [97,98]] 35 (0,0))::G2) b3=some (.cells (a8 x.l) 24 (0,0)):=u' dh (by simp)
 first|with_reducible refine ks [] @dP ?_|refine kp @dP ?_
 refine Cw.regionS [b3,bb] [0,1,2,3,4,5,6,7,8,9,10,11,12,13,14,15,16,17,18,19,20,21,22,23,24,25] [] (by kernel_rfl) (by kernel_rfl) (by kernel_rfl) ?_
 simp only[aN, ↓aM, ↓aH, ↓aL, ↓aK,aI]
 refine kq (And.intro @dP (And.intro @jl (And.intro @kP (And.intro @gq (And.intro @Rc (And.intro @lC (And.intro @dg (And.intro @rbb (@r3))))))))) ?_
 refine⟨_,(ke @dP),⟨ma,eF,bA,aG,JJ⟩, ?_⟩
 rfl
end Go.Proofs
end
section
open Go Go.Proofs Go.Sx Go.StP Go.RooP
namespace Go.Proofs
set_option maxRecDepth 10000
set_option maxHeartbeats 400000
set_option linter.unusedSimpArgs false
theorem rO {D:a6} {v:Value} {l:List IdL} {w:World} (h:GrI D 24 32 v l.length (l.map aJ).flatten) (hD: ∀b o,(b,o)∈D→w.heap[b]? =some o):SlV 32 aJ id0 w v l:=by
 obtain⟨X,hX,h⟩:=h
 exact h.slM (fun b o hm=>hD b o (hX _ hm)) rfl rfl fQ
theorem G0 {D:a6} {v:Value} {l:List ObK} {w:World} (h:GrI D 35 2 v l.length (l.map cC).flatten) (hD: ∀b o,(b,o)∈D→w.heap[b]? =some o):SlV 2 cC a_ w v l:=by
 obtain⟨X,hX,h⟩:=h
 exact h.slM (fun b o hm=>hD b o (hX _ hm)) rfl rfl vg
set_option linter.defProp false
def bl:=And.intro (And.intro (@cP) (@cO)) (And.intro (@Sx.tup2_0) (@Sx.tup2_1))
theorem O2 (v vr:Value) (l:List ObK) (r:List IdL) (w:World) (hG:GlobE w) (hv:SlV 2 cC a_ w v l) (hr:SlV 32 aJ id0 w vr r):
  Rets Tryz.prog 5 #[v,vr] w (fun v' D=>v'= .bool true∧D= []):=by
 have lnr:=hr.len
 refine Rets.enterV Tryz.func5 rfl (rs:= [.tmp 4]) Tryz.results5 Tryz.ntmps5 ?_
 refine kf ?_
 first|with_reducible refine ks [] @bl ?_|refine kp @bl ?_
 refine Ow.callFV rfl Tryz.call13 (fun w' a7=>vx w' (hG.new a7 trivial)) ?_
 refine ko @bl ?_
 first|with_reducible refine ks [] @bl ?_|refine kp @bl ?_
 refine Ow.callFV rfl Tryz.call14 (fun w' a7=>zP v l w' (SlV.rowX (hv.oldN a7 trivial))) ?_
 cases RQ:rU l with
 |true=>
  refine ko @bl ?_
  first|with_reducible refine ks [] @bl ?_|refine kp @bl ?_
  refine Ow.callFV rfl Tryz.call13 (fun w' a7=>vx w' (hG.new a7 trivial)) ?_
  refine ko @bl ?_
  first|with_reducible refine ks [] @bl ?_|refine kp @bl ?_
  refine⟨_,(ke @bl),trivial, ?_⟩
  rfl
 |false=>
 obtain⟨Iu,mF⟩:=EA RQ
 refine ko @bl ?_
 refine Ow.callC rfl rfl Tryz.call15 (fun w' a7=>Rets.toX (Oo v l w' (SlV.rowX (hv.oldN a7 trivial)) (by omega) (fun o ho=>by have:=mF o ho;omega))) (fun BC vC DC mG Sj Qn wm=> ?_)
 obtain⟨rfl,bc,rfl,gl⟩:=wm
 clear mG Qn
 rw[List.append_nil]
 cases bc with
 |true=>
  refine ko @bl ?_
  first|with_reducible refine ks [] @bl ?_|refine kp @bl ?_
  refine Ow.callFV rfl Tryz.call13 (fun w' a7=>vx w' (hG.new a7 trivial)) ?_
  refine ko @bl ?_
  first|with_reducible refine ks [] @bl ?_|refine kp @bl ?_
  refine⟨_,(ke @bl),trivial, ?_⟩
  rfl
 |false=>
 replace gl:=gl rfl
 by_cases Mb:30<r.length
 ·have d1:decide ((30:Int)< (r.length:Int))=true:=decide_eq_true (by omega)
  refine ko (And.intro @bl (And.intro @lnr (@d1))) ?_
  first|with_reducible refine ks [] @bl ?_|refine kp @bl ?_
  refine Ow.callFV rfl Tryz.call13 (fun w' a7=>vx w' (hG.new a7 trivial)) ?_
  refine ko @bl ?_
  first|with_reducible refine ks [] @bl ?_|refine kp @bl ?_
  refine⟨_,(ke @bl),trivial, ?_⟩
  rfl
 have d1:decide ((30:Int)< (r.length:Int))=false:=decide_eq_false (by omega)
 refine ko (And.intro @bl (And.intro @lnr (@d1))) ?_
 first|with_reducible refine ks [] @bl ?_|refine kp @bl ?_
 refine Ow.callC rfl rfl Tryz.call16 (fun w' a7=>p' v l w' (hG.new a7 trivial) (SlV.rowX (hv.oldN a7 trivial)) (by omega)) (fun B1 v1 D1 Mg im jd cz=> ?_)
 rw[List.nil_append]
 have gQ:=jd.mono im
 refine ko @bl ?_
 refine Ow.callC rfl rfl Tryz.call29 (fun w' a7=>pq v1 (dR l) vr r w' (cz.W a7) (SlV.rowX (hr.oldN a7 gQ)) (by omega) (Nat.le_trans (nj l) (by omega))) (fun B2 v2 D2 te ca cw bu=> ?_)
 obtain⟨W,va,vb,hW,hq,Sw,Rf,rfl,fw,f8⟩:=bu
 have eV:=cw.mono ca
 refine ko @bl ?_
 first|with_reducible refine ks [] @bl ?_|refine kp @bl ?_
 refine Ow.callC rfl rfl Tryz.call17 (fun w' a7=>Fq v l w' (SlV.rowX (hv.oldN a7 (gQ.app eV))) (by omega) (fun o ho=>by have:=mF o ho;omega)) (fun B3 v3 D3 wh l7 l9 gG=> ?_)
 obtain⟨vL,vI,rfl,pK,RL⟩:=gG
 have mK:=l9.mono l7
 refine ko @bl ?_
 refine Ow.callC rfl rfl Tryz.call30 (fun w' a7=>Af vL vI (l.filter rdK) vr r w' (SlV.rowX (G0 pK (fun b o hm=>a7.has b o (List.mem_append_right _ hm)))) (SlV.rowX (rO RL (fun b o hm=>a7.has b o (List.mem_append_right _ hm)))) (fun o ho=>(List.mem_filter.1 ho).2) (SlV.rowX (hr.oldN a7 ((gQ.app eV).app mK))) (by omega) (Nat.le_trans (List.length_filter_le _ _) (by omega))) (fun B4 v4 D4 dv eL cq iD=> ?_)
 obtain⟨W',vc,vd,tz,kX,Re,Rg,rfl,RM,RN⟩:=iD
 have JF:=cq.mono eL
 have kE:=((gQ.app eV).app mK).app JF
 rw[xt gl] at hW
 rw[GY] at tz
 have ems:=IN hW hq tz kX (fun i=>Iff.rfl)
 have elk:=IW hW hq tz kX (fun i=>Iff.rfl)
 have l1:=pv W.ms
 have l2:=pv W'.ms
 have l3:=pv (W.lk.map ChildL.id)
 have l4:=pv (W'.lk.map ChildL.id)
 rw[List.length_map] at l3 l4
 have iu:=nj l
 have kN:=List.length_filter_le rdK l
 refine ko @bl ?_
 first|with_reducible refine ks [] @bl ?_|refine kp @bl ?_
 refine Ow.callFV rfl Tryz.call13 (fun w' a7=>vx w' (hG.new a7 kE)) ?_
 refine ko @bl ?_
 refine Ow.callFV rfl Tryz.call26 (fun w' a7=>MF va vc _ _ w' (rO fw (fun b o hm=>a7.has b o (by simp[hm]))) (rO RM (fun b o hm=>a7.has b o (by simp[hm]))) (by omega) (by omega)) ?_
 rw[decide_eq_true ems]
 refine ko @bl ?_
 refine Ow.callFV rfl Tryz.call26 (fun w' a7=>MF vb vd _ _ w' (rO f8 (fun b o hm=>a7.has b o (by simp[hm]))) (rO RN (fun b o hm=>a7.has b o (by simp[hm]))) (by show(bZ _).length<_;omega) (by show(bZ _).length<_;omega)) ?_
 rw[decide_eq_true (show eH W.lk=eH W'.lk from elk)]
 refine ko @bl ?_
 first|with_reducible refine ks [] @bl ?_|refine kp @bl ?_
 refine⟨_,(ke @bl),kE, ?_⟩
 rfl
end Go.Proofs
end
namespace Go.Sx
open Go Go.ChangeShapes Go.WideShapes Go.RowKit
theorem Hp.same0 {W W':World} (h:Hp W [] W') {b:Nat} (hb:b<W.heap.size):W'.heap[b]? =W.heap[b]? :=h.old b hb (fun hm=>by cases hm)
theorem Hp.kept {W W':World} (h:Hp W [] W') (may:MemPlace→Prop):W.keptBut W' may:=by
 refine⟨h.os,h.output,fun i hi=> ?_⟩
 rw[h.same0 hi]
 cases ho:W.heap[i]? with
 |none=>rfl
 |some o=>
  cases o<;>first
   |exact⟨rfl,rfl,rfl,fun _ _=>rfl⟩
   |exact .inr ⟨rfl,rfl⟩
   |rfl
theorem Hp.sameAt {W W':World} (h:Hp W [] W') {p:MemPlace} (hp:p.block<W.heap.size):W.sameAt W' p:=by
 cases p with
 |cell b off=>
  have:=h.same0 (b:=b) hp
  simp only[World.sameAt,World.cell?,this]
 |map b=>exact h.same0 hp
theorem Hp.frozen {W W':World} (h:Hp W [] W') {a:Addr} (ha:a.block<W.heap.size):W'.frozen? a=W.frozen? a:=by
 simp only[World.frozen?,h.same0 ha]
section
variable {H:Type} {enc:TypeId×Value→H} {P:Program}
theorem MT (hl:laidOutB P=true) {W W':World} {sp:Nat→Bool} (hp:Hp W [] W'): ∀ {ts:List TypeId} {vs:List Value} {ds:List (DataW H)} {ps:List MemPlace},
  (∀t∈ts,P.readableRec t=true∧t<P.types.size)→(∀p∈ps,p.block<W.heap.size)→(∀p∈ps,sp p.block=true)→
  DataW.TrodAll enc P W 0 (fun _=>true) true ts vs ds ps→DataW.TrodAll enc P W' 0 sp true ts vs ds ps
 | [],_,_,_,_,_,_,h=>by
  obtain⟨rfl,rfl,rfl⟩:=trodAll_nil h
  exact trodAll_mk0
 |t::ts,_,_,_,ht,aC,hs,h=>by
  obtain⟨v,vs,d,ds,p,q,rfl,rfl,rfl,h1,h2⟩:=trodAll_cons h
  have Jt: ∀x∈p,x.block<W.heap.size:=fun x hx=>aC x (List.mem_append_left _ hx)
  exact trodAll_cons_mk (WideElems.Trod_stays hl (ht t List.mem_cons_self).1 (ht t List.mem_cons_self).2 h1 (fun x hx=>hp.sameAt (Jt x hx)) (fun x hx=>hs x (List.mem_append_left _ hx)))
   (MT hl hp (fun u hu=>ht u (List.mem_cons_of_mem _ hu)) (fun x hx=>aC x (List.mem_append_right _ hx)) (fun x hx=>hs x (List.mem_append_right _ hx)) h2)
theorem EC {f:Func} {s:ChangeSpec} {W W':World} {args:Array Value} {ds gs:List (DataW H)} {before:List MemPlace} {tb:TypeId} (hl:laidOutB P=true)
  (hW:DataW.Whole enc P f.params.toList s.vars false W args.toList ds gs before) (hv:s.vars= []) (K5: ∀t∈f.params.toList,P.readableRec t=true∧t<P.types.size)
  (hr:f.resultTypes= #[tb]) (NE:P.underlying tb=some .bool) (ir:s.fn H ds={results:= [.lit (.bool true)],args:=ds}) (hp:Hp W [] W'):
  s.post enc P f false true false false W args (.bool true) W':=by
 have aC:=hW.lt
 have Ms:=hW
 obtain⟨p,q,hA,hV,rfl,hz,hn⟩:=hW
 rw[hv] at hV
 obtain⟨rfl,rfl⟩:=trodVars_none hV
 rw[List.append_nil] at Ms aC hz
 have kH: ∀sp:Nat→Bool,(∀x∈p,sp x.block=true)→DataW.TrodAll enc P W' 0 sp true f.params.toList args.toList (s.fn H (ds++ [])).args p:=fun sp hs=>by
  rw[List.append_nil,ir]
  exact MT hl hp K5 aC hs hA
 have nT: ∀sp:Nat→Bool,DataW.TrodVars enc P W' sp s.vars (s.fn H (ds++ [])).vars []:=fun sp=>by
  rw[List.append_nil,ir,hv];rfl
 have kb: ∀ (b:Nat) (sp:Nat→Bool) (hd:Bool),DataW.TrodAll enc P W' b sp hd f.resultTypes.toList ((Value.bool true).resultList f.resultTypes.size) (s.fn H (ds++ [])).results []:=fun b sp hd=>by
  rw[List.append_nil,ir,hr]
  exact trodAll_cons_mk (shut_bool NE true) trodAll_mk0
 have c_: ∀x∈p,(fun b=>decide (b<W.heap.size)) x.block=true:=fun x hx=>by simpa using aC x hx
 refine⟨ds,[],p,[],p,[],Ms,kb _ _ _,kH _ c_,nT _,hp.kept _,fun _=> ?_⟩
 refine⟨ok_one hr rfl (okWide_bool_mk NE true),_,_,([]++p)++ [],⟨[]++p,[],trodAll_append (kH _ (fun _ _=>rfl)) (kb _ _ _),nT _,rfl, ?_,fun h=>by cases h⟩, ?_⟩
 ·intro b off hx
  have NO:MemPlace.cell b off∈p:=by simpa using hx
  rw[hp.frozen (aC _ NO)]
  exact hz b off NO
 ·intro x hx _
  simpa using hx
end
section
variable {P:Program} {W:World} {name:String} {k:IntKind} {zs:List Int}
theorem KS {t e:TypeId} {g n:Nat} (hg:P.globalNamed name=some g) (NH: (P.globals[g]?).map (·.type)=some t) (ht:P.underlying t=some (.array n e)) (he:P.underlying e=some (.int k)) (Mw:P.cellsOf e=1) (uH:P.cellsOf t=n):
  ∀ {laid:List (String×DataW Unit)} {ps:List MemPlace},DataW.LaidVars P W laid ps→(name,Lib.tabData k zs)∈laid→Lib.TabIs P W name k zs
 | [],_,_,hm=>by cases hm
 | (n',d')::rest,ps,h,hm=>by
  obtain⟨g',t',cs,fuel,p,q,uK,qn,KE,hd,hr,-⟩:=h
  rcases List.mem_cons.1 hm with hm|hm
  ·cases hm
   obtain rfl:=Option.some.inj (hg.symm.trans uK)
   obtain rfl:=Option.some.inj (NH.symm.trans qn)
   unfold Lib.TabIs
   rw[KE,←Lib.cells_of_tab ht he Mw uH hd]
  ·exact KS hg NH ht he Mw uH hr hm
theorem LB {g:Nat} (hg:P.globalNamed name=some g) (h:Lib.TabIs P W name k zs): ∃e f,W.heap[g]? =some (.cells (zs.map fun z=>Value.int k z).toArray e f):=by
 unfold Lib.TabIs at h
 simp only[World.var?,hg,Option.bind_some] at h
 split at h
 ·rename_i cs e f hb
  cases h
  exact⟨e,f,hb⟩
 ·cases h
end
section
variable {H:Type} {enc:TypeId×Value→H} {P:Program}
end
end Go.Sx
namespace Go.Sx
open Go
section
variable {P:Program}
theorem EL {fits:TypeId→Bool} {d:Nat} {e:TypeId} {count off n:Nat} (h:rowAt P fits d e count off n=true):off≤count*P.cellsOf e:=by
 cases d with
 |zero=>simp[rowAt] at h
 |succ d=>
  unfold rowAt at h
  simp only at h
  split at h
  ·cases h
  ·rename_i hs
   have jo:0<P.cellsOf e:=Nat.pos_of_ne_zero hs
   have hd:=Nat.div_add_mod off (P.cellsOf e)
   have hm:=Nat.mod_lt off jo
   rw[Bool.or_eq_true] at h
   rcases h with h|h
   ·simp only[Bool.and_eq_true,beq_iff_eq,decide_eq_true_eq] at h
    have:off / P.cellsOf e*P.cellsOf e≤count*P.cellsOf e:=Nat.mul_le_mul_right _ (by omega)
    rw[Nat.mul_comm (P.cellsOf e)] at hd
    omega
   ·simp only[Bool.and_eq_true,decide_eq_true_eq] at h
    have: (off / P.cellsOf e+1)*P.cellsOf e≤count*P.cellsOf e:=Nat.mul_le_mul_right _ (by omega)
    rw[Nat.add_mul,Nat.one_mul] at this
    rw[Nat.mul_comm (P.cellsOf e)] at hd
    omega
theorem Le {e:TypeId} {count off:Nat}: ∀ {d:Nat} {u:TypeId} {n:Nat},liesAt P d e count off u n=true→off≤count*P.cellsOf e
 |0,u,n,h=>by simp[liesAt] at h
 |d+1,u,n,h=>by
  unfold liesAt at h
  rw[Bool.or_eq_true] at h
  rcases h with h|h
  ·exact EL h
  ·split at h
   ·exact Le h
   ·cases h
theorem HW {W:World} {r:Reach} {base:Nat} {a:Addr} {e:TypeId} {n:Nat} (h:W.has P r base a e n):a.spot=none∧ ∃arr E fz,W.heap[a.block]? =some (.cells arr E fz)∧a.off≤arr.size:=by
 obtain⟨-,hs,row,cells,dL,hl⟩:=h
 refine⟨hs, ?_⟩
 unfold World.shape? at dL
 split at dL
 ·rename_i c el fz hh
  cases dL
  refine⟨c,_,fz,hh,Nat.le_trans (Le hl) ?_⟩
  exact Nat.div_mul_le_self _ _
 ·cases dL
theorem Cj {W:World} {r:Reach} {base:Nat} {t e:TypeId} {v:Value} (ht:P.underlying t=some (.slice e)) (h:Value.okWide P W r base t v):
  v= .slice none 0 0∨ ∃b off len cap arr E fz,v=vsl b off len cap∧len≤cap∧W.heap[b]? =some (.cells arr E fz)∧off≤arr.size:=by
 obtain⟨a,len,cap,rfl⟩:=Go.WideShapes.okWide_slice ht h
 unfold Value.okWide at h
 rw[ht] at h
 unfold Cell.okWide at h
 rw[ht] at h
 simp only at h
 unfold Cell.ok at h
 rw[ht] at h
 cases a with
 |none=>
  left
  simp only at h
  split at h
  all_goals first| (cases h;done) |simp_all
 |some a=>
  right
  simp only at h
  obtain⟨eN,-,hh⟩:=h
  obtain⟨hs,arr,E,fz,hb,ho⟩:=HW hh
  obtain⟨b,off,sp⟩:=a
  simp only at hs
  subst hs
  exact⟨b,off,len,cap,arr,E,fz,rfl,eN,hb,ho⟩
theorem IY {α:Type} {enc:α→List Value} {z:α} {m:Nat} {W:World} {base b off c:Nat} {l:List α} {arr:Array Value} {E:TypeId} {fz:Nat×Nat} (nL:0<m) (hm: ∀x,(enc x).length=m)
  (pE: ∀i,i<l.length→W.cells? base ((Addr.mk b off none).add (i*m)) m=some (enc (l.getD i z))) (nI:W.heap[b]? =some (.cells arr E fz)) (Rr:off≤arr.size) (hc:l.length≤c):SlV m enc z W (vsl b off l.length c) l:=by
 have get: ∀k,k<l.length→ ∀j,j<m→arr[off+k*m+j]? =(enc (l.getD k z))[j]? :=by
  intro k hk j hj
  obtain⟨-,hl,hg⟩:=World.cells?_some (pE k hk)
  have:=hg j (by omega)
  rw[gu,gu] at this
  simp only[World.cell?,nI,Option.isSome_none,Bool.false_eq_true,if_false] at this
  exact this
 refine SlV.sl nI get hc ?_
 by_cases h0:l.length=0
 ·rw[h0];omega
 ·have h1:=get (l.length - 1) (by omega) (m - 1) (by omega)
  rw[List.getElem?_eq_getElem (by rw[hm];omega)] at h1
  have h2:=(Array.getElem?_eq_some_iff.1 h1).1
  have h3: (l.length - 1)*m+m=l.length*m:=by
   rw[←Nat.succ_mul];congr 1;omega
  omega
theorem sG {H:Type} {tell:TypeId×Value→H} {α:Type} {enc:α→List Value} {z:α} {m:Nat} {W:World} {r:Reach} {base b0:Nat} {sp:Nat→Bool} {fG:Bool} {fuel:Nat} {t e:TypeId} {v:Value} {x:DataW H×List MemPlace}
  (ht:P.underlying t=some (.slice e)) (he:P.cellsOf e=m) (nL:0<m) (hm: ∀x,(enc x).length=m) (dm:Value.okWide P W r b0 t v)
  (JX: ∀n cs y,DataW.trod tell P W base sp fG n e cs=some y→ ∃a,cs=enc a) (hd:DataW.trod tell P W base sp fG fuel t [v]=some x): ∃l,SlV m enc z W v l:=by
 rcases DataW.trod_slice ht hd with⟨jC,-⟩ | ⟨a,len,cap,elems,rest,n,-,jC,-,-,hl,-,aQ,nH,-,-⟩
 ·simp only[List.cons.injEq,and_true] at jC
  subst jC
  exact⟨[],SlV.nil W⟩
 ·simp only[List.cons.injEq,and_true] at jC
  subst jC
  rcases Cj ht dm with h0| ⟨b,off,len',cap',arr,E,fz,h1,-,hb,ho⟩
  ·cases h0
  ·unfold vsl at h1
   cases h1
   rw[he] at nH
   have uI: ∀i,i<len→ ∃q,W.cells? base ((Addr.mk b off none).add (i*m)) m=some (enc q):=by
    intro i hi
    have h2:=nH i hi
    rw[List.getElem?_eq_getElem (by omega)] at h2
    cases hc:W.cells? base ((Addr.mk b off none).add (i*m)) m with
    |none=>rw[hc] at h2;cases h2
    |some cs=>
     rw[hc] at h2
     obtain⟨q,rfl⟩:=JX _ _ _ h2
     exact⟨q,rfl⟩
   obtain⟨f,hf⟩: ∃f:Nat→α,∀i,i<len→W.cells? base ((Addr.mk b off none).add (i*m)) m=some (enc (f i)):=by
    classical
    refine⟨fun i=>if h:i<len then Classical.choose (uI i h) else z,fun i hi=> ?_⟩
    simp only[dif_pos hi]
    exact Classical.choose_spec (uI i hi)
   have qh: ((List.range len).map f).length=len:=by simp
   refine⟨(List.range len).map f, ?_⟩
   have:=IY (W:=W) (base:=base) (b:=b) (off:=off) (c:=cap) (l:=(List.range len).map f) (z:=z) nL hm (fun i hi=>by
    rw[qh] at hi
    rw[hf i hi]
    congr 2
    rw[List.getD_eq_getElem?_getD,List.getElem?_map,List.getElem?_range hi];rfl) hb ho (by rw[qh];exact hl)
   rw[qh] at this
   exact this
end
end Go.Sx
section
open Go Go.Proofs Go.Sx Go.StP Go.ChangeShapes
namespace Go.Proofs
set_option maxRecDepth 10000
set_option maxHeartbeats 1000000
set_option linter.unusedSimpArgs false
theorem Ep {H:Type} {tell:TypeId×Value→H} {W:World} {base:Nat} {sp:Nat→Bool} {fG:Bool} {n:Nat} {cs:List Value} {y:DataW H×List MemPlace}
  (h:DataW.trod tell Tryz.prog W base sp fG n 24 cs=some y): ∃i:IdL,cs=i.l.map v8:=by
 obtain⟨xs,m,-,-,aQ,gI,nH⟩:=DataW.trod_array Tryz.underlying24 h
 have hc: (Tryz.prog).cellsOf 24=32:=by kernel_rfl
 have h1: (Tryz.prog).cellsOf 5=1:=by kernel_rfl
 rw[hc] at aQ
 rw[h1] at nH
 have uI: ∀i (hi:i<cs.length),∃x:UInt8,cs[i]=v8 x:=by
  intro i hi
  have h2:=nH i (by omega)
  rw[List.getElem?_eq_getElem (by omega),Nat.mul_one,List.drop_eq_getElem_cons hi,List.take_succ_cons,List.take_zero] at h2
  obtain⟨z,hz,-,hw⟩:=DataW.trod_int Tryz.underlying5 h2
  simp only[List.cons.injEq,and_true] at hz
  rw[hz]
  simp only[Lit.wf,Bool.and_eq_true,decide_eq_true_eq] at hw
  have aG:0≤z:=by simpa [IntKind.min,IntKind.bits,IntKind.signed] using hw.1
  have ar:z≤255:=by simpa [IntKind.max,IntKind.bits,IntKind.signed] using hw.2
  refine⟨UInt8.ofNat z.toNat, ?_⟩
  unfold v8
  rw[UInt8.toNat_ofNat',Nat.mod_eq_of_lt (by omega)]
  congr 1;omega
 have hl: ∃l:List UInt8,cs=l.map v8:=by
  clear nH aQ gI h
  induction cs with
  |nil=>exact⟨[],rfl⟩
  |cons c r ih=>
   obtain⟨x,hx⟩:=uI 0 (by simp)
   obtain⟨l,hl⟩:=ih (fun i hi=>by have:=uI (i+1) (by simpa using hi);simpa using this)
   exact⟨x::l,by rw[hl];simp at hx;simp[hx]⟩
 obtain⟨l,rfl⟩:=hl
 exact⟨⟨l,by simpa using aQ⟩,rfl⟩
theorem H7 {H:Type} {tell:TypeId×Value→H} {W:World} {base:Nat} {sp:Nat→Bool} {fG:Bool} (n:Nat) (cs:List Value) (y:DataW H×List MemPlace)
  (h:DataW.trod tell Tryz.prog W base sp fG n 35 cs=some y): ∃o:ObK,cs=cC o:=by
 have hc: (Tryz.prog).cellsOf 35=2:=by kernel_rfl
 have fE: (Tryz.prog).cellsOf 3=1:=by kernel_rfl
 have wt: (Tryz.prog).cellsOf 9=1:=by kernel_rfl
 obtain⟨y0,y1,n',-,aQ,h0,h1⟩:=ChangeShapes.trod_struct2 Tryz.underlying35 h
 simp only at h0 h1 aQ
 rw[fE,List.drop_zero] at h0
 rw[wt] at h1
 rw[hc] at aQ
 obtain⟨z,hz,-,-⟩:=DataW.trod_int Tryz.underlying3 h0
 obtain⟨s,pd,-,-⟩:=DataW.trod_string Tryz.underlying9 h1
 have hd:cs=cs.take 1++ (cs.drop 1).take 1:=by
  rw[show(cs.drop 1).take 1=cs.drop 1 from List.take_of_length_le (by rw[List.length_drop];omega),List.take_append_drop]
 rw[hz,pd] at hd
 exact⟨⟨z,s.data.toList⟩,by rw[hd];rfl⟩
theorem DD {H:Type} {enc:TypeId×Value→H} {W:World} {r:Reach} {b0 base:Nat} {sp:Nat→Bool} {fG:Bool} {v:Value} {d:DataW H} {p:List MemPlace}
  (dm:Value.okWide Tryz.prog W r b0 22 v) (hd:DataW.Trod enc Tryz.prog W base sp fG 22 v d p): ∃l,SlV 2 cC a_ W v l:=by
 obtain⟨a0,len,cap,rfl⟩:=WideShapes.okWide_slice Tryz.underlying22 dm
 obtain⟨fu,hf⟩:=hd
 exact sG (z:=a_) Tryz.underlying22 (by kernel_rfl) (by decide) vg dm H7 hf
theorem En {H:Type} {enc:TypeId×Value→H} {W:World} {r:Reach} {b0 base:Nat} {sp:Nat→Bool} {fG:Bool} {v:Value} {d:DataW H} {p:List MemPlace}
  (dm:Value.okWide Tryz.prog W r b0 30 v) (hd:DataW.Trod enc Tryz.prog W base sp fG 30 v d p): ∃l,SlV 32 aJ id0 W v l:=by
 obtain⟨a0,len,cap,rfl⟩:=WideShapes.okWide_slice Tryz.underlying30 dm
 obtain⟨fu,hf⟩:=hd
 exact sG (z:=id0) Tryz.underlying30 (by kernel_rfl) (by decide) qF dm (fun n cs y h=>by obtain⟨i,hi⟩:=Ep h;exact⟨i,hi⟩) hf
end Go.Proofs
end
namespace Go.Proofs
end Go.Proofs
namespace Go.Sx
open Go
theorem F7 {P:Program} {f:FuncId} {fn:Func} {s:ChangeSpec} {c:OpenClaim}
  (h1: (c.wf (OpenSpec.ofChange s))=true)
  (h2: (laidOutB P)=true)
  (h3: (mapsRowed P)=true)
  (h4: (fn.params.all (P.readableRec ·))=true)
  (h5: (namedTie P c.named s.vars)=true)
  (h6: ((c.stops== []))=true)
  (h7: ((P.stops== []))=true)
  (h8: ((c.knobs== []))=true)
  (h9: ((P.stopKnobs== []))=true)
  (QK: ((c.inPlace==P.inPlace f))=true)
  (QL: ((c.unfollowed==P.unfollowed f))=true)
  (jZ: ((c.recurses==P.recurses f))=true)
  (mD: ((c.named==P.varsNamed f))=true)
  (we: ((c.maps==(fn.params.toList++s.plain.varTypes P).any (P.mapsRec ·)))=true)
  (wg: ((c.ifaces==(fn.params.toList++s.plain.varTypes P).any (P.ifacesRec ·)))=true)
  (MX: ((c.mapsOut==P.mapsAmong fn.resultTypes.toList))=true)
  (ou: ((c.loops==(fn.params.toList++s.plain.varTypes P).any (P.loopsFrom ·)))=true)
  (QP: ((c.wideKeys==(fn.params.toList++s.plain.varTypes P++fn.resultTypes.toList).any (P.wideKeysFrom ·)))=true)
  (QQ: (s.vars.all (P.varReadable ·))=true)
  (QR: (fn.resultTypes.all (fun t=>P.readableRec t&&decide (t<P.types.size)))=true)
  (QS: ((c.ifacesOut==fn.resultTypes.toList.any (P.ifacesRec ·)))=true)
  (QT: ((c.loopsOut==fn.resultTypes.toList.any (P.loopsFrom ·)))=true)
  (mE: ((c.plainKeys==P.plainKeys))=true)
  (Is: (c.shortTexts.isNone)=true)
  (mF: (P.stopsHeard)=true)
  (Ma: (P.mayEnter)=true)
  (QU: ((c.lifted==P.liftsFinal))=true)
  (QV: ((P.make==some c.make))=true)
  (QW: ((c.kinds==(if c.domain.isEmpty then [] else fn.params.toList.map fun t=>match P.underlying t with|some (.int k)=>some k|_=>none)))=true)
  (Mb: ((c.pinned==c.pinnedBy))=true)
  (QX: ((c.veiled==(fn.params.toList++s.plain.varTypes P++fn.resultTypes.toList).any (P.veiledRec ·)))=true)
  (Mc: (c.veiledFits P fn.params.toList (fn.params.toList++s.plain.varTypes P++fn.resultTypes.toList))=true):
  joinedFacts P f fn s c=true:=by
 unfold joinedFacts
 exact(Bool.and_eq_true_iff.2 ⟨(Bool.and_eq_true_iff.2 ⟨(Bool.and_eq_true_iff.2 ⟨(Bool.and_eq_true_iff.2 ⟨(Bool.and_eq_true_iff.2 ⟨(Bool.and_eq_true_iff.2 ⟨(Bool.and_eq_true_iff.2 ⟨(Bool.and_eq_true_iff.2 ⟨(Bool.and_eq_true_iff.2 ⟨(Bool.and_eq_true_iff.2 ⟨(Bool.and_eq_true_iff.2 ⟨(Bool.and_eq_true_iff.2 ⟨(Bool.and_eq_true_iff.2 ⟨(Bool.and_eq_true_iff.2 ⟨(Bool.and_eq_true_iff.2 ⟨(Bool.and_eq_true_iff.2 ⟨(Bool.and_eq_true_iff.2 ⟨(Bool.and_eq_true_iff.2 ⟨(Bool.and_eq_true_iff.2 ⟨(Bool.and_eq_true_iff.2 ⟨(Bool.and_eq_true_iff.2 ⟨(Bool.and_eq_true_iff.2 ⟨(Bool.and_eq_true_iff.2 ⟨(Bool.and_eq_true_iff.2 ⟨(Bool.and_eq_true_iff.2 ⟨(Bool.and_eq_true_iff.2 ⟨(Bool.and_eq_true_iff.2 ⟨(Bool.and_eq_true_iff.2 ⟨(Bool.and_eq_true_iff.2 ⟨(Bool.and_eq_true_iff.2 ⟨(Bool.and_eq_true_iff.2 ⟨h1,h2⟩),h3⟩),h4⟩),h5⟩),h6⟩),h7⟩),h8⟩),h9⟩),QK⟩),QL⟩),jZ⟩),mD⟩),we⟩),wg⟩),MX⟩),ou⟩),QP⟩),QQ⟩),QR⟩),QS⟩),QT⟩),mE⟩),Is⟩),mF⟩),Ma⟩),QU⟩),QV⟩),QW⟩),Mb⟩),QX⟩),Mc⟩)
end Go.Sx
