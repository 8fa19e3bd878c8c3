/-
  Part 4 of the walk: contracts of the functions that the law reaches, and the calculus they stand on.
  No conditions.
-/
import Derived.Test.YtfdphhalimbpbaaGreatDoorP3
import Derived.ProofKit
import Derived.OpenShut
import Derived.WideKeyArgs
import Derived.ChangeSame
import Derived.ChangeMaps5
import Derived.Lib.LaidTab
import Derived.SliceStrings
import Derived.DataReads
import Derived.Deep.Strs
section
open Go Go.Proofs Go.Sx Go.StP Go.RooP
namespace Go.Proofs
set_option maxRecDepth 10000
set_option maxHeartbeats 400000
set_option linter.unusedSimpArgs false
set_option linter.defProp false
def wd_:=And.intro (And.intro (@zH_) (@zG_)) (And.intro (@ad9_) (And.intro (@ajB_) (@x6_)))
theorem ajg_ (v:Value) (l:List IdL) (x:IdL) (w:World) (hv:RowX 32 zW_ id0 w v l []) (hl:l.length<1000000):
  Rets Tryz.prog 31 #[v, .agg (a8 x.l)] w (fun v' D=>v'= .bool (decide (x∈l))∧D= []):=by
 obtain⟨b,off,arr,E,fz,hr,-⟩:=hv
 have ln:=fun x=>hr.len x
 have hx:=x.h
 refine Rets.enterV Tryz.func31 rfl (rs:= [.tmp 4]) Tryz.results31 Tryz.ntmps31 ?_
 refine kf ?_
 first|with_reducible refine ks [] @wd_ ?_|refine kp @wd_ ?_
 refine Ow.box rfl rfl fun b1 hb1 hw1=> ?_
 simp only[zV_,zQ_,z2_,zd_,List.nil_append,List.cons_append]
 refine Ow.go rfl ?_
 simp(disch:=(first|assumption|omega| (simp only[qQ_,qO_,UInt64.reduceToNat];try omega))) only[↓Sx.S0,Sx.S1,Tryz.fx,wd_,Nat.reduceAdd,Nat.reducePow,Int.reducePow,Nat.reduceBEq, ↓reduceIte,UInt8.reduceToNat,UInt16.reduceToNat,UInt32.reduceToNat,UInt64.reduceToNat,Int.reduceToNat]
 first|with_reducible refine ks [] @wd_ ?_|refine kp @wd_ ?_
 refine Cw.loopG (G:=Nat) [6,7,8,9,12,13,14,15,16,17,4,10,11,5] (fun g=> [(5,vi g)]) (fun g=> [(b1, .cells (a8 x.l) 24 (0,0))]) (fun g=>g≤l.length∧x∉l.take g) (fun g=>l.length - g) 0 rfl rfl ?_ ?_
 ·exact⟨Nat.zero_le _,by simp⟩
 intro k jk hk
 refine kv ?_
 obtain⟨h1,h2⟩:=hk
 by_cases hk:k<l.length
 ·have hbl:=hr.lt (by omega)
  have hn1:b1≠b:=by omega
  have r2:=hr.has (by omega)
  have i2:=hr.idx true k hk
  have l2:=JF_ hr hk
  have hgm:l.getD k id0∈l:=by
   rw[List.getD_eq_getElem?_getD,List.getElem?_eq_getElem hk];exact List.getElem_mem _
  have hts:=StP.take_snoc (z:=id0) hk
  have d1:decide ((k:Int)< (l.length:Int))=true:=decide_eq_true (by omega)
  generalize l.getD k id0=y at*
  first|with_reducible refine ks [] (And.intro @wd_ (And.intro @ln (@d1))) ?_|refine kp (And.intro @wd_ (And.intro @ln (@d1))) ?_
  refine Cw.regionS [b1,b] [0,1,2,3,4,5] [] (by kernel_rfl) (by kernel_rfl) (by kernel_rfl) ?_
  simp only[zg_, ↓zc_, ↓za_, ↓zk_, ↓zj_,zb_]
  refine kq (And.intro @wd_ (And.intro @i2 (And.intro @r2 (@l2)))) ?_
  cases hq: (y.l==x.l)
  ·first|with_reducible refine ks [] @wd_ ?_|refine kp @wd_ ?_
   refine Again.mk (k+1) (by omega) ⟨hk, ?_⟩ rfl rfl
   rw[hts,List.mem_append,List.mem_singleton]
   rintro(h|h)
   ·exact h2 h
   ·subst h;simp at hq
  ·have e:x∈l:=by rw[←IdL.ext2 (eq_of_beq hq)];exact hgm
   rw[decide_eq_true e]
   first|with_reducible refine ks [] @wd_ ?_|refine kp @wd_ ?_
   refine⟨_,(ke @wd_),⟨hw1,trivial⟩, ?_⟩
   rfl
 ·obtain rfl:k=l.length:=by omega
  rw[List.take_length] at h2
  rw[decide_eq_false h2]
  have d1:decide ((l.length:Int)< (l.length:Int))=false:=by simp
  first|with_reducible refine ks [] (And.intro @wd_ (And.intro @ln (@d1))) ?_|refine kp (And.intro @wd_ (And.intro @ln (@d1))) ?_
  refine⟨_,(ke @wd_),⟨hw1,trivial⟩, ?_⟩
  rfl
def k7_ (o:ObK):List Value:= [vi o.k,vs o.t]
theorem v0_ (o:ObK): (k7_ o).length=2:=rfl
theorem ah7_ (o:ObK): (k7_ o).all Value.oneCell'=true:=rfl
theorem JA_ {w:World} {v:Value} {l:List ObK} {b off:Nat} {arr:Array Value} {E:TypeId} {fz:Nat×Nat} (h:RowS 2 k7_ jV_ w v l b off arr E fz) {k:Nat} (hk:k<l.length):
  zx_ (some (true,2)) (some (.cells arr E fz)) (off+k*2)=some (obV (l.getD k jV_).k (l.getD k jV_).t):=RowS.load h v0_ (by omega) hk
def vi_ (l:List ObK):x1_:=fun i=>match l.find? (fun o=>decide (idK o=i)) with|some o=>(o,true) |none=>(jV_,false)
theorem agx_ (l:List ObK):vi_ (l.filter rdK)=srcD l:=rfl
theorem Wm_ (a b:Value) (E:TypeId) (n:Nat) (fz:Nat×Nat):zx_ (some (false,n)) (some (.cells #[a,b] E fz)) 0=some a:=(rfl)
theorem aai_ (a b:Value) (E:TypeId) (n:Nat) (fz:Nat×Nat):zx_ (some (false,n)) (some (.cells #[a,b] E fz)) 1=some b:=(rfl)
theorem WV_ (a b:Value) (E:TypeId) (fz:Nat×Nat):zx_ (some (true,2)) (some (.cells #[a,b] E fz)) 0=some (.agg #[a,b]):=(rfl)
theorem kE_ (x y:Int) (s t:List UInt8) (E:TypeId):zp_ (some (true,2)) (some (Obj.cells #[vi x,vs s] E (0,0))) 0 (obV y t)=some (.cells #[vi y,vs t] E (0,0)):=(rfl)
set_option linter.defProp false
def kS_:=And.intro (And.intro (And.intro (@zH_) (@zG_)) (And.intro (@ad9_) (@ajB_))) (And.intro (And.intro (@x6_) (@Wm_)) (And.intro (@aai_) (And.intro (@kE_) (@qV_))))
theorem agP_ (vL vI:Value) (l:List ObK) (i:IdL) (w:World) (hL:RowX 2 k7_ jV_ w vL l []) (hI:RowX 32 zW_ id0 w vI (l.map idK) []) (hl:l.length<1000000):
  Rets Tryz.prog 18 #[.agg #[vL,vI], .agg (a8 i.l)] w (fun v D=>v= .tuple #[obKV (vi_ l i).1, .bool (vi_ l i).2]∧D= []):=by
 obtain⟨b1,off1,arr1,E1,fz1,hr1,-⟩:=hL
 obtain⟨b2,off2,arr2,E2,fz2,hr2,-⟩:=hI
 have ln2:=fun x=>hr2.len x
 rw[List.length_map] at ln2
 have hi:=i.h
 refine Rets.enterV Tryz.func18 rfl (rs:= [.cell 4 35, .tmp 5]) Tryz.results18 Tryz.ntmps18 ?_
 refine kf ?_
 first|with_reducible refine ks [] @kS_ ?_|refine kp @kS_ ?_
 refine Ow.box rfl rfl fun b3 hb3 hw3=> ?_
 simp only[zV_,zQ_,z2_,zd_,List.nil_append,List.cons_append]
 refine Ow.go rfl ?_
 simp(disch:=(first|assumption|omega| (simp only[qQ_,qO_,UInt64.reduceToNat];try omega))) only[↓Sx.S0,Sx.S1,Tryz.fx,kS_,Nat.reduceAdd,Nat.reducePow,Int.reducePow,Nat.reduceBEq, ↓reduceIte,UInt8.reduceToNat,UInt16.reduceToNat,UInt32.reduceToNat,UInt64.reduceToNat,Int.reduceToNat]
 refine Ow.box rfl rfl fun b4 hb4 hw4=> ?_
 simp only[zV_,zQ_,z2_,zd_,List.nil_append,List.cons_append]
 refine Ow.go rfl ?_
 simp(disch:=(first|assumption|omega| (simp only[qQ_,qO_,UInt64.reduceToNat];try omega))) only[↓Sx.S0,Sx.S1,Tryz.fx,kS_,Nat.reduceAdd,Nat.reducePow,Int.reducePow,Nat.reduceBEq, ↓reduceIte,UInt8.reduceToNat,UInt16.reduceToNat,UInt32.reduceToNat,UInt64.reduceToNat,Int.reduceToNat]
 obtain⟨h34,-⟩:=hb4
 refine Ow.alloc rfl rfl VH_ fun b5 hb5 hw5=> ?_
 simp only[zd_,List.nil_append,List.cons_append]
 obtain⟨h35,h45,-⟩:=hb5
 refine ko @kS_ ?_
 first|with_reducible refine ks [] @kS_ ?_|refine kp @kS_ ?_
 refine Cw.loopG (G:=Nat) [7,8,9,10,11,14,15,16,17,18,19,20,21,22,23,24,25,5,12,13,6] (fun g=> [(6,vi g)]) (fun g=> [(b3, .cells #[vL,vI] 32 (0,0)),(b4, .cells (a8 i.l) 24 (0,0)),(b5, .cells #[vi 0,vs []] 35 (0,0))]) (fun g=>g≤l.length∧vi_ l i=vi_ (l.drop g) i) (fun g=>l.length - g) 0 rfl rfl ?_ ?_
 ·exact⟨Nat.zero_le _,rfl⟩
 intro k jk hk
 refine kv ?_
 obtain⟨h1,h2⟩:=hk
 rw[h2]
 by_cases hk:k<l.length
 ·have hk2:k< (l.map idK).length:=by rw[List.length_map];exact hk
  have hl2:=hr2.lt (by omega)
  have hl1:=hr1.lt (by omega)
  have r1: ∀x y z,zt_ w [(b3,x),(b4,y),(b5,z)] b1=some (.cells arr1 E1 fz1):=fun x y z=>by rw[zv_ _ _ _ _ _ (by omega),zv_ _ _ _ _ _ (by omega),zv_ _ _ _ _ _ (by omega),QF_];exact hr1.has (by omega)
  have r2: ∀x y z,zt_ w [(b3,x),(b4,y),(b5,z)] b2=some (.cells arr2 E2 fz2):=fun x y z=>by rw[zv_ _ _ _ _ _ (by omega),zv_ _ _ _ _ _ (by omega),zv_ _ _ _ _ _ (by omega),QF_];exact hr2.has (by omega)
  have i1:=hr1.idx true k hk
  have l1:=JA_ hr1 hk
  have i2:=hr2.idx true k hk2
  have l2:=JF_ hr2 hk2
  have eg: (l.map idK).getD k id0=idK (l.getD k jV_):=by
   rw[List.getD_eq_getElem?_getD,List.getD_eq_getElem?_getD,List.getElem?_eq_getElem hk2,List.getElem?_eq_getElem hk];simp
  rw[eg] at l2
  have hdr:=StP.drop_cons (z:=jV_) hk
  have d1:decide ((k:Int)< (l.length:Int))=true:=decide_eq_true (by omega)
  generalize l.getD k jV_=o at*
  have hsp:vi_ (l.drop k) i=if idK o=i then(o,true) else vi_ (l.drop (k+1)) i:=by
   rw[hdr]
   unfold vi_
   rw[List.find?_cons]
   by_cases h:idK o=i<;>simp[h]
  first|with_reducible refine ks [] (And.intro @kS_ (And.intro @ln2 (@d1))) ?_|refine kp (And.intro @kS_ (And.intro @ln2 (@d1))) ?_
  refine Cw.regionS [b3,b4,b2] [0,2,1,3,4,5,6] [] (by kernel_rfl) (by kernel_rfl) (by kernel_rfl) ?_
  simp only[zg_, ↓zc_, ↓za_, ↓zk_, ↓zj_,zb_]
  refine kq (And.intro @kS_ (And.intro @i2 (And.intro @r2 (@l2)))) ?_
  cases hq: ((idK o).l==i.l)
  ·have e: ¬idK o=i:=fun h=>by rw[h] at hq;simp at hq
   rw[if_neg e] at hsp
   first|with_reducible refine ks [] @kS_ ?_|refine kp @kS_ ?_
   exact Again.mk (k+1) (by omega) ⟨hk,hsp⟩ rfl rfl
  ·have e:idK o=i:=IdL.ext2 (eq_of_beq hq)
   rw[if_pos e] at hsp
   rw[hsp]
   first|with_reducible refine ks [] (And.intro @kS_ (And.intro @i1 (And.intro @r1 (@l1)))) ?_|refine kp (And.intro @kS_ (And.intro @i1 (And.intro @r1 (@l1)))) ?_
   refine⟨_,(ke @kS_),⟨hw3,hw4,hw5,trivial⟩, ?_⟩
   rfl
 ·obtain rfl:k=l.length:=by omega
  have d1:decide ((l.length:Int)< (l.length:Int))=false:=by simp
  have hsp:vi_ (l.drop l.length) i=(jV_,false):=by rw[List.drop_length];rfl
  rw[hsp]
  first|with_reducible refine ks [] (And.intro @kS_ (And.intro @ln2 (@d1))) ?_|refine kp (And.intro @kS_ (And.intro @ln2 (@d1))) ?_
  refine Ow.build (obV 0 []) rfl JM_ ?_
  refine ko @kS_ ?_
  refine⟨_,(ke @kS_),⟨hw3,hw4,hw5,trivial⟩, ?_⟩
  rfl
theorem alf_ {o:ObK} (h:rdK o=true):Dig.shaR (Zb_ o.k o.t)=(idK o).l:=by
 have h':xx_ o.k o.t=true:=h
 have e:idK o=⟨Dig.shaR (xg_ o.k o.t),QD_ _⟩:=if_pos h'
 rw[e]
 exact congrArg Dig.shaR (agd_ h')
theorem WM_ (o:ObK):ky_ Tryz.prog 22 1 [(0,obV o.k o.t)]=some (35,(k7_ o).toArray):=
 qj_ Tryz.underlying22 Tryz.ag35 VH_ (by decide) (v0_ o)
theorem ad0_:q8_ (wn_ Tryz.prog 32) (z1_ Tryz.prog 32) []=some (.agg #[.slice none 0 0, .slice none 0 0]):=id (by kernel_rfl)
theorem alP_:z1_ Tryz.prog 32=some (.agg #[.slice none 0 0, .slice none 0 0]):=id (by kernel_rfl)
theorem adV_ (a b v:Value) (E:TypeId) (h:Value.oneCell' v=true∧v.cells= #[v]):zp_ (some (false,1)) (some (.cells #[a,b] E (0,0))) 0 v=some (.cells #[v,b] E (0,0)):=by
 simp[zp_,h,xE_]
theorem aee_ (a b v:Value) (E:TypeId) (h:Value.oneCell' v=true∧v.cells= #[v]):zp_ (some (false,1)) (some (.cells #[a,b] E (0,0))) 1 v=some (.cells #[a,v] E (0,0)):=by
 simp[zp_,h,xE_]
theorem adG_ (E:TypeId):zp_ (some (true,2)) (some (.cells #[.slice none 0 0, .slice none 0 0] E (0,0))) 0 (.agg #[.slice none 0 0, .slice none 0 0])=some (.cells #[.slice none 0 0, .slice none 0 0] E (0,0)):=(rfl)
theorem aeG_ (a b x y:Value) (E:TypeId) (hx:Value.oneCell' x=true) (hy:Value.oneCell' y=true):zp_ (some (true,2)) (some (.cells #[a,b] E (0,0))) 0 (.agg #[x,y])=some (.cells #[x,y] E (0,0)):=by
 simp[zp_,hx,hy,xE_,zd_]
structure MkOdG where
 i:Nat
 vL:Value
 vI:Value
 DL:zh_
 DI:zh_
 DG:zh_
def fl (l:List ObK) (i:Nat):List ObK:=(l.take i).filter rdK
theorem al2_ (l:List ObK) (i:Nat): (fl l i).length≤i:=Nat.le_trans (List.length_filter_le _ _) (by rw[List.length_take];omega)
theorem ak9_ {l:List ObK} {i:Nat} (h:i<l.length):fl l (i+1)=if rdK (l.getD i jV_)=true then fl l i++ [l.getD i jV_] else fl l i:=by
 unfold fl
 rw[StP.take_snoc (z:=jV_) h,List.filter_append]
 generalize l.getD i jV_=o
 by_cases hr:rdK o=true
 ·rw[if_pos hr,List.filter_cons,if_pos hr];rfl
 ·rw[if_neg hr,List.filter_cons,if_neg hr];simp
set_option linter.defProp false
def jK_:=And.intro (And.intro (And.intro (@zH_) (@zG_)) (And.intro (@Wm_) (@aai_))) (And.intro (And.intro (@WV_) (@kE_)) (And.intro (@qV_) (@adG_)))
theorem aio_ (v:Value) (l:List ObK) (w:World) (hv:RowX 2 k7_ jV_ w v l []) (hl:l.length<100000) (ht: ∀o,o∈l→o.t.length<100000):
  Rets Tryz.prog 17 #[v] w (XS w [] (fun v' D=> ∃vL vI,v'= .agg #[vL,vI]∧GrI D 35 2 vL (l.filter rdK).length ((l.filter rdK).map k7_).flatten∧GrI D 24 32 vI ((l.filter rdK).map idK).length (((l.filter rdK).map idK).map zW_).flatten)):=by
 obtain⟨rb,off,arr,E,fz,hr,-⟩:=hv
 have ln:=fun x=>hr.len x
 refine Rets.enterX Tryz.func17 rfl (rs:= [.cell 2 32]) Tryz.results17 Tryz.ntmps17 (fun p hp=>by cases hp) (by simp[keys]) ?_
 refine kf ?_
 first|with_reducible refine ks [] @jK_ ?_|refine kp @jK_ ?_
 refine Ow.alloc rfl rfl alP_ fun b2 hb2 hw2=> ?_
 simp only[zd_,List.nil_append,List.cons_append]
 refine ko @jK_ ?_
 first|with_reducible refine ks [] @jK_ ?_|refine kp @jK_ ?_
 refine Ow.build (.agg #[.slice none 0 0, .slice none 0 0]) rfl ad0_ ?_
 refine ko @jK_ ?_
 refine Ow.alloc rfl rfl alP_ fun b3 hb3 hw3=> ?_
 simp only[zd_,List.nil_append,List.cons_append]
 have h23:b2<b3:=ze_ hb3 (by simp[keys])
 refine Ow.permL (M:= [(b3, .cells #[.slice none 0 0, .slice none 0 0] 32 (0,0)),(b2, .cells #[.slice none 0 0, .slice none 0 0] 32 (0,0))]) (by classical exact List.perm_iff_count.2 fun a=>by simp only[List.count_append,List.count_cons,List.count_nil]<;>omega) ?_
 refine ko @jK_ ?_
 first|with_reducible refine ks [] @jK_ ?_|refine kp @jK_ ?_
 refine Cw.loopG (G:=MkOdG) [6,7,8,9,12,13,14,15,16,17,18,19,20,21,22,23,24,25,26,27,28,29,30,31,32,33,34,35,10,11,4] (fun g=> [(4,vi g.i)]) (fun g=>g.DL++ ((b3, .cells #[g.vL,g.vI] 32 (0,0)):: (b2, .cells #[.slice none 0 0, .slice none 0 0] 32 (0,0)):: (g.DI++g.DG))) (fun g=>g.i≤l.length∧Gr g.DL 35 2 g.vL (fl l g.i).length ((fl l g.i).map k7_).flatten∧Gr g.DI 24 32 g.vI ((fl l g.i).map idK).length (((fl l g.i).map idK).map zW_).flatten∧New w.heap.size g.DL∧New w.heap.size g.DI∧New w.heap.size g.DG) (fun g=>l.length - g.i) ⟨0, .slice none 0 0, .slice none 0 0,[],[],[]⟩ rfl rfl ?_ ?_
 ·exact⟨Nat.zero_le _,Gr.nl,Gr.nl,trivial,trivial,trivial⟩
 intro g j hg
 refine kv ?_
 obtain⟨i,vL,vI,DL,DI,DG⟩:=g
 simp only at hg ⊢
 obtain⟨hi,hGL,hGI,hNL,hNI,hNG⟩:=hg
 refine Cw.world fun wz hwz=> ?_
 have hnd:=hwz.nodup
 clear hwz wz
 have hnd':=hnd
 rw[zf_,List.nodup_append] at hnd'
 obtain⟨-,hnd2,hnd3⟩:=hnd'
 have h3L:b3∉keys DL:=fun h=>hnd3 b3 h b3 (by simp[keys]) rfl
 have h2L:b2∉keys DL:=fun h=>hnd3 b2 h b2 (by simp[keys]) rfl
 simp only[keys,List.map_cons,List.map_append,List.nodup_cons,List.mem_cons,List.mem_append,not_or] at hnd2
 obtain⟨⟨-,h3I,h3G⟩,⟨h2I,h2G⟩,-⟩:=hnd2
 have hflen:=al2_ l i
 have lb3:=fun Y=>zB_ (D:=DL) (Y:=Y) (o:= .cells #[vL,vI] 32 (0,0)) h3L
 have rb3:=fun Y=>zi_ (w0:=w) (lb3 Y)
 by_cases hlt:i<l.length
 ·have hrl:=hr.lt (by omega)
  have rd: ∀L:zh_,(∀c,c∈keys L→w.heap.size≤c)→zt_ w L rb=some (.cells arr E fz):=fun L hL=>by
   rw[qG_ (fun hm=>by have:=hL _ hm;omega)];exact hr.has (by omega)
  have ix:=hr.idx true i hlt
  have ld:=JA_ hr hlt
  have hts:=ak9_ hlt
  have hom:l.getD i jV_∈l:=by
   rw[List.getD_eq_getElem?_getD,List.getElem?_eq_getElem hlt];exact List.getElem_mem _
  have hot:=ht _ hom
  generalize l.getD i jV_=o at*
  have hNN:New w.heap.size (DL++ ((b3, .cells #[vL,vI] 32 (0,0)):: (b2, .cells #[.slice none 0 0, .slice none 0 0] 32 (0,0)):: (DI++DG))):=hNL.app ⟨hw3,hw2,hNI.app hNG⟩
  have d1:decide ((i:Int)< (l.length:Int))=true:=decide_eq_true (by omega)
  have rd0:=rd _ hNN.le
  first|with_reducible refine ks [4] (And.intro @jK_ (And.intro @d1 (And.intro @ln (And.intro @ix (And.intro @rd0 (@ld)))))) ?_|refine kp (And.intro @jK_ (And.intro @d1 (And.intro @ln (And.intro @ix (And.intro @rd0 (@ld)))))) ?_
  refine Ow.callFV rfl Tryz.call19 (fun w' hw'=>wu_ o.k o.t w') ?_
  rw[←kt_,show xx_ o.k o.t=rdK o from rfl]
  cases hrd:rdK o with
  |false=>
   rw[hrd,if_neg (by simp)] at hts
   refine ko @jK_ ?_
   first|with_reducible refine ks [] @jK_ ?_|refine kp @jK_ ?_
   exact Again.mk ⟨i+1,vL,vI,DL,DI,DG⟩ (by show l.length - (i+1)<l.length - i;omega) ⟨hlt,by show Gr DL _ 2 vL (fl l (i+1)).length _;rw[hts];exact hGL,by show Gr DI _ 32 vI ((fl l (i+1)).map idK).length _;rw[hts];exact hGI,hNL,hNI,hNG⟩ rfl rfl
  |true=>
   rw[hrd,if_pos rfl] at hts
   refine ko @jK_ ?_
   first|with_reducible refine ks [] @jK_ ?_|refine kp @jK_ ?_
   refine Cw.regionG [b3,rb] [9] 10 (by kernel_rfl) rfl ?_
   simp only[List.replicate_succ,List.replicate_zero]
   refine OwG.run [0,1,2,3,4,5] [true,true,true,true,true,true,false,false,false,false] 4 rfl (by kernel_rfl) (by kernel_rfl) fun k hk=> ?_
   simp only[zg_, ↓zc_, ↓za_, ↓zk_, ↓zj_,zb_]
   simp(disch:=(first|assumption|omega| (simp only[qQ_,qO_,UInt64.reduceToNat];try omega))) only[↓Sx.S0,Sx.S1,Tryz.fx,jK_,Nat.reduceAdd,Nat.reducePow,Int.reducePow,Nat.reduceBEq, ↓reduceIte,UInt8.reduceToNat,UInt16.reduceToNat,UInt32.reduceToNat,UInt64.reduceToNat,Int.reduceToNat,Md.next_sofnil,rb3,ix,rd0,ld]
   (with_reducible refine hk _ _ _ ?_);clear hk k
   refine OwG.one 6 _ (by kernel_rfl) rfl ?_
   refine Ow.buildSlice (e:=35) (k7_ o).toArray rfl rfl (WM_ o) fun ba hba hwa=> ?_
   have hgn: ∀r,r∈ [b3,rb]→zt_ w (DL++ ((b3, .cells #[vL,vI] 32 (0,0)):: (b2, .cells #[.slice none 0 0, .slice none 0 0] 32 (0,0)):: (DI++DG))++ [(ba, .cells (k7_ o).toArray 35 (0,0))]) r=zt_ w (DL++ ((b3, .cells #[vL,vI] 32 (0,0)):: (b2, .cells #[.slice none 0 0, .slice none 0 0] 32 (0,0)):: (DI++DG))) r:=fun r hr=>by
    simp only[List.mem_cons,List.not_mem_nil,or_false] at hr
    rcases hr with rfl|rfl
    ·exact xK_ (by simp[keys])
    ·rw[rd0];exact rd _ (hNN.app (show New w.heap.size [(ba,Obj.cells (k7_ o).toArray 35 (0,0))] from⟨hwa,trivial⟩)).le
   with_reducible refine Ow.nil ?_
   refine⟨hgn, ?_⟩
   simp only[List.set_cons_zero,List.set_cons_succ,zl_,zy_,zz_]
   refine OwG.one 7 _ (by kernel_rfl) rfl ?_
   refine Ow.appendXG (e:=35) (k:=1) (new:=k7_ o) (X:=DL) vL (List.append_assoc _ _ _) rfl rfl rfl Tryz.underlying22 Tryz.ag35 (by kernel_rfl) VH_ (by simp[zd_]) Tryz.underlying22 (by intro k h;cases h) hGL (fun w' hw'=>AppX.one1 (hw'.has ba (.cells (k7_ o).toArray 35 (0,0)) (by simp)) (v0_ _) (ah7_ _)) (by omega) (fun B5 v5 D5 hA5 hB5 hG5 hk15 hk25 hlk5=> ?_)
   have hN5:New w.heap.size D5:=New.of_le fun q hq=>by
    rcases hk25 q hq with h|h
    ·exact hNL.le q h
    ·omega
   have h3D:b3∉keys D5:=jd_ hA5 (by simp[keys]) h3L hk25
   have lD5:=fun Y=>zB_ (D:=D5) (Y:=Y) (o:= .cells #[vL,vI] 32 (0,0)) h3D
   have st5:=adV_ vL vI v5 32 hG5.cell
   have hN6:New w.heap.size (D5++ ((b3, .cells #[vL,vI] 32 (0,0)):: (b2, .cells #[.slice none 0 0, .slice none 0 0] 32 (0,0)):: (DI++ (DG++ [(ba, .cells (k7_ o).toArray 35 (0,0))])))):=hN5.app ⟨hw3,hw2,hNI.app (hNG.app ⟨hwa,trivial⟩)⟩
   have hgn2: ∀r,r∈ [b3,rb]→zt_ w (D5++ ((b3, .cells #[vL,vI] 32 (0,0)):: (b2, .cells #[.slice none 0 0, .slice none 0 0] 32 (0,0)):: (DI++DG)++ [(ba, .cells (k7_ o).toArray 35 (0,0))])) r=zt_ w (DL++ ((b3, .cells #[vL,vI] 32 (0,0)):: (b2, .cells #[.slice none 0 0, .slice none 0 0] 32 (0,0)):: (DI++DG))++ [(ba, .cells (k7_ o).toArray 35 (0,0))]) r:=fun r hr=>by
    rw[hgn r hr]
    simp only[List.mem_cons,List.not_mem_nil,or_false] at hr
    rcases hr with rfl|rfl
    ·exact(zi_ (lD5 _)).trans (rb3 _).symm
    ·rw[rd0]
     refine rd _ fun c hc=>hN6.le c ?_
     simpa [keys] using hc
   with_reducible refine Ow.nil ?_
   refine⟨hgn2, ?_⟩
   simp only[List.set_cons_zero,List.set_cons_succ,zl_,zy_,zz_]
   refine OwG.rest [8,9] rfl (by kernel_rfl) (by kernel_rfl) ?_
   simp only[zg_, ↓zc_, ↓za_, ↓zk_, ↓zj_,zb_]
   refine kq @jK_ ?_
   refine Ow.store rfl rfl rfl (ke (And.intro @jK_ (And.intro @lD5 (@st5)))) ?_
   have es:=fun Y x=>j9_ (D:=D5) (Y:=Y) (o:= .cells #[vL,vI] 32 (0,0)) (x:=x) h3D
   simp only[List.cons_append,List.append_assoc] at*
   rw[es]
   refine ko @jK_ ?_
   refine Cw.permL (M:=DI++ ((b3, .cells #[v5,vI] 32 (0,0)):: (b2, .cells #[.slice none 0 0, .slice none 0 0] 32 (0,0)):: (D5++ (DG++ [(ba, .cells (k7_ o).toArray 35 (0,0))])))) (by classical exact List.perm_iff_count.2 fun a=>by simp only[List.count_append,List.count_cons,List.count_nil]<;>omega) ?_
   have lb5:=fun Y=>zB_ (D:=DI) (Y:=Y) (o:= .cells #[v5,vI] 32 (0,0)) h3I
   have rb5:=fun Y=>zi_ (w0:=w) (lb5 Y)
   have hN8:New w.heap.size (DI++ ((b3, .cells #[v5,vI] 32 (0,0)):: (b2, .cells #[.slice none 0 0, .slice none 0 0] 32 (0,0)):: (D5++ (DG++ [(ba, .cells (k7_ o).toArray 35 (0,0))])))):=hNI.app ⟨hw3,hw2,hN5.app (hNG.app ⟨hwa,trivial⟩)⟩
   have rd8:=rd _ hN8.le
   refine Cw.regionG [b3,rb] [10] 11 (by kernel_rfl) rfl ?_
   simp only[List.replicate_succ,List.replicate_zero]
   refine OwG.run [0,1,2,3,4,5] [true,true,true,true,true,true,false,false,false,false,false] 5 rfl (by kernel_rfl) (by kernel_rfl) fun k hk=> ?_
   simp only[zg_, ↓zc_, ↓za_, ↓zk_, ↓zj_,zb_]
   simp(disch:=(first|assumption|omega| (simp only[qQ_,qO_,UInt64.reduceToNat];try omega))) only[↓Sx.S0,Sx.S1,Tryz.fx,jK_,Nat.reduceAdd,Nat.reducePow,Int.reducePow,Nat.reduceBEq, ↓reduceIte,UInt8.reduceToNat,UInt16.reduceToNat,UInt32.reduceToNat,UInt64.reduceToNat,Int.reduceToNat,Md.next_sofnil,rb5,ix,rd8,ld]
   (with_reducible refine hk _ _ _ ?_);clear hk k
   refine OwG.one 6 _ (by kernel_rfl) rfl ?_
   refine Ow.callFV rfl Tryz.call20 (fun w' hw'=>Vn_ o.k o.t w' (by omega)) ?_
   rw[alf_ hrd]
   with_reducible refine Ow.nil ?_
   refine⟨(fun r hr=>rfl), ?_⟩
   simp only[List.set_cons_zero,List.set_cons_succ,zl_,zy_,zz_]
   refine OwG.one 7 _ (by kernel_rfl) rfl ?_
   refine Ow.buildSlice (e:=24) (zW_ (idK o)).toArray rfl rfl (j8_ (idK o)) fun bi hbi hwi=> ?_
   have hgn3: ∀r,r∈ [b3,rb]→zt_ w (DI++ ((b3, .cells #[v5,vI] 32 (0,0)):: (b2, .cells #[.slice none 0 0, .slice none 0 0] 32 (0,0)):: (D5++ (DG++ [(ba, .cells (k7_ o).toArray 35 (0,0))])))++ [(bi, .cells (zW_ (idK o)).toArray 24 (0,0))]) r=zt_ w (DI++ ((b3, .cells #[v5,vI] 32 (0,0)):: (b2, .cells #[.slice none 0 0, .slice none 0 0] 32 (0,0)):: (D5++ (DG++ [(ba, .cells (k7_ o).toArray 35 (0,0))])))) r:=fun r hr=>by
    simp only[List.mem_cons,List.not_mem_nil,or_false] at hr
    rcases hr with rfl|rfl
    ·exact xK_ (by simp[keys])
    ·rw[rd8];exact rd _ (hN8.app (show New w.heap.size [(bi,Obj.cells (zW_ (idK o)).toArray 24 (0,0))] from⟨hwi,trivial⟩)).le
   with_reducible refine Ow.nil ?_
   refine⟨hgn3, ?_⟩
   simp only[List.set_cons_zero,List.set_cons_succ,zl_,zy_,zz_]
   refine OwG.one 8 _ (by kernel_rfl) rfl ?_
   refine Ow.appendXG (e:=24) (k:=1) (new:=zW_ (idK o)) (X:=DI) vI (List.append_assoc _ _ _) rfl rfl rfl Tryz.underlying30 Tryz.ag24 (by kernel_rfl) Jw_ (by simp[zd_,a8]) Tryz.underlying30 (by intro k h;cases h) hGI (fun w' hw'=>AppX.one1 (hw'.has bi (.cells (zW_ (idK o)).toArray 24 (0,0)) (by simp)) (z3_ _) (kW_ _)) (by rw[List.length_map];omega) (fun B7 v7 D7 hA7 hB7 hG7 hk17 hk27 hlk7=> ?_)
   have hN7:New w.heap.size D7:=New.of_le fun q hq=>by
    rcases hk27 q hq with h|h
    ·exact hNI.le q h
    ·omega
   have h3D7:b3∉keys D7:=jd_ hA7 (by simp[keys]) h3I hk27
   have lD7:=fun Y=>zB_ (D:=D7) (Y:=Y) (o:= .cells #[v5,vI] 32 (0,0)) h3D7
   have st7:=aee_ v5 vI v7 32 hG7.cell
   have hN9:New w.heap.size (D7++ (((b3, .cells #[v5,vI] 32 (0,0)):: (b2, .cells #[.slice none 0 0, .slice none 0 0] 32 (0,0)):: (D5++ (DG++ [(ba, .cells (k7_ o).toArray 35 (0,0))])))++ [(bi, .cells (zW_ (idK o)).toArray 24 (0,0))])):=hN7.app (New.app (show New w.heap.size ((b3, .cells #[v5,vI] 32 (0,0)):: (b2, .cells #[.slice none 0 0, .slice none 0 0] 32 (0,0)):: (D5++ (DG++ [(ba, .cells (k7_ o).toArray 35 (0,0))]))) from⟨hw3,hw2,hN5.app (hNG.app ⟨hwa,trivial⟩)⟩) ⟨hwi,trivial⟩)
   have hgn4: ∀r,r∈ [b3,rb]→zt_ w (D7++ (((b3, .cells #[v5,vI] 32 (0,0)):: (b2, .cells #[.slice none 0 0, .slice none 0 0] 32 (0,0)):: (D5++ (DG++ [(ba, .cells (k7_ o).toArray 35 (0,0))])))++ [(bi, .cells (zW_ (idK o)).toArray 24 (0,0))])) r=zt_ w (DI++ ((b3, .cells #[v5,vI] 32 (0,0)):: (b2, .cells #[.slice none 0 0, .slice none 0 0] 32 (0,0)):: (D5++ (DG++ [(ba, .cells (k7_ o).toArray 35 (0,0))])))++ [(bi, .cells (zW_ (idK o)).toArray 24 (0,0))]) r:=fun r hr=>by
    rw[hgn3 r hr]
    simp only[List.mem_cons,List.not_mem_nil,or_false] at hr
    rcases hr with rfl|rfl
    ·exact(zi_ (lD7 _)).trans (rb5 _).symm
    ·rw[rd8]
     exact rd _ hN9.le
   with_reducible refine Ow.nil ?_
   refine⟨hgn4, ?_⟩
   simp only[List.set_cons_zero,List.set_cons_succ,zl_,zy_,zz_]
   refine OwG.rest [9,10] rfl (by kernel_rfl) (by kernel_rfl) ?_
   simp only[zg_, ↓zc_, ↓za_, ↓zk_, ↓zj_,zb_]
   refine kq @jK_ ?_
   refine Ow.store rfl rfl rfl (ke (And.intro @jK_ (And.intro @lD7 (@st7)))) ?_
   have es7:=fun Y x=>j9_ (D:=D7) (Y:=Y) (o:= .cells #[v5,vI] 32 (0,0)) (x:=x) h3D7
   simp only[List.cons_append,List.append_assoc] at*
   rw[es7]
   refine ko @jK_ ?_
   refine Cw.permL (M:=D5++ ((b3, .cells #[v5,v7] 32 (0,0)):: (b2, .cells #[.slice none 0 0, .slice none 0 0] 32 (0,0)):: (D7++ (DG++ [(ba, .cells (k7_ o).toArray 35 (0,0)),(bi, .cells (zW_ (idK o)).toArray 24 (0,0))])))) (by classical exact List.perm_iff_count.2 fun a=>by simp only[List.count_append,List.count_cons,List.count_nil]<;>omega) ?_
   first|with_reducible refine ks [] @jK_ ?_|refine kp @jK_ ?_
   refine Again.mk ⟨i+1,v5,v7,D5,D7,DG++ [(ba, .cells (k7_ o).toArray 35 (0,0)),(bi, .cells (zW_ (idK o)).toArray 24 (0,0))]⟩ (by show l.length - (i+1)<l.length - i;omega) ⟨hlt, ?_, ?_,hN5,hN7,hNG.app ⟨hwa,hwi,trivial⟩⟩ rfl rfl
   ·show Gr D5 _ 2 v5 (fl l (i+1)).length ((fl l (i+1)).map k7_).flatten
    rw[hts]
    simpa [List.map_append] using hG5
   ·show Gr D7 _ 32 v7 ((fl l (i+1)).map idK).length (((fl l (i+1)).map idK).map zW_).flatten
    rw[hts]
    simpa [List.map_append] using hG7
 ·obtain rfl:i=l.length:=by omega
  have hfl:fl l l.length=l.filter rdK:=by unfold fl;rw[List.take_length]
  rw[hfl] at hGL hGI
  have hd0:decide ((l.length:Int)< (l.length:Int))=false:=by simp
  refine Cw.permL (M:=(b2, .cells #[.slice none 0 0, .slice none 0 0] 32 (0,0)):: (b3, .cells #[vL,vI] 32 (0,0)):: (DL++ (DI++DG))) (by classical exact List.perm_iff_count.2 fun a=>by simp only[List.count_append,List.count_cons,List.count_nil]<;>omega) ?_
  have stf:=aeG_ (.slice none 0 0) (.slice none 0 0) vL vI 32 hGL.cell.1 hGI.cell.1
  first|with_reducible refine ks [] (And.intro @jK_ (And.intro @hd0 (And.intro @ln (@stf)))) ?_|refine kp (And.intro @jK_ (And.intro @hd0 (And.intro @ln (@stf)))) ?_
  refine⟨_,(ke @jK_), ?_⟩
  exact⟨Ext.of_new ⟨hw2,hw3,hNL.app (hNI.app hNG)⟩,vL,vI,rfl,hGL.i fun p hp=>by simp[hp],hGI.i fun p hp=>by simp[hp]⟩
end Go.Proofs
end
section
open Go Go.Proofs Go.Sx Go.StP Go.RooP
namespace Go.Proofs
set_option maxRecDepth 10000
set_option maxHeartbeats 400000
set_option linter.unusedSimpArgs false
structure MkClG where
 W:WkS
 X:zh_
structure WkN (s:x1_) (ids r:List IdL) (n:Nat) (W:WkS):Prop where
 I:WkI s r W
 B:WkB n W
 ids: ∀i,(s i).2=true→i∈ids
theorem WkN.ms {s:x1_} {ids r:List IdL} {n:Nat} {W:WkS} (h:WkN s ids r n W):W.ms.length≤ids.length:=h.I.msLe h.ids
theorem WkN.vis {s:x1_} {ids r:List IdL} {n:Nat} {W:WkS} (h:WkN s ids r n W):W.vis.length≤r.length+40*ids.length:=Nat.le_trans (h.I.le h.ids) (afa_ s ids r)
theorem WkN.q {s:x1_} {ids r:List IdL} {n:Nat} {W:WkS} (h:WkN s ids r n W):W.q.length≤n+40*ids.length:=Nat.le_trans h.B.q (by have:=h.ms;omega)
theorem WkN.lk {s:x1_} {ids r:List IdL} {n:Nat} {W:WkS} (h:WkN s ids r n W):W.lk.length≤r.length+40*ids.length:=Nat.le_trans h.B.lk h.vis
theorem WkN.step {s:x1_} {ids r:List IdL} {n:Nat} {W:WkS} (h:WkN s ids r n W):WkN s ids r n (xo_ s W).2:=⟨h.I.step,h.B.step s,h.ids⟩
theorem WkN.new {s:x1_} {ids:List IdL} (r:List IdL) (h: ∀i,(s i).2=true→i∈ids):WkN s ids r r.length (newK r):=⟨WkI.new s r,WkB.new r,h⟩
theorem WkN.add {s:x1_} {ids r:List IdL} {n:Nat} {W:WkS} (h:WkN s ids r n W) (r':List IdL):WkN s ids (r++r') (n+r'.length) (we_ W r'):=⟨h.I.add r',h.B.add r',h.ids⟩
theorem aip_ {s:x1_} {W:WkS} (h: (xo_ s W).1=true): (xo_ s W).2.q= []:=by
 have:=X7_ s W W.q h
 unfold xo_;rw[this]
theorem j1_ (sv:Value) (m:List (IdL×ObK)) (v:Value) (l:List IdL) (w:World) (hS:SrcW w sv m []) (hR:RowX 32 zW_ id0 w v l []) (hl:l.length≤1000) (hm:m.length≤1000):
  Rets Tryz.prog 29 #[sv,v] w (XS w [] (fun v' D=> ∃W v1 v2,WkI (qk_ m) l W∧W.q= []∧W.ms.length≤m.length∧W.lk.length≤41000∧v'= .tuple #[v1,v2]∧GrI D 24 32 v1 (x2_ W.ms).length ((x2_ W.ms).map zW_).flatten∧GrI D 24 32 v2 (xl_ W.lk).length ((xl_ W.lk).map zW_).flatten)):=by
 have hids: ∀i,(qk_ m i).2=true→i∈m.map Prod.fst:=fun i h=>ac1_ h
 have hidl: (m.map Prod.fst).length=m.length:=List.length_map _
 refine Rets.enterX Tryz.func29 rfl (rs:= [.tmp 4, .tmp 5]) Tryz.results29 Tryz.ntmps29 (fun p hp=>by cases hp) (by simp[keys]) ?_
 refine kf ?_
 first|with_reducible refine ks [] @Nat.add_zero ?_|refine kp @Nat.add_zero ?_
 refine Ow.callC rfl rfl Tryz.call21 (fun w' hw'=>VJ_ sv m v l w' (hS.old hw' (fun _ h=>h)) (hR.old hw' (fun _ h=>h)) (by omega)) (fun B1 v1 D1 hA1 hB1 hN1 hS1=> ?_)
 obtain⟨bw,rfl,hP1⟩:=hS1
 rw[List.nil_append]
 refine ko @Nat.add_zero ?_
 refine Cw.loopG (G:=MkClG) [10,11,12] (fun g=> []) (fun g=>g.X) (fun g=>WkP bw sv g.W g.X∧Ext w [] g.X∧WkN (qk_ m) (m.map Prod.fst) l l.length g.W) (fun g=>50000 - g.W.vis.length) ⟨newK l,D1⟩ rfl rfl ?_ ?_
 ·exact⟨hP1,Ext.of_new (hN1.mono hB1),WkN.new l hids⟩
 intro g j hg
 refine kv ?_
 clear hP1 hN1 hA1
 obtain⟨W,X⟩:=g
 simp only at hg ⊢
 obtain⟨hP,hE,hN⟩:=hg
 have b1:=hN.q
 have b2:=hN.lk
 have b3:=hN.vis
 have hN':=hN.step
 have b4:=hN'.vis
 have b5:=hN'.ms
 have b6:=hN'.lk
 first|with_reducible refine ks [] @Nat.add_zero ?_|refine kp @Nat.add_zero ?_
 refine Ow.callX (X:=X) (Y:= []) (List.append_nil _).symm rfl rfl Tryz.call24 (fun w' hw' hX' hn'=>ZA_ bw sv W m X w' hX' hn' hP ((hS.ext hE.new).old hw' fun _ h=>h) (by omega) (by omega)) (fun v2 D2 hC2 hS2=> ?_)
 rw[List.append_nil]
 obtain⟨rfl,hP2⟩:=hS2
 have hE2:=hE.came0 hC2
 cases hst: (xo_ (qk_ m) W).1 with
 |false=>
  have hv:=aiz_ hst
  generalize (xo_ (qk_ m) W).2=W2 at*
  refine ko @Nat.add_zero ?_
  first|with_reducible refine ks [] @Nat.add_zero ?_|refine kp @Nat.add_zero ?_
  exact Again.mk ⟨W2,D2⟩ (by show 50000 - W2.vis.length<50000 - W.vis.length;omega) ⟨hP2,hE2,hN'⟩ rfl rfl
 |true=>
  have hq:=aip_ hst
  generalize (xo_ (qk_ m) W).2=W2 at*
  refine ko @Nat.add_zero ?_
  first|with_reducible refine ks [] @Nat.add_zero ?_|refine kp @Nat.add_zero ?_
  refine Ow.callC rfl rfl Tryz.call27 (fun w' hw'=>vy_ bw sv W2 w' ⟨D2,fun p hp=>hw'.has _ _ hp,hP2⟩ hN'.I.nm (by omega)) (fun B3 v3 D3 hA3 hB3 hN3 hS3=> ?_)
  refine ko @Nat.add_zero ?_
  refine Ow.callC rfl rfl Tryz.call28 (fun w' hw'=>kQ_ bw sv W2 w' ⟨D2,fun p hp=>hw'.has _ _ (List.mem_append_left _ hp),hP2⟩ (by omega)) (fun B4 v4 D4 hA4 hB4 hN4 hS4=> ?_)
  refine ko @Nat.add_zero ?_
  refine⟨_,(ke @Nat.add_zero), ?_⟩
  exact⟨ac2_ (ac2_ hE2 (hN3.mono hB3)) (hN4.mono hB4),W2,v3,v4,hN'.I,hq,by omega,by omega,rfl,hS3.mono fun p hp=>List.mem_append_left _ (List.mem_append_right _ hp),hS4.mono fun p hp=>List.mem_append_right _ hp⟩
def SrcK (D:zh_) (v:Value) (m:List (IdL×ObK)):Prop:= ∃bx bm om,v= .iface 118 (vp bx 0)∧(bx,Obj.cells #[vm bm] 121 (0,0))∈D∧(bm,om)∈D∧VF_ Qq_ obKV om m
theorem SrcK.mono {D D':zh_} {v:Value} {m:List (IdL×ObK)} (h:SrcK D v m) (hD: ∀p,p∈D→p∈D'):SrcK D' v m:=by
 obtain⟨bx,bm,om,h1,h2,h3,h4⟩:=h
 exact⟨bx,bm,om,h1,hD _ h2,hD _ h3,h4⟩
theorem SrcK.W {w0 w:World} {D:zh_} {v:Value} {m:List (IdL×ObK)} (h:SrcK D v m) (hw:Hp w0 D w):SrcW w v m []:=by
 obtain⟨bx,bm,om,h1,h2,h3,h4⟩:=h
 exact⟨bx,bm,om,⟨h1,hw.has _ _ h2,hw.has _ _ h3,h4⟩,(fun h=>by cases h),(fun h=>by cases h)⟩
section
variable {P:Program} {w0:World} {f:Fr} {L:zh_} {N:Fr→zh_→Prop} {ops:Array Oper} {rest:List Oper} {md:Md}
 {d:Option Tmp} {ty:TypeId} {ps:String} {af:Array Edge} {g:Option (Nat×Bool)}
theorem _root_.Go.Sx.Ow.ifacePtr {t e:TypeId} {x:Operand} {v:Value} (hs:zq_ ops f ⟨d, .makeInterface t x,ty,ps,af,g⟩=false) (hu:P.underlying t=some (.pointer e)) (hx:ev f x=v)
  (hn:Ow P w0 ops md.next rest (qr_ f d (.iface t v)) L N):Ow P w0 ops md (⟨d, .makeInterface t x,ty,ps,af,g⟩::rest) f L N:=by
 refine Ow.calm rfl rfl hs (fun w hw=> .inl ⟨.iface t v,w,L, ?_,hw,rfl,rfl⟩) hn
 simp only[execOp,Instr.makeInterface,Sem.run_bind,run_underlying hu w,Result.andThen_ok,hx]
 rfl
end
structure MkOfG where
 k:Nat
 o:Obj
 DG:zh_
theorem afo_ (b:Nat):q8_ (wn_ Tryz.prog 121) (z1_ Tryz.prog 121) [(0,vm b)]=some (.agg #[vm b]):=by
 rw[show wn_ Tryz.prog 121=some [(0,1)] from id (by kernel_rfl),show z1_ Tryz.prog 121=some (.agg #[.map none]) from id (by kernel_rfl)];rfl
set_option linter.defProp false
def j4_:=And.intro (And.intro (And.intro (@qV_) (@qv_)) (And.intro (@qu_) (And.intro (@qs_) (@kE_)))) (And.intro (And.intro (@Sx.tup2_0) (And.intro (@Sx.tup2_1) (@zH_))) (And.intro (@zG_) (And.intro (@x6_) (@agn_))))
theorem vd_ (v:Value) (l:List ObK) (w:World) (hG:GlobE w) (hv:RowX 2 k7_ jV_ w v l []) (hl:l.length<100000):
  Rets Tryz.prog 16 #[v] w (XS w [] (fun v' D=>SrcK D v' (ja_ l))):=by
 obtain⟨rb,off,arr,E,fz,hr,-⟩:=hv
 have ln:=fun x=>hr.len x
 refine Rets.enterX Tryz.func16 rfl (rs:= [.tmp 2]) Tryz.results16 Tryz.ntmps16 (fun p hp=>by cases hp) (by simp[keys]) ?_
 refine kf ?_
 first|with_reducible refine ks [] @j4_ ?_|refine kp @j4_ ?_
 refine Ow.makeMapG (encK:=Qq_) (encV:=obKV) rfl rfl fun b1 o1 hb1 hw1 hM1=> ?_
 rw[List.nil_append]
 refine ko @j4_ ?_
 refine Ow.build (.agg #[vm b1]) rfl (afo_ b1) ?_
 refine ko @j4_ ?_
 refine Ow.box rfl rfl fun b2 hb2 hw2=> ?_
 simp only[zV_,zQ_,z2_,zd_,List.cons_append,List.nil_append]
 have h12:b1<b2:=ze_ hb2 (by simp[keys])
 refine ko @j4_ ?_
 first|with_reducible refine ks [] (And.intro @j4_ @ln) ?_|refine kp (And.intro @j4_ @ln) ?_
 refine Cw.loopG (G:=MkOfG) [14,15,16,5,18,19,17,20,21,6,7,22,23,24,25,26,27,28,29,13] (fun g=> [(13,vi g.k)]) (fun g=>(b1,g.o):: (b2, .cells #[vm b1] 121 (0,0))::g.DG) (fun g=>g.k≤l.length∧VF_ Qq_ obKV g.o (ja_ (l.take g.k))∧New w.heap.size g.DG) (fun g=>l.length - g.k) ⟨0,o1,[]⟩ rfl rfl ?_ ?_
 ·exact⟨Nat.zero_le _,hM1,trivial⟩
 intro g j hg
 refine kv ?_
 obtain⟨k,o,DG⟩:=g
 simp only at hg ⊢
 obtain⟨hk,hM,hN⟩:=hg
 have hNN:New w.heap.size ((b1,o):: (b2, .cells #[vm b1] 121 (0,0))::DG):=⟨hw1,hw2,hN⟩
 by_cases hlt:k<l.length
 ·have hrl:=hr.lt (by omega)
  have ix:=hr.idx true k hlt
  have ld:=JA_ hr hlt
  have rd:zt_ w ((b1,o):: (b2, .cells #[vm b1] 121 (0,0))::DG) rb=some (.cells arr E fz):=by rw[qG_ (hNN.not hrl)];exact hr.has (by omega)
  have hts:=StP.take_snoc (z:=jV_) hlt
  have hd0:decide ((k:Int)< (l.length:Int))=true:=decide_eq_true (by omega)
  generalize l.getD k jV_=x at*
  have hxi:=(idK x).h
  have hi0:=id0.h
  first|with_reducible refine ks [8] (And.intro @j4_ (And.intro @hd0 (And.intro @ix (And.intro @rd (@ld))))) ?_|refine kp (And.intro @j4_ (And.intro @hd0 (And.intro @ix (And.intro @rd (@ld))))) ?_
  refine Ow.alloc rfl rfl VH_ fun b5 hb5 hw5=> ?_
  simp only[zd_,List.nil_append,List.cons_append]
  have h15:b1<b5:=ze_ hb5 (by simp[keys])
  have h25:b2<b5:=ze_ hb5 (by simp[keys])
  refine Ow.permL (M:=(b5, .cells #[vi 0,vs []] 35 (0,0)):: (b1,o):: (b2, .cells #[vm b1] 121 (0,0))::DG) (by classical exact List.perm_iff_count.2 fun a=>by simp only[List.count_append,List.count_cons,List.count_nil]<;>omega) ?_
  refine ko @j4_ ?_
  first|with_reducible refine ks [] @j4_ ?_|refine kp @j4_ ?_
  refine Ow.callFV rfl Tryz.call66 (fun w' hw'=>Vg_ x.k x.t w' (hG.new hw' ⟨hw5,hNN⟩)) ?_
  have e1: (idV x.k x.t).l=(idK x).l:=rfl
  have e2:xx_ x.k x.t=rdK x:=rfl
  rw[e1,e2]
  refine ko @j4_ ?_
  refine Ow.alloc rfl rfl Qj_ fun b6 hb6 hw6=> ?_
  simp only[zd_,List.nil_append,List.cons_append]
  have h16:b1<b6:=ze_ hb6 (by simp[keys])
  have h26:b2<b6:=ze_ hb6 (by simp[keys])
  have h56:b5<b6:=ze_ hb6 (by simp[keys])
  refine Ow.permL (M:=(b6, .cells (a8 id0.l) 24 (0,0)):: (b5, .cells #[vi x.k,vs x.t] 35 (0,0)):: (b1,o):: (b2, .cells #[vm b1] 121 (0,0))::DG) (by classical exact List.perm_iff_count.2 fun a=>by simp only[List.count_append,List.count_cons,List.count_nil]<;>omega) ?_
  cases hrd:rdK x with
  |false=>
   have hob:ja_ (l.take (k+1))=ja_ (l.take k):=by rw[hts,ZM_];unfold addO;rw[hrd];rfl
   refine ko @j4_ ?_
   refine Cw.permL (M:=(b1,o):: (b2, .cells #[vm b1] 121 (0,0)):: ((b6, .cells (a8 (idK x).l) 24 (0,0)):: (b5, .cells #[vi x.k,vs x.t] 35 (0,0))::DG)) (by classical exact List.perm_iff_count.2 fun a=>by simp only[List.count_append,List.count_cons,List.count_nil]<;>omega) ?_
   first|with_reducible refine ks [] @j4_ ?_|refine kp @j4_ ?_
   exact Again.mk ⟨k+1,o,(b6, .cells (a8 (idK x).l) 24 (0,0)):: (b5, .cells #[vi x.k,vs x.t] 35 (0,0))::DG⟩ (by show l.length - (k+1)<l.length - k;omega) ⟨hlt,by show VF_ _ _ o (ja_ (l.take (k+1)));rw[hob];exact hM,⟨hw6,hw5,hN⟩⟩ rfl rfl
  |true=>
   have hob:ja_ (l.take (k+1))=Xo_ (idK x) x (ja_ (l.take k)):=by rw[hts,ZM_];unfold addO;rw[hrd];rfl
   refine ko @j4_ ?_
   first|with_reducible refine ks [] @j4_ ?_|refine kp @j4_ ?_
   refine Cw.regionS [b2,b5,b6] [0,1,2,3,4,5,6] [6] (by kernel_rfl) (by kernel_rfl) (by kernel_rfl) ?_
   simp only[zg_, ↓zc_, ↓za_, ↓zk_, ↓zj_,zb_]
   refine kq @j4_ ?_
   refine Ow.mapUpdateG (encK:=Qq_) (encV:=obKV) (k:=idK x) (v:=x) rfl rfl Tryz.underlying119 aaa_ rfl rfl rfl (by rw[z9_ _ _ _ _ (by omega),z9_ _ _ _ _ (by omega)];exact zI_ _ _ _) hM (fun o2 ho2=> ?_)
   rw[qn_ _ _ _ _ _ (by omega),qn_ _ _ _ _ _ (by omega),qt_]
   refine ko @j4_ ?_
   refine Cw.permL (M:=(b1,o2):: (b2, .cells #[vm b1] 121 (0,0)):: ((b6, .cells (a8 (idK x).l) 24 (0,0)):: (b5, .cells #[vi x.k,vs x.t] 35 (0,0))::DG)) (by classical exact List.perm_iff_count.2 fun a=>by simp only[List.count_append,List.count_cons,List.count_nil]<;>omega) ?_
   first|with_reducible refine ks [] @j4_ ?_|refine kp @j4_ ?_
   exact Again.mk ⟨k+1,o2,(b6, .cells (a8 (idK x).l) 24 (0,0)):: (b5, .cells #[vi x.k,vs x.t] 35 (0,0))::DG⟩ (by show l.length - (k+1)<l.length - k;omega) ⟨hlt,by show VF_ _ _ o2 (ja_ (l.take (k+1)));rw[hob];exact ho2,⟨hw6,hw5,hN⟩⟩ rfl rfl
 ·obtain rfl:k=l.length:=by omega
  rw[List.take_length] at hM
  have hd0:decide ((l.length:Int)< (l.length:Int))=false:=by simp
  first|with_reducible refine ks [] (And.intro @j4_ @hd0) ?_|refine kp (And.intro @j4_ @hd0) ?_
  refine Ow.ifacePtr rfl Tryz.underlying118 rfl ?_
  refine ko @j4_ ?_
  refine⟨_,(ke @j4_), ?_⟩
  exact⟨Ext.of_new hNN,b2,b1,o,rfl,by simp,by simp,hM⟩
end Go.Proofs
end
section
open Go Go.Proofs Go.Sx Go.StP Go.RooP
namespace Go.Proofs
set_option maxRecDepth 10000
set_option maxHeartbeats 400000
set_option linter.unusedSimpArgs false
structure DwA (bd:Nat) (vL vI:Value) (W:WkS) (vq vv vl vm vn:Value) (Q V M K X:zh_):Prop where
 perm:X.Perm ((bd, .cells #[vL,vI,vq,vv,vl,vm,vn] 46 (0,0)):: (Q++ (V++ (M++K))))
 q:Qu Q 59 33 vq W.q.length (W.q.map zs_).flatten
 v:Gr V 59 33 vv W.vis.length (W.vis.map zs_).flatten
 l:Gr M 59 33 vl W.lk.length (W.lk.map zs_).flatten
 m:GrI K 24 32 vm (x2_ W.ms).length ((x2_ W.ms).map zW_).flatten
 n:GrI K 24 32 vn (xl_ W.lk).length ((xl_ W.lk).map zW_).flatten
def DwP (bd:Nat) (vL vI:Value) (W:WkS) (X:zh_):Prop:= ∃vq vv vl vm vn Q V M K,DwA bd vL vI W vq vv vl vm vn Q V M K X
theorem DwA.ne {bd:Nat} {vL vI:Value} {W:WkS} {vq vv vl vm vn:Value} {Q V M K X:zh_} (h:DwA bd vL vI W vq vv vl vm vn Q V M K X) (hn: (keys X).Nodup):bd∉keys Q∧bd∉keys V∧bd∉keys M∧bd∉keys K:=by
 have:=(h.perm.map Prod.fst).nodup_iff.1 hn
 simp only[List.map_cons,List.map_append,List.nodup_cons,List.mem_append,not_or] at this
 exact⟨this.1.1,this.1.2.1,this.1.2.2.1,this.1.2.2.2⟩
theorem DwA.keysX {bd:Nat} {vL vI:Value} {W:WkS} {vq vv vl vm vn:Value} {Q V M K X:zh_} (h:DwA bd vL vI W vq vv vl vm vn Q V M K X) (x:Nat):x∈keys X↔x=bd∨x∈keys Q∨x∈keys V∨x∈keys M∨x∈keys K:=by
 have:=(h.perm.map Prod.fst).mem_iff (a:=x)
 simp only[List.map_cons,List.map_append,List.mem_cons,List.mem_append] at this
 exact this
theorem DwA.ext2 {bd:Nat} {vL vI:Value} {W:WkS} {vq vv vl vm vn:Value} {Q V M K X Q' V' M' K':zh_} {a:Obj} {w:World} (h:DwA bd vL vI W vq vv vl vm vn Q V M K X)
  (h1: ∀x,x∈keys Q→x∈keys Q') (h2: ∀x,x∈keys Q'→x∈keys Q∨w.heap.size≤x) (h3: ∀x,x∈keys V→x∈keys V') (h4: ∀x,x∈keys V'→x∈keys V∨w.heap.size≤x)
  (h5: ∀x,x∈keys M→x∈keys M') (h6: ∀x,x∈keys M'→x∈keys M∨w.heap.size≤x) (h7: ∀x,x∈keys K→x∈keys K') (h8: ∀x,x∈keys K'→x∈keys K∨w.heap.size≤x):
  Ext w X ((bd,a):: (Q'++ (V'++ (M'++K')))):=by
 have hk:=h.keysX
 refine⟨fun x hx=> ?_,fun x hx=> ?_⟩
 ·simp only[keys,List.map_cons,List.map_append,List.mem_cons,List.mem_append] at hx
  rcases hx with hx|hx|hx|hx|hx
  ·exact .inl ((hk x).2 (.inl hx))
  ·exact(h2 x hx).imp (fun h=>(hk x).2 (.inr (.inl h))) id
  ·exact(h4 x hx).imp (fun h=>(hk x).2 (.inr (.inr (.inl h)))) id
  ·exact(h6 x hx).imp (fun h=>(hk x).2 (.inr (.inr (.inr (.inl h))))) id
  ·exact(h8 x hx).imp (fun h=>(hk x).2 (.inr (.inr (.inr (.inr h))))) id
 ·simp only[keys,List.map_cons,List.map_append,List.mem_cons,List.mem_append]
  rcases(hk x).1 hx with hx|hx|hx|hx|hx
  ·exact .inl hx
  ·exact .inr (.inl (h1 x hx))
  ·exact .inr (.inr (.inl (h3 x hx)))
  ·exact .inr (.inr (.inr (.inl (h5 x hx))))
  ·exact .inr (.inr (.inr (.inr (h7 x hx))))
theorem l7_0 (a b c d e f g:Value) (E:TypeId) (fz:Nat×Nat):zx_ (some (true,2)) (some (.cells #[a,b,c,d,e,f,g] E fz)) 0=some (.agg #[a,b]):=(rfl)
theorem l7_2 (a b c d e f g:Value) (n:Nat) (E:TypeId) (fz:Nat×Nat):zx_ (some (false,n)) (some (.cells #[a,b,c,d,e,f,g] E fz)) 2=some c:=(rfl)
theorem l7_3 (a b c d e f g:Value) (n:Nat) (E:TypeId) (fz:Nat×Nat):zx_ (some (false,n)) (some (.cells #[a,b,c,d,e,f,g] E fz)) 3=some d:=(rfl)
theorem l7_4 (a b c d e f g:Value) (n:Nat) (E:TypeId) (fz:Nat×Nat):zx_ (some (false,n)) (some (.cells #[a,b,c,d,e,f,g] E fz)) 4=some e:=(rfl)
theorem l7_5 (a b c d e f g:Value) (n:Nat) (E:TypeId) (fz:Nat×Nat):zx_ (some (false,n)) (some (.cells #[a,b,c,d,e,f,g] E fz)) 5=some f:=(rfl)
theorem l7_6 (a b c d e f g:Value) (n:Nat) (E:TypeId) (fz:Nat×Nat):zx_ (some (false,n)) (some (.cells #[a,b,c,d,e,f,g] E fz)) 6=some g:=(rfl)
theorem s7_2 (a b c d e f g v:Value) (E:TypeId) (h:Value.oneCell' v=true∧v.cells= #[v]):zp_ (some (false,1)) (some (.cells #[a,b,c,d,e,f,g] E (0,0))) 2 v=some (.cells #[a,b,v,d,e,f,g] E (0,0)):=by simp[zp_,h,xE_]
theorem s7_3 (a b c d e f g v:Value) (E:TypeId) (h:Value.oneCell' v=true∧v.cells= #[v]):zp_ (some (false,1)) (some (.cells #[a,b,c,d,e,f,g] E (0,0))) 3 v=some (.cells #[a,b,c,v,e,f,g] E (0,0)):=by simp[zp_,h,xE_]
theorem s7_4 (a b c d e f g v:Value) (E:TypeId) (h:Value.oneCell' v=true∧v.cells= #[v]):zp_ (some (false,1)) (some (.cells #[a,b,c,d,e,f,g] E (0,0))) 4 v=some (.cells #[a,b,c,d,v,f,g] E (0,0)):=by simp[zp_,h,xE_]
theorem s7_5 (a b c d e f g v:Value) (E:TypeId) (h:Value.oneCell' v=true∧v.cells= #[v]):zp_ (some (false,1)) (some (.cells #[a,b,c,d,e,f,g] E (0,0))) 5 v=some (.cells #[a,b,c,d,e,v,g] E (0,0)):=by simp[zp_,h,xE_]
theorem s7_6 (a b c d e f g v:Value) (E:TypeId) (h:Value.oneCell' v=true∧v.cells= #[v]):zp_ (some (false,1)) (some (.cells #[a,b,c,d,e,f,g] E (0,0))) 6 v=some (.cells #[a,b,c,d,e,f,v] E (0,0)):=by simp[zp_,h,xE_]
theorem PutS.gri {K D:zh_} {v v':Value} {l:List IdL} {x:IdL} (h:PutS v l x v' D) (hK:GrI K 24 32 v l.length (l.map zW_).flatten):GrI (K++D) 24 32 v' (Z8_ x l).length ((Z8_ x l).map zW_).flatten:=by
 rcases h with⟨rfl,h⟩ |h
 ·rw[h];exact hK.mono fun p hp=>List.mem_append_left _ hp
 ·exact h.mono fun p hp=>List.mem_append_right _ hp
theorem xR_ {L:zh_} {b:Nat} {o:Obj} (hn: (keys L).Nodup) (h: (b,o)∈L) {w:World}:zt_ w L b=some o:=zi_ (wG_ hn h)
theorem JH_ {D:zh_} {E:TypeId} {m n:Nat} {v:Value} {cs:List Value} (h:GrI D E m v n cs):Value.oneCell' v=true∧v.cells= #[v]:=by
 obtain⟨X,-,h⟩:=h;exact h.cell
structure MkInG where
 k:Nat
 b:Bool
theorem akT_ {l:List ObK} {i:IdL} (h: (vi_ l i).2=true): (vi_ l i).1∈l∧idK (vi_ l i).1=i:=by
 unfold vi_ at h ⊢
 cases hf:l.find? (fun o=>decide (idK o=i)) with
 |none=>rw[hf] at h;cases h
 |some o=>exact⟨List.mem_of_find?_eq_some hf,by simpa using List.find?_some hf⟩
theorem alC_ (a b:ChildL): ((a.id.l==b.id.l)&& (a.kind==b.kind))=decide (a=b):=by
 rw[Bool.eq_iff_iff,Bool.and_eq_true,beq_iff_eq,beq_iff_eq,decide_eq_true_eq]
 exact⟨fun h=>ChildL.ext' (by simp[h.1,h.2]),fun h=>by rw[h];exact⟨rfl,rfl⟩⟩
theorem amg_ (a b:ChildL):qY_ Tryz.prog .eql 59 (.agg (zs_ a).toArray) (.agg (zs_ b).toArray)=some (.bool (decide (a=b))):=by
 rw[anz_,alC_]
set_option linter.defProp false
def zE_:=And.intro (And.intro (And.intro (And.intro (@qV_) (@qv_)) (And.intro (@qu_) (And.intro (@qs_) (@kE_)))) (And.intro (And.intro (@Sx.tup2_0) (And.intro (@Sx.tup2_1) (@zH_))) (And.intro (@zG_) (And.intro (@jn_) (@vW_))))) (And.intro (And.intro (And.intro (@kB_) (@kq_)) (And.intro (@zZ_) (And.intro (@xI_) (@l7_0)))) (And.intro (And.intro (@l7_2) (And.intro (@l7_3) (@l7_4))) (And.intro (@l7_5) (And.intro (@l7_6) (@amg_)))))
theorem Kk_ (bd:Nat) (vL vI:Value) (l:List ObK) (W:WkS) (X:zh_) (w:World) (hX: ∀p,p∈X→w.heap[p.1]? =some p.2) (hn: (keys X).Nodup) (hP:DwP bd vL vI W X) (hL:RowX 2 k7_ jV_ w vL l X) (hI:RowX 32 zW_ id0 w vI (l.map idK) X)
  (hr: ∀o,o∈l→rdK o=true) (hl:l.length<1000000) (hb1:W.q.length<10000000) (hb2:W.lk.length<90000) (hb3:W.vis.length<1000000) (hb4:W.ms.length<90000):
  Rets Tryz.prog 25 #[vp bd 0] w (XS w X (fun v D=>v= .bool (xo_ (vi_ l) W).1∧DwP bd vL vI (xo_ (vi_ l) W).2 D)):=by
 refine Rets.enterX Tryz.func25 rfl (rs:= [.tmp 2]) Tryz.results25 Tryz.ntmps25 hX hn ?_
 refine kf ?_
 first|with_reducible refine ks [] @zE_ ?_|refine kp @zE_ ?_
 refine Cw.loopG (G:=MkStG) [8,9,10,11,12,13,14,15,16,17,18,19,3,20,21,22,23,24,25,26,27,4,5,28,29,30,31,32,33,34,37,38,39,40,41,42,43,44,45,46,47,48,35,36,49,50,51,52,53,54,55,56,57,58,59,61,62,63,64,65,66,67,60,68,69,6,7,70,71,72,73,74,75,76,77,78,79,80,81,82,83,84,85,86,87,88,89,90,91,92,93,94,95,96,97,98,99,100,101,102,103,2,104,105,106,107,108,109,110,111,112,113,114,115,116,117,118,119,120,121,122,123,124,125,126,127,128,129,130,131] (fun g=> []) (fun g=>g.X) (fun g=>DwP bd vL vI {W with q:=g.q} g.X∧Ext w X g.X∧stepQ (vi_ l) W g.q=xo_ (vi_ l) W∧g.q.length≤W.q.length) (fun g=>g.q.length) ⟨W.q,X⟩ rfl rfl ?_ ?_
 ·exact⟨hP,Ext.refl _ _,rfl,Nat.le_refl _⟩
 intro g j hg
 refine kv ?_
 clear hP hX hn
 obtain⟨q,X'⟩:=g
 simp only at hg ⊢
 obtain⟨hP,hE,hst,hql⟩:=hg
 refine Cw.world fun wz hwz=> ?_
 have hnX:=hwz.nodup
 clear hwz wz
 obtain⟨vq,vv,vl,vm,vn,Q,V,M,K,hA⟩:=hP
 obtain⟨hn1,hn2,hn3,hn4⟩:=hA.ne hnX
 have hkX:=hA.keysX
 refine Cw.permL hA.perm.symm ?_
 have ln:=fun x=>hA.q.len x
 cases q with
 |nil=>
  have d0:decide ((0:Int)< (([]:List ChildL).length:Int))=false:=rfl
  simp only at ln
  first|with_reducible refine ks [] (And.intro @zE_ (And.intro @ln (@d0))) ?_|refine kp (And.intro @zE_ (And.intro @ln (@d0))) ?_
  refine⟨_,(ke @zE_), ?_⟩
  rw[←hst]
  exact⟨hE.perm hA.perm.symm,rfl,vq,vv,vl,vm,vn,Q,V,M,K,List.Perm.refl _,hA.q,hA.v,hA.l,hA.m,hA.n⟩
 |cons c q=>
  have hq1:=hA.q
  simp only at ln hq1
  rw[List.length_cons] at hq1 ln hql
  obtain⟨bq,offq,arrq,hlq,hixq,hldq⟩:=Qu.head hq1 zu_
  obtain⟨vt,hvt,hq2⟩:=Qu.tail hq1 zu_
  have hnX2: (keys ((bd,Obj.cells #[vL,vI,vq,vv,vl,vm,vn] 46 (0,0)):: (Q++ (V++ (M++K))))).Nodup:=((hA.perm.map Prod.fst).nodup_iff).1 hnX
  have rq:zt_ w ((bd, .cells #[vL,vI,vq,vv,vl,vm,vn] 46 (0,0)):: (Q++ (V++ (M++K)))) bq=some (.cells arrq 59 (0,0)):=xR_ hnX2 (by simp[zD_ hlq])
  have d0:decide ((0:Int)< ((q.length+1:Nat):Int))=true:=decide_eq_true (by omega)
  first|with_reducible refine ks [1000012] (And.intro @zE_ (And.intro @ln (And.intro @d0 (And.intro @hixq (And.intro @rq (@hldq)))))) ?_|refine kp (And.intro @zE_ (And.intro @ln (And.intro @d0 (And.intro @hixq (And.intro @rq (@hldq)))))) ?_
  refine Ow.alloc rfl rfl xh_ fun b3 hb3 hw3=> ?_
  simp only[zd_,List.nil_append,List.cons_append]
  have hcid:=c.id.h
  refine Ow.permL (M:=(b3, .cells (zs_ chd0).toArray 59 (0,0)):: (bd, .cells #[vL,vI,vq,vv,vl,vm,vn] 46 (0,0)):: (Q++ (V++ (M++K)))) (by classical exact List.perm_iff_count.2 fun a=>by simp only[List.count_append,List.count_cons,List.count_nil]<;>omega) ?_
  have h3d:bd<b3:=ze_ hb3 (by simp[keys])
  have st1:=s7_2 vL vI vq vv vl vm vn vt 46 hq2.cell
  refine ko @zE_ ?_
  first|with_reducible refine ks [] (And.intro @zE_ (And.intro @hvt (@st1))) ?_|refine kp (And.intro @zE_ (And.intro @hvt (@st1))) ?_
  refine Cw.world fun wz hwz=> ?_
  have hnd3:=hwz.nodup
  clear hwz wz
  have lnv:=fun x=>hA.v.len x
  simp only at lnv
  obtain⟨was,hwas⟩: ∃b,b=decide (c∈W.vis):=⟨_,rfl⟩
  have hbdQ:bd∉keys Q:=hn1
  refine Cw.loopG (G:=MkInG) [28,29,30,31,32,33,34,37,38,39,40,41,42,43,44,45,46,47,48,4,35,36,5] (fun k=> [(4, .bool k.b),(5,vi k.k)]) (fun k=>(b3, .cells (zs_ c).toArray 59 (0,0)):: (bd, .cells #[vL,vI,vt,vv,vl,vm,vn] 46 (0,0)):: (Q++ (V++ (M++K)))) (fun k=>k.k≤W.vis.length∧k.b=decide (c∈W.vis.take k.k)) (fun k=>W.vis.length - k.k) ⟨0,false⟩ rfl rfl ?_ ?_
  ·exact⟨Nat.zero_le _,by simp⟩
  intro k jk hk
  refine kv ?_
  obtain⟨k,b⟩:=k
  simp only at hk ⊢
  obtain⟨hk1,hk2⟩:=hk
  by_cases hlt:k<W.vis.length
  ·obtain⟨bV,cV,restV,hvv,hlV⟩:=Go.Proofs.Gr.rows hA.v (show 0<W.vis.length by omega)
   have rV:zt_ w ((b3, .cells (zs_ c).toArray 59 (0,0)):: (bd, .cells #[vL,vI,vt,vv,vl,vm,vn] 46 (0,0)):: (Q++ (V++ (M++K)))) bV=some (rowO zs_ 59 restV W.vis):=xR_ hnd3 (by simp[zD_ hlV])
   simp only at hvv
   have ixV: ∀a,z0_ (.sl (a,33)) vv (some (k:Int))=some (vp bV (k*33)):=fun a=>by
    rw[hvv,qN_ _ _ _ _ _ _ ⟨by omega,by omega⟩];simp
   have ldV:=Vj_ (z:=chd0) (E:=59) (rest:=restV) zu_ k hlt
   have hts:=StP.take_snoc (z:=chd0) hlt
   have d1:decide ((k:Int)< (W.vis.length:Int))=true:=decide_eq_true (by omega)
   generalize W.vis.getD k chd0=y at*
   first|with_reducible refine ks [] (And.intro @zE_ (And.intro @lnv (@d1))) ?_|refine kp (And.intro @zE_ (And.intro @lnv (@d1))) ?_
   cases b with
   |true=>
    refine Cw.regionS [b3,bd,bV] [0,1,2,3,4,6,5,7,8,9,10,11,12] [] (by kernel_rfl) (by kernel_rfl) (by kernel_rfl) ?_
    simp only[zg_, ↓zc_, ↓za_, ↓zk_, ↓zj_,zb_]
    refine kq @zE_ ?_
    first|with_reducible refine ks [] @zE_ ?_|refine kp @zE_ ?_
    refine Again.mk ⟨k+1,true⟩ (by show W.vis.length - (k+1)<W.vis.length - k;omega) ⟨hlt, ?_⟩ rfl rfl
    show true=decide (c∈W.vis.take (k+1))
    rw[hts,eq_comm,decide_eq_true_eq,List.mem_append]
    exact .inl (of_decide_eq_true hk2.symm)
   |false=>
    refine Cw.regionS [b3,bd,bV] [0,1,2,3,4,6,5,7,8,9,10,11,12] [] (by kernel_rfl) (by kernel_rfl) (by kernel_rfl) ?_
    simp only[zg_, ↓zc_, ↓za_, ↓zk_, ↓zj_,zb_]
    refine kq (And.intro @zE_ (And.intro @ixV (And.intro @rV (@ldV)))) ?_
    first|with_reducible refine ks [] @zE_ ?_|refine kp @zE_ ?_
    refine Again.mk ⟨k+1,decide (y=c)⟩ (by show W.vis.length - (k+1)<W.vis.length - k;omega) ⟨hlt, ?_⟩ rfl rfl
    show decide (y=c)=decide (c∈W.vis.take (k+1))
    have hk3:=of_decide_eq_false hk2.symm
    rw[hts,decide_eq_decide,List.mem_append,List.mem_singleton]
    exact⟨fun h=> .inr h.symm,fun h=>h.elim (fun h=>absurd h hk3) Eq.symm⟩
  ·obtain rfl:k=W.vis.length:=by omega
   rw[List.take_length] at hk2
   have d1:decide ((W.vis.length:Int)< (W.vis.length:Int))=false:=by simp
   first|with_reducible refine ks [1000012] (And.intro @zE_ (And.intro @lnv (@d1))) ?_|refine kp (And.intro @zE_ (And.intro @lnv (@d1))) ?_
   cases b with
   |true=>
    have hc:c∈W.vis:=of_decide_eq_true hk2.symm
    first|with_reducible refine ks [] @zE_ ?_|refine kp @zE_ ?_
    refine Again.mk ⟨q,_⟩ (by show q.length< (c::q).length;simp) ⟨⟨vt,vv,vl,vm,vn,Q,V,M,K++ [(b3, .cells (zs_ c).toArray 59 (0,0))],⟨(by classical exact List.perm_iff_count.2 fun a=>by simp only[List.count_append,List.count_cons,List.count_nil]<;>omega),hq2,hA.v,hA.l,hA.m.mono fun p hp=>List.mem_append_left _ hp,hA.n.mono fun p hp=>List.mem_append_left _ hp⟩⟩, ?_, ?_,by show q.length≤_;omega⟩ rfl rfl
    ·exact hE.trans2 ((hA.ext2 (a:= .cells #[vL,vI,vt,vv,vl,vm,vn] 46 (0,0)) (K':=K++ [(b3, .cells (zs_ c).toArray 59 (0,0))]) (fun x h=>h) (fun x h=> .inl h) (fun x h=>h) (fun x h=> .inl h) (fun x h=>h) (fun x h=> .inl h) (fun x h=>by rw[zf_];exact List.mem_append_left _ h) (fun x h=>by rw[zf_,List.mem_append] at h;exact h.imp id fun h=>by simp[keys] at h;omega)).perm (by classical exact List.perm_iff_count.2 fun a=>by simp only[List.count_append,List.count_cons,List.count_nil]<;>omega))
    ·show stepQ (vi_ l) W q=_
     rw[←hst,stepQ,if_pos hc]
   |false=>
    have hc:c∉W.vis:=of_decide_eq_false hk2.symm
    have h3V:b3∉keys V:=fun h=>by
     have:=hE.new b3 ((hkX b3).2 (.inr (.inr (.inl h))))
     have h2:=ze_ hb3 (b:=b3) (by simp only[keys,List.map_cons,List.map_append,List.mem_cons,List.mem_append];exact .inr (.inr (.inl h)))
     omega
    first|with_reducible refine ks [] @zE_ ?_|refine kp @zE_ ?_
    refine Cw.permL (M:=V++ ((bd, .cells #[vL,vI,vt,vv,vl,vm,vn] 46 (0,0)):: (b3, .cells (zs_ c).toArray 59 (0,0)):: (Q++ (M++K)))) (by classical exact List.perm_iff_count.2 fun a=>by simp only[List.count_append,List.count_cons,List.count_nil]<;>omega) ?_
    have rbd:=fun Y=>zi_ (w0:=w) (zB_ (D:=V) (Y:=Y) (o:= .cells #[vL,vI,vt,vv,vl,vm,vn] 46 (0,0)) hn2)
    have rb3:=fun Y=>zi_ (w0:=w) (zT_ (D:=V) (Y:=Y) (o:= .cells #[vL,vI,vt,vv,vl,vm,vn] 46 (0,0)) (x:= .cells (zs_ c).toArray 59 (0,0)) h3V (show bd≠b3 by omega))
    refine Cw.regionG [bd,b3] [10] 11 (by kernel_rfl) rfl ?_
    simp only[List.replicate_succ,List.replicate_zero]
    refine OwG.run [0,1,2,3,4,5] [true,true,true,true,true,true,false,false,false,false,false] 5 rfl (by kernel_rfl) (by kernel_rfl) fun k hk=> ?_
    simp only[zg_, ↓zc_, ↓za_, ↓zk_, ↓zj_,zb_]
    simp(disch:=(first|assumption|omega| (simp only[qQ_,qO_,UInt64.reduceToNat];try omega))) only[↓Sx.S0,Sx.S1,Tryz.fx,zE_,Nat.reduceAdd,Nat.reducePow,Int.reducePow,Nat.reduceBEq, ↓reduceIte,UInt8.reduceToNat,UInt16.reduceToNat,UInt32.reduceToNat,UInt64.reduceToNat,Int.reduceToNat,Md.next_sofnil,rbd,rb3]
    (with_reducible refine hk _ _ _ ?_);clear hk k
    refine OwG.one 6 _ (by kernel_rfl) rfl ?_
    refine Ow.buildSlice (e:=59) (zs_ c).toArray rfl rfl (kH_ c) fun ba hba hwa=> ?_
    with_reducible refine Ow.nil ?_
    refine⟨(zo_ (fun r hr=>by simp only[List.mem_cons,List.not_mem_nil,or_false] at hr;rcases hr with rfl|rfl<;>simp[keys])), ?_⟩
    simp only[List.set_cons_zero,List.set_cons_succ,zl_,zy_,zz_]
    refine OwG.one 7 _ (by kernel_rfl) rfl ?_
    refine Ow.appendXG (e:=59) (k:=1) (new:=zs_ c) (X:=V) vv (List.append_assoc _ _ _) rfl rfl rfl Tryz.underlying44 jA_ (by kernel_rfl) xh_ (by rw[zZ_,List.size_toArray,zu_]) Tryz.underlying44 (by intro k h;cases h) hA.v (fun w' hw'=>AppX.one1 (hw'.has ba (.cells (zs_ c).toArray 59 (0,0)) (by simp)) (zu_ _) (qT_ _)) (by show 2* (W.vis.length+1)+768≤2^38;omega) (fun B5 v5 D5 hA5 hB5 hG5 hk15 hk25 hlk5=> ?_)
    have hbD:bd∉keys D5:=jd_ hA5 (by simp[keys]) hn2 hk25
    have h3D:b3∉keys D5:=jd_ hA5 (by simp[keys]) h3V hk25
    have c5:=hG5.cell
    have lD5:=fun Y=>zB_ (D:=D5) (Y:=Y) (o:= .cells #[vL,vI,vt,vv,vl,vm,vn] 46 (0,0)) hbD
    have st5:=s7_3 vL vI vt vv vl vm vn v5 46 c5
    with_reducible refine Ow.nil ?_
    refine⟨(fun r hr=>by simp only[List.mem_cons,List.not_mem_nil,or_false] at hr;rcases hr with rfl|rfl;exact(zi_ (zB_ hbD)).trans (zi_ (zn_ (zB_ hn2))).symm;exact(zi_ (zT_ h3D (by omega))).trans (zi_ (zn_ (zT_ h3V (by omega)))).symm), ?_⟩
    simp only[List.set_cons_zero,List.set_cons_succ,zl_,zy_,zz_]
    refine OwG.rest [8,9,10] rfl (by kernel_rfl) (by kernel_rfl) ?_
    simp only[zg_, ↓zc_, ↓za_, ↓zk_, ↓zj_,zb_]
    refine kq @zE_ ?_
    refine Ow.store rfl rfl rfl (ke (And.intro @zE_ (And.intro @lD5 (@st5)))) ?_
    have es:=fun Y x=>j9_ (D:=D5) (Y:=Y) (o:= .cells #[vL,vI,vt,vv,vl,vm,vn] 46 (0,0)) (x:=x) hbD
    simp only[List.cons_append] at*
    rw[es]
    refine ko @zE_ ?_
    refine Cw.permL (M:=(bd, .cells #[vL,vI,vt,v5,vl,vm,vn] 46 (0,0)):: (b3, .cells (zs_ c).toArray 59 (0,0)):: (Q++ (D5++ (M++ (K++ [(ba, .cells (zs_ c).toArray 59 (0,0))]))))) (by classical exact List.perm_iff_count.2 fun a=>by simp only[List.count_append,List.count_cons,List.count_nil]<;>omega) ?_
    have hA5:DwA bd vL vI {W with q:=q,vis:=W.vis++ [c]} vt v5 vl vm vn Q D5 M (K++ [(ba, .cells (zs_ c).toArray 59 (0,0)),(b3, .cells (zs_ c).toArray 59 (0,0))]) ((bd, .cells #[vL,vI,vt,v5,vl,vm,vn] 46 (0,0)):: (b3, .cells (zs_ c).toArray 59 (0,0)):: (Q++ (D5++ (M++ (K++ [(ba, .cells (zs_ c).toArray 59 (0,0))]))))):=⟨(by classical exact List.perm_iff_count.2 fun a=>by simp only[List.count_append,List.count_cons,List.count_nil]<;>omega),hq2,by simpa [List.map_append] using hG5,hA.l,hA.m.mono fun p hp=>List.mem_append_left _ hp,hA.n.mono fun p hp=>List.mem_append_left _ hp⟩
    have hE5:Ext w X ((bd, .cells #[vL,vI,vt,v5,vl,vm,vn] 46 (0,0)):: (b3, .cells (zs_ c).toArray 59 (0,0)):: (Q++ (D5++ (M++ (K++ [(ba, .cells (zs_ c).toArray 59 (0,0))]))))):=hE.trans2 ((hA.ext2 (a:= .cells #[vL,vI,vt,v5,vl,vm,vn] 46 (0,0)) (K':=K++ [(ba, .cells (zs_ c).toArray 59 (0,0)),(b3, .cells (zs_ c).toArray 59 (0,0))]) (fun x h=>h) (fun x h=> .inl h) hk15 (fun x h=>(hk25 x h).imp id fun h=>by omega) (fun x h=>h) (fun x h=> .inl h) (fun x h=>by rw[zf_];exact List.mem_append_left _ h) (fun x h=>by rw[zf_,List.mem_append] at h;exact h.imp id fun h=>by simp[keys] at h;omega)).perm (by classical exact List.perm_iff_count.2 fun a=>by simp only[List.count_append,List.count_cons,List.count_nil]<;>omega))
    refine Cw.world fun wz hwz=> ?_
    have hnd5:=hwz.nodup
    clear hwz wz
    have rbd5:zt_ w ((bd, .cells #[vL,vI,vt,v5,vl,vm,vn] 46 (0,0)):: (b3, .cells (zs_ c).toArray 59 (0,0)):: (Q++ (D5++ (M++ (K++ [(ba, .cells (zs_ c).toArray 59 (0,0))]))))) bd=some (.cells #[vL,vI,vt,v5,vl,vm,vn] 46 (0,0)):=zU_ _ _ _ _
    have rb35:zt_ w ((bd, .cells #[vL,vI,vt,v5,vl,vm,vn] 46 (0,0)):: (b3, .cells (zs_ c).toArray 59 (0,0)):: (Q++ (D5++ (M++ (K++ [(ba, .cells (zs_ c).toArray 59 (0,0))]))))) b3=some (.cells (zs_ c).toArray 59 (0,0)):=xR_ hnd5 (by simp)
    have hbd5:bd∈keys ((bd, .cells #[vL,vI,vt,v5,vl,vm,vn] 46 (0,0)):: (b3, .cells (zs_ c).toArray 59 (0,0)):: (Q++ (D5++ (M++ (K++ [(ba, .cells (zs_ c).toArray 59 (0,0))]))))):=by simp[keys]
    have hb35:b3∈keys ((bd, .cells #[vL,vI,vt,v5,vl,vm,vn] 46 (0,0)):: (b3, .cells (zs_ c).toArray 59 (0,0)):: (Q++ (D5++ (M++ (K++ [(ba, .cells (zs_ c).toArray 59 (0,0))]))))):=by simp[keys]
    obtain⟨L5,hL5⟩: ∃L5,L5=(bd, .cells #[vL,vI,vt,v5,vl,vm,vn] 46 (0,0)):: (b3, .cells (zs_ c).toArray 59 (0,0)):: (Q++ (D5++ (M++ (K++ [(ba, .cells (zs_ c).toArray 59 (0,0))])))):=⟨_,rfl⟩
    rw[←hL5] at hA5 hE5 rbd5 rb35 hbd5 hb35 ⊢
    refine Cw.regionD [bd,b3] [11] 10 6 35 12 _ rfl (by kernel_rfl) (by kernel_rfl) rfl (by kernel_rfl) VH_ (fun hD=> ?_)
    simp only[List.replicate_succ,List.replicate_zero]
    refine OwD.run [0,1,2,3,4,5] [true,true,true,true,true,true,false,false,false,false,false,false,false] 6 rfl hD (by kernel_rfl) fun k hk=> ?_
    simp only[zg_, ↓zc_, ↓za_, ↓zk_, ↓zj_,zb_]
    simp(disch:=(first|assumption|omega| (simp only[qQ_,qO_,UInt64.reduceToNat];try omega))) only[↓Sx.S0,Sx.S1,Tryz.fx,zE_,Nat.reduceAdd,Nat.reducePow,Int.reducePow,Nat.reduceBEq, ↓reduceIte,UInt8.reduceToNat,UInt16.reduceToNat,UInt32.reduceToNat,UInt64.reduceToNat,Int.reduceToNat,Md.next_sofnil,rbd5,rb35]
    (with_reducible refine hk _ _ _ ?_);clear hk k
    refine OwD.soft 6 _ hD rfl (by kernel_rfl) (fun E hE6=> ?_)
    have hkE: ∀x,x∈keys (L5++E)→x∈keys X∨w.heap.size≤x:=fun x hx=>by
     rw[zf_,List.mem_append] at hx
     exact hx.elim (hE5.new x) fun h=> .inr ((akJ_ hE6).le x h)
    refine Ow.callFV rfl Tryz.call18 (fun w' hw'=>agP_ vL vI l c.id w' ((hL.ext hkE).old hw' (fun _ h=>by cases h)) ((hI.ext hkE).old hw' (fun _ h=>by cases h)) hl) ?_
    with_reducible refine Ow.nil ?_
    refine⟨_,List.Perm.refl _,fun _ _=>rfl, ?_⟩
    simp only[List.set_cons_zero,List.set_cons_succ,zl_,zy_,zz_]
    refine OwD.run [7,8,9] [true,true,true,true,true,true,true,true,true,true,false,false,false] 2 rfl hD (by kernel_rfl) fun k hk=> ?_
    simp only[zg_, ↓zc_, ↓za_, ↓zk_, ↓zj_,zb_]
    simp(disch:=(first|assumption|omega| (simp only[qQ_,qO_,UInt64.reduceToNat];try omega))) only[↓Sx.S0,Sx.S1,Tryz.fx,zE_,Nat.reduceAdd,Nat.reducePow,Int.reducePow,Nat.reduceBEq, ↓reduceIte,UInt8.reduceToNat,UInt16.reduceToNat,UInt32.reduceToNat,UInt64.reduceToNat,Int.reduceToNat,Md.next_sofnil,Sx.tup2_0,Sx.tup2_1]
    (with_reducible refine hk _ _ _ ?_);clear hk k
    refine OwD.real [11,12] rfl hD (by kernel_rfl) (by kernel_rfl) (by kernel_rfl) (by kernel_rfl) (fun r hr=>by simp only[List.mem_cons,List.not_mem_nil,or_false] at hr;rcases hr with rfl|rfl;exact .inl hbd5;exact .inl hb35) ?_
    simp only[zg_, ↓zc_, ↓za_, ↓zk_, ↓zj_,zb_]
    intro b6 hw6 hbL
    simp only[zy_,zz_]
    have hin:=akT_ (l:=l) (i:=c.id)
    have e1:jX_ (vi_ l) c=((vi_ l c.id).2&& (c.kind==0||c.kind==(vi_ l c.id).1.k)):=rfl
    have ek:jW_ (vi_ l) c.id=q5_ (vi_ l c.id).1.k (vi_ l c.id).1.t:=rfl
    obtain⟨is,his⟩: ∃b,b=(vi_ l c.id).2:=⟨_,rfl⟩
    obtain⟨o,ho⟩: ∃o,o=(vi_ l c.id).1:=⟨_,rfl⟩
    rw[←his,←ho] at e1 hin ⊢
    rw[←ho] at ek
    obtain⟨ok,ot⟩:=o
    simp only at e1 ek
    refine Ow.store rfl rfl rfl (L':=L5++ [(b6, .cells #[vi ok,vs ot] 35 (0,0))]) ?_ ?_
    ·simp only[zV_,zQ_,z2_]
     have hst:zp_ (some (true,2)) (some (Obj.cells (Value.cells (obV 0 [])) 35 (0,0))) 0 (obKV ⟨ok,ot⟩)=some (.cells #[vi ok,vs ot] 35 (0,0)):=rfl
     rw[Tryz.ag35,xe_,k1_ hbL,hst,kb_,xG_ hbL]
     exact []
    refine ko @zE_ ?_
    have h3b6:b3≠b6:=fun e=>hbL (e▸hb35)
    have hdb6:bd≠b6:=fun e=>hbL (e▸hbd5)
    subst hL5
    refine Cw.permL (M:=(b6, .cells #[vi ok,vs ot] 35 (0,0)):: (b3, .cells (zs_ c).toArray 59 (0,0)):: (bd, .cells #[vL,vI,vt,v5,vl,vm,vn] 46 (0,0)):: (Q++ (D5++ (M++ (K++ [(ba, .cells (zs_ c).toArray 59 (0,0))]))))) (by classical exact List.perm_iff_count.2 fun a=>by simp only[List.count_append,List.count_cons,List.count_nil]<;>omega) ?_
    have h3M:b3∉keys M:=fun h=>by
     have:=hE.new b3 ((hkX b3).2 (.inr (.inr (.inr (.inl h)))))
     have h2:=ze_ hb3 (b:=b3) (by simp only[keys,List.map_cons,List.map_append,List.mem_cons,List.mem_append];exact .inr (.inr (.inr (.inl h))))
     omega
    refine Cw.cutO (G:=Unit) [2,70,71,72,73,74,75,76,77,78,79,80,81,82,83,84,85,86,87,88,89,90,91,92,93,94,95,96,97,98,99,100,101,102,103] (fun g=> []) (fun g=>(b6, .cells #[vi ok,vs ot] 35 (0,0)):: (b3, .cells (zs_ c).toArray 59 (0,0)):: (bd, .cells #[vL,vI,vt,v5,vl,vm,vn] 46 (0,0)):: (Q++ (D5++ (M++ (K++ [(ba, .cells (zs_ c).toArray 59 (0,0))]))))) (fun g=>jX_ (vi_ l) c=true) ?_ ?_
    ·cases is with
     |false=>
      have hfn:jX_ (vi_ l) c=false:=by rw[e1];rfl
      first|with_reducible refine ks [] @zE_ ?_|refine kp @zE_ ?_
      refine Cw.permL (M:=M++ ((bd, .cells #[vL,vI,vt,v5,vl,vm,vn] 46 (0,0)):: (b3, .cells (zs_ c).toArray 59 (0,0)):: (b6, .cells #[vi ok,vs ot] 35 (0,0)):: (Q++ (D5++ (K++ [(ba, .cells (zs_ c).toArray 59 (0,0))]))))) (by classical exact List.perm_iff_count.2 fun a=>by simp only[List.count_append,List.count_cons,List.count_nil]<;>omega) ?_
      have rbd:=fun Y=>zi_ (w0:=w) (zB_ (D:=M) (Y:=Y) (o:= .cells #[vL,vI,vt,v5,vl,vm,vn] 46 (0,0)) hn3)
      have rb3:=fun Y=>zi_ (w0:=w) (zT_ (D:=M) (Y:=Y) (o:= .cells #[vL,vI,vt,v5,vl,vm,vn] 46 (0,0)) (x:= .cells (zs_ c).toArray 59 (0,0)) h3M (show bd≠b3 by omega))
      refine Cw.regionG [bd,b3] [10] 11 (by kernel_rfl) rfl ?_
      simp only[List.replicate_succ,List.replicate_zero]
      refine OwG.run [0,1,2,3,4,5] [true,true,true,true,true,true,false,false,false,false,false] 5 rfl (by kernel_rfl) (by kernel_rfl) fun k hk=> ?_
      simp only[zg_, ↓zc_, ↓za_, ↓zk_, ↓zj_,zb_]
      simp(disch:=(first|assumption|omega| (simp only[qQ_,qO_,UInt64.reduceToNat];try omega))) only[↓Sx.S0,Sx.S1,Tryz.fx,zE_,Nat.reduceAdd,Nat.reducePow,Int.reducePow,Nat.reduceBEq, ↓reduceIte,UInt8.reduceToNat,UInt16.reduceToNat,UInt32.reduceToNat,UInt64.reduceToNat,Int.reduceToNat,Md.next_sofnil,rbd,rb3]
      (with_reducible refine hk _ _ _ ?_);clear hk k
      refine OwG.one 6 _ (by kernel_rfl) rfl ?_
      refine Ow.buildSlice (e:=59) (zs_ c).toArray rfl rfl (kH_ c) fun bb hbb hwb=> ?_
      with_reducible refine Ow.nil ?_
      refine⟨(zo_ (fun r hr=>by simp only[List.mem_cons,List.not_mem_nil,or_false] at hr;rcases hr with rfl|rfl<;>simp[keys])), ?_⟩
      simp only[List.set_cons_zero,List.set_cons_succ,zl_,zy_,zz_]
      refine OwG.one 7 _ (by kernel_rfl) rfl ?_
      refine Ow.appendXG (e:=59) (k:=1) (new:=zs_ c) (X:=M) vl (List.append_assoc _ _ _) rfl rfl rfl Tryz.underlying44 jA_ (by kernel_rfl) xh_ (by rw[zZ_,List.size_toArray,zu_]) Tryz.underlying44 (by intro k h;cases h) hA.l (fun w' hw'=>AppX.one1 (hw'.has bb (.cells (zs_ c).toArray 59 (0,0)) (by simp)) (zu_ _) (qT_ _)) (by show 2* (W.lk.length+1)+768≤2^38;omega) (fun B7 v7 D7 hA7 hB7 hG7 hk17 hk27 hlk7=> ?_)
      have hbD7:bd∉keys D7:=jd_ hA7 (by simp[keys]) hn3 hk27
      have h3D7:b3∉keys D7:=jd_ hA7 (by simp[keys]) h3M hk27
      have lD7:=fun Y=>zB_ (D:=D7) (Y:=Y) (o:= .cells #[vL,vI,vt,v5,vl,vm,vn] 46 (0,0)) hbD7
      have st7:=s7_4 vL vI vt v5 vl vm vn v7 46 hG7.cell
      with_reducible refine Ow.nil ?_
      refine⟨(fun r hr=>by simp only[List.mem_cons,List.not_mem_nil,or_false] at hr;rcases hr with rfl|rfl;exact(zi_ (zB_ hbD7)).trans (zi_ (zn_ (zB_ hn3))).symm;exact(zi_ (zT_ h3D7 (by omega))).trans (zi_ (zn_ (zT_ h3M (by omega)))).symm), ?_⟩
      simp only[List.set_cons_zero,List.set_cons_succ,zl_,zy_,zz_]
      refine OwG.rest [8,9,10] rfl (by kernel_rfl) (by kernel_rfl) ?_
      simp only[zg_, ↓zc_, ↓za_, ↓zk_, ↓zj_,zb_]
      refine kq @zE_ ?_
      refine Ow.store rfl rfl rfl (ke (And.intro @zE_ (And.intro @lD7 (@st7)))) ?_
      have es7:=fun Y x=>j9_ (D:=D7) (Y:=Y) (o:= .cells #[vL,vI,vt,v5,vl,vm,vn] 46 (0,0)) (x:=x) hbD7
      simp only[List.cons_append] at*
      rw[es7]
      refine ko @zE_ ?_
      refine Cw.permL (M:=(bd, .cells #[vL,vI,vt,v5,v7,vm,vn] 46 (0,0)):: (b3, .cells (zs_ c).toArray 59 (0,0)):: (b6, .cells #[vi ok,vs ot] 35 (0,0)):: (Q++ (D5++ (D7++ (K++ [(ba, .cells (zs_ c).toArray 59 (0,0)),(bb, .cells (zs_ c).toArray 59 (0,0))]))))) (by classical exact List.perm_iff_count.2 fun a=>by simp only[List.count_append,List.count_cons,List.count_nil]<;>omega) ?_
      refine Cw.regionG [bd,b3] [10] 11 (by kernel_rfl) rfl ?_
      simp only[List.replicate_succ,List.replicate_zero]
      refine OwG.run [0,1,2,3,4,5,6] [true,true,true,true,true,true,true,false,false,false,false] 4 rfl (by kernel_rfl) (by kernel_rfl) fun k hk=> ?_
      simp only[zg_, ↓zc_, ↓za_, ↓zk_, ↓zj_,zb_]
      simp(disch:=(first|assumption|omega| (simp only[qQ_,qO_,UInt64.reduceToNat];try omega))) only[↓Sx.S0,Sx.S1,Tryz.fx,zE_,Nat.reduceAdd,Nat.reducePow,Int.reducePow,Nat.reduceBEq, ↓reduceIte,UInt8.reduceToNat,UInt16.reduceToNat,UInt32.reduceToNat,UInt64.reduceToNat,Int.reduceToNat,Md.next_sofnil,Md.next_sofnil]
      (with_reducible refine hk _ _ _ ?_);clear hk k
      refine OwG.one 7 _ (by kernel_rfl) rfl ?_
      obtain⟨Xn,hXn,hGn⟩:=hA.n
      refine Ow.callC rfl rfl Tryz.call73 (fun w' hw'=>ZF_ vn (xl_ W.lk) c.id w' (hGn.slM (z:=id0) (fun b o hm=>hw'.has b o (by have:=hXn _ hm;simp[this])) rfl rfl z3_) (by have:=k9_ (W.lk.map ChildL.id);rw[List.length_map] at this;show(x2_ (W.lk.map ChildL.id)).length<_;omega)) (fun B8 v8 D8 hA8 hB8 hN8 hS8=> ?_)
      have hN8':=hN8.mono hB8
      have hS9:=hS8.gri (K:=K) ⟨Xn,hXn,hGn⟩
      have st8:=s7_6 vL vI vt v5 v7 vm vn v8 46 (JH_ hS9)
      with_reducible refine Ow.nil ?_
      refine⟨(zo_ (fun r hr=>by simp only[List.mem_cons,List.not_mem_nil,or_false] at hr;rcases hr with rfl|rfl<;>simp[keys])), ?_⟩
      simp only[List.set_cons_zero,List.set_cons_succ,zl_,zy_,zz_]
      refine OwG.rest [8,9,10] rfl (by kernel_rfl) (by kernel_rfl) ?_
      simp only[zg_, ↓zc_, ↓za_, ↓zk_, ↓zj_,zb_]
      refine kq @zE_ ?_
      refine Ow.store rfl rfl rfl (ke (And.intro @zE_ @st8)) ?_
      refine ko @zE_ ?_
      first|with_reducible refine ks [] @zE_ ?_|refine kp @zE_ ?_
      refine⟨_,(ke @zE_), ?_⟩
      rw[←hst,stepQ,if_neg hc]
      have hvk:je_ (vi_ l) {W with q:=q} c={W with q:=q,vis:=W.vis++ [c],lk:=W.lk++ [c]}:=by unfold je_;rw[if_neg (by rw[hfn];simp)]
      rw[hvk]
      refine⟨hE.trans2 ((hA.ext2 (a:= .cells #[vL,vI,vt,v5,v7,vm,v8] 46 (0,0)) (K':=K++ ([(ba, .cells (zs_ c).toArray 59 (0,0)),(bb, .cells (zs_ c).toArray 59 (0,0)),(b3, .cells (zs_ c).toArray 59 (0,0)),(b6, .cells #[vi ok,vs ot] 35 (0,0))]++D8)) (fun x h=>h) (fun x h=> .inl h) hk15 (fun x h=>(hk25 x h).imp id fun h=>by omega) hk17 (fun x h=>(hk27 x h).imp id fun h=>by omega) (fun x h=>by rw[zf_];exact List.mem_append_left _ h) (fun x h=>by rw[zf_,zf_,List.mem_append,List.mem_append] at h;exact h.imp id fun h=>h.elim (fun h=>by simp[keys] at h;omega) (hN8'.le x))).perm (by classical exact List.perm_iff_count.2 fun a=>by simp only[List.count_append,List.count_cons,List.count_nil]<;>omega)),rfl,vt,v5,v7,vm,v8,Q,D5,D7,K++ ([(ba, .cells (zs_ c).toArray 59 (0,0)),(bb, .cells (zs_ c).toArray 59 (0,0)),(b3, .cells (zs_ c).toArray 59 (0,0)),(b6, .cells #[vi ok,vs ot] 35 (0,0))]++D8),⟨(by classical exact List.perm_iff_count.2 fun a=>by simp only[List.count_append,List.count_cons,List.count_nil]<;>omega),hq2,hA5.v,by simpa [List.map_append] using hG7,hA.m.mono fun p hp=>List.mem_append_left _ hp, ?_⟩⟩
      show GrI _ _ 32 v8 (xl_ (W.lk++ [c])).length ((xl_ (W.lk++ [c])).map zW_).flatten
      rw[X4_]
      exact hS9.mono fun p hp=>by rw[List.mem_append] at hp;rcases hp with h|h<;>simp[h]
     |true=>
      cases hk0: (c.kind==0) with
      |true=>
       have f0: (c.kind !=0)=false:=by simpa using hk0
       first|with_reducible refine ks [] (And.intro @zE_ @f0) ?_|refine kp (And.intro @zE_ @f0) ?_
       exact CutO.mk () (by rw[e1,hk0];rfl) rfl rfl
      |false=>
       have f0: (c.kind !=0)=true:=by simpa using hk0
       cases hk3: (c.kind==ok) with
       |true=>
        have f1: (c.kind !=ok)=false:=by simpa using hk3
        first|with_reducible refine ks [] (And.intro @zE_ (And.intro @f0 (@f1))) ?_|refine kp (And.intro @zE_ (And.intro @f0 (@f1))) ?_
        exact CutO.mk () (by rw[e1,hk0,hk3];rfl) rfl rfl
       |false=>
        have hfn:jX_ (vi_ l) c=false:=by rw[e1,hk0,hk3];rfl
        have f1: (c.kind !=ok)=true:=by simpa using hk3
        first|with_reducible refine ks [] (And.intro @zE_ (And.intro @f0 (@f1))) ?_|refine kp (And.intro @zE_ (And.intro @f0 (@f1))) ?_
        refine Cw.permL (M:=M++ ((bd, .cells #[vL,vI,vt,v5,vl,vm,vn] 46 (0,0)):: (b3, .cells (zs_ c).toArray 59 (0,0)):: (b6, .cells #[vi ok,vs ot] 35 (0,0)):: (Q++ (D5++ (K++ [(ba, .cells (zs_ c).toArray 59 (0,0))]))))) (by classical exact List.perm_iff_count.2 fun a=>by simp only[List.count_append,List.count_cons,List.count_nil]<;>omega) ?_
        have rbd:=fun Y=>zi_ (w0:=w) (zB_ (D:=M) (Y:=Y) (o:= .cells #[vL,vI,vt,v5,vl,vm,vn] 46 (0,0)) hn3)
        have rb3:=fun Y=>zi_ (w0:=w) (zT_ (D:=M) (Y:=Y) (o:= .cells #[vL,vI,vt,v5,vl,vm,vn] 46 (0,0)) (x:= .cells (zs_ c).toArray 59 (0,0)) h3M (show bd≠b3 by omega))
        refine Cw.regionG [bd,b3] [10] 11 (by kernel_rfl) rfl ?_
        simp only[List.replicate_succ,List.replicate_zero]
        refine OwG.run [0,1,2,3,4,5] [true,true,true,true,true,true,false,false,false,false,false] 5 rfl (by kernel_rfl) (by kernel_rfl) fun k hk=> ?_
        simp only[zg_, ↓zc_, ↓za_, ↓zk_, ↓zj_,zb_]
        simp(disch:=(first|assumption|omega| (simp only[qQ_,qO_,UInt64.reduceToNat];try omega))) only[↓Sx.S0,Sx.S1,Tryz.fx,zE_,Nat.reduceAdd,Nat.reducePow,Int.reducePow,Nat.reduceBEq, ↓reduceIte,UInt8.reduceToNat,UInt16.reduceToNat,UInt32.reduceToNat,UInt64.reduceToNat,Int.reduceToNat,Md.next_sofnil,rbd,rb3]
        (with_reducible refine hk _ _ _ ?_);clear hk k
        refine OwG.one 6 _ (by kernel_rfl) rfl ?_
        refine Ow.buildSlice (e:=59) (zs_ c).toArray rfl rfl (kH_ c) fun bb hbb hwb=> ?_
        with_reducible refine Ow.nil ?_
        refine⟨(zo_ (fun r hr=>by simp only[List.mem_cons,List.not_mem_nil,or_false] at hr;rcases hr with rfl|rfl<;>simp[keys])), ?_⟩
        simp only[List.set_cons_zero,List.set_cons_succ,zl_,zy_,zz_]
        refine OwG.one 7 _ (by kernel_rfl) rfl ?_
        refine Ow.appendXG (e:=59) (k:=1) (new:=zs_ c) (X:=M) vl (List.append_assoc _ _ _) rfl rfl rfl Tryz.underlying44 jA_ (by kernel_rfl) xh_ (by rw[zZ_,List.size_toArray,zu_]) Tryz.underlying44 (by intro k h;cases h) hA.l (fun w' hw'=>AppX.one1 (hw'.has bb (.cells (zs_ c).toArray 59 (0,0)) (by simp)) (zu_ _) (qT_ _)) (by show 2* (W.lk.length+1)+768≤2^38;omega) (fun B7 v7 D7 hA7 hB7 hG7 hk17 hk27 hlk7=> ?_)
        have hbD7:bd∉keys D7:=jd_ hA7 (by simp[keys]) hn3 hk27
        have h3D7:b3∉keys D7:=jd_ hA7 (by simp[keys]) h3M hk27
        have lD7:=fun Y=>zB_ (D:=D7) (Y:=Y) (o:= .cells #[vL,vI,vt,v5,vl,vm,vn] 46 (0,0)) hbD7
        have st7:=s7_4 vL vI vt v5 vl vm vn v7 46 hG7.cell
        with_reducible refine Ow.nil ?_
        refine⟨(fun r hr=>by simp only[List.mem_cons,List.not_mem_nil,or_false] at hr;rcases hr with rfl|rfl;exact(zi_ (zB_ hbD7)).trans (zi_ (zn_ (zB_ hn3))).symm;exact(zi_ (zT_ h3D7 (by omega))).trans (zi_ (zn_ (zT_ h3M (by omega)))).symm), ?_⟩
        simp only[List.set_cons_zero,List.set_cons_succ,zl_,zy_,zz_]
        refine OwG.rest [8,9,10] rfl (by kernel_rfl) (by kernel_rfl) ?_
        simp only[zg_, ↓zc_, ↓za_, ↓zk_, ↓zj_,zb_]
        refine kq @zE_ ?_
        refine Ow.store rfl rfl rfl (ke (And.intro @zE_ (And.intro @lD7 (@st7)))) ?_
        have es7:=fun Y x=>j9_ (D:=D7) (Y:=Y) (o:= .cells #[vL,vI,vt,v5,vl,vm,vn] 46 (0,0)) (x:=x) hbD7
        simp only[List.cons_append] at*
        rw[es7]
        refine ko @zE_ ?_
        refine Cw.permL (M:=(bd, .cells #[vL,vI,vt,v5,v7,vm,vn] 46 (0,0)):: (b3, .cells (zs_ c).toArray 59 (0,0)):: (b6, .cells #[vi ok,vs ot] 35 (0,0)):: (Q++ (D5++ (D7++ (K++ [(ba, .cells (zs_ c).toArray 59 (0,0)),(bb, .cells (zs_ c).toArray 59 (0,0))]))))) (by classical exact List.perm_iff_count.2 fun a=>by simp only[List.count_append,List.count_cons,List.count_nil]<;>omega) ?_
        refine Cw.regionG [bd,b3] [10] 11 (by kernel_rfl) rfl ?_
        simp only[List.replicate_succ,List.replicate_zero]
        refine OwG.run [0,1,2,3,4,5,6] [true,true,true,true,true,true,true,false,false,false,false] 4 rfl (by kernel_rfl) (by kernel_rfl) fun k hk=> ?_
        simp only[zg_, ↓zc_, ↓za_, ↓zk_, ↓zj_,zb_]
        simp(disch:=(first|assumption|omega| (simp only[qQ_,qO_,UInt64.reduceToNat];try omega))) only[↓Sx.S0,Sx.S1,Tryz.fx,zE_,Nat.reduceAdd,Nat.reducePow,Int.reducePow,Nat.reduceBEq, ↓reduceIte,UInt8.reduceToNat,UInt16.reduceToNat,UInt32.reduceToNat,UInt64.reduceToNat,Int.reduceToNat,Md.next_sofnil,Md.next_sofnil]
        (with_reducible refine hk _ _ _ ?_);clear hk k
        refine OwG.one 7 _ (by kernel_rfl) rfl ?_
        obtain⟨Xn,hXn,hGn⟩:=hA.n
        refine Ow.callC rfl rfl Tryz.call73 (fun w' hw'=>ZF_ vn (xl_ W.lk) c.id w' (hGn.slM (z:=id0) (fun b o hm=>hw'.has b o (by have:=hXn _ hm;simp[this])) rfl rfl z3_) (by have:=k9_ (W.lk.map ChildL.id);rw[List.length_map] at this;show(x2_ (W.lk.map ChildL.id)).length<_;omega)) (fun B8 v8 D8 hA8 hB8 hN8 hS8=> ?_)
        have hN8':=hN8.mono hB8
        have hS9:=hS8.gri (K:=K) ⟨Xn,hXn,hGn⟩
        have st8:=s7_6 vL vI vt v5 v7 vm vn v8 46 (JH_ hS9)
        with_reducible refine Ow.nil ?_
        refine⟨(zo_ (fun r hr=>by simp only[List.mem_cons,List.not_mem_nil,or_false] at hr;rcases hr with rfl|rfl<;>simp[keys])), ?_⟩
        simp only[List.set_cons_zero,List.set_cons_succ,zl_,zy_,zz_]
        refine OwG.rest [8,9,10] rfl (by kernel_rfl) (by kernel_rfl) ?_
        simp only[zg_, ↓zc_, ↓za_, ↓zk_, ↓zj_,zb_]
        refine kq @zE_ ?_
        refine Ow.store rfl rfl rfl (ke (And.intro @zE_ @st8)) ?_
        refine ko @zE_ ?_
        first|with_reducible refine ks [] @zE_ ?_|refine kp @zE_ ?_
        refine⟨_,(ke @zE_), ?_⟩
        rw[←hst,stepQ,if_neg hc]
        have hvk:je_ (vi_ l) {W with q:=q} c={W with q:=q,vis:=W.vis++ [c],lk:=W.lk++ [c]}:=by unfold je_;rw[if_neg (by rw[hfn];simp)]
        rw[hvk]
        refine⟨hE.trans2 ((hA.ext2 (a:= .cells #[vL,vI,vt,v5,v7,vm,v8] 46 (0,0)) (K':=K++ ([(ba, .cells (zs_ c).toArray 59 (0,0)),(bb, .cells (zs_ c).toArray 59 (0,0)),(b3, .cells (zs_ c).toArray 59 (0,0)),(b6, .cells #[vi ok,vs ot] 35 (0,0))]++D8)) (fun x h=>h) (fun x h=> .inl h) hk15 (fun x h=>(hk25 x h).imp id fun h=>by omega) hk17 (fun x h=>(hk27 x h).imp id fun h=>by omega) (fun x h=>by rw[zf_];exact List.mem_append_left _ h) (fun x h=>by rw[zf_,zf_,List.mem_append,List.mem_append] at h;exact h.imp id fun h=>h.elim (fun h=>by simp[keys] at h;omega) (hN8'.le x))).perm (by classical exact List.perm_iff_count.2 fun a=>by simp only[List.count_append,List.count_cons,List.count_nil]<;>omega)),rfl,vt,v5,v7,vm,v8,Q,D5,D7,K++ ([(ba, .cells (zs_ c).toArray 59 (0,0)),(bb, .cells (zs_ c).toArray 59 (0,0)),(b3, .cells (zs_ c).toArray 59 (0,0)),(b6, .cells #[vi ok,vs ot] 35 (0,0))]++D8),⟨(by classical exact List.perm_iff_count.2 fun a=>by simp only[List.count_append,List.count_cons,List.count_nil]<;>omega),hq2,hA5.v,by simpa [List.map_append] using hG7,hA.m.mono fun p hp=>List.mem_append_left _ hp, ?_⟩⟩
        show GrI _ _ 32 v8 (xl_ (W.lk++ [c])).length ((xl_ (W.lk++ [c])).map zW_).flatten
        rw[X4_]
        exact hS9.mono fun p hp=>by rw[List.mem_append] at hp;rcases hp with h|h<;>simp[h]
    intro g j hg
    refine kv ?_
    have hfn:jX_ (vi_ l) c=true:=hg
    have his2:is=true:=by rw[e1,Bool.and_eq_true] at hfn;exact hfn.1
    have hrd:rdK ⟨ok,ot⟩=true:=hr _ (hin his2).1
    have h3Q:b3∉keys Q:=fun h=>by
     have:=hE.new b3 ((hkX b3).2 (.inr (.inl h)))
     have h2:=ze_ hb3 (b:=b3) (by simp only[keys,List.map_cons,List.map_append,List.mem_cons,List.mem_append];exact .inr (.inl h))
     omega
    have h6Q:b6∉keys Q:=fun h=>hbL (by simp only[keys,List.map_cons,List.map_append,List.mem_cons,List.mem_append];exact .inr (.inr (.inl h)))
    first|with_reducible refine ks [] @zE_ ?_|refine kp @zE_ ?_
    refine Cw.regionS [bd,b3] [0,1,2,4,3,5,6,7] [] (by kernel_rfl) (by kernel_rfl) (by kernel_rfl) ?_
    simp only[zg_, ↓zc_, ↓za_, ↓zk_, ↓zj_,zb_]
    refine kq @zE_ ?_
    refine Ow.soft rfl rfl rfl ?_
    obtain⟨Xm,hXm,hGm⟩:=hA.m
    have hml:=k9_ W.ms
    refine Ow.callFV rfl Tryz.call31 (fun w' hw'=>ajg_ vm (x2_ W.ms) c.id w' (SlV.rowX (hGm.slM (z:=id0) (fun b o hm=>hw'.has b o (by have:=hXm _ hm;simp[this])) rfl rfl z3_)) (by omega)) ?_
    with_reducible refine Ow.nil ?_
    refine⟨by intro b hb;simp only[List.mem_cons,List.not_mem_nil,or_false] at hb;(try subst hb);rfl, ?_⟩
    by_cases hm:c.id∈W.ms
    ·have em:decide (c.id∈x2_ W.ms)=true:=decide_eq_true (mem_srtI.2 hm)
     refine Ow.goQ ?_
     simp(disch:=(first|assumption|omega| (simp only[qQ_,qO_,UInt64.reduceToNat];try omega))) only[↓Sx.S0,Sx.S1,Tryz.fx,zE_,Nat.reduceAdd,Nat.reducePow,Int.reducePow,Nat.reduceBEq, ↓reduceIte,UInt8.reduceToNat,UInt16.reduceToNat,UInt32.reduceToNat,UInt64.reduceToNat,Int.reduceToNat,em,Bool.not_true]
     try with_reducible refine Ow.nil ?_
     first|with_reducible refine ks [] @zE_ ?_|refine kp @zE_ ?_
     refine⟨_,(ke @zE_), ?_⟩
     rw[←hst,stepQ,if_neg hc]
     have hvk:je_ (vi_ l) {W with q:=q} c={W with q:=q,vis:=W.vis++ [c]}:=by unfold je_;rw[if_pos hfn,if_pos hm]
     rw[hvk]
     exact⟨hE.trans2 ((hA.ext2 (a:= .cells #[vL,vI,vt,v5,vl,vm,vn] 46 (0,0)) (K':=K++ [(ba, .cells (zs_ c).toArray 59 (0,0)),(b3, .cells (zs_ c).toArray 59 (0,0)),(b6, .cells #[vi ok,vs ot] 35 (0,0))]) (fun x h=>h) (fun x h=> .inl h) hk15 (fun x h=>(hk25 x h).imp id fun h=>by omega) (fun x h=>h) (fun x h=> .inl h) (fun x h=>by rw[zf_];exact List.mem_append_left _ h) (fun x h=>by rw[zf_,List.mem_append] at h;exact h.imp id fun h=>by simp[keys] at h;omega)).perm (by classical exact List.perm_iff_count.2 fun a=>by simp only[List.count_append,List.count_cons,List.count_nil]<;>omega)),rfl,vt,v5,vl,vm,vn,Q,D5,M,K++ [(ba, .cells (zs_ c).toArray 59 (0,0)),(b3, .cells (zs_ c).toArray 59 (0,0)),(b6, .cells #[vi ok,vs ot] 35 (0,0))],⟨(by classical exact List.perm_iff_count.2 fun a=>by simp only[List.count_append,List.count_cons,List.count_nil]<;>omega),hq2,hA5.v,hA.l,hA.m.mono fun p hp=>List.mem_append_left _ hp,hA.n.mono fun p hp=>List.mem_append_left _ hp⟩⟩
    ·have em:decide (c.id∈x2_ W.ms)=false:=decide_eq_false (fun h=>hm (mem_srtI.1 h))
     refine Ow.goQ ?_
     simp(disch:=(first|assumption|omega| (simp only[qQ_,qO_,UInt64.reduceToNat];try omega))) only[↓Sx.S0,Sx.S1,Tryz.fx,zE_,Nat.reduceAdd,Nat.reducePow,Int.reducePow,Nat.reduceBEq, ↓reduceIte,UInt8.reduceToNat,UInt16.reduceToNat,UInt32.reduceToNat,UInt64.reduceToNat,Int.reduceToNat,em,Bool.not_false]
     try with_reducible refine Ow.nil ?_
     first|with_reducible refine ks [] @zE_ ?_|refine kp @zE_ ?_
     refine Cw.regionG [bd,b3] [10] 11 (by kernel_rfl) rfl ?_
     simp only[List.replicate_succ,List.replicate_zero]
     refine OwG.run [0,1,2,3,4,5,6] [true,true,true,true,true,true,true,false,false,false,false] 4 rfl (by kernel_rfl) (by kernel_rfl) fun k hk=> ?_
     simp only[zg_, ↓zc_, ↓za_, ↓zk_, ↓zj_,zb_]
     simp(disch:=(first|assumption|omega| (simp only[qQ_,qO_,UInt64.reduceToNat];try omega))) only[↓Sx.S0,Sx.S1,Tryz.fx,zE_,Nat.reduceAdd,Nat.reducePow,Int.reducePow,Nat.reduceBEq, ↓reduceIte,UInt8.reduceToNat,UInt16.reduceToNat,UInt32.reduceToNat,UInt64.reduceToNat,Int.reduceToNat,Md.next_sofnil,Md.next_sofnil]
     (with_reducible refine hk _ _ _ ?_);clear hk k
     refine OwG.one 7 _ (by kernel_rfl) rfl ?_
     refine Ow.callC rfl rfl Tryz.call73 (fun w' hw'=>ZF_ vm (x2_ W.ms) c.id w' (hGm.slM (z:=id0) (fun b o hm=>hw'.has b o (by have:=hXm _ hm;simp[this])) rfl rfl z3_) (by omega)) (fun B8 v8 D8 hA8 hB8 hN8 hS8=> ?_)
     have hN8':=hN8.mono hB8
     have hS9:=hS8.gri (K:=K) ⟨Xm,hXm,hGm⟩
     have st8:=s7_5 vL vI vt v5 vl vm vn v8 46 (JH_ hS9)
     with_reducible refine Ow.nil ?_
     refine⟨(zo_ (fun r hr=>by simp only[List.mem_cons,List.not_mem_nil,or_false] at hr;rcases hr with rfl|rfl<;>simp[keys])), ?_⟩
     simp only[List.set_cons_zero,List.set_cons_succ,zl_,zy_,zz_]
     refine OwG.rest [8,9,10] rfl (by kernel_rfl) (by kernel_rfl) ?_
     simp only[zg_, ↓zc_, ↓za_, ↓zk_, ↓zj_,zb_]
     refine kq @zE_ ?_
     refine Ow.store rfl rfl rfl (ke (And.intro @zE_ @st8)) ?_
     refine ko @zE_ ?_
     refine Cw.permL (M:=Q++ ((bd, .cells #[vL,vI,vt,v5,vl,v8,vn] 46 (0,0)):: (b6, .cells #[vi ok,vs ot] 35 (0,0)):: (b3, .cells (zs_ c).toArray 59 (0,0)):: (D5++ (M++ (K++ ((ba, .cells (zs_ c).toArray 59 (0,0))::D8)))))) (by classical exact List.perm_iff_count.2 fun a=>by simp only[List.count_append,List.count_cons,List.count_nil]<;>omega) ?_
     have rbd:=fun Y=>zi_ (w0:=w) (zB_ (D:=Q) (Y:=Y) (o:= .cells #[vL,vI,vt,v5,vl,v8,vn] 46 (0,0)) hn1)
     have rb6:=fun Y=>zi_ (w0:=w) (zT_ (D:=Q) (Y:=Y) (o:= .cells #[vL,vI,vt,v5,vl,v8,vn] 46 (0,0)) (x:= .cells #[vi ok,vs ot] 35 (0,0)) h6Q hdb6)
     refine Cw.regionG [bd,b6] [10] 11 (by kernel_rfl) rfl ?_
     simp only[List.replicate_succ,List.replicate_zero]
     refine OwG.run [0,1,2,3,4,5] [true,true,true,true,true,true,false,false,false,false,false] 5 rfl (by kernel_rfl) (by kernel_rfl) fun k hk=> ?_
     simp only[zg_, ↓zc_, ↓za_, ↓zk_, ↓zj_,zb_]
     simp(disch:=(first|assumption|omega| (simp only[qQ_,qO_,UInt64.reduceToNat];try omega))) only[↓Sx.S0,Sx.S1,Tryz.fx,zE_,Nat.reduceAdd,Nat.reducePow,Int.reducePow,Nat.reduceBEq, ↓reduceIte,UInt8.reduceToNat,UInt16.reduceToNat,UInt32.reduceToNat,UInt64.reduceToNat,Int.reduceToNat,Md.next_sofnil,rbd,rb6]
     (with_reducible refine hk _ _ _ ?_);clear hk k
     refine OwG.one 6 _ (by kernel_rfl) rfl ?_
     refine Ow.callC rfl rfl Tryz.call74 (fun w' hw'=>Xe_ ok ot w' hrd) (fun B9 v9 D9 hA9 hB9 hN9 hSC=> ?_)
     have hN9':=hN9.mono hB9
     rw[←ek] at hSC
     have hkl:=Vm_ (vi_ l) c.id
     with_reducible refine Ow.nil ?_
     refine⟨(zo_ (fun r hr=>by simp only[List.mem_cons,List.not_mem_nil,or_false] at hr;rcases hr with rfl|rfl<;>simp[keys])), ?_⟩
     simp only[List.set_cons_zero,List.set_cons_succ,zl_,zy_,zz_]
     refine OwG.one 7 _ (by kernel_rfl) rfl ?_
     refine Ow.appendQ (e:=59) (k:=(jW_ (vi_ l) c.id).length) (new:=((jW_ (vi_ l) c.id).map zs_).flatten) (X:=Q) vt (List.append_assoc _ _ _) rfl rfl rfl Tryz.underlying44 jA_ (by kernel_rfl) xh_ (by rw[zZ_,List.size_toArray,zu_]) Tryz.underlying44 (by intro k h;cases h) hq2 (fun w' hw'=>(hSC.slM (z:=chd0) (fun b o hm=>hw'.has b o (List.mem_append_right _ hm)) rfl rfl zu_).appX zu_ qT_) (by omega) (fun B7 v7 D7 hA7 hB7 hG7 hk17 hk27 hlk7=> ?_)
     have hbD7:bd∉keys D7:=jd_ hA7 (by simp[keys]) hn1 hk27
     have h6D7:b6∉keys D7:=jd_ hA7 (by simp[keys]) h6Q hk27
     have lD7:=fun Y=>zB_ (D:=D7) (Y:=Y) (o:= .cells #[vL,vI,vt,v5,vl,v8,vn] 46 (0,0)) hbD7
     have st7:=s7_2 vL vI vt v5 vl v8 vn v7 46 hG7.cell
     with_reducible refine Ow.nil ?_
     refine⟨(fun r hr=>by simp only[List.mem_cons,List.not_mem_nil,or_false] at hr;rcases hr with rfl|rfl;exact(zi_ (zB_ hbD7)).trans (zi_ (zn_ (zB_ hn1))).symm;exact(zi_ (zT_ h6D7 hdb6)).trans (zi_ (zn_ (zT_ h6Q hdb6))).symm), ?_⟩
     simp only[List.set_cons_zero,List.set_cons_succ,zl_,zy_,zz_]
     refine OwG.rest [8,9,10] rfl (by kernel_rfl) (by kernel_rfl) ?_
     simp only[zg_, ↓zc_, ↓za_, ↓zk_, ↓zj_,zb_]
     refine kq @zE_ ?_
     refine Ow.store rfl rfl rfl (ke (And.intro @zE_ (And.intro @lD7 (@st7)))) ?_
     have es7:=fun Y x=>j9_ (D:=D7) (Y:=Y) (o:= .cells #[vL,vI,vt,v5,vl,v8,vn] 46 (0,0)) (x:=x) hbD7
     simp only[List.cons_append] at*
     rw[es7]
     refine ko @zE_ ?_
     first|with_reducible refine ks [] @zE_ ?_|refine kp @zE_ ?_
     refine⟨_,(ke @zE_), ?_⟩
     rw[←hst,stepQ,if_neg hc]
     have hvk:je_ (vi_ l) {W with q:=q} c={W with q:=q++jW_ (vi_ l) c.id,vis:=W.vis++ [c],ms:=W.ms++ [c.id]}:=by unfold je_;rw[if_pos hfn,if_neg hm]
     rw[hvk]
     refine⟨hE.trans2 ((hA.ext2 (a:= .cells #[vL,vI,v7,v5,vl,v8,vn] 46 (0,0)) (K':=K++ ([(ba, .cells (zs_ c).toArray 59 (0,0)),(b3, .cells (zs_ c).toArray 59 (0,0)),(b6, .cells #[vi ok,vs ot] 35 (0,0))]++ (D8++D9))) hk17 (fun x h=>(hk27 x h).imp id fun h=>by omega) hk15 (fun x h=>(hk25 x h).imp id fun h=>by omega) (fun x h=>h) (fun x h=> .inl h) (fun x h=>by rw[zf_];exact List.mem_append_left _ h) (fun x h=>by rw[zf_,zf_,zf_,List.mem_append,List.mem_append,List.mem_append] at h;exact h.imp id fun h=>h.elim (fun h=>by simp[keys] at h;omega) fun h=>h.elim (hN8'.le x) (hN9'.le x))).perm (by classical exact List.perm_iff_count.2 fun a=>by simp only[List.count_append,List.count_cons,List.count_nil]<;>omega)),rfl,v7,v5,vl,v8,vn,D7,D5,M,K++ ([(ba, .cells (zs_ c).toArray 59 (0,0)),(b3, .cells (zs_ c).toArray 59 (0,0)),(b6, .cells #[vi ok,vs ot] 35 (0,0))]++ (D8++D9)),⟨(by classical exact List.perm_iff_count.2 fun a=>by simp only[List.count_append,List.count_cons,List.count_nil]<;>omega),by simpa [List.map_append] using hG7,hA5.v,hA.l, ?_,hA.n.mono fun p hp=>List.mem_append_left _ hp⟩⟩
     show GrI _ _ 32 v8 (x2_ (W.ms++ [c.id])).length ((x2_ (W.ms++ [c.id])).map zW_).flatten
     rw[Wu_]
     exact hS9.mono fun p hp=>by rw[List.mem_append] at hp;rcases hp with h|h<;>simp[h]
end Go.Proofs
end
section
open Go Go.Proofs Go.Sx Go.StP Go.RooP
namespace Go.Proofs
set_option maxRecDepth 10000
set_option maxHeartbeats 400000
set_option linter.unusedSimpArgs false
set_option linter.defProp false
def ZW_:=And.intro (And.intro (And.intro (And.intro (@qV_) (@qv_)) (And.intro (@qu_) (And.intro (@qs_) (@kE_)))) (And.intro (And.intro (@Sx.tup2_0) (And.intro (@Sx.tup2_1) (@zH_))) (And.intro (@zG_) (And.intro (@x6_) (@vW_))))) (And.intro (And.intro (And.intro (@kB_) (@kq_)) (And.intro (@zZ_) (And.intro (@xI_) (@l7_0)))) (And.intro (And.intro (@l7_2) (And.intro (@l7_3) (@l7_4))) (And.intro (@l7_5) (And.intro (@l7_6) (@WV_)))))
theorem WL_ (bd:Nat) (vL vI:Value) (W:WkS) (v:Value) (l:List IdL) (X:zh_) (w:World) (hX: ∀p,p∈X→w.heap[p.1]? =some p.2) (hn: (keys X).Nodup) (hP:DwP bd vL vI W X) (hR:RowX 32 zW_ id0 w v l X)
  (hb1:W.q.length<10000000) (hl:l.length<1000000):
  Rets Tryz.prog 22 #[vp bd 0,v] w (XS w X (fun v D=>v= .tuple #[]∧DwP bd vL vI (we_ W l) D)):=by
 obtain⟨rb,off,arr,E,fz,hr,hrb⟩:=hR
 have lnv:=fun x=>hr.len x
 refine Rets.enterX Tryz.func22 rfl (rs:= []) Tryz.results22 Tryz.ntmps22 hX hn ?_
 refine kf ?_
 first|with_reducible refine ks [] @ZW_ ?_|refine kp @ZW_ ?_
 refine Cw.loopG (G:=MkAdG) [5,6,7,8,11,12,13,14,15,16,17,18,19,20,21,22,23,24,9,10,4] (fun g=> [(4,vi g.i)]) (fun g=>g.X) (fun g=>g.i≤l.length∧DwP bd vL vI (we_ W (l.take g.i)) g.X∧Ext w X g.X) (fun g=>l.length - g.i) ⟨0,X⟩ rfl rfl ?_ ?_
 ·refine⟨Nat.zero_le _, ?_,Ext.refl _ _⟩
  have:we_ W (l.take 0)=W:=by unfold we_;simp
  rw[this];exact hP
 intro g j hg
 refine kv ?_
 clear hP hX hn
 obtain⟨i,X'⟩:=g
 simp only at hg ⊢
 obtain⟨hi,hP,hE⟩:=hg
 by_cases hlt:i<l.length
 ·refine Cw.world fun wz hwz=> ?_
  have hnX:=hwz.nodup
  clear hwz wz
  obtain⟨vq,vv,vl,vm,vn,Q,V,M,K,hA⟩:=hP
  obtain⟨hn1,hn2,hn3,hn4⟩:=hA.ne hnX
  have hkX:=hA.keysX
  have hrl:=hr.lt (by omega)
  have hrn:rb∉keys X':=hE.not hrl (hrb (by omega))
  have rd: ∀L:zh_,(∀c,c∈keys L→c∈keys X'∨w.heap.size≤c)→zt_ w L rb=some (.cells arr E fz):=fun L hL=>by
   rw[qG_ (fun hm=>by rcases hL _ hm with h|h;exact hrn h;omega)];exact hr.has (by omega)
  have ix:=hr.idx true i hlt
  have ld:=JF_ hr hlt
  have hts:we_ W (l.take (i+1))={we_ W (l.take i) with q:=(we_ W (l.take i)).q++ [⟨l.getD i id0,0⟩]}:=by
   rw[StP.take_snoc (z:=id0) hlt]
   unfold we_
   simp
  have hql: (we_ W (l.take i)).q.length<20000000:=by
   unfold we_
   simp only[List.length_append,List.length_map,List.length_take]
   omega
  have hd0:decide ((i:Int)< (l.length:Int))=true:=decide_eq_true (by omega)
  generalize hx:l.getD i id0=x at*
  have hxh:=x.h
  refine Cw.permL (M:=Q++ ((bd, .cells #[vL,vI,vq,vv,vl,vm,vn] 46 (0,0)):: (V++ (M++K)))) (((by classical exact List.perm_iff_count.2 fun a=>by simp only[List.count_append,List.count_cons,List.count_nil]<;>omega):List.Perm _ _).trans hA.perm.symm) ?_
  have hkQ: ∀D,(∀c,c∈keys D→c∈keys Q∨w.heap.size≤c)→ ∀Z,New w.heap.size Z→ ∀c,c∈keys (D++ ((bd,Obj.cells #[vL,vI,vq,vv,vl,vm,vn] 46 (0,0)):: (V++ (M++ (K++Z)))))→c∈keys X'∨w.heap.size≤c:=fun D hD Z hZ c hc=>by
   simp only[keys,List.map_append,List.map_cons,List.mem_append,List.mem_cons] at hc
   rcases hc with h|h|h|h|h|h
   ·exact(hD c h).imp (fun h=>(hkX c).2 (.inr (.inl h))) id
   ·exact .inl ((hkX c).2 (.inl h))
   ·exact .inl ((hkX c).2 (.inr (.inr (.inl h))))
   ·exact .inl ((hkX c).2 (.inr (.inr (.inr (.inl h)))))
   ·exact .inl ((hkX c).2 (.inr (.inr (.inr (.inr h)))))
   ·exact .inr (hZ.le c h)
  have rd0:=rd _ (hkQ Q (fun c h=> .inl h) [] trivial)
  simp only[List.append_nil] at rd0
  have rbd:=fun Y=>zi_ (w0:=w) (zB_ (D:=Q) (Y:=Y) (o:= .cells #[vL,vI,vq,vv,vl,vm,vn] 46 (0,0)) hn1)
  have bdc:=Qc_ ⟨x,0⟩
  first|with_reducible refine ks [2] (And.intro @ZW_ (And.intro @hd0 (@lnv))) ?_|refine kp (And.intro @ZW_ (And.intro @hd0 (@lnv))) ?_
  refine Cw.regionG [bd,rb] [14] 15 (by kernel_rfl) rfl ?_
  simp only[List.replicate_succ,List.replicate_zero]
  refine OwG.run [0,1,2,3,4,5,6,7,8] [true,true,true,true,true,true,true,true,true,false,false,false,false,false,false] 6 rfl (by kernel_rfl) (by kernel_rfl) fun k hk=> ?_
  simp only[zg_, ↓zc_, ↓za_, ↓zk_, ↓zj_,zb_]
  simp(disch:=(first|assumption|omega| (simp only[qQ_,qO_,UInt64.reduceToNat];try omega))) only[↓Sx.S0,Sx.S1,Tryz.fx,ZW_,Nat.reduceAdd,Nat.reducePow,Int.reducePow,Nat.reduceBEq, ↓reduceIte,UInt8.reduceToNat,UInt16.reduceToNat,UInt32.reduceToNat,UInt64.reduceToNat,Int.reduceToNat,Md.next_sofnil,rbd,ix,rd0,ld]
  (with_reducible refine hk _ _ _ ?_);clear hk k
  refine OwG.one 9 _ (by kernel_rfl) rfl ?_
  refine Ow.build (.agg (zs_ ⟨x,0⟩).toArray) rfl bdc ?_
  with_reducible refine Ow.nil ?_
  refine⟨(fun r hr=>rfl), ?_⟩
  simp only[List.set_cons_zero,List.set_cons_succ,zl_,zy_,zz_]
  refine OwG.one 10 _ (by kernel_rfl) rfl ?_
  refine Ow.buildSlice (e:=59) (zs_ ⟨x,0⟩).toArray rfl rfl (kH_ ⟨x,0⟩) fun ba hba hwa=> ?_
  have hNa:New w.heap.size [(ba,Obj.cells (zs_ ⟨x,0⟩).toArray 59 (0,0))]:=⟨hwa,trivial⟩
  have rd1:=rd _ (hkQ Q (fun c h=> .inl h) [(ba,Obj.cells (zs_ ⟨x,0⟩).toArray 59 (0,0))] hNa)
  with_reducible refine Ow.nil ?_
  refine⟨(fun r hr=>by simp only[List.mem_cons,List.not_mem_nil,or_false] at hr;rcases hr with rfl|rfl;exact(xK_ (by simp[keys]));simp only[List.append_assoc,List.cons_append] at*;exact rd1.trans rd0.symm), ?_⟩
  simp only[List.set_cons_zero,List.set_cons_succ,zl_,zy_,zz_]
  refine OwG.one 11 _ (by kernel_rfl) rfl ?_
  refine Ow.appendQ (e:=59) (k:=1) (new:=zs_ ⟨x,0⟩) (X:=Q) vq (List.append_assoc _ _ _) rfl rfl rfl Tryz.underlying44 jA_ (by kernel_rfl) xh_ (by rw[zZ_,List.size_toArray,zu_]) Tryz.underlying44 (by intro k h;cases h) hA.q (fun w' hw'=>AppX.one1 (hw'.has ba (.cells (zs_ ⟨x,0⟩).toArray 59 (0,0)) (by simp)) (zu_ _) (qT_ _)) (by omega) (fun B7 v7 D7 hA7 hB7 hG7 hk17 hk27 hlk7=> ?_)
  have hbD:bd∉keys D7:=jd_ hA7 (by simp[keys]) hn1 hk27
  have lD7:=fun Y=>zB_ (D:=D7) (Y:=Y) (o:= .cells #[vL,vI,vq,vv,vl,vm,vn] 46 (0,0)) hbD
  have st7:=s7_2 vL vI vq vv vl vm vn v7 46 hG7.cell
  have rd2:=rd _ (hkQ D7 (fun c h=>(hk27 c h).imp id fun h=>by omega) [(ba,Obj.cells (zs_ ⟨x,0⟩).toArray 59 (0,0))] hNa)
  with_reducible refine Ow.nil ?_
  refine⟨(fun r hr=>by simp only[List.mem_cons,List.not_mem_nil,or_false] at hr;rcases hr with rfl|rfl;exact(zi_ (zB_ hbD)).trans (zi_ (zn_ (zB_ hn1))).symm;simp only[List.append_assoc,List.cons_append] at*;exact rd2.trans rd1.symm), ?_⟩
  simp only[List.set_cons_zero,List.set_cons_succ,zl_,zy_,zz_]
  refine OwG.rest [12,13,14] rfl (by kernel_rfl) (by kernel_rfl) ?_
  simp only[zg_, ↓zc_, ↓za_, ↓zk_, ↓zj_,zb_]
  refine kq @ZW_ ?_
  refine Ow.store rfl rfl rfl (ke (And.intro @ZW_ (And.intro @lD7 (@st7)))) ?_
  have es:=fun Y x=>j9_ (D:=D7) (Y:=Y) (o:= .cells #[vL,vI,vq,vv,vl,vm,vn] 46 (0,0)) (x:=x) hbD
  simp only[List.cons_append,List.append_assoc] at*
  rw[es]
  refine ko @ZW_ ?_
  first|with_reducible refine ks [] @ZW_ ?_|refine kp @ZW_ ?_
  refine Again.mk ⟨i+1,_⟩ (by show l.length - (i+1)<l.length - i;omega) ⟨hlt, ?_, ?_⟩ rfl rfl
  ·show DwP bd vL vI (we_ W (l.take (i+1))) _
   rw[hts]
   refine⟨v7,vv,vl,vm,vn,D7,V,M,K++ [(ba, .cells (zs_ ⟨x,0⟩).toArray 59 (0,0))],⟨(by classical exact List.perm_iff_count.2 fun a=>by simp only[List.count_append,List.count_cons,List.count_nil]<;>omega), ?_,hA.v,hA.l,hA.m.mono fun p hp=>List.mem_append_left _ hp,hA.n.mono fun p hp=>List.mem_append_left _ hp⟩⟩
   simpa [List.map_append] using hG7
  ·have h1:=(hA.ext2 (w:=w) (a:= .cells #[vL,vI,v7,vv,vl,vm,vn] 46 (0,0)) (K':=K++ [(ba, .cells (zs_ ⟨x,0⟩).toArray 59 (0,0))]) (fun x h=>hk17 x h) (fun x h=>(hk27 x h).imp id fun h=>by omega) (fun x h=>h) (fun x h=> .inl h) (fun x h=>h) (fun x h=> .inl h) (fun x h=>by rw[zf_];exact List.mem_append_left _ h) (fun x h=>by rw[zf_,List.mem_append] at h;exact h.imp id (hNa.le x))).perm (D':=D7++ ((bd, .cells #[vL,vI,v7,vv,vl,vm,vn] 46 (0,0)):: (V++ (M++ (K++ [(ba, .cells (zs_ ⟨x,0⟩).toArray 59 (0,0))]))))) (by classical exact List.perm_iff_count.2 fun a=>by simp only[List.count_append,List.count_cons,List.count_nil]<;>omega)
   exact hE.trans2 h1
 ·obtain rfl:i=l.length:=by omega
  rw[List.take_length] at hP
  have hd0:decide ((l.length:Int)< (l.length:Int))=false:=by simp
  first|with_reducible refine ks [] (And.intro @ZW_ (And.intro @hd0 (@lnv))) ?_|refine kp (And.intro @ZW_ (And.intro @hd0 (@lnv))) ?_
  refine⟨_,(ke @ZW_), ?_⟩
  exact⟨hE,rfl,hP⟩
theorem ahZ_ (vL vI:Value):q8_ (wn_ Tryz.prog 46) (z1_ Tryz.prog 46) [(0, .agg #[vL,vI])]=some (.agg #[vL,vI, .slice none 0 0, .slice none 0 0, .slice none 0 0, .slice none 0 0, .slice none 0 0]):=by
 rw[show wn_ Tryz.prog 46=some [(0,2),(2,1),(3,1),(4,1),(5,1),(6,1)] from id (by kernel_rfl),show z1_ Tryz.prog 46=some (.agg #[.slice none 0 0, .slice none 0 0, .slice none 0 0, .slice none 0 0, .slice none 0 0, .slice none 0 0, .slice none 0 0]) from id (by kernel_rfl)]
 simp[q8_,Sx.fillV,zd_,xE_]
theorem al1_ (bd:Nat) (vL vI:Value):DwP bd vL vI Qf_ [(bd, .cells #[vL,vI, .slice none 0 0, .slice none 0 0, .slice none 0 0, .slice none 0 0, .slice none 0 0] 46 (0,0))]:=
 ⟨.slice none 0 0, .slice none 0 0, .slice none 0 0, .slice none 0 0, .slice none 0 0,[],[],[],[],⟨List.Perm.refl _, .nl,Gr.nl,Gr.nl,Gr.nl.i fun _ h=>h,Gr.nl.i fun _ h=>h⟩⟩
end Go.Proofs
end
section
open Go Go.Proofs Go.Sx Go.StP Go.RooP
namespace Go.Proofs
set_option maxRecDepth 10000
set_option maxHeartbeats 400000
set_option linter.unusedSimpArgs false
theorem alY_ (a b:ObK):eqD Tryz.prog 8 35 (obV a.k a.t) (obV b.k b.t)=some (decide (a=b)):=by
 have p0: ∀o:ObK,Sx.partV (false,1) #[vi o.k,vs o.t] 0=some (vi o.k):=fun _=>rfl
 have p1: ∀o:ObK,Sx.partV (false,1) #[vi o.k,vs o.t] 1=some (vs o.t):=fun _=>rfl
 have e1: ∀a b:Int,eqD Tryz.prog 7 3 (vi a) (vi b)=some (a==b):=fun a b=>by unfold eqD;rw[Tryz.underlying3];rfl
 have e2: ∀a b:List UInt8,eqD Tryz.prog 7 9 (vs a) (vs b)=some (a==b):=fun a b=>by
  unfold eqD;rw[Tryz.underlying9];simp only[vs,WY_]
 have a1:zN_ Tryz.prog 3=some (false,1):=id (by kernel_rfl)
 have a2:zN_ Tryz.prog 9=some (false,1):=id (by kernel_rfl)
 unfold eqD obV
 rw[Tryz.underlying35]
 simp only
 rw[show Tryz.prog.stoodInHeld 35=false by kernel_rfl]
 simp only[Bool.false_eq_true, ↓reduceIte,kA_,k0_,a1,a2,p0,p1,e1,e2]
 obtain⟨k,t⟩:=a
 obtain⟨k',t'⟩:=b
 have e:decide ((⟨k,t⟩:ObK)=⟨k',t'⟩)=((k==k')&& (t==t')):=by rw[Bool.eq_iff_iff];simp
 rw[e]
 cases(k==k')<;>cases(t==t')<;>rfl
theorem am7_ (a b:ObK):qY_ Tryz.prog .neq 35 (obV a.k a.t) (obV b.k b.t)=some (.bool (!decide (a=b))):=by
 have h:=alY_ a b
 unfold qY_ eqX obV at*;rw[show Tryz.prog.eqGuardType Tryz.prog.depth 35=false by kernel_rfl];simp[qM_,h]
def VK_ (l:List ObK):Bool:=decide (40<l.length) ||l.any fun o=>decide (2500<o.t.length)
theorem agu_ {l:List ObK} (h:VK_ l=false):l.length≤40∧ ∀o,o∈l→o.t.length≤2500:=by
 unfold VK_ at h
 rw[Bool.or_eq_false_iff,decide_eq_false_iff_not,List.any_eq_false] at h
 exact⟨by omega,fun o ho=>by have:=h.2 o ho;simpa using this⟩
theorem aje_ {w:World} {v:Value} {l:List ObK} {b off:Nat} {arr:Array Value} {E:TypeId} {fz:Nat×Nat} (h:RowS 2 k7_ jV_ w v l b off arr E fz) {k n:Nat} (hk:k<l.length):
  zx_ (some (false,n)) (some (.cells arr E fz)) (off+k*2+1)=some (vs (l.getD k jV_).t):=h.cell hk (by omega)
set_option linter.defProp false
def ZS_:=And.intro (@zH_) (@zG_)
theorem aal_ (v:Value) (l:List ObK) (w:World) (hv:RowX 2 k7_ jV_ w v l []):
  Rets Tryz.prog 14 #[v] w (fun v' D=>v'= .bool (VK_ l)∧D= []):=by
 obtain⟨rb,off,arr,E,fz,hr,-⟩:=hv
 have ln:=fun x=>hr.len x
 refine Rets.enterV Tryz.func14 rfl (rs:= [.tmp 2]) Tryz.results14 Tryz.ntmps14 ?_
 refine kf ?_
 unfold VK_
 by_cases h40:40<l.length
 ·have d1:decide ((40:Int)< (l.length:Int))=true:=decide_eq_true (by omega)
  rw[decide_eq_true h40]
  first|with_reducible refine ks [] (And.intro @ZS_ (And.intro @ln (@d1))) ?_|refine kp (And.intro @ZS_ (And.intro @ln (@d1))) ?_
  refine⟨_,(ke @ZS_),trivial, ?_⟩
  rfl
 ·have d1:decide ((40:Int)< (l.length:Int))=false:=decide_eq_false (by omega)
  rw[decide_eq_false h40,Bool.false_or]
  first|with_reducible refine ks [] (And.intro @ZS_ (And.intro @ln (@d1))) ?_|refine kp (And.intro @ZS_ (And.intro @ln (@d1))) ?_
  refine Cw.loopG (G:=Nat) [7,8,9,10,13,14,15,16,17,18,19,2,11,12,3] (fun g=> [(3,vi g)]) (fun g=> []) (fun g=>g≤l.length∧(l.take g).any (fun o=>decide (2500<o.t.length))=false) (fun g=>l.length - g) 0 rfl rfl ?_ ?_
  ·exact⟨Nat.zero_le _,rfl⟩
  intro k jk hk
  refine kv ?_
  obtain⟨h1,h2⟩:=hk
  by_cases hk:k<l.length
  ·have hd0:decide ((k:Int)< (l.length:Int))=true:=decide_eq_true (by omega)
   have ix:=hr.idx true k hk
   have ld:=fun n=>aje_ (n:=n) hr hk
   have rd:=hr.has (by omega)
   have hts:=StP.take_snoc (z:=jV_) hk
   have hm:l.getD k jV_∈l:=by rw[List.getD_eq_getElem?_getD,List.getElem?_eq_getElem hk];exact List.getElem_mem _
   generalize l.getD k jV_=o at*
   by_cases h25:2500<o.t.length
   ·have d2:decide ((2500:Int)< (o.t.length:Int))=true:=decide_eq_true (by omega)
    have e:l.any (fun o=>decide (2500<o.t.length))=true:=List.any_eq_true.2 ⟨o,hm,decide_eq_true h25⟩
    rw[e]
    first|with_reducible refine ks [] (And.intro @ZS_ (And.intro @ln (And.intro @hd0 (And.intro @ix (And.intro @rd (And.intro @ld (@d2))))))) ?_|refine kp (And.intro @ZS_ (And.intro @ln (And.intro @hd0 (And.intro @ix (And.intro @rd (And.intro @ld (@d2))))))) ?_
    refine⟨_,(ke @ZS_),trivial, ?_⟩
    rfl
   ·have d2:decide ((2500:Int)< (o.t.length:Int))=false:=decide_eq_false (by omega)
    first|with_reducible refine ks [] (And.intro @ZS_ (And.intro @ln (And.intro @hd0 (And.intro @ix (And.intro @rd (And.intro @ld (@d2))))))) ?_|refine kp (And.intro @ZS_ (And.intro @ln (And.intro @hd0 (And.intro @ix (And.intro @rd (And.intro @ld (@d2))))))) ?_
    refine Again.mk (k+1) (by omega) ⟨hk, ?_⟩ rfl rfl
    rw[hts,List.any_append,h2]
    simp[h25]
  ·obtain rfl:k=l.length:=by omega
   rw[List.take_length] at h2
   have hd0:decide ((l.length:Int)< (l.length:Int))=false:=by simp
   rw[h2]
   first|with_reducible refine ks [] (And.intro @ZS_ (And.intro @ln (@hd0))) ?_|refine kp (And.intro @ZS_ (And.intro @ln (@hd0))) ?_
   refine⟨_,(ke @ZS_),trivial, ?_⟩
   rfl
def ClK (a b:ObK):Prop:=a≠b∧rdK a=true∧rdK b=true∧idK a=idK b
theorem alz_ {l:List ObK} (h: ∀p,p<l.length→ ∀q,q<p→ ¬ClK (l.getD p jV_) (l.getD q jV_)):NoCl l:=by
 intro a ha b hb hra hrb he
 obtain⟨i,hi,rfl⟩:=List.getElem_of_mem ha
 obtain⟨j,hj,rfl⟩:=List.getElem_of_mem hb
 have gd: ∀k (hk:k<l.length),l.getD k jV_=l[k]:=fun k hk=>by rw[List.getD_eq_getElem?_getD,List.getElem?_eq_getElem hk];rfl
 refine Classical.byContradiction fun hne=> ?_
 rcases Nat.lt_trichotomy i j with hij|hij|hij
 ·exact h j hj i hij ⟨by rw[gd _ hj,gd _ hi];exact Ne.symm hne,by rw[gd _ hj];exact hrb,by rw[gd _ hi];exact hra,by rw[gd _ hj,gd _ hi];exact he.symm⟩
 ·subst hij;exact hne rfl
 ·exact h i hi j hij ⟨by rw[gd _ hj,gd _ hi];exact hne,by rw[gd _ hi];exact hra,by rw[gd _ hj];exact hrb,by rw[gd _ hj,gd _ hi];exact he⟩
set_option linter.defProp false
def jY_:=And.intro (And.intro (@zH_) (@zG_)) (And.intro (@am7_) (@ad9_))
theorem VY_ (v:Value) (l:List ObK) (w:World) (hv:RowX 2 k7_ jV_ w v l []) (hl:l.length<1000000) (ht: ∀o,o∈l→o.t.length<100000):
  Rets Tryz.prog 15 #[v] w (fun v' D=>(∃b,v'= .bool b∧(b=false→NoCl l))∧D= []):=by
 obtain⟨rb,off,arr,E,fz,hr,-⟩:=hv
 have ln:=fun x=>hr.len x
 have gm: ∀k,k<l.length→l.getD k jV_∈l:=fun k hk=>by rw[List.getD_eq_getElem?_getD,List.getElem?_eq_getElem hk];exact List.getElem_mem _
 refine Rets.enterV Tryz.func15 rfl (rs:= [.tmp 2]) Tryz.results15 Tryz.ntmps15 ?_
 refine kf ?_
 first|with_reducible refine ks [] @jY_ ?_|refine kp @jY_ ?_
 refine Cw.loopG (G:=Nat) [5,6,7,8,4,11,12,13,16,17,18,19,20,21,22,23,24,25,26,27,28,29,30,31,32,33,34,35,36,37,38,39,40,41,42,43,44,45,46,47,48,49,50,51,2,14,15,9,10,3] (fun g=> [(3,vi g)]) (fun g=> []) (fun g=>g≤l.length∧(∀p,p<g→ ∀q,q<p→ ¬ClK (l.getD p jV_) (l.getD q jV_))) (fun g=>l.length - g) 0 rfl rfl ?_ ?_
 ·exact⟨Nat.zero_le _,fun p hp=>absurd hp (Nat.not_lt_zero _)⟩
 intro i ji hi
 refine kv ?_
 obtain⟨hi,hpi⟩:=hi
 by_cases hlt:i<l.length
 ·have hd0:decide ((i:Int)< (l.length:Int))=true:=decide_eq_true (by omega)
  have ixi:=hr.idx true i hlt
  have ldi:=JA_ hr hlt
  have rd:=hr.has (by omega)
  have hti:=ht _ (gm i hlt)
  first|with_reducible refine ks [] (And.intro @jY_ (And.intro @ln (@hd0))) ?_|refine kp (And.intro @jY_ (And.intro @ln (@hd0))) ?_
  refine Cw.loopG (G:=Nat) [11,12,13,16,17,18,19,20,21,22,23,24,25,26,27,28,29,30,31,32,33,34,35,36,37,38,39,40,41,42,43,44,45,46,47,48,49,50,51,2,14,15,4] (fun g=> [(4,vi g)]) (fun g=> []) (fun g=>g≤i∧(∀q,q<g→ ¬ClK (l.getD i jV_) (l.getD q jV_))) (fun g=>i - g) 0 rfl rfl ?_ ?_
  ·exact⟨Nat.zero_le _,fun p hp=>absurd hp (Nat.not_lt_zero _)⟩
  intro k jk hk
  refine kv ?_
  obtain⟨hk,hpk⟩:=hk
  by_cases hkt:k<i
  ·have hd1:decide ((k:Int)< (i:Int))=true:=decide_eq_true (by omega)
   have ixk:=hr.idx true k (show k<l.length by omega)
   have ldk:=JA_ hr (show k<l.length by omega)
   have htk:=ht _ (gm k (by omega))
   have next: ¬ClK (l.getD i jV_) (l.getD k jV_)→ ∀q,q<k+1→ ¬ClK (l.getD i jV_) (l.getD q jV_):=fun h q hq=>by
    by_cases e:q=k
    ·subst e;exact h
    ·exact hpk q (by omega)
   generalize l.getD i jV_=a at*
   generalize hb:l.getD k jV_=b at*
   first|with_reducible refine ks [] (And.intro @jY_ @hd1) ?_|refine kp (And.intro @jY_ @hd1) ?_
   by_cases hab:a=b
   ·have eab:decide (a=b)=true:=decide_eq_true hab
    refine Cw.regionS [rb] [0,1,2,4,5,6,3,7,8,9,10,11,12,13,14,15,16,17,18,19,20,21,22,23,24,25,26,29,30,31,27,32,28,33,34,35] [] (by kernel_rfl) (by kernel_rfl) (by kernel_rfl) ?_
    simp only[zg_, ↓zc_, ↓za_, ↓zk_, ↓zj_,zb_]
    refine Ow.goQ ?_
    simp(disch:=(first|assumption|omega| (simp only[qQ_,qO_,UInt64.reduceToNat];try omega))) only[↓Sx.S0,Sx.S1,Tryz.fx,jY_,Nat.reduceAdd,Nat.reducePow,Int.reducePow,Nat.reduceBEq, ↓reduceIte,UInt8.reduceToNat,UInt16.reduceToNat,UInt32.reduceToNat,UInt64.reduceToNat,Int.reduceToNat,ixi,rd,ldi,ixk,ldk,eab,Bool.not_true]
    exact Again.mk (k+1) (by omega) ⟨hkt,next fun h=>h.1 hab⟩ rfl rfl
   ·have eab:decide (a=b)=false:=decide_eq_false hab
    refine Cw.regionS [rb] [0,1,2,4,5,6,3,7,8,9,10,11,12,13,14,15,16,17,18,19,20,21,22,23,24,25,26,29,30,31,27,32,28,33,34,35] [] (by kernel_rfl) (by kernel_rfl) (by kernel_rfl) ?_
    simp only[zg_, ↓zc_, ↓za_, ↓zk_, ↓zj_,zb_]
    refine Ow.goQ ?_
    simp(disch:=(first|assumption|omega| (simp only[qQ_,qO_,UInt64.reduceToNat];try omega))) only[↓Sx.S0,Sx.S1,Tryz.fx,jY_,Nat.reduceAdd,Nat.reducePow,Int.reducePow,Nat.reduceBEq, ↓reduceIte,UInt8.reduceToNat,UInt16.reduceToNat,UInt32.reduceToNat,UInt64.reduceToNat,Int.reduceToNat,ixi,rd,ldi,ixk,ldk,eab,Bool.not_false]
    refine Ow.soft rfl rfl rfl ?_
    refine Ow.callFV rfl Tryz.call19 (fun w' hw'=>wu_ a.k a.t w') ?_
    rw[←kt_,show xx_ a.k a.t=rdK a from rfl]
    with_reducible refine Ow.nil ?_
    refine⟨by intro b hb;simp only[List.mem_cons,List.not_mem_nil,or_false] at hb;(try subst hb);rfl, ?_⟩
    cases hra:rdK a with
    |false=>
     refine kq @jY_ ?_
     try with_reducible refine Ow.nil ?_
     first|with_reducible refine ks [] @jY_ ?_|refine kp @jY_ ?_
     exact Again.mk (k+1) (by omega) ⟨hkt,next fun h=>by have:=h.2.1;rw[hra] at this;cases this⟩ rfl rfl
    |true=>
     refine kq (And.intro @jY_ (And.intro @ixi (And.intro @rd (And.intro @ldi (And.intro @ixk (@ldk)))))) ?_
     refine Ow.soft rfl rfl rfl ?_
     refine Ow.callFV rfl Tryz.call19 (fun w' hw'=>wu_ b.k b.t w') ?_
     rw[←kt_,show xx_ b.k b.t=rdK b from rfl]
     with_reducible refine Ow.nil ?_
     refine⟨by intro b hb;simp only[List.mem_cons,List.not_mem_nil,or_false] at hb;(try subst hb);rfl, ?_⟩
     cases hrb:rdK b with
     |false=>
      refine kq @jY_ ?_
      try with_reducible refine Ow.nil ?_
      first|with_reducible refine ks [] @jY_ ?_|refine kp @jY_ ?_
      exact Again.mk (k+1) (by omega) ⟨hkt,next fun h=>by have:=h.2.2.1;rw[hrb] at this;cases this⟩ rfl rfl
     |true=>
      refine kq (And.intro @jY_ (And.intro @ixi (And.intro @rd (And.intro @ldi (And.intro @ixk (@ldk)))))) ?_
      refine Ow.soft rfl rfl rfl ?_
      refine Ow.callFV rfl Tryz.call20 (fun w' hw'=>Vn_ a.k a.t w' (by omega)) ?_
      rw[alf_ hra]
      with_reducible refine Ow.nil ?_
      refine⟨by intro b hb;simp only[List.mem_cons,List.not_mem_nil,or_false] at hb;(try subst hb);rfl, ?_⟩
      refine kq (And.intro @jY_ (And.intro @ixi (And.intro @rd (And.intro @ldi (And.intro @ixk (@ldk)))))) ?_
      refine Ow.soft rfl rfl rfl ?_
      refine Ow.callFV rfl Tryz.call20 (fun w' hw'=>Vn_ b.k b.t w' (by omega)) ?_
      rw[alf_ hrb]
      with_reducible refine Ow.nil ?_
      refine⟨by intro b hb;simp only[List.mem_cons,List.not_mem_nil,or_false] at hb;(try subst hb);rfl, ?_⟩
      refine kq @jY_ ?_
      cases hq: ((idK a).l==(idK b).l) with
      |false=>
       try with_reducible refine Ow.nil ?_
       first|with_reducible refine ks [] @jY_ ?_|refine kp @jY_ ?_
       exact Again.mk (k+1) (by omega) ⟨hkt,next fun h=>by rw[h.2.2.2] at hq;simp at hq⟩ rfl rfl
      |true=>
       try with_reducible refine Ow.nil ?_
       first|with_reducible refine ks [] @jY_ ?_|refine kp @jY_ ?_
       refine⟨_,(ke @jY_),trivial, ?_⟩
       exact⟨true,rfl,fun h=>by cases h⟩
  ·obtain rfl:k=i:=by omega
   have hd1:decide ((k:Int)< (k:Int))=false:=by simp
   first|with_reducible refine ks [] (And.intro @jY_ @hd1) ?_|refine kp (And.intro @jY_ @hd1) ?_
   refine Again.mk (k+1) (by omega) ⟨hlt,fun p hp q hq=> ?_⟩ rfl rfl
   by_cases e:p=k
   ·subst e;exact hpk q hq
   ·exact hpi p (by omega) q hq
 ·obtain rfl:i=l.length:=by omega
  have hd0:decide ((l.length:Int)< (l.length:Int))=false:=by simp
  first|with_reducible refine ks [] (And.intro @jY_ (And.intro @ln (@hd0))) ?_|refine kp (And.intro @jY_ (And.intro @ln (@hd0))) ?_
  refine⟨_,(ke @jY_),trivial, ?_⟩
  exact⟨false,rfl,fun _=>alz_ hpi⟩
end Go.Proofs
end
section
open Go Go.Proofs Go.Sx Go.StP Go.RooP
namespace Go.Proofs
set_option maxRecDepth 10000
set_option maxHeartbeats 400000
set_option linter.unusedSimpArgs false
def bO:ObK:=⟨1,[97,98]⟩
def xO:IdL:=idK bO
def tE:EntL:=⟨[102],1,xO⟩
def tO:ObK:=⟨2,qe_ [tE]⟩
def yO:IdL:=idK tO
theorem aki_:rdK bO=true:=by decide
theorem afO_:qE_ [tE]=true:=by decide+kernel
theorem aj8_:rdK tO=true:=VW_ afO_
theorem aiQ_:xO≠yO:=by decide+kernel
theorem aj5_:q5_ 2 (qe_ [tE])= [⟨xO,1⟩]:=by
 unfold q5_
 rw[VW_ afO_,if_pos rfl,if_pos rfl,JB_ fun x hx=>by
  rw[List.mem_singleton.1 hx];decide]
 rfl
theorem al6_:q5_ 1 [97,98]= []:=by
 unfold q5_
 rw[show xx_ 1 [97,98]=true from aki_];rfl
theorem alj_ {Z:List EntL} (h:SortOf [tE] Z):Z= [tE]:=h.eq ⟨rfl,List.pairwise_singleton _ _,StP.St.refl _ _⟩
theorem alt_ {x y:IdL} (h:x≠y): (x2_ [y,x]).length=2:=by
 show(Z8_ x [y]).length=2
 unfold Z8_
 split
 ·rfl
 ·rw[if_neg (by simp only[beq_iff_eq];exact fun e=>h (IdL.ext2 e.symm))];rfl
theorem afJ_ {s:x1_} {x y:IdL} (hxy:x≠y) (hy: (s y).2=true) (hx: (s x).2=true) (hk: (s x).1.k=1) (ky:jW_ s y= [⟨x,1⟩]) (kx:jW_ s x= []) {W:WkS} (h:WkI s [y] W) (hq:W.q= []): (x2_ W.ms).length=2∧xl_ W.lk= []:=by
 have fy:jX_ s ⟨y,0⟩=true:=by unfold jX_;rw[hy];rfl
 have fx:jX_ s ⟨x,1⟩=true:=by unfold jX_;rw[hx,hk];rfl
 have ry:ReachK s [y] ⟨y,0⟩:= .root (List.mem_singleton.2 rfl)
 have rx:ReachK s [y] ⟨x,1⟩:= .kid ry fy (by show _∈jW_ s y;rw[ky];exact List.mem_singleton.2 rfl)
 have hr: ∀c,ReachK s [y] c→c=⟨y,0⟩∨c=⟨x,1⟩:=by
  intro c hc
  induction hc with
  |root hi=>rw[List.mem_singleton] at hi;subst hi;exact .inl rfl
  |kid _ hf hd ih=>
   rcases ih with rfl|rfl
   ·have hd':_∈jW_ s y:=hd
    rw[ky,List.mem_singleton] at hd';exact .inr hd'
   ·have hd':_∈jW_ s x:=hd
    rw[kx] at hd';cases hd'
 constructor
 ·rw[QO_ (b:= [y,x]) fun i=> ?_]
  ·exact alt_ hxy
  ·rw[h.marked hq]
   simp only[List.mem_cons,List.not_mem_nil,or_false]
   constructor
   ·rintro⟨c,h1,h2,rfl⟩
    rcases hr c h1 with rfl|rfl
    ·exact .inl rfl
    ·exact .inr rfl
   ·rintro(rfl|rfl)
    ·exact⟨_,ry,fy,rfl⟩
    ·exact⟨_,rx,fx,rfl⟩
 ·have:W.lk= []:=List.eq_nil_iff_forall_not_mem.2 fun c hc=>by
   obtain⟨h1,h2⟩:=(h.missing hq c).1 hc
   rcases hr c h1 with rfl|rfl
   ·rw[fy] at h2;cases h2
   ·rw[fx] at h2;cases h2
  rw[this];rfl
theorem ag3_ {s:x1_} {x y:IdL} (hy: (s y).2=true) (hx: (s x).2=false) (ky:jW_ s y= [⟨x,1⟩]) {W:WkS} (h:WkI s [y] W) (hq:W.q= []): (x2_ W.ms).length=1∧xl_ W.lk= [x]:=by
 have fy:jX_ s ⟨y,0⟩=true:=by unfold jX_;rw[hy];rfl
 have fx:jX_ s ⟨x,1⟩=false:=by unfold jX_;rw[hx];rfl
 have ry:ReachK s [y] ⟨y,0⟩:= .root (List.mem_singleton.2 rfl)
 have rx:ReachK s [y] ⟨x,1⟩:= .kid ry fy (by show _∈jW_ s y;rw[ky];exact List.mem_singleton.2 rfl)
 have hr: ∀c,ReachK s [y] c→c=⟨y,0⟩∨c=⟨x,1⟩:=by
  intro c hc
  induction hc with
  |root hi=>rw[List.mem_singleton] at hi;subst hi;exact .inl rfl
  |kid _ hf hd ih=>
   rcases ih with rfl|rfl
   ·have hd':_∈jW_ s y:=hd
    rw[ky,List.mem_singleton] at hd';exact .inr hd'
   ·rw[fx] at hf;cases hf
 constructor
 ·rw[QO_ (b:= [y]) fun i=> ?_]
  ·rfl
  ·rw[h.marked hq,List.mem_singleton]
   constructor
   ·rintro⟨c,h1,h2,rfl⟩
    rcases hr c h1 with rfl|rfl
    ·rfl
    ·rw[fx] at h2;cases h2
   ·rintro rfl
    exact⟨_,ry,fy,rfl⟩
 ·unfold xl_
  rw[QO_ (b:= [x]) fun i=> ?_]
  ·rfl
  ·rw[List.mem_map,List.mem_singleton]
   constructor
   ·rintro⟨c,h1,rfl⟩
    obtain⟨h2,h3⟩:=(h.missing hq c).1 h1
    rcases hr c h2 with rfl|rfl
    ·rw[fy] at h3;cases h3
    ·rfl
   ·rintro rfl
    exact⟨_,(h.missing hq _).2 ⟨rx,fx⟩,rfl⟩
theorem Vv_:NoCl [bO,tO]:=by
 intro a ha b hb _ _ he
 simp only[List.mem_cons,List.not_mem_nil,or_false] at ha hb
 rcases ha with rfl|rfl<;>rcases hb with rfl|rfl
 ·rfl
 ·exact absurd he aiQ_
 ·exact absurd he.symm aiQ_
 ·rfl
theorem adl_:NoCl [tO]:=by
 intro a ha b hb _ _ _
 rw[List.mem_singleton] at ha hb
 rw[ha,hb]
theorem akD_:qk_ (ja_ [bO,tO]) xO=(bO,true)∧qk_ (ja_ [bO,tO]) yO=(tO,true):=by
 rw[JT_ Vv_]
 exact⟨act_ Vv_ (by simp) aki_,act_ Vv_ (by simp) aj8_⟩
theorem akj_: (qk_ (ja_ [tO]) xO).2=false∧qk_ (ja_ [tO]) yO=(tO,true):=by
 rw[JT_ adl_]
 refine⟨?_,act_ adl_ (by simp) aj8_⟩
 cases h: (srcD [tO] xO).2 with
 |false=>rfl
 |true=>
  obtain⟨o,h1,-,h3,-⟩:=akk_ h
  rw[List.mem_singleton] at h1
  subst h1
  exact absurd h3.symm aiQ_
theorem ZG_ {W:WkS} (h:WkI (qk_ (ja_ [bO,tO])) [yO] W) (hq:W.q= []): (x2_ W.ms).length=2∧xl_ W.lk= []:=by
 obtain⟨h1,h2⟩:=akD_
 refine afJ_ aiQ_ (by rw[h2]) (by rw[h1]) (by rw[h1];rfl) ?_ ?_ h hq
 ·unfold jW_;rw[h2];exact aj5_
 ·unfold jW_;rw[h1];exact al6_
theorem ZE_ {W:WkS} (h:WkI (qk_ (ja_ [tO])) [yO] W) (hq:W.q= []): (x2_ W.ms).length=1∧xl_ W.lk= [xO]:=by
 obtain⟨h1,h2⟩:=akj_
 refine ag3_ (by rw[h2]) h1 ?_ h hq
 unfold jW_;rw[h2];exact aj5_
theorem Kr_ (k k':Int) (t t':List UInt8):ky_ Tryz.prog 22 2 [(0,obV k t),(1,obV k' t')]=some (35, #[vi k,vs t,vi k',vs t']):=id (by kernel_rfl)
theorem KA_ {w:World} {b:Nat} {k k':Int} {t t':List UInt8} (h:w.heap[b]? =some (.cells #[vi k,vs t,vi k',vs t'] 35 (0,0))):RowX 2 k7_ jV_ w (vsl b 0 2 2) [⟨k,t⟩,⟨k',t'⟩] []:=by
 have hs:SlV 2 k7_ jV_ w (vsl b 0 2 2) [⟨k,t⟩,⟨k',t'⟩]:=SlV.sl (l:=([⟨k,t⟩,⟨k',t'⟩]:List ObK)) h (fun i hi j hj=>by
  have h2:i=0∨i=1:=by simp at hi;omega
  have h3:j=0∨j=1:=by omega
  rcases h2 with rfl|rfl<;>rcases h3 with rfl|rfl<;>rfl) (by simp) (by simp)
 exact SlV.rowX hs
theorem KJ_ {w:World} {b:Nat} {k:Int} {t:List UInt8} (h:w.heap[b]? =some (.cells #[vi k,vs t] 35 (0,0))):RowX 2 k7_ jV_ w (vsl b 0 1 1) [⟨k,t⟩] []:=by
 have hs:SlV 2 k7_ jV_ w (vsl b 0 1 1) [⟨k,t⟩]:=SlV.sl (l:=([⟨k,t⟩]:List ObK)) h (fun i hi j hj=>by
  obtain rfl:i=0:=by simp at hi;omega
  have h3:j=0∨j=1:=by omega
  rcases h3 with rfl|rfl<;>rfl) (by simp) (by simp)
 exact SlV.rowX hs
theorem Zz_ {w:World} {b:Nat} {x:IdL} (h:w.heap[b]? =some (.cells (zW_ x).toArray 24 (0,0))):RowX 32 zW_ id0 w (vsl b 0 1 1) [x] []:=
 SlV.rowX (SlV.sl (l:= [x]) h (fun i hi j hj=>by
  obtain rfl:i=0:=by simp at hi;omega
  simp) (by simp) (by simp[z3_]))
theorem ahU_ {w:World} {b:Nat} {x:EntL} (h:w.heap[b]? =some (.cells (zM_ x).toArray 117 (0,0))):EntS w (vsl b 0 1 1) [x]:=
 SlV.sl (l:= [x]) h (fun i hi j hj=>by
  obtain rfl:i=0:=by simp at hi;omega
  simp) (by simp) (by simp[zP_])
theorem aeC_ (x:EntL):ky_ Tryz.prog 122 1 [(0, .agg (zM_ x).toArray)]=some (117,(zM_ x).toArray):=qj_ Tryz.underlying122 Jb_ vv_ (by decide) (zP_ x)
theorem WS_ (k:Int) (t:List UInt8):ky_ Tryz.prog 22 1 [(0,obV k t)]=some (35, #[vi k,vs t]):=WM_ ⟨k,t⟩
set_option linter.defProp false
def jJ_:=And.intro (And.intro (And.intro (@qV_) (@qv_)) (And.intro (@qu_) (And.intro (@qs_) (@kE_)))) (And.intro (And.intro (@Sx.tup2_0) (And.intro (@Sx.tup2_1) (@zH_))) (And.intro (@zG_) (And.intro (@jn_) (@ad9_))))
theorem jD_ {D:zh_} {E:TypeId} {m n:Nat} {v:Value} {cs:List Value} (h:GrI D E m v n cs) (x:Bool×Nat):QG_ (.sl x) v=some (vi n):=by
 obtain⟨X,-,h⟩:=h;exact h.len x
def RowOne (G:zh_) (v:Value) (x:IdL):Prop:= ∃bb off arr E,(bb,Obj.cells arr E (0,0))∈G∧(∀a,z0_ (.sl (a,32)) v (some 0)=some (vp bb off))∧zx_ (some (true,32)) (some (.cells arr E (0,0))) off=some (.agg (a8 x.l))
theorem RowOne.mono {G G':zh_} {v:Value} {x:IdL} (h:RowOne G v x) (hG: ∀p,p∈G→p∈G'):RowOne G' v x:=by
 obtain⟨bb,off,arr,E,h1,h2⟩:=h
 exact⟨bb,off,arr,E,hG _ h1,h2⟩
theorem abj_ {D:zh_} {v:Value} {x:IdL} {n:Nat} {cs:List Value} (h:GrI D 24 32 v n cs) (hn:n=1) (hc:cs=zW_ x):RowOne D v x:=by
 subst hn hc
 obtain⟨X,hX,h⟩:=h
 rcases h with h| ⟨h,-⟩
 ·rcases h.inv with⟨-,h,-⟩ | ⟨b,c,rest,rfl,hl,-⟩
  ·omega
  ·refine⟨b,0,_,_,hX _ (zD_ hl),fun a=> ?_, ?_⟩
   ·have:=qN_ (a,32) b 0 1 c 0 ⟨by omega,by omega⟩
    simpa using this
   ·have:=xz_ [] (zW_ x) rest 24 (0,0) rfl (z3_ x)
    rw[Zw_] at this
    simpa using this
 ·omega
structure AlG where
 a:Value
 b:Value
 G:zh_
theorem jH_ (w:World) (hG:GlobE w):Rets Tryz.prog 13 #[] w (fun v D=>v= .bool true∧D= []):=by
 refine Rets.enterV Tryz.func13 rfl (rs:= [.tmp 0]) Tryz.results13 Tryz.ntmps13 ?_
 refine kf ?_
 first|with_reducible refine ks [1000005,1000006] @jJ_ ?_|refine kp @jJ_ ?_
 refine Ow.callFV rfl Tryz.call65 (fun w' hw'=>ag1_ [97,98] w') ?_
 rw[show abz_ 1 [97,98] true=1 from rfl,show abF_ 1 [97,98] true= [97,98] from rfl,show abr_ 1 [97,98] true=0 from rfl]
 refine ko @jJ_ ?_
 refine Ow.alloc rfl rfl VH_ fun b1 hb1 hw1=> ?_
 simp only[zd_,List.nil_append,List.cons_append]
 refine ko @jJ_ ?_
 first|with_reducible refine ks [] @jJ_ ?_|refine kp @jJ_ ?_
 refine Ow.callFV rfl Tryz.call66 (fun w' hw'=>Vg_ 1 [97,98] w' (hG.new hw' ⟨hw1,trivial⟩)) ?_
 rw[show idV 1 [97,98]=xO from rfl,show xx_ 1 [97,98]=true from aki_]
 have hxh:=xO.h
 have hyh:=yO.h
 have hi0:=id0.h
 generalize hx:xO=x at*
 refine ko @jJ_ ?_
 refine Ow.alloc rfl rfl Qj_ fun b3 hb3 hw3=> ?_
 simp only[zd_,List.nil_append,List.cons_append]
 have h13:b1<b3:=ze_ hb3 (by simp[keys])
 refine Ow.permL (M:= [(b3, .cells (a8 id0.l) 24 (0,0)),(b1, .cells #[vi 1,vs [97,98]] 35 (0,0))]) (by classical exact List.perm_iff_count.2 fun a=>by simp only[List.count_append,List.count_cons,List.count_nil]<;>omega) ?_
 refine ko @jJ_ ?_
 have htE:tE=⟨[102],1,x⟩:=by rw[←hx];rfl
 first|with_reducible refine ks [] @jJ_ ?_|refine kp @jJ_ ?_
 refine Ow.build (.agg (zM_ tE).toArray) rfl (by rw[htE];exact ahx_ ⟨[102],1,x⟩) ?_
 refine ko @jJ_ ?_
 refine Ow.buildSlice (e:=117) (zM_ tE).toArray rfl rfl (aeC_ tE) fun be hbe hwe=> ?_
 refine ko @jJ_ ?_
 refine Ow.callC rfl rfl Tryz.call67 (fun w' hw'=>aeA_ _ [tE] w' (ahU_ (hw'.has be (.cells (zM_ tE).toArray 117 (0,0)) (by simp))) (by simp) (by rw[htE];intro e he;obtain rfl:=List.mem_singleton.1 he;show 1<10000;omega)) (fun B2 v2 D2 hA2 hB2 hN2 hS2=> ?_)
 obtain⟨Z,hZ,rfl⟩:=hS2
 rw[alj_ hZ]
 obtain⟨T,hT⟩: ∃T,T=qe_ [tE]:=⟨_,rfl⟩
 rw[←hT]
 have hTr:xx_ 2 T=true:=by rw[hT];exact aj8_
 rw[show abz_ 2 T (qE_ [tE])=2 by unfold abz_;rw[afO_,hTr];rfl,show abF_ 2 T (qE_ [tE])=T by unfold abF_;rw[afO_,hTr];rfl,show abr_ 2 T (qE_ [tE])=0 by unfold abr_;rw[afO_,hTr];rfl]
 have htO:tO=⟨2,T⟩:=by rw[hT];rfl
 have hyT:idV 2 T=yO:=by rw[hT];rfl
 refine ko @jJ_ ?_
 refine Ow.alloc rfl rfl VH_ fun b5 hb5 hw5=> ?_
 simp only[zd_,List.nil_append,List.cons_append]
 have h15:b1<b5:=ze_ hb5 (by simp[keys])
 have h35:b3<b5:=ze_ hb5 (by simp[keys])
 have hNg:New w.heap.size ((be,Obj.cells (zM_ tE).toArray 117 (0,0))::D2):=⟨hwe,hN2.mono hB2⟩
 refine Ow.permL (M:=(b5, .cells #[vi 0,vs []] 35 (0,0)):: (b3, .cells (a8 x.l) 24 (0,0)):: (b1, .cells #[vi 1,vs [97,98]] 35 (0,0)):: ((be,Obj.cells (zM_ tE).toArray 117 (0,0))::D2)) (by classical exact List.perm_iff_count.2 fun a=>by simp only[List.count_append,List.count_cons,List.count_nil]<;>omega) ?_
 generalize (be,Obj.cells (zM_ tE).toArray 117 (0,0))::D2=G at*
 refine ko @jJ_ ?_
 first|with_reducible refine ks [] @jJ_ ?_|refine kp @jJ_ ?_
 refine Ow.callFV rfl Tryz.call66 (fun w' hw'=>Vg_ 2 T w' (hG.new hw' ⟨hw5,hw3,hw1,hNg⟩)) ?_
 rw[hyT,hTr]
 generalize hy:yO=y at*
 refine ko @jJ_ ?_
 refine Ow.alloc rfl rfl Qj_ fun b7 hb7 hw7=> ?_
 simp only[zd_,List.nil_append,List.cons_append]
 have h17:b1<b7:=ze_ hb7 (by simp[keys])
 have h37:b3<b7:=ze_ hb7 (by simp[keys])
 have h57:b5<b7:=ze_ hb7 (by simp[keys])
 refine Ow.permL (M:=(b7, .cells (a8 id0.l) 24 (0,0)):: (b5, .cells #[vi 2,vs T] 35 (0,0)):: (b3, .cells (a8 x.l) 24 (0,0)):: (b1, .cells #[vi 1,vs [97,98]] 35 (0,0))::G) (by classical exact List.perm_iff_count.2 fun a=>by simp only[List.count_append,List.count_cons,List.count_nil]<;>omega) ?_
 refine ko @jJ_ ?_
 refine Cw.cutO (G:=AlG) [34,35,36,37,38,39,40,41,42,43,9,10] (fun g=> [(9,g.a),(10,g.b)]) (fun g=>(b7, .cells (a8 y.l) 24 (0,0)):: (b5, .cells #[vi 2,vs T] 35 (0,0)):: (b3, .cells (a8 x.l) 24 (0,0)):: (b1, .cells #[vi 1,vs [97,98]] 35 (0,0))::g.G) (fun g=>New w.heap.size g.G∧(∀x,QG_ (.sl x) g.a=some (vi 2))∧(∀x,QG_ (.sl x) g.b=some (vi 0))) ?_ ?_
 ·have hN7:New w.heap.size ((b7, .cells (a8 y.l) 24 (0,0)):: (b5, .cells #[vi 2,vs T] 35 (0,0)):: (b3, .cells (a8 x.l) 24 (0,0)):: (b1, .cells #[vi 1,vs [97,98]] 35 (0,0))::G):=⟨hw7,hw5,hw3,hw1,hNg⟩
  have m7: ∀r,r∈ [b1,b5,b7]→r∈keys ((b7, .cells (a8 y.l) 24 (0,0)):: (b5, .cells #[vi 2,vs T] 35 (0,0)):: (b3, .cells (a8 x.l) 24 (0,0)):: (b1, .cells #[vi 1,vs [97,98]] 35 (0,0))::G):=fun r hr=>by
   simp only[List.mem_cons,List.not_mem_nil,or_false] at hr
   rcases hr with rfl|rfl|rfl<;>simp[keys]
  have r1:zt_ w ((b7, .cells (a8 y.l) 24 (0,0)):: (b5, .cells #[vi 2,vs T] 35 (0,0)):: (b3, .cells (a8 x.l) 24 (0,0)):: (b1, .cells #[vi 1,vs [97,98]] 35 (0,0))::G) b1=some (.cells #[vi 1,vs [97,98]] 35 (0,0)):=by rw[zv_ _ _ _ _ _ (by omega),zv_ _ _ _ _ _ (by omega),zv_ _ _ _ _ _ (by omega)];exact zU_ _ _ _ _
  have r5:zt_ w ((b7, .cells (a8 y.l) 24 (0,0)):: (b5, .cells #[vi 2,vs T] 35 (0,0)):: (b3, .cells (a8 x.l) 24 (0,0)):: (b1, .cells #[vi 1,vs [97,98]] 35 (0,0))::G) b5=some (.cells #[vi 2,vs T] 35 (0,0)):=by rw[zv_ _ _ _ _ _ (by omega)];exact zU_ _ _ _ _
  have r7:zt_ w ((b7, .cells (a8 y.l) 24 (0,0)):: (b5, .cells #[vi 2,vs T] 35 (0,0)):: (b3, .cells (a8 x.l) 24 (0,0)):: (b1, .cells #[vi 1,vs [97,98]] 35 (0,0))::G) b7=some (.cells (a8 y.l) 24 (0,0)):=zU_ _ _ _ _
  have hp7: ∀D Z:zh_,D.Perm (((b7, .cells (a8 y.l) 24 (0,0)):: (b5, .cells #[vi 2,vs T] 35 (0,0)):: (b3, .cells (a8 x.l) 24 (0,0)):: (b1, .cells #[vi 1,vs [97,98]] 35 (0,0))::G)++Z)→(D.Perm ((b7, .cells (a8 y.l) 24 (0,0)):: (b5, .cells #[vi 2,vs T] 35 (0,0)):: (b3, .cells (a8 x.l) 24 (0,0)):: (b1, .cells #[vi 1,vs [97,98]] 35 (0,0)):: (G++Z))):=fun D Z h=>h.trans (by simp)
  obtain⟨L7,hL7⟩: ∃L7,L7=(b7, .cells (a8 y.l) 24 (0,0)):: (b5, .cells #[vi 2,vs T] 35 (0,0)):: (b3, .cells (a8 x.l) 24 (0,0)):: (b1, .cells #[vi 1,vs [97,98]] 35 (0,0))::G:=⟨_,rfl⟩
  rw[←hL7] at hN7 m7 r1 r5 r7 hp7 ⊢
  refine Cw.regionG [b1,b5,b7] [] 12 (by kernel_rfl) rfl ?_
  simp only[List.replicate_succ,List.replicate_zero]
  refine OwG.run [0,1,4] [true,true,false,false,true,false,false,false,false,false,false,false] 9 rfl (by kernel_rfl) (by kernel_rfl) fun k hk=> ?_
  simp only[zg_, ↓zc_, ↓za_, ↓zk_, ↓zj_,zb_]
  simp(disch:=(first|assumption|omega| (simp only[qQ_,qO_,UInt64.reduceToNat];try omega))) only[↓Sx.S0,Sx.S1,Tryz.fx,jJ_,Nat.reduceAdd,Nat.reducePow,Int.reducePow,Nat.reduceBEq, ↓reduceIte,UInt8.reduceToNat,UInt16.reduceToNat,UInt32.reduceToNat,UInt64.reduceToNat,Int.reduceToNat,Md.next_sofnil,r1,r5,r7]
  (with_reducible refine hk _ _ _ ?_);clear hk k
  refine OwG.two 2 5 _ _ (by kernel_rfl) rfl rfl ?_ ?_
  ·refine Ow.buildSlice (e:=35) #[vi 1,vs [97,98],vi 2,vs T] rfl rfl (Kr_ 1 2 [97,98] T) fun bo hbo hwo=> ?_
   with_reducible refine Ow.nil ?_
   refine⟨(zo_ (fun r hr=>by(try simp only[zf_,List.mem_append]);(first|exact m7 r hr|simp only[m7 r hr,true_or]))), ?_⟩
   simp only[List.set_cons_zero,List.set_cons_succ,zl_,zy_,zz_]
   have hNo:New w.heap.size [(bo,Obj.cells #[vi 1,vs [97,98],vi 2,vs T] 35 (0,0))]:=⟨hwo,trivial⟩
   refine OwG.two 3 5 _ _ (by kernel_rfl) rfl rfl ?_ ?_
   ·refine Ow.callC rfl rfl Tryz.call16 (fun w' hw'=>vd_ _ [⟨1,[97,98]⟩,⟨2,T⟩] w' (hG.new hw' (hN7.app hNo)) (KA_ (hw'.has bo (.cells #[vi 1,vs [97,98],vi 2,vs T] 35 (0,0)) (by simp))) (by simp)) (fun B8 v8 D8 hA8 hB8 hN8 hS8=> ?_)
    have hN8':=hN8.mono hB8
    with_reducible refine Ow.nil ?_
    refine⟨(zo_ (fun r hr=>by(try simp only[zf_,List.mem_append]);(first|exact m7 r hr|simp only[m7 r hr,true_or]))), ?_⟩
    simp only[List.set_cons_zero,List.set_cons_succ,zl_,zy_,zz_]
    refine OwG.one 5 _ (by kernel_rfl) rfl ?_
    refine Ow.buildSlice (e:=24) (zW_ y).toArray rfl rfl (j8_ y) fun bi hbi hwi=> ?_
    with_reducible refine Ow.nil ?_
    refine⟨(zo_ (fun r hr=>by(try simp only[zf_,List.mem_append]);(first|exact m7 r hr|simp only[m7 r hr,true_or]))), ?_⟩
    simp only[List.set_cons_zero,List.set_cons_succ,zl_,zy_,zz_]
    have hNi:New w.heap.size [(bi,Obj.cells (zW_ y).toArray 24 (0,0))]:=⟨hwi,trivial⟩
    refine OwG.one 6 _ (by kernel_rfl) rfl ?_
    refine Ow.callC rfl rfl Tryz.call29 (fun w' hw'=>j1_ v8 (ja_ [⟨1,[97,98]⟩,⟨2,T⟩]) _ [y] w' ((hS8.mono (fun p hp=>by simp[hp])).W hw') (Zz_ (hw'.has bi (.cells (zW_ y).toArray 24 (0,0)) (by simp))) (by simp) (Nat.le_trans (xS_ _) (by simp))) (fun B9 v9 D9 hA9 hB9 hN9 hS9=> ?_)
    have hN9':=hN9.mono hB9
    obtain⟨Wf,va,vb,hWf,hqf,-,-,rfl,hga,hgb⟩:=hS9
    obtain⟨hla,hlb⟩:=ZG_ (by rw[hy,htO];exact hWf) hqf
    rw[hla] at hga
    rw[hlb] at hgb
    with_reducible refine Ow.nil ?_
    refine⟨(zo_ (fun r hr=>by(try simp only[zf_,List.mem_append]);(first|exact m7 r hr|simp only[m7 r hr,true_or]))), ?_⟩
    simp only[List.set_cons_zero,List.set_cons_succ,zl_,zy_,zz_]
    refine OwG.rest [7,8,9,10,11] rfl (by kernel_rfl) (by kernel_rfl) ?_
    simp only[zg_, ↓zc_, ↓za_, ↓zk_, ↓zj_,zb_]
    refine kq @jJ_ ?_
    subst hL7
    exact CutO.mk ⟨va,vb,G++ [(bo,Obj.cells #[vi 1,vs [97,98],vi 2,vs T] 35 (0,0))]++D8++ [(bi,Obj.cells (zW_ y).toArray 24 (0,0))]++D9⟩ ⟨(((hNg.app hNo).app hN8').app hNi).app hN9',jD_ hga,jD_ hgb⟩ rfl rfl
   ·refine Ow.buildSlice (e:=24) (zW_ y).toArray rfl rfl (j8_ y) fun bi hbi hwi=> ?_
    with_reducible refine Ow.nil ?_
    refine⟨(zo_ (fun r hr=>by(try simp only[zf_,List.mem_append]);(first|exact m7 r hr|simp only[m7 r hr,true_or]))), ?_⟩
    simp only[List.set_cons_zero,List.set_cons_succ,zl_,zy_,zz_]
    have hNi:New w.heap.size [(bi,Obj.cells (zW_ y).toArray 24 (0,0))]:=⟨hwi,trivial⟩
    refine OwG.one 3 _ (by kernel_rfl) rfl ?_
    refine Ow.callC rfl rfl Tryz.call16 (fun w' hw'=>vd_ _ [⟨1,[97,98]⟩,⟨2,T⟩] w' (hG.new hw' ((hN7.app hNo).app hNi)) (KA_ (hw'.has bo (.cells #[vi 1,vs [97,98],vi 2,vs T] 35 (0,0)) (by simp))) (by simp)) (fun B8 v8 D8 hA8 hB8 hN8 hS8=> ?_)
    have hN8':=hN8.mono hB8
    with_reducible refine Ow.nil ?_
    refine⟨(zo_ (fun r hr=>by(try simp only[zf_,List.mem_append]);(first|exact m7 r hr|simp only[m7 r hr,true_or]))), ?_⟩
    simp only[List.set_cons_zero,List.set_cons_succ,zl_,zy_,zz_]
    refine OwG.one 6 _ (by kernel_rfl) rfl ?_
    refine Ow.callC rfl rfl Tryz.call29 (fun w' hw'=>j1_ v8 (ja_ [⟨1,[97,98]⟩,⟨2,T⟩]) _ [y] w' ((hS8.mono (fun p hp=>by simp[hp])).W hw') (Zz_ (hw'.has bi (.cells (zW_ y).toArray 24 (0,0)) (by simp))) (by simp) (Nat.le_trans (xS_ _) (by simp))) (fun B9 v9 D9 hA9 hB9 hN9 hS9=> ?_)
    have hN9':=hN9.mono hB9
    obtain⟨Wf,va,vb,hWf,hqf,-,-,rfl,hga,hgb⟩:=hS9
    obtain⟨hla,hlb⟩:=ZG_ (by rw[hy,htO];exact hWf) hqf
    rw[hla] at hga
    rw[hlb] at hgb
    with_reducible refine Ow.nil ?_
    refine⟨(zo_ (fun r hr=>by(try simp only[zf_,List.mem_append]);(first|exact m7 r hr|simp only[m7 r hr,true_or]))), ?_⟩
    simp only[List.set_cons_zero,List.set_cons_succ,zl_,zy_,zz_]
    refine OwG.rest [7,8,9,10,11] rfl (by kernel_rfl) (by kernel_rfl) ?_
    simp only[zg_, ↓zc_, ↓za_, ↓zk_, ↓zj_,zb_]
    refine kq @jJ_ ?_
    subst hL7
    exact CutO.mk ⟨va,vb,G++ [(bo,Obj.cells #[vi 1,vs [97,98],vi 2,vs T] 35 (0,0))]++ [(bi,Obj.cells (zW_ y).toArray 24 (0,0))]++D8++D9⟩ ⟨(((hNg.app hNo).app hNi).app hN8').app hN9',jD_ hga,jD_ hgb⟩ rfl rfl
  ·refine Ow.buildSlice (e:=24) (zW_ y).toArray rfl rfl (j8_ y) fun bi hbi hwi=> ?_
   with_reducible refine Ow.nil ?_
   refine⟨(zo_ (fun r hr=>by(try simp only[zf_,List.mem_append]);(first|exact m7 r hr|simp only[m7 r hr,true_or]))), ?_⟩
   simp only[List.set_cons_zero,List.set_cons_succ,zl_,zy_,zz_]
   have hNi:New w.heap.size [(bi,Obj.cells (zW_ y).toArray 24 (0,0))]:=⟨hwi,trivial⟩
   refine OwG.one 2 _ (by kernel_rfl) rfl ?_
   refine Ow.buildSlice (e:=35) #[vi 1,vs [97,98],vi 2,vs T] rfl rfl (Kr_ 1 2 [97,98] T) fun bo hbo hwo=> ?_
   with_reducible refine Ow.nil ?_
   refine⟨(zo_ (fun r hr=>by(try simp only[zf_,List.mem_append]);(first|exact m7 r hr|simp only[m7 r hr,true_or]))), ?_⟩
   simp only[List.set_cons_zero,List.set_cons_succ,zl_,zy_,zz_]
   have hNo:New w.heap.size [(bo,Obj.cells #[vi 1,vs [97,98],vi 2,vs T] 35 (0,0))]:=⟨hwo,trivial⟩
   refine OwG.one 3 _ (by kernel_rfl) rfl ?_
   refine Ow.callC rfl rfl Tryz.call16 (fun w' hw'=>vd_ _ [⟨1,[97,98]⟩,⟨2,T⟩] w' (hG.new hw' ((hN7.app hNi).app hNo)) (KA_ (hw'.has bo (.cells #[vi 1,vs [97,98],vi 2,vs T] 35 (0,0)) (by simp))) (by simp)) (fun B8 v8 D8 hA8 hB8 hN8 hS8=> ?_)
   have hN8':=hN8.mono hB8
   with_reducible refine Ow.nil ?_
   refine⟨(zo_ (fun r hr=>by(try simp only[zf_,List.mem_append]);(first|exact m7 r hr|simp only[m7 r hr,true_or]))), ?_⟩
   simp only[List.set_cons_zero,List.set_cons_succ,zl_,zy_,zz_]
   refine OwG.one 6 _ (by kernel_rfl) rfl ?_
   refine Ow.callC rfl rfl Tryz.call29 (fun w' hw'=>j1_ v8 (ja_ [⟨1,[97,98]⟩,⟨2,T⟩]) _ [y] w' ((hS8.mono (fun p hp=>by simp[hp])).W hw') (Zz_ (hw'.has bi (.cells (zW_ y).toArray 24 (0,0)) (by simp))) (by simp) (Nat.le_trans (xS_ _) (by simp))) (fun B9 v9 D9 hA9 hB9 hN9 hS9=> ?_)
   have hN9':=hN9.mono hB9
   obtain⟨Wf,va,vb,hWf,hqf,-,-,rfl,hga,hgb⟩:=hS9
   obtain⟨hla,hlb⟩:=ZG_ (by rw[hy,htO];exact hWf) hqf
   rw[hla] at hga
   rw[hlb] at hgb
   with_reducible refine Ow.nil ?_
   refine⟨(zo_ (fun r hr=>by(try simp only[zf_,List.mem_append]);(first|exact m7 r hr|simp only[m7 r hr,true_or]))), ?_⟩
   simp only[List.set_cons_zero,List.set_cons_succ,zl_,zy_,zz_]
   refine OwG.rest [7,8,9,10,11] rfl (by kernel_rfl) (by kernel_rfl) ?_
   simp only[zg_, ↓zc_, ↓za_, ↓zk_, ↓zj_,zb_]
   refine kq @jJ_ ?_
   subst hL7
   exact CutO.mk ⟨va,vb,G++ [(bi,Obj.cells (zW_ y).toArray 24 (0,0))]++ [(bo,Obj.cells #[vi 1,vs [97,98],vi 2,vs T] 35 (0,0))]++D8++D9⟩ ⟨(((hNg.app hNi).app hNo).app hN8').app hN9',jD_ hga,jD_ hgb⟩ rfl rfl
 intro g j hg
 refine kv ?_
 obtain⟨va1,vb1,G1⟩:=g
 simp only at hg ⊢
 obtain⟨hNg1,hl1,hl2⟩:=hg
 refine Cw.cutO (G:=AlG) [44,45,46,47,48,49,50,51,52,11,12] (fun g=> [(11,g.a),(12,g.b)]) (fun g=>(b7, .cells (a8 y.l) 24 (0,0)):: (b5, .cells #[vi 2,vs T] 35 (0,0)):: (b3, .cells (a8 x.l) 24 (0,0)):: (b1, .cells #[vi 1,vs [97,98]] 35 (0,0))::g.G) (fun g=>New w.heap.size g.G∧(∀x,QG_ (.sl x) g.a=some (vi 1))∧(∀x,QG_ (.sl x) g.b=some (vi 1))∧RowOne g.G g.b x) ?_ ?_
 ·have hN7:New w.heap.size ((b7, .cells (a8 y.l) 24 (0,0)):: (b5, .cells #[vi 2,vs T] 35 (0,0)):: (b3, .cells (a8 x.l) 24 (0,0)):: (b1, .cells #[vi 1,vs [97,98]] 35 (0,0))::G1):=⟨hw7,hw5,hw3,hw1,hNg1⟩
  have m7: ∀r,r∈ [b5,b7]→r∈keys ((b7, .cells (a8 y.l) 24 (0,0)):: (b5, .cells #[vi 2,vs T] 35 (0,0)):: (b3, .cells (a8 x.l) 24 (0,0)):: (b1, .cells #[vi 1,vs [97,98]] 35 (0,0))::G1):=fun r hr=>by
   simp only[List.mem_cons,List.not_mem_nil,or_false] at hr
   rcases hr with rfl|rfl<;>simp[keys]
  have r5:zt_ w ((b7, .cells (a8 y.l) 24 (0,0)):: (b5, .cells #[vi 2,vs T] 35 (0,0)):: (b3, .cells (a8 x.l) 24 (0,0)):: (b1, .cells #[vi 1,vs [97,98]] 35 (0,0))::G1) b5=some (.cells #[vi 2,vs T] 35 (0,0)):=by rw[zv_ _ _ _ _ _ (by omega)];exact zU_ _ _ _ _
  have r7:zt_ w ((b7, .cells (a8 y.l) 24 (0,0)):: (b5, .cells #[vi 2,vs T] 35 (0,0)):: (b3, .cells (a8 x.l) 24 (0,0)):: (b1, .cells #[vi 1,vs [97,98]] 35 (0,0))::G1) b7=some (.cells (a8 y.l) 24 (0,0)):=zU_ _ _ _ _
  obtain⟨L7,hL7⟩: ∃L7,L7=(b7, .cells (a8 y.l) 24 (0,0)):: (b5, .cells #[vi 2,vs T] 35 (0,0)):: (b3, .cells (a8 x.l) 24 (0,0)):: (b1, .cells #[vi 1,vs [97,98]] 35 (0,0))::G1:=⟨_,rfl⟩
  rw[←hL7] at hN7 m7 r5 r7 ⊢
  refine Cw.regionG [b5,b7] [] 11 (by kernel_rfl) rfl ?_
  simp only[List.replicate_succ,List.replicate_zero]
  refine OwG.run [0,3] [true,false,false,true,false,false,false,false,false,false,false] 9 rfl (by kernel_rfl) (by kernel_rfl) fun k hk=> ?_
  simp only[zg_, ↓zc_, ↓za_, ↓zk_, ↓zj_,zb_]
  simp(disch:=(first|assumption|omega| (simp only[qQ_,qO_,UInt64.reduceToNat];try omega))) only[↓Sx.S0,Sx.S1,Tryz.fx,jJ_,Nat.reduceAdd,Nat.reducePow,Int.reducePow,Nat.reduceBEq, ↓reduceIte,UInt8.reduceToNat,UInt16.reduceToNat,UInt32.reduceToNat,UInt64.reduceToNat,Int.reduceToNat,Md.next_sofnil,r5,r7]
  (with_reducible refine hk _ _ _ ?_);clear hk k
  refine OwG.two 1 4 _ _ (by kernel_rfl) rfl rfl ?_ ?_
  ·refine Ow.buildSlice (e:=35) #[vi 2,vs T] rfl rfl (WS_ 2 T) fun bo hbo hwo=> ?_
   with_reducible refine Ow.nil ?_
   refine⟨(zo_ (fun r hr=>by(try simp only[zf_,List.mem_append]);(first|exact m7 r hr|simp only[m7 r hr,true_or]))), ?_⟩
   simp only[List.set_cons_zero,List.set_cons_succ,zl_,zy_,zz_]
   have hNo:New w.heap.size [(bo,Obj.cells #[vi 2,vs T] 35 (0,0))]:=⟨hwo,trivial⟩
   refine OwG.two 2 4 _ _ (by kernel_rfl) rfl rfl ?_ ?_
   ·refine Ow.callC rfl rfl Tryz.call16 (fun w' hw'=>vd_ _ [⟨2,T⟩] w' (hG.new hw' (hN7.app hNo)) (KJ_ (hw'.has bo (.cells #[vi 2,vs T] 35 (0,0)) (by simp))) (by simp)) (fun B8 v8 D8 hA8 hB8 hN8 hS8=> ?_)
    have hN8':=hN8.mono hB8
    with_reducible refine Ow.nil ?_
    refine⟨(zo_ (fun r hr=>by(try simp only[zf_,List.mem_append]);(first|exact m7 r hr|simp only[m7 r hr,true_or]))), ?_⟩
    simp only[List.set_cons_zero,List.set_cons_succ,zl_,zy_,zz_]
    refine OwG.one 4 _ (by kernel_rfl) rfl ?_
    refine Ow.buildSlice (e:=24) (zW_ y).toArray rfl rfl (j8_ y) fun bi hbi hwi=> ?_
    with_reducible refine Ow.nil ?_
    refine⟨(zo_ (fun r hr=>by(try simp only[zf_,List.mem_append]);(first|exact m7 r hr|simp only[m7 r hr,true_or]))), ?_⟩
    simp only[List.set_cons_zero,List.set_cons_succ,zl_,zy_,zz_]
    have hNi:New w.heap.size [(bi,Obj.cells (zW_ y).toArray 24 (0,0))]:=⟨hwi,trivial⟩
    refine OwG.one 5 _ (by kernel_rfl) rfl ?_
    refine Ow.callC rfl rfl Tryz.call29 (fun w' hw'=>j1_ v8 (ja_ [⟨2,T⟩]) _ [y] w' ((hS8.mono (fun p hp=>by simp[hp])).W hw') (Zz_ (hw'.has bi (.cells (zW_ y).toArray 24 (0,0)) (by simp))) (by simp) (Nat.le_trans (xS_ _) (by simp))) (fun B9 v9 D9 hA9 hB9 hN9 hS9=> ?_)
    have hN9':=hN9.mono hB9
    obtain⟨Wf,va,vb,hWf,hqf,-,-,rfl,hga,hgb⟩:=hS9
    obtain⟨hla,hlb⟩:=ZE_ (by rw[hy,htO];exact hWf) hqf
    rw[hla] at hga
    rw[hlb] at hgb
    with_reducible refine Ow.nil ?_
    refine⟨(zo_ (fun r hr=>by(try simp only[zf_,List.mem_append]);(first|exact m7 r hr|simp only[m7 r hr,true_or]))), ?_⟩
    simp only[List.set_cons_zero,List.set_cons_succ,zl_,zy_,zz_]
    refine OwG.rest [6,7,8,9,10] rfl (by kernel_rfl) (by kernel_rfl) ?_
    simp only[zg_, ↓zc_, ↓za_, ↓zk_, ↓zj_,zb_]
    refine kq @jJ_ ?_
    subst hL7
    exact CutO.mk ⟨va,vb,G1++ [(bo,Obj.cells #[vi 2,vs T] 35 (0,0))]++D8++ [(bi,Obj.cells (zW_ y).toArray 24 (0,0))]++D9⟩ ⟨(((hNg1.app hNo).app hN8').app hNi).app hN9',jD_ hga,jD_ hgb,(abj_ hgb rfl (by simp[hx])).mono (fun p hp=>by simp[hp])⟩ rfl rfl
   ·refine Ow.buildSlice (e:=24) (zW_ y).toArray rfl rfl (j8_ y) fun bi hbi hwi=> ?_
    with_reducible refine Ow.nil ?_
    refine⟨(zo_ (fun r hr=>by(try simp only[zf_,List.mem_append]);(first|exact m7 r hr|simp only[m7 r hr,true_or]))), ?_⟩
    simp only[List.set_cons_zero,List.set_cons_succ,zl_,zy_,zz_]
    have hNi:New w.heap.size [(bi,Obj.cells (zW_ y).toArray 24 (0,0))]:=⟨hwi,trivial⟩
    refine OwG.one 2 _ (by kernel_rfl) rfl ?_
    refine Ow.callC rfl rfl Tryz.call16 (fun w' hw'=>vd_ _ [⟨2,T⟩] w' (hG.new hw' ((hN7.app hNo).app hNi)) (KJ_ (hw'.has bo (.cells #[vi 2,vs T] 35 (0,0)) (by simp))) (by simp)) (fun B8 v8 D8 hA8 hB8 hN8 hS8=> ?_)
    have hN8':=hN8.mono hB8
    with_reducible refine Ow.nil ?_
    refine⟨(zo_ (fun r hr=>by(try simp only[zf_,List.mem_append]);(first|exact m7 r hr|simp only[m7 r hr,true_or]))), ?_⟩
    simp only[List.set_cons_zero,List.set_cons_succ,zl_,zy_,zz_]
    refine OwG.one 5 _ (by kernel_rfl) rfl ?_
    refine Ow.callC rfl rfl Tryz.call29 (fun w' hw'=>j1_ v8 (ja_ [⟨2,T⟩]) _ [y] w' ((hS8.mono (fun p hp=>by simp[hp])).W hw') (Zz_ (hw'.has bi (.cells (zW_ y).toArray 24 (0,0)) (by simp))) (by simp) (Nat.le_trans (xS_ _) (by simp))) (fun B9 v9 D9 hA9 hB9 hN9 hS9=> ?_)
    have hN9':=hN9.mono hB9
    obtain⟨Wf,va,vb,hWf,hqf,-,-,rfl,hga,hgb⟩:=hS9
    obtain⟨hla,hlb⟩:=ZE_ (by rw[hy,htO];exact hWf) hqf
    rw[hla] at hga
    rw[hlb] at hgb
    with_reducible refine Ow.nil ?_
    refine⟨(zo_ (fun r hr=>by(try simp only[zf_,List.mem_append]);(first|exact m7 r hr|simp only[m7 r hr,true_or]))), ?_⟩
    simp only[List.set_cons_zero,List.set_cons_succ,zl_,zy_,zz_]
    refine OwG.rest [6,7,8,9,10] rfl (by kernel_rfl) (by kernel_rfl) ?_
    simp only[zg_, ↓zc_, ↓za_, ↓zk_, ↓zj_,zb_]
    refine kq @jJ_ ?_
    subst hL7
    exact CutO.mk ⟨va,vb,G1++ [(bo,Obj.cells #[vi 2,vs T] 35 (0,0))]++ [(bi,Obj.cells (zW_ y).toArray 24 (0,0))]++D8++D9⟩ ⟨(((hNg1.app hNo).app hNi).app hN8').app hN9',jD_ hga,jD_ hgb,(abj_ hgb rfl (by simp[hx])).mono (fun p hp=>by simp[hp])⟩ rfl rfl
  ·refine Ow.buildSlice (e:=24) (zW_ y).toArray rfl rfl (j8_ y) fun bi hbi hwi=> ?_
   with_reducible refine Ow.nil ?_
   refine⟨(zo_ (fun r hr=>by(try simp only[zf_,List.mem_append]);(first|exact m7 r hr|simp only[m7 r hr,true_or]))), ?_⟩
   simp only[List.set_cons_zero,List.set_cons_succ,zl_,zy_,zz_]
   have hNi:New w.heap.size [(bi,Obj.cells (zW_ y).toArray 24 (0,0))]:=⟨hwi,trivial⟩
   refine OwG.one 1 _ (by kernel_rfl) rfl ?_
   refine Ow.buildSlice (e:=35) #[vi 2,vs T] rfl rfl (WS_ 2 T) fun bo hbo hwo=> ?_
   with_reducible refine Ow.nil ?_
   refine⟨(zo_ (fun r hr=>by(try simp only[zf_,List.mem_append]);(first|exact m7 r hr|simp only[m7 r hr,true_or]))), ?_⟩
   simp only[List.set_cons_zero,List.set_cons_succ,zl_,zy_,zz_]
   have hNo:New w.heap.size [(bo,Obj.cells #[vi 2,vs T] 35 (0,0))]:=⟨hwo,trivial⟩
   refine OwG.one 2 _ (by kernel_rfl) rfl ?_
   refine Ow.callC rfl rfl Tryz.call16 (fun w' hw'=>vd_ _ [⟨2,T⟩] w' (hG.new hw' ((hN7.app hNi).app hNo)) (KJ_ (hw'.has bo (.cells #[vi 2,vs T] 35 (0,0)) (by simp))) (by simp)) (fun B8 v8 D8 hA8 hB8 hN8 hS8=> ?_)
   have hN8':=hN8.mono hB8
   with_reducible refine Ow.nil ?_
   refine⟨(zo_ (fun r hr=>by(try simp only[zf_,List.mem_append]);(first|exact m7 r hr|simp only[m7 r hr,true_or]))), ?_⟩
   simp only[List.set_cons_zero,List.set_cons_succ,zl_,zy_,zz_]
   refine OwG.one 5 _ (by kernel_rfl) rfl ?_
   refine Ow.callC rfl rfl Tryz.call29 (fun w' hw'=>j1_ v8 (ja_ [⟨2,T⟩]) _ [y] w' ((hS8.mono (fun p hp=>by simp[hp])).W hw') (Zz_ (hw'.has bi (.cells (zW_ y).toArray 24 (0,0)) (by simp))) (by simp) (Nat.le_trans (xS_ _) (by simp))) (fun B9 v9 D9 hA9 hB9 hN9 hS9=> ?_)
   have hN9':=hN9.mono hB9
   obtain⟨Wf,va,vb,hWf,hqf,-,-,rfl,hga,hgb⟩:=hS9
   obtain⟨hla,hlb⟩:=ZE_ (by rw[hy,htO];exact hWf) hqf
   rw[hla] at hga
   rw[hlb] at hgb
   with_reducible refine Ow.nil ?_
   refine⟨(zo_ (fun r hr=>by(try simp only[zf_,List.mem_append]);(first|exact m7 r hr|simp only[m7 r hr,true_or]))), ?_⟩
   simp only[List.set_cons_zero,List.set_cons_succ,zl_,zy_,zz_]
   refine OwG.rest [6,7,8,9,10] rfl (by kernel_rfl) (by kernel_rfl) ?_
   simp only[zg_, ↓zc_, ↓za_, ↓zk_, ↓zj_,zb_]
   refine kq @jJ_ ?_
   subst hL7
   exact CutO.mk ⟨va,vb,G1++ [(bi,Obj.cells (zW_ y).toArray 24 (0,0))]++ [(bo,Obj.cells #[vi 2,vs T] 35 (0,0))]++D8++D9⟩ ⟨(((hNg1.app hNi).app hNo).app hN8').app hN9',jD_ hga,jD_ hgb,(abj_ hgb rfl (by simp[hx])).mono (fun p hp=>by simp[hp])⟩ rfl rfl
 intro g j hg
 refine kv ?_
 obtain⟨va2,vb2,G2⟩:=g
 simp only at hg ⊢
 obtain⟨hNg2,hl3,hl4,bb,off,arr,E,hbm,hbi,hbl⟩:=hg
 refine Cw.world fun wz hwz=> ?_
 have hnd:=hwz.nodup
 clear hwz wz
 have rbb:zt_ w ((b7, .cells (a8 y.l) 24 (0,0)):: (b5, .cells #[vi 2,vs T] 35 (0,0)):: (b3, .cells (a8 x.l) 24 (0,0)):: (b1, .cells #[vi 1,vs [97,98]] 35 (0,0))::G2) bb=some (.cells arr E (0,0)):=xR_ hnd (by simp[hbm])
 have r3:zt_ w ((b7, .cells (a8 y.l) 24 (0,0)):: (b5, .cells #[vi 2,vs T] 35 (0,0)):: (b3, .cells (a8 x.l) 24 (0,0)):: (b1, .cells #[vi 1,vs [97,98]] 35 (0,0))::G2) b3=some (.cells (a8 x.l) 24 (0,0)):=xR_ hnd (by simp)
 first|with_reducible refine ks [] @jJ_ ?_|refine kp @jJ_ ?_
 refine Cw.regionS [b3,bb] [0,1,2,3,4,5,6,7,8,9,10,11,12,13,14,15,16,17,18,19,20,21,22,23,24,25] [] (by kernel_rfl) (by kernel_rfl) (by kernel_rfl) ?_
 simp only[zg_, ↓zc_, ↓za_, ↓zk_, ↓zj_,zb_]
 refine kq (And.intro @jJ_ (And.intro @hl1 (And.intro @hl2 (And.intro @hl3 (And.intro @hl4 (And.intro @hbi (And.intro @hbl (And.intro @rbb (@r3))))))))) ?_
 refine⟨_,(ke @jJ_),⟨hw7,hw5,hw3,hw1,hNg2⟩, ?_⟩
 rfl
end Go.Proofs
end
namespace Go.Sx
open Go Go.ChangeShapes Go.WideShapes Go.RowKit
theorem Hp.same0 {W W':World} (h:Hp W [] W') {b:Nat} (hb:b<W.heap.size):W'.heap[b]? =W.heap[b]? :=h.old b hb (fun hm=>by cases hm)
theorem Hp.kept {W W':World} (h:Hp W [] W') (may:MemPlace→Prop):W.keptBut W' may:=by
 refine⟨h.os,h.output,fun i hi=> ?_⟩
 rw[h.same0 hi]
 cases ho:W.heap[i]? with
 |none=>rfl
 |some o=>
  cases o<;>first
   |exact⟨rfl,rfl,rfl,fun _ _=>rfl⟩
   |exact .inr ⟨rfl,rfl⟩
   |rfl
theorem Hp.sameAt {W W':World} (h:Hp W [] W') {p:MemPlace} (hp:p.block<W.heap.size):W.sameAt W' p:=by
 cases p with
 |cell b off=>
  have:=h.same0 (b:=b) hp
  simp only[World.sameAt,World.cell?,this]
 |map b=>exact h.same0 hp
theorem Hp.frozen {W W':World} (h:Hp W [] W') {a:Addr} (ha:a.block<W.heap.size):W'.frozen? a=W.frozen? a:=by
 simp only[World.frozen?,h.same0 ha]
section
variable {H:Type} {enc:TypeId×Value→H} {P:Program}
theorem Zo_ (hl:laidOutB P=true) {W W':World} {sp:Nat→Bool} (hp:Hp W [] W'): ∀ {ts:List TypeId} {vs:List Value} {ds:List (DataW H)} {ps:List MemPlace},
  (∀t∈ts,P.readableRec t=true∧t<P.types.size)→(∀p∈ps,p.block<W.heap.size)→(∀p∈ps,sp p.block=true)→
  DataW.TrodAll enc P W 0 (fun _=>true) true ts vs ds ps→DataW.TrodAll enc P W' 0 sp true ts vs ds ps
 | [],_,_,_,_,_,_,h=>by
  obtain⟨rfl,rfl,rfl⟩:=trodAll_nil h
  exact trodAll_mk0
 |t::ts,_,_,_,ht,hlt,hs,h=>by
  obtain⟨v,vs,d,ds,p,q,rfl,rfl,rfl,h1,h2⟩:=trodAll_cons h
  have hlt1: ∀x∈p,x.block<W.heap.size:=fun x hx=>hlt x (List.mem_append_left _ hx)
  exact trodAll_cons_mk (WideElems.Trod_stays hl (ht t List.mem_cons_self).1 (ht t List.mem_cons_self).2 h1 (fun x hx=>hp.sameAt (hlt1 x hx)) (fun x hx=>hs x (List.mem_append_left _ hx)))
   (Zo_ hl hp (fun u hu=>ht u (List.mem_cons_of_mem _ hu)) (fun x hx=>hlt x (List.mem_append_right _ hx)) (fun x hx=>hs x (List.mem_append_right _ hx)) h2)
theorem agy_ {f:Func} {s:ChangeSpec} {W W':World} {args:Array Value} {ds gs:List (DataW H)} {before:List MemPlace} {tb:TypeId} (hl:laidOutB P=true)
  (hW:DataW.Whole enc P f.params.toList s.vars false W args.toList ds gs before) (hv:s.vars= []) (hpar: ∀t∈f.params.toList,P.readableRec t=true∧t<P.types.size)
  (hr:f.resultTypes= #[tb]) (htb:P.underlying tb=some .bool) (hfn:s.fn H ds={results:= [.lit (.bool true)],args:=ds}) (hp:Hp W [] W'):
  s.post enc P f false true false false W args (.bool true) W':=by
 have hlt:=hW.lt
 have hW0:=hW
 obtain⟨p,q,hA,hV,rfl,hz,hn⟩:=hW
 rw[hv] at hV
 obtain⟨rfl,rfl⟩:=trodVars_none hV
 rw[List.append_nil] at hW0 hlt hz
 have hargs: ∀sp:Nat→Bool,(∀x∈p,sp x.block=true)→DataW.TrodAll enc P W' 0 sp true f.params.toList args.toList (s.fn H (ds++ [])).args p:=fun sp hs=>by
  rw[List.append_nil,hfn]
  exact Zo_ hl hp hpar hlt hs hA
 have hvars: ∀sp:Nat→Bool,DataW.TrodVars enc P W' sp s.vars (s.fn H (ds++ [])).vars []:=fun sp=>by
  rw[List.append_nil,hfn,hv];rfl
 have hres: ∀ (b:Nat) (sp:Nat→Bool) (hd:Bool),DataW.TrodAll enc P W' b sp hd f.resultTypes.toList ((Value.bool true).resultList f.resultTypes.size) (s.fn H (ds++ [])).results []:=fun b sp hd=>by
  rw[List.append_nil,hfn,hr]
  exact trodAll_cons_mk (shut_bool htb true) trodAll_mk0
 have hold: ∀x∈p,(fun b=>decide (b<W.heap.size)) x.block=true:=fun x hx=>by simpa using hlt x hx
 refine⟨ds,[],p,[],p,[],hW0,hres _ _ _,hargs _ hold,hvars _,hp.kept _,fun _=> ?_⟩
 refine⟨ok_one hr rfl (okWide_bool_mk htb true),_,_,([]++p)++ [],⟨[]++p,[],trodAll_append (hargs _ (fun _ _=>rfl)) (hres _ _ _),hvars _,rfl, ?_,fun h=>by cases h⟩, ?_⟩
 ·intro b off hx
  have hx':MemPlace.cell b off∈p:=by simpa using hx
  rw[hp.frozen (hlt _ hx')]
  exact hz b off hx'
 ·intro x hx _
  simpa using hx
end
section
variable {P:Program} {W:World} {name:String} {k:IntKind} {zs:List Int}
theorem wE_ {t e:TypeId} {g n:Nat} (hg:P.globalNamed name=some g) (hty: (P.globals[g]?).map (·.type)=some t) (ht:P.underlying t=some (.array n e)) (he:P.underlying e=some (.int k)) (hce:P.cellsOf e=1) (hct:P.cellsOf t=n):
  ∀ {laid:List (String×DataW Unit)} {ps:List MemPlace},DataW.LaidVars P W laid ps→(name,Lib.tabData k zs)∈laid→Lib.TabIs P W name k zs
 | [],_,_,hm=>by cases hm
 | (n',d')::rest,ps,h,hm=>by
  obtain⟨g',t',cs,fuel,p,q,hg',ht',hvar,hd,hr,-⟩:=h
  rcases List.mem_cons.1 hm with hm|hm
  ·cases hm
   obtain rfl:=Option.some.inj (hg.symm.trans hg')
   obtain rfl:=Option.some.inj (hty.symm.trans ht')
   unfold Lib.TabIs
   rw[hvar,←Lib.cells_of_tab ht he hce hct hd]
  ·exact wE_ hg hty ht he hce hct hr hm
theorem QW_ {g:Nat} (hg:P.globalNamed name=some g) (h:Lib.TabIs P W name k zs): ∃e f,W.heap[g]? =some (.cells (zs.map fun z=>Value.int k z).toArray e f):=by
 unfold Lib.TabIs at h
 simp only[World.var?,hg,Option.bind_some] at h
 split at h
 ·rename_i cs e f hb
  cases h
  exact⟨e,f,hb⟩
 ·cases h
end
section
variable {H:Type} {enc:TypeId×Value→H} {P:Program}
end
end Go.Sx
namespace Go.Sx
open Go
section
variable {P:Program}
theorem ah6_ {fits:TypeId→Bool} {d:Nat} {e:TypeId} {count off n:Nat} (h:rowAt P fits d e count off n=true):off≤count*P.cellsOf e:=by
 cases d with
 |zero=>simp[rowAt] at h
 |succ d=>
  unfold rowAt at h
  simp only at h
  split at h
  ·cases h
  ·rename_i hs
   have hs':0<P.cellsOf e:=Nat.pos_of_ne_zero hs
   have hd:=Nat.div_add_mod off (P.cellsOf e)
   have hm:=Nat.mod_lt off hs'
   rw[Bool.or_eq_true] at h
   rcases h with h|h
   ·simp only[Bool.and_eq_true,beq_iff_eq,decide_eq_true_eq] at h
    have:off / P.cellsOf e*P.cellsOf e≤count*P.cellsOf e:=Nat.mul_le_mul_right _ (by omega)
    rw[Nat.mul_comm (P.cellsOf e)] at hd
    omega
   ·simp only[Bool.and_eq_true,decide_eq_true_eq] at h
    have: (off / P.cellsOf e+1)*P.cellsOf e≤count*P.cellsOf e:=Nat.mul_le_mul_right _ (by omega)
    rw[Nat.add_mul,Nat.one_mul] at this
    rw[Nat.mul_comm (P.cellsOf e)] at hd
    omega
theorem WW_ {e:TypeId} {count off:Nat}: ∀ {d:Nat} {u:TypeId} {n:Nat},liesAt P d e count off u n=true→off≤count*P.cellsOf e
 |0,u,n,h=>by simp[liesAt] at h
 |d+1,u,n,h=>by
  unfold liesAt at h
  rw[Bool.or_eq_true] at h
  rcases h with h|h
  ·exact ah6_ h
  ·split at h
   ·exact WW_ h
   ·cases h
theorem amc_ {W:World} {r:Reach} {base:Nat} {a:Addr} {e:TypeId} {n:Nat} (h:W.has P r base a e n):a.spot=none∧ ∃arr E fz,W.heap[a.block]? =some (.cells arr E fz)∧a.off≤arr.size:=by
 obtain⟨-,hs,row,cells,hsh,hl⟩:=h
 refine⟨hs, ?_⟩
 unfold World.shape? at hsh
 split at hsh
 ·rename_i c el fz hh
  cases hsh
  refine⟨c,_,fz,hh,Nat.le_trans (WW_ hl) ?_⟩
  exact Nat.div_mul_le_self _ _
 ·cases hsh
theorem aga_ {W:World} {r:Reach} {base:Nat} {t e:TypeId} {v:Value} (ht:P.underlying t=some (.slice e)) (h:Value.okWide P W r base t v):
  v= .slice none 0 0∨ ∃b off len cap arr E fz,v=vsl b off len cap∧len≤cap∧W.heap[b]? =some (.cells arr E fz)∧off≤arr.size:=by
 obtain⟨a,len,cap,rfl⟩:=Go.WideShapes.okWide_slice ht h
 unfold Value.okWide at h
 rw[ht] at h
 unfold Cell.okWide at h
 rw[ht] at h
 simp only at h
 unfold Cell.ok at h
 rw[ht] at h
 cases a with
 |none=>
  left
  simp only at h
  split at h
  all_goals first| (cases h;done) |simp_all
 |some a=>
  right
  simp only at h
  obtain⟨hle,-,hh⟩:=h
  obtain⟨hs,arr,E,fz,hb,ho⟩:=amc_ hh
  obtain⟨b,off,sp⟩:=a
  simp only at hs
  subst hs
  exact⟨b,off,len,cap,arr,E,fz,rfl,hle,hb,ho⟩
theorem amF_ {α:Type} {enc:α→List Value} {z:α} {m:Nat} {W:World} {base b off c:Nat} {l:List α} {arr:Array Value} {E:TypeId} {fz:Nat×Nat} (hm0:0<m) (hm: ∀x,(enc x).length=m)
  (hcells: ∀i,i<l.length→W.cells? base ((Addr.mk b off none).add (i*m)) m=some (enc (l.getD i z))) (hheap:W.heap[b]? =some (.cells arr E fz)) (hoff:off≤arr.size) (hc:l.length≤c):SlV m enc z W (vsl b off l.length c) l:=by
 have get: ∀k,k<l.length→ ∀j,j<m→arr[off+k*m+j]? =(enc (l.getD k z))[j]? :=by
  intro k hk j hj
  obtain⟨-,hl,hg⟩:=World.cells?_some (hcells k hk)
  have:=hg j (by omega)
  rw[qA_,qA_] at this
  simp only[World.cell?,hheap,Option.isSome_none,Bool.false_eq_true,if_false] at this
  exact this
 refine SlV.sl hheap get hc ?_
 by_cases h0:l.length=0
 ·rw[h0];omega
 ·have h1:=get (l.length - 1) (by omega) (m - 1) (by omega)
  rw[List.getElem?_eq_getElem (by rw[hm];omega)] at h1
  have h2:=(Array.getElem?_eq_some_iff.1 h1).1
  have h3: (l.length - 1)*m+m=l.length*m:=by
   rw[←Nat.succ_mul];congr 1;omega
  omega
theorem ads_ {H:Type} {tell:TypeId×Value→H} {α:Type} {enc:α→List Value} {z:α} {m:Nat} {W:World} {r:Reach} {base b0:Nat} {sp:Nat→Bool} {held:Bool} {fuel:Nat} {t e:TypeId} {v:Value} {x:DataW H×List MemPlace}
  (ht:P.underlying t=some (.slice e)) (he:P.cellsOf e=m) (hm0:0<m) (hm: ∀x,(enc x).length=m) (hval:Value.okWide P W r b0 t v)
  (hdec: ∀n cs y,DataW.trod tell P W base sp held n e cs=some y→ ∃a,cs=enc a) (hd:DataW.trod tell P W base sp held fuel t [v]=some x): ∃l,SlV m enc z W v l:=by
 rcases DataW.trod_slice ht hd with⟨hcs,-⟩ | ⟨a,len,cap,elems,rest,n,-,hcs,-,-,hl,-,hlen,hel,-,-⟩
 ·simp only[List.cons.injEq,and_true] at hcs
  subst hcs
  exact⟨[],SlV.nil W⟩
 ·simp only[List.cons.injEq,and_true] at hcs
  subst hcs
  rcases aga_ ht hval with h0| ⟨b,off,len',cap',arr,E,fz,h1,-,hb,ho⟩
  ·cases h0
  ·unfold vsl at h1
   cases h1
   rw[he] at hel
   have hex: ∀i,i<len→ ∃q,W.cells? base ((Addr.mk b off none).add (i*m)) m=some (enc q):=by
    intro i hi
    have h2:=hel i hi
    rw[List.getElem?_eq_getElem (by omega)] at h2
    cases hc:W.cells? base ((Addr.mk b off none).add (i*m)) m with
    |none=>rw[hc] at h2;cases h2
    |some cs=>
     rw[hc] at h2
     obtain⟨q,rfl⟩:=hdec _ _ _ h2
     exact⟨q,rfl⟩
   obtain⟨f,hf⟩: ∃f:Nat→α,∀i,i<len→W.cells? base ((Addr.mk b off none).add (i*m)) m=some (enc (f i)):=by
    classical
    refine⟨fun i=>if h:i<len then Classical.choose (hex i h) else z,fun i hi=> ?_⟩
    simp only[dif_pos hi]
    exact Classical.choose_spec (hex i hi)
   have hll: ((List.range len).map f).length=len:=by simp
   refine⟨(List.range len).map f, ?_⟩
   have:=amF_ (W:=W) (base:=base) (b:=b) (off:=off) (c:=cap) (l:=(List.range len).map f) (z:=z) hm0 hm (fun i hi=>by
    rw[hll] at hi
    rw[hf i hi]
    congr 2
    rw[List.getD_eq_getElem?_getD,List.getElem?_map,List.getElem?_range hi];rfl) hb ho (by rw[hll];exact hl)
   rw[hll] at this
   exact this
end
end Go.Sx
section
open Go Go.Proofs Go.Sx Go.StP Go.ChangeShapes
namespace Go.Proofs
set_option maxRecDepth 10000
set_option maxHeartbeats 1000000
set_option linter.unusedSimpArgs false
theorem ah4_ {H:Type} {tell:TypeId×Value→H} {W:World} {base:Nat} {sp:Nat→Bool} {held:Bool} {n:Nat} {cs:List Value} {y:DataW H×List MemPlace}
  (h:DataW.trod tell Tryz.prog W base sp held n 24 cs=some y): ∃i:IdL,cs=i.l.map v8:=by
 obtain⟨xs,m,-,-,hlen,hxl,hel⟩:=DataW.trod_array Tryz.underlying24 h
 have hc: (Tryz.prog).cellsOf 24=32:=by kernel_rfl
 have h1: (Tryz.prog).cellsOf 5=1:=by kernel_rfl
 rw[hc] at hlen
 rw[h1] at hel
 have hex: ∀i (hi:i<cs.length),∃x:UInt8,cs[i]=v8 x:=by
  intro i hi
  have h2:=hel i (by omega)
  rw[List.getElem?_eq_getElem (by omega),Nat.mul_one,List.drop_eq_getElem_cons hi,List.take_succ_cons,List.take_zero] at h2
  obtain⟨z,hz,-,hw⟩:=DataW.trod_int Tryz.underlying5 h2
  simp only[List.cons.injEq,and_true] at hz
  rw[hz]
  simp only[Lit.wf,Bool.and_eq_true,decide_eq_true_eq] at hw
  have hw1:0≤z:=by simpa [IntKind.min,IntKind.bits,IntKind.signed] using hw.1
  have hw2:z≤255:=by simpa [IntKind.max,IntKind.bits,IntKind.signed] using hw.2
  refine⟨UInt8.ofNat z.toNat, ?_⟩
  unfold v8
  rw[UInt8.toNat_ofNat',Nat.mod_eq_of_lt (by omega)]
  congr 1;omega
 have hl: ∃l:List UInt8,cs=l.map v8:=by
  clear hel hlen hxl h
  induction cs with
  |nil=>exact⟨[],rfl⟩
  |cons c r ih=>
   obtain⟨x,hx⟩:=hex 0 (by simp)
   obtain⟨l,hl⟩:=ih (fun i hi=>by have:=hex (i+1) (by simpa using hi);simpa using this)
   exact⟨x::l,by rw[hl];simp at hx;simp[hx]⟩
 obtain⟨l,rfl⟩:=hl
 exact⟨⟨l,by simpa using hlen⟩,rfl⟩
theorem akm_ {H:Type} {tell:TypeId×Value→H} {W:World} {base:Nat} {sp:Nat→Bool} {held:Bool} (n:Nat) (cs:List Value) (y:DataW H×List MemPlace)
  (h:DataW.trod tell Tryz.prog W base sp held n 35 cs=some y): ∃o:ObK,cs=k7_ o:=by
 have hc: (Tryz.prog).cellsOf 35=2:=by kernel_rfl
 have hc3: (Tryz.prog).cellsOf 3=1:=by kernel_rfl
 have hcT: (Tryz.prog).cellsOf 9=1:=by kernel_rfl
 obtain⟨y0,y1,n',-,hlen,h0,h1⟩:=ChangeShapes.trod_struct2 Tryz.underlying35 h
 simp only at h0 h1 hlen
 rw[hc3,List.drop_zero] at h0
 rw[hcT] at h1
 rw[hc] at hlen
 obtain⟨z,hz,-,-⟩:=DataW.trod_int Tryz.underlying3 h0
 obtain⟨s,hs2,-,-⟩:=DataW.trod_string Tryz.underlying9 h1
 have hd:cs=cs.take 1++ (cs.drop 1).take 1:=by
  rw[show(cs.drop 1).take 1=cs.drop 1 from List.take_of_length_le (by rw[List.length_drop];omega),List.take_append_drop]
 rw[hz,hs2] at hd
 exact⟨⟨z,s.data.toList⟩,by rw[hd];rfl⟩
theorem af5_ {H:Type} {enc:TypeId×Value→H} {W:World} {r:Reach} {b0 base:Nat} {sp:Nat→Bool} {held:Bool} {v:Value} {d:DataW H} {p:List MemPlace}
  (hval:Value.okWide Tryz.prog W r b0 22 v) (hd:DataW.Trod enc Tryz.prog W base sp held 22 v d p): ∃l,SlV 2 k7_ jV_ W v l:=by
 obtain⟨a0,len,cap,rfl⟩:=WideShapes.okWide_slice Tryz.underlying22 hval
 obtain⟨fu,hf⟩:=hd
 exact ads_ (z:=jV_) Tryz.underlying22 (by kernel_rfl) (by decide) v0_ hval akm_ hf
theorem acR_ {H:Type} {enc:TypeId×Value→H} {W:World} {r:Reach} {b0 base:Nat} {sp:Nat→Bool} {held:Bool} {v:Value} {d:DataW H} {p:List MemPlace}
  (hval:Value.okWide Tryz.prog W r b0 30 v) (hd:DataW.Trod enc Tryz.prog W base sp held 30 v d p): ∃l,SlV 32 zW_ id0 W v l:=by
 obtain⟨a0,len,cap,rfl⟩:=WideShapes.okWide_slice Tryz.underlying30 hval
 obtain⟨fu,hf⟩:=hd
 exact ads_ (z:=id0) Tryz.underlying30 (by kernel_rfl) (by decide) xY_ hval (fun n cs y h=>by obtain⟨i,hi⟩:=ah4_ h;exact⟨i,hi⟩) hf
end Go.Proofs
end
section
open Go Go.Proofs Go.Sx Go.StP Go.RooP
namespace Go.Proofs
set_option maxRecDepth 10000
set_option maxHeartbeats 400000
set_option linter.unusedSimpArgs false
theorem vL_ {D:zh_} {v:Value} {l:List IdL} {w:World} (h:GrI D 24 32 v l.length (l.map zW_).flatten) (hD: ∀b o,(b,o)∈D→w.heap[b]? =some o):SlV 32 zW_ id0 w v l:=by
 obtain⟨X,hX,h⟩:=h
 exact h.slM (fun b o hm=>hD b o (hX _ hm)) rfl rfl z3_
set_option linter.defProp false
end Go.Proofs
end
section
open Go Go.Proofs Go.Sx Go.StP Go.RooP
namespace Go.Proofs
set_option maxRecDepth 10000
set_option maxHeartbeats 400000
set_option linter.unusedSimpArgs false
theorem _root_.Go.Sx.G_mono {P:Program} {ops:Array Oper} {Q:Exit→Act→World→Prop} {ts:List Nat} {C C':World→Prop} (hC: ∀w,C w→C' w): ∀ (n:Nat) (listed:Array Bool) (a:Act) (w:World),j0_ P ops Q ts C n listed a w→j0_ P ops Q ts C' n listed a w
 |0,_,_,_,h=>⟨fun k=>hC _ (h.1 k),h.2⟩
 |n+1,_,_,_,h=>⟨fun k=>hC _ (h.1 k),h.2.1,fun i hi=>wpOp_mono (fun a w k=>G_mono hC n _ a w k) (h.2.2 i hi)⟩
theorem _root_.Go.Sx.Ow.sofR {P:Program} {w0:World} {ops:Array Oper} {R R' is ts:List Nat} {l:List Oper} {f:Fr} {L:zh_} {N:Fr→zh_→Prop} (hR: ∀b,b∈R→b∈R') (h:Ow P w0 ops (.sof R' is ts) l f L N):Ow P w0 ops (.sof R is ts) l f L N:=
 fun listed hF ht w hw=>G_mono (fun _ hs b hb=>hs b (hR b hb)) _ _ _ _ (h listed hF ht w hw)
theorem Kx_ {X L Y:zh_} (h: (keys (X++L)).Nodup) (hY: ∀p,p∈Y→p∈L): ∀c,c∈keys Y→c∉keys X:=by
 intro c hc hx
 rw[zf_,List.nodup_append] at h
 obtain⟨p,hp,rfl⟩:=List.mem_map.1 hc
 exact h.2.2 _ hx _ (List.mem_map_of_mem (hY p hp)) rfl
theorem SrcK.WX {w0 w:World} {L Y X:zh_} {v:Value} {m:List (IdL×ObK)} (h:SrcK Y v m) (hw:Hp w0 L w) (hY: ∀p,p∈Y→p∈L) (hd: ∀c,c∈keys Y→c∉keys X):SrcW w v m X:=by
 obtain⟨bx,bm,om,h1,h2,h3,h4⟩:=h
 exact⟨bx,bm,om,⟨h1,hw.has _ _ (hY _ h2),hw.has _ _ (hY _ h3),h4⟩,hd _ (List.mem_map_of_mem h2),hd _ (List.mem_map_of_mem h3)⟩
theorem Qv_ {α:Type} {m:Nat} {enc:α→List Value} (z:α) {w:World} {v:Value} {l:List α} {D X:zh_} {E:TypeId} (h:GrI D E m v l.length (l.map enc).flatten) (hD: ∀b o,(b,o)∈D→w.heap[b]? =some o) (hm: ∀x,(enc x).length=m) (hd: ∀c,c∈keys D→c∉keys X):RowX m enc z w v l X:=by
 obtain⟨Y,hY,h⟩:=h
 obtain⟨b,off,c,arr,F,fz,hr,hc,⟨rfl,rfl,rfl⟩ | ⟨rfl,hb,hsz⟩⟩:=h.slM (z:=z) (fun b o hm=>hD b o (hY _ hm)) rfl rfl hm
 ·exact⟨b,off,arr,F,fz,hr,fun h0=>absurd h0 (by simp)⟩
 ·refine⟨b,off,arr,F,fz,hr,fun _=>hd _ ?_⟩
  obtain⟨p,hp,rfl⟩:=List.mem_map.1 (h.key (b:=b) rfl)
  exact List.mem_map_of_mem (hY p hp)
set_option linter.defProp false
def Zn_:=And.intro (@amr_) (@akR_)
theorem abV_ (v:Value) (w:World):Rets Tryz.prog 23 #[.pointer none,v] w (fun v' D=>v'= .tuple #[]∧D= []):=by
 refine Rets.enterV Tryz.func23 rfl (rs:= []) Tryz.results23 Tryz.ntmps23 ?_
 refine kf ?_
 first|with_reducible refine ks [] @Zn_ ?_|refine kp @Zn_ ?_
 refine⟨_,(ke @Zn_),trivial, ?_⟩
 rfl
theorem Wh_ (w:World):Rets Tryz.prog 24 #[.pointer none] w (fun v' D=>v'= .bool true∧D= []):=by
 refine Rets.enterV Tryz.func24 rfl (rs:= [.tmp 2]) Tryz.results24 Tryz.ntmps24 ?_
 refine kf ?_
 first|with_reducible refine ks [] @Zn_ ?_|refine kp @Zn_ ?_
 refine Cw.loopG (G:=Unit) [4,5,6,7,8,9,10,11,12,13,14,15,16,17,18,19,3,20,21,22,23,24,25,26,27,28,29,30,31,32,33,34,35,36,37,2] (fun g=> []) (fun g=> []) (fun g=>True) (fun g=>0) () rfl rfl ?_ ?_
 ·exact trivial
 intro g j hg
 refine kv ?_
 first|with_reducible refine ks [] @Zn_ ?_|refine kp @Zn_ ?_
 refine⟨_,(ke @Zn_),trivial, ?_⟩
 rfl
theorem XW_ (w:World):Rets Tryz.prog 27 #[.pointer none] w (fun v' D=>v'= .slice none 0 0∧D= []):=by
 refine Rets.enterV Tryz.func27 rfl (rs:= [.tmp 2]) Tryz.results27 Tryz.ntmps27 ?_
 refine kf ?_
 first|with_reducible refine ks [] @Zn_ ?_|refine kp @Zn_ ?_
 refine⟨_,(ke @Zn_),trivial, ?_⟩
 rfl
theorem Jv_ (w:World):Rets Tryz.prog 28 #[.pointer none] w (fun v' D=>v'= .slice none 0 0∧D= []):=by
 refine Rets.enterV Tryz.func28 rfl (rs:= [.tmp 2]) Tryz.results28 Tryz.ntmps28 ?_
 refine kf ?_
 first|with_reducible refine ks [] @Zn_ ?_|refine kp @Zn_ ?_
 refine⟨_,(ke @Zn_),trivial, ?_⟩
 rfl
end Go.Proofs
end
section
open Go Go.Proofs Go.Sx Go.StP Go.RooP
namespace Go.Proofs
set_option maxRecDepth 10000
set_option maxHeartbeats 400000
set_option linter.unusedSimpArgs false
theorem amu_ (a:Bool):qY_ Tryz.prog .neq 4 (.bool a) (.bool a)=some (.bool false):=by
 cases a<;>simp[qY_,eqX,qM_,q4_,Tryz.underlying4]
theorem anu_ (c:UInt8):zr_ .rem (v8 c) (v8 20)=some (v8 (c%20)):=by
 simp only[zr_,v8,jp_, ↓reduceIte]
 rw[if_neg (by decide),UInt8.toNat_mod]
 rfl
theorem _root_.Go.Sx.New.app3 {n:Nat} {A B C:zh_} (h:New n (A++B)) (h2:New n C):New n (A++ (B++C)):=List.append_assoc A B C▸h.app h2
structure MkWsG where
 i:Nat
 W:WkS
 X:zh_
 XD:zh_
 DG:zh_
set_option linter.defProp false
def zC_:=And.intro (And.intro (@zH_) (And.intro (@zG_) (@Sx.tup2_0))) (And.intro (And.intro (@Sx.tup2_1) (@x6_)) (And.intro (@l7_4) (@l7_5)))
theorem XY_ (v vr vm:Value) (l:List ObK) (r mo:List IdL) (c:UInt8) (w:World) (hG:GlobE w) (hv:SlV 2 k7_ jV_ w v l) (hr:SlV 32 zW_ id0 w vr r) (hmo:SlV 32 zW_ id0 w vm mo):
  Rets Tryz.prog 4 #[v,vr,vm,v8 c] w (fun v' D=>v'= .bool true∧D= []):=by
 have lnr:=hr.len
 have lnm:=hmo.len
 refine Rets.enterV Tryz.func4 rfl (rs:= [.tmp 8]) Tryz.results4 Tryz.ntmps4 ?_
 refine kf ?_
 first|with_reducible refine ks [] @zC_ ?_|refine kp @zC_ ?_
 refine Ow.callFV rfl Tryz.call13 (fun w' hw'=>jH_ w' (hG.new hw' trivial)) ?_
 refine ko @zC_ ?_
 first|with_reducible refine ks [] @zC_ ?_|refine kp @zC_ ?_
 refine Ow.callFV rfl Tryz.call14 (fun w' hw'=>aal_ v l w' (SlV.rowX (hv.oldN hw' trivial))) ?_
 cases hgr:VK_ l with
 |true=>
  refine ko @zC_ ?_
  first|with_reducible refine ks [] @zC_ ?_|refine kp @zC_ ?_
  refine Ow.callFV rfl Tryz.call13 (fun w' hw'=>jH_ w' (hG.new hw' trivial)) ?_
  refine ko @zC_ ?_
  first|with_reducible refine ks [] @zC_ ?_|refine kp @zC_ ?_
  refine⟨_,(ke @zC_),trivial, ?_⟩
  rfl
 |false=>
 obtain⟨h40,h25⟩:=agu_ hgr
 refine ko @zC_ ?_
 refine Ow.callC rfl rfl Tryz.call15 (fun w' hw'=>Rets.toX (VY_ v l w' (SlV.rowX (hv.oldN hw' trivial)) (by omega) (fun o ho=>by have:=h25 o ho;omega))) (fun BC vC DC hAC hBC hNC hSC=> ?_)
 obtain⟨rfl,bc,rfl,hcl⟩:=hSC
 clear hAC hNC
 rw[List.append_nil]
 cases bc with
 |true=>
  refine ko @zC_ ?_
  first|with_reducible refine ks [] @zC_ ?_|refine kp @zC_ ?_
  refine Ow.callFV rfl Tryz.call13 (fun w' hw'=>jH_ w' (hG.new hw' trivial)) ?_
  refine ko @zC_ ?_
  first|with_reducible refine ks [] @zC_ ?_|refine kp @zC_ ?_
  refine⟨_,(ke @zC_),trivial, ?_⟩
  rfl
 |false=>
 replace hcl:=hcl rfl
 by_cases h30:30<r.length
 ·have d1:decide ((30:Int)< (r.length:Int))=true:=decide_eq_true (by omega)
  refine ko (And.intro @zC_ (And.intro @lnr (@d1))) ?_
  first|with_reducible refine ks [] @zC_ ?_|refine kp @zC_ ?_
  refine Ow.callFV rfl Tryz.call13 (fun w' hw'=>jH_ w' (hG.new hw' trivial)) ?_
  refine ko @zC_ ?_
  first|with_reducible refine ks [] @zC_ ?_|refine kp @zC_ ?_
  refine⟨_,(ke @zC_),trivial, ?_⟩
  rfl
 have d1:decide ((30:Int)< (r.length:Int))=false:=decide_eq_false (by omega)
 by_cases h31:30<mo.length
 ·have d2:decide ((30:Int)< (mo.length:Int))=true:=decide_eq_true (by omega)
  refine ko (And.intro @zC_ (And.intro @lnr (And.intro @d1 (And.intro @lnm (@d2))))) ?_
  first|with_reducible refine ks [] @zC_ ?_|refine kp @zC_ ?_
  refine Ow.callFV rfl Tryz.call13 (fun w' hw'=>jH_ w' (hG.new hw' trivial)) ?_
  refine ko @zC_ ?_
  first|with_reducible refine ks [] @zC_ ?_|refine kp @zC_ ?_
  refine⟨_,(ke @zC_),trivial, ?_⟩
  rfl
 have d2:decide ((30:Int)< (mo.length:Int))=false:=decide_eq_false (by omega)
 refine ko (And.intro @zC_ (And.intro @lnr (And.intro @d1 (And.intro @lnm (@d2))))) ?_
 first|with_reducible refine ks [] @zC_ ?_|refine kp @zC_ ?_
 refine Ow.callC rfl rfl Tryz.call16 (fun w' hw'=>vd_ v l w' (hG.new hw' trivial) (SlV.rowX (hv.oldN hw' trivial)) (by omega)) (fun B1 v1 D1 hA1 hB1 hN1 hS1=> ?_)
 rw[List.nil_append]
 have hN1':=hN1.mono hB1
 refine ko @zC_ ?_
 refine Ow.callC rfl rfl Tryz.call21 (fun w' hw'=>VJ_ v1 (ja_ l) vr r w' (hS1.W hw') (SlV.rowX (hr.oldN hw' hN1')) (by omega)) (fun B2 v2 D2 hA2 hB2 hN2 hS2=> ?_)
 obtain⟨bw,rfl,hP2⟩:=hS2
 have hN2':=hN2.mono hB2
 refine ko @zC_ ?_
 refine Ow.callC rfl rfl Tryz.call17 (fun w' hw'=>aio_ v l w' (SlV.rowX (hv.oldN hw' (hN1'.app hN2'))) (by omega) (fun o ho=>by have:=h25 o ho;omega)) (fun B3 v3 D3 hA3 hB3 hN3 hS3=> ?_)
 obtain⟨vL,vI,rfl,hgL,hgI⟩:=hS3
 have hN3':=hN3.mono hB3
 refine ko @zC_ ?_
 refine Ow.build (.agg #[vL,vI, .slice none 0 0, .slice none 0 0, .slice none 0 0, .slice none 0 0, .slice none 0 0]) rfl (ahZ_ vL vI) ?_
 refine ko @zC_ ?_
 refine Ow.box rfl rfl fun bd hbd hwd=> ?_
 simp only[zV_,zQ_,z2_,zd_,List.cons_append,List.nil_append]
 refine ko @zC_ ?_
 have hNb:New w.heap.size [(bd,Obj.cells #[vL,vI, .slice none 0 0, .slice none 0 0, .slice none 0 0, .slice none 0 0, .slice none 0 0] 46 (0,0))]:=⟨hwd,trivial⟩
 have hN13:=hN1'.app hN3'
 have hN0:=hNb.app (hN2'.app hN13)
 first|with_reducible refine ks [] @zC_ ?_|refine kp @zC_ ?_
 refine Ow.permL (M:= [(bd, .cells #[vL,vI, .slice none 0 0, .slice none 0 0, .slice none 0 0, .slice none 0 0, .slice none 0 0] 46 (0,0))]++ (D2++ (D1++D3))) (by classical exact List.perm_iff_count.2 fun a=>by simp only[List.count_append,List.count_cons,List.count_nil]<;>omega) ?_
 refine Ow.callX (X:= [(bd, .cells #[vL,vI, .slice none 0 0, .slice none 0 0, .slice none 0 0, .slice none 0 0, .slice none 0 0] 46 (0,0))]) (Y:=D2++ (D1++D3)) rfl rfl rfl Tryz.call22 (fun w' hw' hX' hn'=>WL_ bd vL vI Qf_ vr r _ w' hX' hn' (al1_ bd vL vI) (((SlV.rowX hr).ext fun c hc=> .inr (hN0.le c hc)).old hw' fun c hc=>by rw[zf_];exact List.mem_append_left _ hc) (by decide) (by omega)) (fun v4 D4 hC4 hS4=> ?_)
 obtain⟨rfl,hP4⟩:=hS4
 have hE4:Ext w [] D4:=(Ext.of_new hNb).came0 hC4
 have hE2:Ext w [] D2:=Ext.of_new hN2'
 refine Ow.permL (M:=D2++ (D4++ (D1++ (D3++ [])))) (by classical exact List.perm_iff_count.2 fun a=>by simp only[List.count_append,List.count_cons,List.count_nil]<;>omega) ?_
 clear hC4 hN0 hNb hwd hbd hA1 hA2 hA3 hN1 hN2 hN3 hN1' hN2' hN3'
 refine ko @zC_ ?_
 first|with_reducible refine ks [] @zC_ ?_|refine kp @zC_ ?_
 refine Ow.callFV rfl Tryz.call23 (fun w' hw'=>abV_ vr w') ?_
 refine ko @zC_ ?_
 first|with_reducible refine ks [] @zC_ ?_|refine kp @zC_ ?_
 have hes:=JT_ hcl
 have hml:=xS_ l
 have hfl:=List.length_filter_le rdK l
 have hids: ∀i,(srcD l i).2=true→i∈ (ja_ l).map Prod.fst:=fun i h=>by rw[←hes] at h;exact ac1_ h
 have hidl: ((ja_ l).map Prod.fst).length=(ja_ l).length:=List.length_map _
 refine Cw.loopG (G:=MkWsG) [46,47,50,51,52,53,54,55,56,57,58,59,60,61,62,63,64,65,66,67,68,69,70,71,72,73,74,75,76,77,78,79,80,81,82,83,84,85,8,48,49,12] (fun g=> [(12,vi g.i)]) (fun g=>g.X++ (g.XD++ (D1++ (D3++g.DG)))) (fun g=>g.i≤200∧WkP bw v1 g.W g.X∧Ext w [] g.X∧DwP bd vL vI g.W g.XD∧Ext w [] g.XD∧New w.heap.size g.DG∧ ∃r' n',WkN (srcD l) ((ja_ l).map Prod.fst) r' n' g.W∧r'.length≤60∧n'≤60∧(g.i≤ (c%20).toNat→r'.length≤30∧n'≤30)) (fun g=>200 - g.i) ⟨0,newK r,D2,D4,[]⟩ rfl rfl ?_ ?_
 ·exact⟨Nat.zero_le _,hP2,hE2,hP4,hE4,trivial,r,r.length,WkN.new r hids,by omega,by omega,fun _=>⟨by omega,by omega⟩⟩
 intro g j hg
 refine kv ?_
 clear hP2 hE2 hP4 hE4
 obtain⟨i,W,X,XD,DG⟩:=g
 simp only at hg ⊢
 obtain⟨hi,hP,hE,hPD,hED,hND,r',n',hN,hr60,hn60,hra⟩:=hg
 by_cases hlt:i<200
 ·have d0:decide ((i:Int)<200)=true:=decide_eq_true (by omega)
  have hrem:=anu_ c
  generalize c%20=a at*
  have hidsL:=hids
  by_cases hia:i=a.toNat
  ·subst hia
   obtain⟨h30r,h30n⟩:=hra (Nat.le_refl _)
   have b1:=hN.q
   have hN':=hN.add mo
   have hE':=hE
   first|with_reducible refine ks [11] (And.intro @zC_ (And.intro @d0 (@hrem))) ?_|refine kp (And.intro @zC_ (And.intro @d0 (@hrem))) ?_
   refine Ow.callX (X:=X) (Y:=XD++ (D1++ (D3++DG))) rfl rfl rfl Tryz.call23 (fun w' hw' hX' hn'=>aak_ bw v1 W vm mo X w' hX' hn' hP (((SlV.rowX hmo).ext (L:=X++ (XD++ (D1++ (D3++DG)))) (fun c hc=> .inr ((hE.new0.app (hED.new0.app (hN13.app3 hND))).le c hc))).old hw' (fun c hc=>by rw[zf_];exact List.mem_append_left _ hc)) (by omega) (by omega)) (fun v5 X5 hC5 hS5=> ?_)
   obtain⟨rfl,hP5⟩:=hS5
   have hE5:=hE.came0 hC5
   refine Ow.permL (M:=XD++ (X5++ (D1++ (D3++DG)))) (by classical exact List.perm_iff_count.2 fun a=>by simp only[List.count_append,List.count_cons,List.count_nil]<;>omega) ?_
   refine ko @zC_ ?_
   first|with_reducible refine ks [11] @zC_ ?_|refine kp @zC_ ?_
   refine Ow.callX (X:=XD) (Y:=X5++ (D1++ (D3++DG))) rfl rfl rfl Tryz.call22 (fun w' hw' hX' hn'=>WL_ bd vL vI W vm mo XD w' hX' hn' hPD (((SlV.rowX hmo).ext (L:=XD++ (X5++ (D1++ (D3++DG)))) (fun c hc=> .inr ((hED.new0.app (hE5.new0.app (hN13.app3 hND))).le c hc))).old hw' (fun c hc=>by rw[zf_];exact List.mem_append_left _ hc)) (by omega) (by omega)) (fun v6 X6 hC6 hS6=> ?_)
   obtain⟨rfl,hP6⟩:=hS6
   have hE6:=hED.came0 hC6
   refine Ow.permL (M:=X5++ (X6++ (D1++ (D3++DG)))) (by classical exact List.perm_iff_count.2 fun a=>by simp only[List.count_append,List.count_cons,List.count_nil]<;>omega) ?_
   clear hP hPD hE hED hC5 hC6 hE' hN b1
   have hN:=hN'
   clear hN'
   generalize we_ W mo=W1 at*
   have hr61: (r'++mo).length≤60:=by rw[List.length_append];omega
   have hn61:n'+mo.length≤60:=by omega
   have hra1:a.toNat+1≤a.toNat→(r'++mo).length≤30∧n'+mo.length≤30:=fun h=>by omega
   obtain⟨i,hii⟩: ∃i,i=a.toNat:=⟨_,rfl⟩
   rw[←hii] at hlt hra1 ⊢
   refine ko @zC_ ?_
   first|with_reducible refine ks [11] @zC_ ?_|refine kp @zC_ ?_
   have b1:=hN.q
   have b2:=hN.lk
   have b3:=hN.vis
   have b4:=hN.ms
   have hN':=hN.step
   have b5:=hN'.ms
   have b6:=hN'.lk
   refine Cw.regionS [] [0,2,1,3,4,5,6,8,9,10,11,7,12,13,14,15,16,18,19,20,21,17,22,23,24] [] (by kernel_rfl) (by kernel_rfl) (by kernel_rfl) ?_
   simp only[zg_, ↓zc_, ↓za_, ↓zk_, ↓zj_,zb_]
   refine kq @zC_ ?_
   refine Ow.soft rfl rfl rfl ?_
   refine Ow.callX (X:=X5) (Y:=X6++ (D1++ (D3++DG))) rfl rfl rfl Tryz.call24 (fun w' hw' hX' hn'=>ZA_ bw v1 W1 (ja_ l) X5 w' hX' hn' hP5 (hS1.WX hw' (fun p hp=>by simp[hp]) (Kx_ hw'.nodup (fun p hp=>by simp[hp]))) (by omega) (by omega)) (fun v7 X7 hC7 hS7=> ?_)
   obtain⟨rfl,hP7⟩:=hS7
   have hE7:=hE5.came0 hC7
   rw[hes] at hP7 ⊢
   refine Ow.permL (M:=X6++ (X7++ (D1++ (D3++DG)))) (by classical exact List.perm_iff_count.2 fun a=>by simp only[List.count_append,List.count_cons,List.count_nil]<;>omega) ?_
   with_reducible refine Ow.nil ?_
   refine⟨fun b hb=>(by cases hb), ?_⟩
   refine kq @zC_ ?_
   refine Ow.soft rfl rfl rfl ?_
   refine Ow.callX (X:=X6) (Y:=X7++ (D1++ (D3++DG))) rfl rfl rfl Tryz.call25 (fun w' hw' hX' hn'=>Kk_ bd vL vI (l.filter rdK) W1 X6 w' hX' hn' hP6 (Qv_ jV_ hgL (fun b o hm=>hw'.has b o (by simp[hm])) v0_ (Kx_ hw'.nodup (fun p hp=>by simp[hp]))) (Qv_ id0 hgI (fun b o hm=>hw'.has b o (by simp[hm])) z3_ (Kx_ hw'.nodup (fun p hp=>by simp[hp]))) (fun o ho=>(List.mem_filter.1 ho).2) (by omega) (by omega) (by omega) (by omega) (by omega)) (fun v8 X8 hC8 hS8=> ?_)
   obtain⟨rfl,hP8⟩:=hS8
   have hE8:=hE6.came0 hC8
   rw[agx_] at hP8 ⊢
   clear hP5 hP6 hC7 hC8 hE5 hE6
   generalize (xo_ (srcD l) W1).2=W2 at*
   generalize (xo_ (srcD l) W1).1=bst at*
   have hPD8:=hP8
   obtain⟨vq,vv,vl,vmk,vms,Q,V,M,K,hA⟩:=hP8
   have hbm: (bd,Obj.cells #[vL,vI,vq,vv,vl,vmk,vms] 46 (0,0))∈X8:=hA.perm.mem_iff.2 List.mem_cons_self
   have hKm: ∀p,p∈K→p∈X8:=fun p hp=>hA.perm.mem_iff.2 (by simp[hp])
   have hk8:bd∈keys (X8++ (X7++ (D1++ (D3++DG)))):=by rw[zf_];exact List.mem_append_left _ (List.mem_map_of_mem hbm)
   refine Ow.world fun wz hwz=> ?_
   have rbd:zt_ w (X8++ (X7++ (D1++ (D3++DG)))) bd=some (.cells #[vL,vI,vq,vv,vl,vmk,vms] 46 (0,0)):=xR_ hwz.nodup (List.mem_append_left _ hbm)
   clear hwz wz
   with_reducible refine Ow.nil ?_
   refine⟨fun b hb=>(by cases hb), ?_⟩
   refine Ow.sofR (R':= [bd]) (fun b hb=>by cases hb) ?_
   have hbb:=amu_ bst
   have s1:=k9_ W2.ms
   have s2:=k9_ (W2.lk.map ChildL.id)
   rw[List.length_map] at s2
   refine kq (And.intro @zC_ (And.intro @rbd (@hbb))) ?_
   refine Ow.soft rfl rfl rfl ?_
   refine Ow.callC rfl rfl Tryz.call27 (fun w' hw'=>vy_ bw v1 W2 w' ⟨X7,fun p hp=>hw'.has _ _ (by simp[hp]),hP7⟩ hN'.I.nm (by omega)) (fun B9 v9 D9 hA9 hB9 hN9 hS9=> ?_)
   with_reducible refine Ow.nil ?_
   refine⟨zo_ (fun b hb=>by rw[List.mem_singleton.1 hb];exact hk8), ?_⟩
   refine kq @zC_ ?_
   refine Ow.soft rfl rfl rfl ?_
   refine Ow.callFV rfl Tryz.call26 (fun w' hw'=>x5_ v9 vmk _ _ w' (vL_ hS9 (fun b o hm=>hw'.has b o (by simp[hm]))) (vL_ hA.m (fun b o hm=>hw'.has b o (by simp[hKm _ hm]))) (by omega) (by omega)) ?_
   rw[decide_eq_true (show x2_ W2.ms=x2_ W2.ms from rfl)]
   with_reducible refine Ow.nil ?_
   refine⟨by intro b hb;simp only[List.mem_cons,List.not_mem_nil,or_false] at hb;(try subst hb);rfl, ?_⟩
   have rbd2:=(xK_ (w0:=w) (M:=D9) hk8).trans rbd
   have hk9:bd∈keys (X8++ (X7++ (D1++ (D3++DG)))++D9):=by rw[zf_];exact List.mem_append_left _ hk8
   refine kq (And.intro @zC_ @rbd2) ?_
   refine Ow.soft rfl rfl rfl ?_
   refine Ow.callC rfl rfl Tryz.call28 (fun w' hw'=>kQ_ bw v1 W2 w' ⟨X7,fun p hp=>hw'.has _ _ (by simp[hp]),hP7⟩ (by omega)) (fun B10 v10 D10 hA10 hB10 hN10 hS10=> ?_)
   with_reducible refine Ow.nil ?_
   refine⟨zo_ (fun b hb=>by rw[List.mem_singleton.1 hb];exact hk9), ?_⟩
   refine kq @zC_ ?_
   refine Ow.soft rfl rfl rfl ?_
   refine Ow.callFV rfl Tryz.call26 (fun w' hw'=>x5_ v10 vms _ _ w' (vL_ hS10 (fun b o hm=>hw'.has b o (by simp[hm]))) (vL_ hA.n (fun b o hm=>hw'.has b o (by simp[hKm _ hm]))) (by show(x2_ _).length<_;omega) (by show(x2_ _).length<_;omega)) ?_
   rw[decide_eq_true (show xl_ W2.lk=xl_ W2.lk from rfl)]
   with_reducible refine Ow.nil ?_
   refine⟨by intro b hb;simp only[List.mem_cons,List.not_mem_nil,or_false] at hb;(try subst hb);rfl, ?_⟩
   refine kq @zC_ ?_
   try with_reducible refine Ow.nil ?_
   first|with_reducible refine ks [11] @zC_ ?_|refine kp @zC_ ?_
   refine Cw.permL (M:=X7++ (X8++ (D1++ (D3++ (DG++ (D9++D10)))))) (by classical exact List.perm_iff_count.2 fun a=>by simp only[List.count_append,List.count_cons,List.count_nil]<;>omega) ?_
   first|with_reducible refine ks [] @zC_ ?_|refine kp @zC_ ?_
   exact Again.mk ⟨i+1,W2,X7,X8,DG++ (D9++D10)⟩ (by show 200 - (i+1)<200 - i;omega) ⟨hlt,hP7,hE7,hPD8,hE8,hND.app ((hN9.mono hB9).app (hN10.mono hB10)),_,_,hN',hr61,hn61,hra1⟩ rfl rfl
  ·have d3:decide ((i:Int)=(a.toNat:Int))=false:=decide_eq_false (by omega)
   have d4: ((i:Int)==(a.toNat:Int))=false:=by simpa using d3
   first|with_reducible refine ks [11] (And.intro @zC_ (And.intro @d0 (And.intro @hrem (And.intro @d3 (@d4))))) ?_|refine kp (And.intro @zC_ (And.intro @d0 (And.intro @hrem (And.intro @d3 (@d4))))) ?_
   obtain⟨W1,rfl⟩: ∃q,q=W:=⟨W,rfl⟩
   obtain⟨X5,rfl⟩: ∃q,q=X:=⟨X,rfl⟩
   obtain⟨X6,rfl⟩: ∃q,q=XD:=⟨XD,rfl⟩
   have hP5:=hP
   have hP6:=hPD
   have hE5:=hE
   have hE6:=hED
   clear hP hPD hE hED
   have hr61:=hr60
   have hn61:=hn60
   have hra1:i+1≤a.toNat→r'.length≤30∧n'≤30:=fun h=>hra (by omega)
   have b1:=hN.q
   have b2:=hN.lk
   have b3:=hN.vis
   have b4:=hN.ms
   have hN':=hN.step
   have b5:=hN'.ms
   have b6:=hN'.lk
   refine Cw.regionS [] [0,2,1,3,4,5,6,8,9,10,11,7,12,13,14,15,16,18,19,20,21,17,22,23,24] [] (by kernel_rfl) (by kernel_rfl) (by kernel_rfl) ?_
   simp only[zg_, ↓zc_, ↓za_, ↓zk_, ↓zj_,zb_]
   refine kq @zC_ ?_
   refine Ow.soft rfl rfl rfl ?_
   refine Ow.callX (X:=X5) (Y:=X6++ (D1++ (D3++DG))) rfl rfl rfl Tryz.call24 (fun w' hw' hX' hn'=>ZA_ bw v1 W1 (ja_ l) X5 w' hX' hn' hP5 (hS1.WX hw' (fun p hp=>by simp[hp]) (Kx_ hw'.nodup (fun p hp=>by simp[hp]))) (by omega) (by omega)) (fun v7 X7 hC7 hS7=> ?_)
   obtain⟨rfl,hP7⟩:=hS7
   have hE7:=hE5.came0 hC7
   rw[hes] at hP7 ⊢
   refine Ow.permL (M:=X6++ (X7++ (D1++ (D3++DG)))) (by classical exact List.perm_iff_count.2 fun a=>by simp only[List.count_append,List.count_cons,List.count_nil]<;>omega) ?_
   with_reducible refine Ow.nil ?_
   refine⟨fun b hb=>(by cases hb), ?_⟩
   refine kq @zC_ ?_
   refine Ow.soft rfl rfl rfl ?_
   refine Ow.callX (X:=X6) (Y:=X7++ (D1++ (D3++DG))) rfl rfl rfl Tryz.call25 (fun w' hw' hX' hn'=>Kk_ bd vL vI (l.filter rdK) W1 X6 w' hX' hn' hP6 (Qv_ jV_ hgL (fun b o hm=>hw'.has b o (by simp[hm])) v0_ (Kx_ hw'.nodup (fun p hp=>by simp[hp]))) (Qv_ id0 hgI (fun b o hm=>hw'.has b o (by simp[hm])) z3_ (Kx_ hw'.nodup (fun p hp=>by simp[hp]))) (fun o ho=>(List.mem_filter.1 ho).2) (by omega) (by omega) (by omega) (by omega) (by omega)) (fun v8 X8 hC8 hS8=> ?_)
   obtain⟨rfl,hP8⟩:=hS8
   have hE8:=hE6.came0 hC8
   rw[agx_] at hP8 ⊢
   clear hP5 hP6 hC7 hC8 hE5 hE6
   generalize (xo_ (srcD l) W1).2=W2 at*
   generalize (xo_ (srcD l) W1).1=bst at*
   have hPD8:=hP8
   obtain⟨vq,vv,vl,vmk,vms,Q,V,M,K,hA⟩:=hP8
   have hbm: (bd,Obj.cells #[vL,vI,vq,vv,vl,vmk,vms] 46 (0,0))∈X8:=hA.perm.mem_iff.2 List.mem_cons_self
   have hKm: ∀p,p∈K→p∈X8:=fun p hp=>hA.perm.mem_iff.2 (by simp[hp])
   have hk8:bd∈keys (X8++ (X7++ (D1++ (D3++DG)))):=by rw[zf_];exact List.mem_append_left _ (List.mem_map_of_mem hbm)
   refine Ow.world fun wz hwz=> ?_
   have rbd:zt_ w (X8++ (X7++ (D1++ (D3++DG)))) bd=some (.cells #[vL,vI,vq,vv,vl,vmk,vms] 46 (0,0)):=xR_ hwz.nodup (List.mem_append_left _ hbm)
   clear hwz wz
   with_reducible refine Ow.nil ?_
   refine⟨fun b hb=>(by cases hb), ?_⟩
   refine Ow.sofR (R':= [bd]) (fun b hb=>by cases hb) ?_
   have hbb:=amu_ bst
   have s1:=k9_ W2.ms
   have s2:=k9_ (W2.lk.map ChildL.id)
   rw[List.length_map] at s2
   refine kq (And.intro @zC_ (And.intro @rbd (@hbb))) ?_
   refine Ow.soft rfl rfl rfl ?_
   refine Ow.callC rfl rfl Tryz.call27 (fun w' hw'=>vy_ bw v1 W2 w' ⟨X7,fun p hp=>hw'.has _ _ (by simp[hp]),hP7⟩ hN'.I.nm (by omega)) (fun B9 v9 D9 hA9 hB9 hN9 hS9=> ?_)
   with_reducible refine Ow.nil ?_
   refine⟨zo_ (fun b hb=>by rw[List.mem_singleton.1 hb];exact hk8), ?_⟩
   refine kq @zC_ ?_
   refine Ow.soft rfl rfl rfl ?_
   refine Ow.callFV rfl Tryz.call26 (fun w' hw'=>x5_ v9 vmk _ _ w' (vL_ hS9 (fun b o hm=>hw'.has b o (by simp[hm]))) (vL_ hA.m (fun b o hm=>hw'.has b o (by simp[hKm _ hm]))) (by omega) (by omega)) ?_
   rw[decide_eq_true (show x2_ W2.ms=x2_ W2.ms from rfl)]
   with_reducible refine Ow.nil ?_
   refine⟨by intro b hb;simp only[List.mem_cons,List.not_mem_nil,or_false] at hb;(try subst hb);rfl, ?_⟩
   have rbd2:=(xK_ (w0:=w) (M:=D9) hk8).trans rbd
   have hk9:bd∈keys (X8++ (X7++ (D1++ (D3++DG)))++D9):=by rw[zf_];exact List.mem_append_left _ hk8
   refine kq (And.intro @zC_ @rbd2) ?_
   refine Ow.soft rfl rfl rfl ?_
   refine Ow.callC rfl rfl Tryz.call28 (fun w' hw'=>kQ_ bw v1 W2 w' ⟨X7,fun p hp=>hw'.has _ _ (by simp[hp]),hP7⟩ (by omega)) (fun B10 v10 D10 hA10 hB10 hN10 hS10=> ?_)
   with_reducible refine Ow.nil ?_
   refine⟨zo_ (fun b hb=>by rw[List.mem_singleton.1 hb];exact hk9), ?_⟩
   refine kq @zC_ ?_
   refine Ow.soft rfl rfl rfl ?_
   refine Ow.callFV rfl Tryz.call26 (fun w' hw'=>x5_ v10 vms _ _ w' (vL_ hS10 (fun b o hm=>hw'.has b o (by simp[hm]))) (vL_ hA.n (fun b o hm=>hw'.has b o (by simp[hKm _ hm]))) (by show(x2_ _).length<_;omega) (by show(x2_ _).length<_;omega)) ?_
   rw[decide_eq_true (show xl_ W2.lk=xl_ W2.lk from rfl)]
   with_reducible refine Ow.nil ?_
   refine⟨by intro b hb;simp only[List.mem_cons,List.not_mem_nil,or_false] at hb;(try subst hb);rfl, ?_⟩
   refine kq @zC_ ?_
   try with_reducible refine Ow.nil ?_
   first|with_reducible refine ks [11] @zC_ ?_|refine kp @zC_ ?_
   refine Cw.permL (M:=X7++ (X8++ (D1++ (D3++ (DG++ (D9++D10)))))) (by classical exact List.perm_iff_count.2 fun a=>by simp only[List.count_append,List.count_cons,List.count_nil]<;>omega) ?_
   first|with_reducible refine ks [] @zC_ ?_|refine kp @zC_ ?_
   exact Again.mk ⟨i+1,W2,X7,X8,DG++ (D9++D10)⟩ (by show 200 - (i+1)<200 - i;omega) ⟨hlt,hP7,hE7,hPD8,hE8,hND.app ((hN9.mono hB9).app (hN10.mono hB10)),_,_,hN',hr61,hn61,hra1⟩ rfl rfl
 ·have d0:decide ((i:Int)<200)=false:=decide_eq_false (by omega)
  obtain rfl:i=200:=by omega
  have hnn:=hE.new
  have hN9:New w.heap.size (X++ (XD++ (D1++ (D3++DG)))):=(hE.new0).app (hED.new0.app (hN13.app3 hND))
  first|with_reducible refine ks [] (And.intro @zC_ @d0) ?_|refine kp (And.intro @zC_ @d0) ?_
  refine Ow.callFV rfl Tryz.call13 (fun w' hw'=>jH_ w' (hG.new hw' hN9)) ?_
  refine ko @zC_ ?_
  refine Ow.callFV rfl Tryz.call24 (fun w' hw'=>Wh_ w') ?_
  refine ko @zC_ ?_
  refine Ow.callFV rfl Tryz.call27 (fun w' hw'=>XW_ w') ?_
  have hln:QG_ (Ix.sl (true,32)) (Value.slice none 0 0)=some (vi 0):=rfl
  refine ko (And.intro @zC_ @hln) ?_
  refine Ow.callFV rfl Tryz.call28 (fun w' hw'=>Jv_ w') ?_
  refine ko (And.intro @zC_ @hln) ?_
  first|with_reducible refine ks [] @zC_ ?_|refine kp @zC_ ?_
  refine⟨_,(ke @zC_),hN9, ?_⟩
  rfl
end Go.Proofs
end
section
open Go Go.Proofs Go.Sx Go.StP
namespace Go.Proofs
set_option linter.unusedSimpArgs false
theorem amE_ {n:Int} (h: (Lit.int .u8 n).wf=true): ∃c:UInt8,Value.int .u8 n=v8 c:=by
 simp only[Lit.wf,Bool.and_eq_true,decide_eq_true_eq] at h
 have h1: (0:Int)≤n:=h.1
 have h2:n≤255:=h.2
 refine⟨UInt8.ofNat n.toNat, ?_⟩
 unfold v8
 rw[UInt8.toNat_ofNat',Nat.mod_eq_of_lt (by omega),Int.toNat_of_nonneg h1]
end Go.Proofs
end
namespace Go.Proofs
end Go.Proofs
namespace Go.Sx
open Go
theorem ahB_ {P:Program} {f:FuncId} {fn:Func} {s:ChangeSpec} {c:OpenClaim}
  (h1: (c.wf (OpenSpec.ofChange s))=true)
  (h2: (laidOutB P)=true)
  (h3: (mapsRowed P)=true)
  (h4: (fn.params.all (P.readableRec ·))=true)
  (h5: (namedTie P c.named s.vars)=true)
  (h6: ((c.stops== []))=true)
  (h7: ((P.stops== []))=true)
  (h8: ((c.knobs== []))=true)
  (h9: ((P.stopKnobs== []))=true)
  (h10: ((c.inPlace==P.inPlace f))=true)
  (h11: ((c.unfollowed==P.unfollowed f))=true)
  (h12: ((c.recurses==P.recurses f))=true)
  (h13: ((c.named==P.varsNamed f))=true)
  (h14: ((c.maps==(fn.params.toList++s.plain.varTypes P).any (P.mapsRec ·)))=true)
  (h15: ((c.ifaces==(fn.params.toList++s.plain.varTypes P).any (P.ifacesRec ·)))=true)
  (h16: ((c.mapsOut==P.mapsAmong fn.resultTypes.toList))=true)
  (h17: ((c.loops==(fn.params.toList++s.plain.varTypes P).any (P.loopsFrom ·)))=true)
  (h18: ((c.wideKeys==(fn.params.toList++s.plain.varTypes P++fn.resultTypes.toList).any (P.wideKeysFrom ·)))=true)
  (h19: (s.vars.all (P.varReadable ·))=true)
  (h20: (fn.resultTypes.all (fun t=>P.readableRec t&&decide (t<P.types.size)))=true)
  (h21: ((c.ifacesOut==fn.resultTypes.toList.any (P.ifacesRec ·)))=true)
  (h22: ((c.loopsOut==fn.resultTypes.toList.any (P.loopsFrom ·)))=true)
  (h23: ((c.plainKeys==P.plainKeys))=true)
  (h24: (c.shortTexts.isNone)=true)
  (h25: (P.stopsHeard)=true)
  (h26: (P.mayEnter)=true)
  (h27: ((c.lifted==P.liftsFinal))=true)
  (h28: ((P.make==some c.make))=true)
  (h29: ((c.kinds==(if c.domain.isEmpty then [] else fn.params.toList.map fun t=>match P.underlying t with|some (.int k)=>some k|_=>none)))=true)
  (h30: ((c.pinned==c.pinnedBy))=true)
  (h31: ((c.veiled==(fn.params.toList++s.plain.varTypes P++fn.resultTypes.toList).any (P.veiledRec ·)))=true)
  (h32: (c.veiledFits P fn.params.toList (fn.params.toList++s.plain.varTypes P++fn.resultTypes.toList))=true):
  joinedFacts P f fn s c=true:=by
 unfold joinedFacts
 exact(Bool.and_eq_true_iff.2 ⟨(Bool.and_eq_true_iff.2 ⟨(Bool.and_eq_true_iff.2 ⟨(Bool.and_eq_true_iff.2 ⟨(Bool.and_eq_true_iff.2 ⟨(Bool.and_eq_true_iff.2 ⟨(Bool.and_eq_true_iff.2 ⟨(Bool.and_eq_true_iff.2 ⟨(Bool.and_eq_true_iff.2 ⟨(Bool.and_eq_true_iff.2 ⟨(Bool.and_eq_true_iff.2 ⟨(Bool.and_eq_true_iff.2 ⟨(Bool.and_eq_true_iff.2 ⟨(Bool.and_eq_true_iff.2 ⟨(Bool.and_eq_true_iff.2 ⟨(Bool.and_eq_true_iff.2 ⟨(Bool.and_eq_true_iff.2 ⟨(Bool.and_eq_true_iff.2 ⟨(Bool.and_eq_true_iff.2 ⟨(Bool.and_eq_true_iff.2 ⟨(Bool.and_eq_true_iff.2 ⟨(Bool.and_eq_true_iff.2 ⟨(Bool.and_eq_true_iff.2 ⟨(Bool.and_eq_true_iff.2 ⟨(Bool.and_eq_true_iff.2 ⟨(Bool.and_eq_true_iff.2 ⟨(Bool.and_eq_true_iff.2 ⟨(Bool.and_eq_true_iff.2 ⟨(Bool.and_eq_true_iff.2 ⟨(Bool.and_eq_true_iff.2 ⟨(Bool.and_eq_true_iff.2 ⟨h1,h2⟩),h3⟩),h4⟩),h5⟩),h6⟩),h7⟩),h8⟩),h9⟩),h10⟩),h11⟩),h12⟩),h13⟩),h14⟩),h15⟩),h16⟩),h17⟩),h18⟩),h19⟩),h20⟩),h21⟩),h22⟩),h23⟩),h24⟩),h25⟩),h26⟩),h27⟩),h28⟩),h29⟩),h30⟩),h31⟩),h32⟩)
end Go.Sx
