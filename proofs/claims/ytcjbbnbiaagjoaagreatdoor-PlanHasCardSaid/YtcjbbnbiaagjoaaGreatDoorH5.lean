/-
  Part 5 of the walk: contracts of the functions that the law reaches, and the calculus they stand on.
  No conditions.
-/
import Derived.Test.YtcjbbnbiaagjoaaGreatDoorH4
import Derived.ProofKit
import Derived.OpenShut
import Derived.WideKeyArgs
import Derived.ChangeSame
import Derived.ChangeMaps5
import Derived.Lib.LaidTab
import Derived.SliceStrings
import Derived.DataReads
import Derived.Deep.Strs
set_option linter.unusedVariables false
section
open Go Go.Proofs Go.Sx Go.StP Go.Flo Go.Shelf Go.Sort
namespace Go.Proofs
set_option maxRecDepth 10000
set_option maxHeartbeats 1000000
set_option linter.unusedSimpArgs false
theorem ao2_ {o:ObK} (h:rdK o=true):Dig.shaR (k0_ o.k o.t)=(idK o).l:=by
 have h':k3_ o.k o.t=true:=h
 rw[Js_ h']
 unfold idK idV
 rw[if_pos h']
theorem aoT_ {a:OnL} (h:rdK (onO a)=true):k0_ ((a.k.val:Nat):Int) a.x=frO a:=Js_ h
def anyO (l:List ObK) (o:ObK) (n:Nat):Bool:=(l.take n).any fun q=>decide (q=o)
theorem apI_ {l:List ObK} {o:ObK} {n:Nat} (h:n<l.length):anyO l o (n+1)=(anyO l o n||decide (l.getD n xr_=o)):=by
 unfold anyO
 rw[StP.take_snoc (z:=xr_) h,List.any_append];simp
theorem aoI_ {l:List ObK} {o:ObK} (h:o∈l):anyO l o l.length=true:=by
 unfold anyO
 rw[List.take_length,List.any_eq_true]
 exact⟨o,h,by simp⟩
theorem aaW_: ∀ (p:OnL) (l:List OnL) (a:OnL),a∈l→onO a=onO p∨ ∃b,b∈xS_ p l∧onO b=onO a
 |_,[],_,h=>by cases h
 |p,b::l,a,h=>by
  unfold xS_
  rcases List.mem_cons.1 h with rfl|h
  ·split
   ·rename_i h2;exact .inl h2
   ·exact .inr ⟨a,List.mem_cons_self,rfl⟩
  ·rcases aaW_ b l a h with h2| ⟨c,h2,h3⟩
   ·split
    ·rename_i h4;exact .inl (h2.trans h4)
    ·exact .inr ⟨b,List.mem_cons_self,h2.symm⟩
   ·split
    ·exact .inr ⟨c,h2,h3⟩
    ·exact .inr ⟨c,List.mem_cons_of_mem _ h2,h3⟩
theorem akM_ {l:List OnL} {a:OnL} (h:a∈l): ∃b,b∈qe_ l∧onO b=onO a:=by
 cases l with
 |nil=>cases h
 |cons p l=>
  rcases List.mem_cons.1 h with rfl|h
  ·exact⟨a,List.mem_cons_self,rfl⟩
  ·rcases aaW_ p l a h with h2| ⟨c,h2,h3⟩
   ·exact⟨p,List.mem_cons_self,h2.symm⟩
   ·exact⟨c,List.mem_cons_of_mem _ h2,h3⟩
theorem Vr_ {l:List PartL} {N:Nat} (h: ∀k,k<N→(l.getD k zN_).x.length≤4099) (hn:N≤l.length): ∀i,i≤N→Xc_ l i≤4099*i
 |0,_=>by simp[Xc_]
 |i+1,hi=>by
  have ih:=Vr_ h hn i (by omega)
  have:=h i (by omega)
  rw[adS_ (by omega)];omega
structure HjG where
 k:Nat
structure HsG where
 i:Nat
 Y:zb_
set_option linter.defProp false
def zh_:=And.intro (And.intro (And.intro (@zA_) (@zz_)) (And.intro (@Sx.tup2_0) (@Sx.tup2_1))) (And.intro (And.intro (@kc_) (@xz_)) (And.intro (@xw_) (And.intro (@xY_) (@JH_))))
theorem WQ_ (T:List CD) (v:Value) (l:List ObK) (w:World) (hG:GlobE w) (hC:GlobC w) (hT:GlobT T w) (hv:SlV 2 xi_ xr_ w v l):
  Rets Tryz.prog 3 #[v] w (fun v' D=>v'= .bool true∧D= []):=by
 obtain⟨rb,off,arr,E,fz,hr⟩:=hv.row
 have ln:=fun x=>hr.len x
 refine Rets.enterV Tryz.func3 rfl (rs:= [.tmp 2]) Tryz.results3 Tryz.ntmps3 ?_
 refine kf ?_
 first|with_reducible refine ks [] @zh_ ?_|refine kp @zh_ ?_
 refine Ow.callFV rfl Tryz.call4 (fun w' hw'=>jo_ T w' (hG.new hw' trivial) (hC.newP hw' trivial) (hT.new hw' trivial)) ?_
 refine ko @zh_ ?_
 first|with_reducible refine ks [] @zh_ ?_|refine kp @zh_ ?_
 refine Ow.callFV rfl Tryz.call5 (fun w' hw'=>abz_ v l w' (SlV.rowX (hv.oldN hw' trivial))) ?_
 cases hgr:Wv_ l with
 |true=>
  refine ko @zh_ ?_
  first|with_reducible refine ks [] @zh_ ?_|refine kp @zh_ ?_
  refine Ow.callFV rfl Tryz.call4 (fun w' hw'=>jo_ T w' (hG.new hw' trivial) (hC.newP hw' trivial) (hT.new hw' trivial)) ?_
  refine ko @zh_ ?_
  first|with_reducible refine ks [] @zh_ ?_|refine kp @zh_ ?_
  refine⟨_,(ke @zh_),trivial, ?_⟩
  rfl
 |false=>
 obtain⟨h40,h25⟩:=ajp_ hgr
 refine ko @zh_ ?_
 refine Ow.callC rfl rfl Tryz.call6 (fun w' hw'=>Rets.toX (WS_ v l w' (SlV.rowX (hv.oldN hw' trivial)) (by omega) (fun o ho=>by have:=h25 o ho;omega))) (fun BC vC DC hAC hBC hNC hSC=> ?_)
 obtain⟨rfl,bc,rfl,hcl⟩:=hSC
 clear hAC hNC
 rw[List.append_nil]
 cases bc with
 |true=>
  refine ko @zh_ ?_
  first|with_reducible refine ks [] @zh_ ?_|refine kp @zh_ ?_
  refine Ow.callFV rfl Tryz.call4 (fun w' hw'=>jo_ T w' (hG.new hw' trivial) (hC.newP hw' trivial) (hT.new hw' trivial)) ?_
  refine ko @zh_ ?_
  first|with_reducible refine ks [] @zh_ ?_|refine kp @zh_ ?_
  refine⟨_,(ke @zh_),trivial, ?_⟩
  rfl
 |false=>
 clear hcl
 refine ko @zh_ ?_
 first|with_reducible refine ks [] @zh_ ?_|refine kp @zh_ ?_
 refine Ow.callC rfl rfl Tryz.call7 (fun w' hw'=>Rets.toX (Zi_ T v l w' (hG.new hw' trivial) (hC.newP hw' trivial) (hT.new hw' trivial) (hv.oldN hw' trivial) (by omega))) (fun B1 v1 D1 hA1 hB1 hN1 hS1=> ?_)
 obtain⟨rfl,hS1⟩:=hS1
 clear hA1 hN1
 rw[List.append_nil]
 rcases hS1 with⟨-,rfl⟩ | ⟨hok,Z,hZ,rfl⟩
 ·have e1: (((1:Int)) !=0)=true:=rfl
  refine ko @zh_ ?_
  first|with_reducible refine ks [] (And.intro @zh_ @e1) ?_|refine kp (And.intro @zh_ @e1) ?_
  refine Ow.callFV rfl Tryz.call4 (fun w' hw'=>jo_ T w' (hG.new hw' trivial) (hC.newP hw' trivial) (hT.new hw' trivial)) ?_
  refine ko @zh_ ?_
  first|with_reducible refine ks [] @zh_ ?_|refine kp @zh_ ?_
  refine⟨_,(ke @zh_),trivial, ?_⟩
  rfl
 have hzl:=hZ.1.length_eq
 rw[List.length_map] at hzl
 have hul:=wX_ Z
 have hsub: ∀a,a∈qe_ Z→rdK (onO a)=true∧onO a∈l:=fun a ha=>by
  obtain⟨o,ho,he⟩:=List.mem_map.1 (hZ.1.mem_iff.1 (Jc_ Z a ha))
  have h1:=VM_ (hok o ho)
  rw[he] at h1
  rw[h1];exact⟨hok o ho,ho⟩
 have hall: ∀o,o∈l→ ∃b,b∈qe_ Z∧onO b=o:=fun o ho=>by
  obtain⟨b,hb,he⟩:=akM_ (hZ.1.mem_iff.2 (List.mem_map_of_mem (f:=toOn) ho))
  exact⟨b,hb,by rw[he,VM_ (hok o ho)]⟩
 unfold Vf_
 generalize qe_ Z=C at*
 by_cases hbig:bigB (k8_ C)=true
 ·rw[if_pos hbig]
  have e1: (((19:Int)) !=0)=true:=rfl
  refine ko @zh_ ?_
  first|with_reducible refine ks [] (And.intro @zh_ @e1) ?_|refine kp (And.intro @zh_ @e1) ?_
  refine Ow.callFV rfl Tryz.call4 (fun w' hw'=>jo_ T w' (hG.new hw' trivial) (hC.newP hw' trivial) (hT.new hw' trivial)) ?_
  refine ko @zh_ ?_
  first|with_reducible refine ks [] @zh_ ?_|refine kp @zh_ ?_
  refine⟨_,(ke @zh_),trivial, ?_⟩
  rfl
 rw[if_neg hbig]
 have hsm: ∀k,k< (k8_ C).length→((k8_ C).getD k []).length≤4099:=fun k hk=>by
  rcases Nat.lt_or_ge 4099 ((k8_ C).getD k []).length with h3|h3
  ·exact absurd (bigB_T.2 ⟨k,hk,h3⟩) hbig
  ·exact h3
 have hPl:Kv_ T C=jC_ T (k8_ C) (wy_ C C.length) (k8_ C).length:=by rw[v4_];rfl
 have hPn: (Kv_ T C).length=C.length:=j0_ _ _ _ _
 cases hf:fillV (Kv_ T C) with
 |none=>
  rw[ajK_ hf]
  have e1: (((1:Int)) !=0)=true:=rfl
  refine ko @zh_ ?_
  first|with_reducible refine ks [] (And.intro @zh_ @e1) ?_|refine kp (And.intro @zh_ @e1) ?_
  refine Ow.callFV rfl Tryz.call4 (fun w' hw'=>jo_ T w' (hG.new hw' trivial) (hC.newP hw' trivial) (hT.new hw' trivial)) ?_
  refine ko @zh_ ?_
  first|with_reducible refine ks [] @zh_ ?_|refine kp @zh_ ?_
  refine⟨_,(ke @zh_),trivial, ?_⟩
  rfl
 |some q=>
 rw[akU_ hf]
 have hsp: ∀p,p∈Kv_ T C→p.x.length≤65536:=fun p hp=>by
  obtain⟨k,hk,rfl⟩:=List.getElem_of_mem hp
  have h1: (Kv_ T C)[k]=(Kv_ T C).getD k zN_:=by rw[List.getD_eq_getElem?_getD,List.getElem?_eq_getElem hk];rfl
  rw[h1,Kv_,v0_ _ _ _ _ _ (by omega)]
  have h2:=Qy_ (T:=T) (l:=jC_ T (k8_ C) (wy_ C C.length) k) (ts:=k8_ C) (at_:=k) (b:=(wy_ C C.length).getD k 0)
  have h3:=hsm k (by rw[v4_];omega)
  omega
 have hop:=KO_ hf hsp
 have hsl:=akQ_ hf
 have e0: ((0:Int) !=0)=false:=rfl
 obtain⟨hq,hdp⟩:=ahs_ (T:=T) (ts:=k8_ C) (bs:=wy_ C C.length) hsm (by rw[←hPl];exact hf)
 have hsum:=ail_ (T:=T) (ts:=k8_ C) (bs:=wy_ C C.length) (k8_ C).length (Nat.le_refl _)
 have hsf:=ahZ_ hsm
 rw[←hPl] at hdp hsum
 have hPx: ∀k,k<C.length→((Kv_ T C).getD k zN_).x.length≤4099:=fun k hk=>by
  rw[Kv_,v0_ _ _ _ _ _ hk]
  have h2:=Qy_ (T:=T) (l:=jC_ T (k8_ C) (wy_ C C.length) k) (ts:=k8_ C) (at_:=k) (b:=(wy_ C C.length).getD k 0)
  have h3:=hsm k (by rw[v4_];omega)
  omega
 have hel: ∀k,k<C.length→ ∃a,rdK (onO a)=true∧onO a∈l∧(k8_ C).getD k []=frO a:=fun k hk=>by
  have h1:k< (Qh_ C).length:=by rw[wI_];exact hk
  refine⟨(Qh_ C)[k], ?_, ?_, ?_⟩
  ·exact(hsub _ ((kz_ C).mem_iff.1 (List.getElem_mem h1))).1
  ·exact(hsub _ ((kz_ C).mem_iff.1 (List.getElem_mem h1))).2
  ·unfold k8_
   rw[List.getD_eq_getElem?_getD,List.getElem?_map,List.getElem?_eq_getElem h1];rfl
 have hfind: ∀o,o∈l→0≤idxG (idK o) ((k8_ C).map jV_) 0:=fun o ho=>by
  obtain⟨b,hb,rfl⟩:=hall o ho
  have h1:=Vw_ (idK (onO b)) ((k8_ C).map jV_) 0
  have h2: ((k8_ C).map jV_).any (fun y=>(idK (onO b)).l==y.l)=true:=by
   rw[List.any_eq_true]
   refine⟨jV_ (frO b),List.mem_map_of_mem (List.mem_map_of_mem ((kz_ C).mem_iff.2 hb)), ?_⟩
   rw[amV_ (hsub b hb).1];simp
  rw[h2] at h1
  exact of_decide_eq_true h1
 have htl:=v4_ C
 clear hPl hsp hbig hall hZ
 generalize Kv_ T C=P at*
 generalize kH_ (ke_ P)=s at*
 generalize k8_ C=ts at*
 clear hf
 subst hq
 have hil: (ts.map jV_).length=ts.length:=List.length_map _
 have hol: (ts.map zJ_).length=P.length:=by rw[List.length_map,htl,hPn]
 have hog: ∀k,k<ts.length→(ts.map zJ_).getD k ob0=zJ_ (ts.getD k []):=fun k hk=>by
  rw[List.getD_eq_getElem?_getD,List.getElem?_map,List.getElem?_eq_getElem hk,List.getD_eq_getElem?_getD,List.getElem?_eq_getElem hk];rfl
 generalize ts.map jV_=ids at*
 generalize ts.map zJ_=os at*
 generalize hN:C.length=N at*
 clear hsub
 refine ko @zh_ ?_
 first|with_reducible refine ks [] (And.intro @zh_ @e0) ?_|refine kp (And.intro @zh_ @e0) ?_
 refine Ow.callC rfl rfl Tryz.call8 (fun w' hw'=>KI_ s w' (hG.new hw' trivial) (hC.newP hw' trivial) hsl) (fun B3 v3 D3 hA3 hB3 hN3 hS3=> ?_)
 unfold alR_ at hS3
 rw[hop] at hS3
 obtain⟨bp,rfl,hP⟩:=hS3
 simp only at hP
 have hN3':=hN3.mono hB3
 rw[List.nil_append]
 generalize Z6_ 0 _ P=sp at*
 refine ko @zh_ ?_
 first|with_reducible refine ks [] (And.intro @zh_ @e0) ?_|refine kp (And.intro @zh_ @e0) ?_
 refine Ow.callC rfl rfl Tryz.call9 (fun w' hw'=>ad7_ bp P sp ids os w' (hP.inW (fun q hq=>by simp[hq]) hw') (by omega)) (fun B4 v4 D4 hA4 hB4 hN4 hS4=> ?_)
 have hN4':=hN3'.app (hN4.mono hB4)
 have hPY:PackD (D3++D4) bp P sp ids os:=hP.mono fun p hp=>List.mem_append_left _ hp
 have hSY:GrI (D3++D4) 41 3 v4 P.length (P.map zq_).flatten:=hS4.mono fun p hp=>List.mem_append_right _ hp
 clear hN3 hN4 hA3 hB3 hA4 hB4 hP hS4 hN3'
 generalize D3++D4=Y0 at*
 refine ko @zh_ ?_
 first|with_reducible refine ks [] @zh_ ?_|refine kp @zh_ ?_
 refine Cw.loopG (G:=HsG) [48,49,50,51,55,56,57,54,58,59,11,12,61,62,63,60,64,65,13,14,15,16,66,67,68,69,72,73,74,75,76,77,78,79,80,70,71,81,82,83,84,85,86,87,88,89,90,91,92,93,94,2,95,96,97,98,99,100,101,102,8,103,104,105,106,107,9,52,53,10] (fun g=> [(10,vi g.i),(8,vi (Xc_ P g.i:Nat)),(9,vi (sumF ts g.i:Nat))]) (fun g=>g.Y) (fun g=>g.i≤N∧New w.heap.size g.Y∧(∀p,p∈Y0→p∈g.Y)) (fun g=>N - g.i) ⟨0,Y0⟩ rfl rfl ?_ ?_
 ·exact⟨Nat.zero_le _,hN4',fun p hp=>hp⟩
 intro g j hg
 refine kv ?_
 clear hN4'
 obtain⟨i,Y⟩:=g
 simp only at hg ⊢
 obtain⟨hi,hNY,hY⟩:=hg
 have hPi:=hPY.mono hY
 have hSi:=hSY.mono hY
 first|with_reducible refine ks [] @zh_ ?_|refine kp @zh_ ?_
 refine Ow.callFV rfl Tryz.call10 (fun w' hw'=>JU_ bp P sp ids os w' (hPi.inW (fun q hq=>hq) hw')) ?_
 by_cases hlt:i<N
 ·have d1:decide ((i:Int)< (P.length:Int))=true:=decide_eq_true (by omega)
  obtain⟨hde,hdl,hdm⟩:=hdp i (by omega)
  obtain⟨a,hrd,hal,hta⟩:=hel i hlt
  have ho:=hog i (by omega)
  rw[hta,aao_ hrd] at ho
  have hv1:hasV P ((i:Nat):Int)=true:=by
   unfold hasV
   rw[Bool.and_eq_true,decide_eq_true_eq,decide_eq_true_eq];omega
  have hsx:=adS_ (l:=P) (n:=i) (by omega)
  have hsF:=ah8_ (ts:=ts) (n:=i) (by omega)
  have hbx:=hPx i hlt
  have hb1:=hsf i (by omega)
  have hb2:=hsf (i+1) (by omega)
  have hb3:=Vr_ (N:=N) hPx (by omega) i (by omega)
  rw[hta] at hsF
  have hat:a.x.length<100000:=by have:=h25 _ hal;show(onO a).t.length<100000;omega
  have hfl:k0_ ((a.k.val:Nat):Int) a.x=frO a:=aoT_ hrd
  generalize hpp:P.getD i zN_=p at*
  refine ko (And.intro @zh_ @d1) ?_
  first|with_reducible refine ks [] @zh_ ?_|refine kp @zh_ ?_
  refine Ow.callFV rfl Tryz.call11 (fun w' hw'=>Kw_ v4 P ((i:Nat):Int) w' (hSi.slV (l:=P) hw' rfl rfl qv_) (by omega)) ?_
  rw[hde]
  generalize (xP_ P ((i:Nat):Int)).1=dv at*
  refine ko @zh_ ?_
  first|with_reducible refine ks [] @zh_ ?_|refine kp @zh_ ?_
  refine Ow.callFV rfl Tryz.call12 (fun w' hw'=>aaA_ bp ((i:Nat):Int) P sp ids os w' (hPi.inW (fun q hq=>hq) hw') hol) ?_
  rw[hv1,if_pos rfl,Int.toNat_natCast,ho]
  refine ko @zh_ ?_
  refine Ow.alloc rfl rfl J0_ fun b13 hb13 hw13=> ?_
  simp only[za_,List.nil_append,List.cons_append]
  refine Ow.permL (M:=(b13, .cells #[vi 0,vs []] 37 (0,0))::Y) (by classical exact List.perm_iff_count.2 fun a=>by simp only[List.count_append,List.count_cons,List.count_nil]<;>omega) ?_
  refine ko @zh_ ?_
  first|with_reducible refine ks [] @zh_ ?_|refine kp @zh_ ?_
  refine Cw.loopG (G:=HjG) [66,67,68,69,72,73,74,75,76,77,78,79,80,15,70,71,16] (fun g=> [(16,vi g.k),(15, .bool (anyO l (onO a) g.k))]) (fun g=>(b13, .cells #[vi ((a.k.val:Nat):Int),vs a.x] 37 (0,0))::Y) (fun g=>g.k≤l.length) (fun g=>l.length - g.k) ⟨0⟩ rfl rfl ?_ ?_
  ·exact Nat.zero_le _
  intro g j hg
  refine kv ?_
  obtain⟨k⟩:=g
  simp only at hg ⊢
  have hN13:New w.heap.size ((b13,Obj.cells #[vi ((a.k.val:Nat):Int),vs a.x] 37 (0,0))::Y):=⟨hw13,hNY⟩
  by_cases hkl:k<l.length
  ·have d2:decide ((k:Int)< (l.length:Int))=true:=decide_eq_true (by omega)
   have has:=apI_ (o:=onO a) hkl
   have ix:=hr.idx true k hkl
   have ld:=ZB_ hr hkl
   have hrl:=hr.lt (by omega)
   have rd:zj_ w ((b13,Obj.cells #[vi ((a.k.val:Nat):Int),vs a.x] 37 (0,0))::Y) rb=some (.cells arr E fz):=by rw[z4_ (hN13.not hrl)];exact hr.has (by omega)
   have r13:zj_ w ((b13,Obj.cells #[vi ((a.k.val:Nat):Int),vs a.x] 37 (0,0))::Y) b13=some (.cells #[vi ((a.k.val:Nat):Int),vs a.x] 37 (0,0)):=zr_ _ _ _ _
   have heq:qI_ Tryz.prog .eql 37 (obV (l.getD k xr_).k (l.getD k xr_).t) (obV ((a.k.val:Nat):Int) a.x)=some (.bool (decide (l.getD k xr_=onO a))):=apO_ (l.getD k xr_) (onO a)
   have ldo:zl_ (some (true,2)) (some (.cells #[vi ((a.k.val:Nat):Int),vs a.x] 37 (0,0))) 0=some (obV ((a.k.val:Nat):Int) a.x):=kc_ _ _ _ _
   generalize l.getD k xr_=o at*
   cases hc:anyO l (onO a) k with
   |true=>
    rw[hc,Bool.true_or] at has
    first|with_reducible refine ks [] (And.intro @zh_ (And.intro @ln (@d2))) ?_|refine kp (And.intro @zh_ (And.intro @ln (@d2))) ?_
    refine Cw.regionS [rb,b13] [0,1,2,3,4,5,6,7,8,9] [] (by kernel_rfl) (by kernel_rfl) (by kernel_rfl) ?_
    refine kya ?_
    refine kq @zh_ ?_
    try with_reducible refine Ow.nil ?_
    first|with_reducible refine ks [] @zh_ ?_|refine kp @zh_ ?_
    exact Again.mk ⟨k+1⟩ (by show l.length - (k+1)<l.length - k;omega) hkl rfl (by rw[has];rfl)
   |false=>
    rw[hc,Bool.false_or] at has
    first|with_reducible refine ks [] (And.intro @zh_ (And.intro @ln (@d2))) ?_|refine kp (And.intro @zh_ (And.intro @ln (@d2))) ?_
    refine Cw.regionS [rb,b13] [0,1,2,3,4,5,6,7,8,9] [] (by kernel_rfl) (by kernel_rfl) (by kernel_rfl) ?_
    refine kya ?_
    refine kq (And.intro @zh_ (And.intro @ix (And.intro @ld (And.intro @rd (And.intro @r13 (And.intro @ldo (@heq))))))) ?_
    try with_reducible refine Ow.nil ?_
    first|with_reducible refine ks [] @zh_ ?_|refine kp @zh_ ?_
    exact Again.mk ⟨k+1⟩ (by show l.length - (k+1)<l.length - k;omega) hkl rfl (by rw[has];rfl)
  ·obtain rfl:k=l.length:=by omega
   have d2:decide ((l.length:Int)< (l.length:Int))=false:=by simp
   rw[aoI_ hal]
   have e1:decide ((4:Int)<dv)=false:=decide_eq_false (by omega)
   refine Cw.world fun wz hwz=> ?_
   obtain⟨bg,og,ag,Eg,fg,hrg,hlg⟩:=GrI.rowL (z:=zN_) (l:=P) (hSi.mono (D':=(b13, .cells #[vi ((a.k.val:Nat):Int),vs a.x] 37 (0,0))::Y) (fun p hp=>List.mem_cons_of_mem _ hp)) rfl hwz qv_
   have rdg:zj_ w ((b13, .cells #[vi ((a.k.val:Nat):Int),vs a.x] 37 (0,0))::Y) bg=some (.cells ag Eg fg):=zu_ (hlg (by omega))
   clear hwz hlg
   have ixg:=hrg.idx true i (by omega)
   have ldg: ∀n,zl_ (some (false,n)) (some (.cells ag Eg fg)) (og+i*3+2)=some (vs p.x):=fun n=>by
    have:=hrg.cell (j:=2) (n:=n) (show i<P.length by omega) (by decide)
    rw[hpp] at this
    exact this
   have en: (((Xc_ P i:Nat):Int)+ ((p.x.length:Nat):Int))=((Xc_ P (i+1):Nat):Int):=by rw[hsx];omega
   have ef: (((sumF ts i:Nat):Int)+ (((frO a).length:Nat):Int))=((sumF ts (i+1):Nat):Int):=by rw[hsF];omega
   have lnP: ∀x,wu_ (.sl x) v4=some (vi P.length):=vD_ hSi
   first|with_reducible refine ks [26] (And.intro @zh_ (And.intro @ln (And.intro @d2 (And.intro @e0 (And.intro @e1 (And.intro @lnP (And.intro @ixg (And.intro @ldg (And.intro @rdg (And.intro @en (And.intro @Bool.not_false (@Bool.not_true)))))))))))) ?_|refine kp (And.intro @zh_ (And.intro @ln (And.intro @d2 (And.intro @e0 (And.intro @e1 (And.intro @lnP (And.intro @ixg (And.intro @ldg (And.intro @rdg (And.intro @en (And.intro @Bool.not_false (@Bool.not_true)))))))))))) ?_
   refine Ow.callFV rfl Tryz.call13 (fun w' hw'=>Ju_ ((a.k.val:Nat):Int) a.x w' hat) ?_
   rw[hfl]
   refine ko (And.intro @zh_ @ef) ?_
   first|with_reducible refine ks [] @zh_ ?_|refine kp @zh_ ?_
   exact Again.mk ⟨i+1,(b13, .cells #[vi ((a.k.val:Nat):Int),vs a.x] 37 (0,0))::Y⟩ (by show N - (i+1)<N - i;omega) ⟨hlt,⟨hw13,hNY⟩,fun p hp=>List.mem_cons_of_mem _ (hY p hp)⟩ rfl rfl
 ·obtain rfl:i=N:=by omega
  have d1:decide ((i:Int)< (P.length:Int))=false:=decide_eq_false (by omega)
  have hb2:=hsf i (by omega)
  have hb3:=Vr_ (N:=i) hPx (by omega) i (by omega)
  rw[htl] at hsum
  refine ko (And.intro @zh_ @d1) ?_
  first|with_reducible refine ks [] (And.intro @zh_ @d1) ?_|refine kp (And.intro @zh_ @d1) ?_
  refine Cw.loopG (G:=HjG) [108,109,110,111,114,115,116,117,118,119,120,121,2,112,113,17] (fun g=> [(17,vi g.k)]) (fun g=>Y) (fun g=>g.k≤l.length) (fun g=>l.length - g.k) ⟨0⟩ rfl rfl ?_ ?_
  ·exact Nat.zero_le _
  intro g j hg
  refine kv ?_
  obtain⟨k⟩:=g
  simp only at hg ⊢
  by_cases hkl:k<l.length
  ·have d2:decide ((k:Int)< (l.length:Int))=true:=decide_eq_true (by omega)
   have ix:=hr.idx true k hkl
   have ld:=ZB_ hr hkl
   have hrl:=hr.lt (by omega)
   have rd:zj_ w Y rb=some (.cells arr E fz):=by rw[z4_ (hNY.not hrl)];exact hr.has (by omega)
   have hmm:l.getD k xr_∈l:=by rw[List.getD_eq_getElem?_getD,List.getElem?_eq_getElem hkl];exact List.getElem_mem _
   generalize l.getD k xr_=o at*
   have hag:=ao2_ (hok o hmm)
   have hix:=hfind o hmm
   have hot:=h25 o hmm
   have ld1:zl_ (some (true,2)) (some (.cells arr E fz)) (off+k*2)=some (obV o.k o.t):=ld
   have d3:decide (idxG (idK o) ids 0<0)=false:=decide_eq_false (by omega)
   first|with_reducible refine ks [] (And.intro @zh_ (And.intro @ln (And.intro @d2 (And.intro @ix (And.intro @ld1 (@rd)))))) ?_|refine kp (And.intro @zh_ (And.intro @ln (And.intro @d2 (And.intro @ix (And.intro @ld1 (@rd)))))) ?_
   refine Ow.callFV rfl Tryz.call15 (fun w' hw'=>V8_ o.k o.t w' (by omega)) ?_
   rw[hag]
   refine ko @zh_ ?_
   refine Ow.callFV rfl Tryz.call14 (fun w' hw'=>agT_ bp (idK o) P sp ids os w' (hPi.inW (fun q hq=>hq) hw') (by omega)) ?_
   refine ko (And.intro @zh_ @d3) ?_
   first|with_reducible refine ks [] @zh_ ?_|refine kp @zh_ ?_
   exact Again.mk ⟨k+1⟩ (by show l.length - (k+1)<l.length - k;omega) hkl rfl rfl
  ·obtain rfl:k=l.length:=by omega
   have d2:decide ((l.length:Int)< (l.length:Int))=false:=by simp
   have d3:decide (((Xc_ P i:Nat):Int)≤ ((sumF ts i:Nat):Int))=true:=decide_eq_true (by omega)
   first|with_reducible refine ks [] (And.intro @zh_ (And.intro @ln (@d2))) ?_|refine kp (And.intro @zh_ (And.intro @ln (@d2))) ?_
   refine Ow.callFV rfl Tryz.call4 (fun w' hw'=>jo_ T w' (hG.new hw' hNY) (hC.newP hw' hNY) (hT.new hw' hNY)) ?_
   refine ko (And.intro @zh_ @d3) ?_
   first|with_reducible refine ks [] @zh_ ?_|refine kp @zh_ ?_
   refine⟨_,(ke @zh_),hNY, ?_⟩
   rfl
end Go.Proofs
end
namespace Go.Sx
open Go Go.ChangeShapes Go.WideShapes Go.RowKit
theorem Hp.same0 {W W':World} (h:Hp W [] W') {b:Nat} (hb:b<W.heap.size):W'.heap[b]? =W.heap[b]? :=h.old b hb (fun hm=>by cases hm)
theorem Hp.kept {W W':World} (h:Hp W [] W') (may:MemPlace→Prop):W.keptBut W' may:=by
 refine⟨h.os,h.output,fun i hi=> ?_⟩
 rw[h.same0 hi]
 cases ho:W.heap[i]? with
 |none=>rfl
 |some o=>
  cases o<;>first
   |exact⟨rfl,rfl,rfl,fun _ _=>rfl⟩
   |exact .inr ⟨rfl,rfl⟩
   |rfl
theorem Hp.sameAt {W W':World} (h:Hp W [] W') {p:MemPlace} (hp:p.block<W.heap.size):W.sameAt W' p:=by
 cases p with
 |cell b off=>
  have:=h.same0 (b:=b) hp
  simp only[World.sameAt,World.cell?,this]
 |map b=>exact h.same0 hp
theorem Hp.frozen {W W':World} (h:Hp W [] W') {a:Addr} (ha:a.block<W.heap.size):W'.frozen? a=W.frozen? a:=by
 simp only[World.frozen?,h.same0 ha]
section
variable {H:Type} {enc:TypeId×Value→H} {P:Program}
theorem Zf_ (hl:laidOutB P=true) {W W':World} {sp:Nat→Bool} (hp:Hp W [] W'): ∀ {ts:List TypeId} {vs:List Value} {ds:List (DataW H)} {ps:List MemPlace},
  (∀t∈ts,P.readableRec t=true∧t<P.types.size)→(∀p∈ps,p.block<W.heap.size)→(∀p∈ps,sp p.block=true)→
  DataW.TrodAll enc P W 0 (fun _=>true) true ts vs ds ps→DataW.TrodAll enc P W' 0 sp true ts vs ds ps
 | [],_,_,_,_,_,_,h=>by
  obtain⟨rfl,rfl,rfl⟩:=trodAll_nil h
  exact trodAll_mk0
 |t::ts,_,_,_,ht,hlt,hs,h=>by
  obtain⟨v,vs,d,ds,p,q,rfl,rfl,rfl,h1,h2⟩:=trodAll_cons h
  have hlt1: ∀x∈p,x.block<W.heap.size:=fun x hx=>hlt x (List.mem_append_left _ hx)
  exact trodAll_cons_mk (WideElems.Trod_stays hl (ht t List.mem_cons_self).1 (ht t List.mem_cons_self).2 h1 (fun x hx=>hp.sameAt (hlt1 x hx)) (fun x hx=>hs x (List.mem_append_left _ hx)))
   (Zf_ hl hp (fun u hu=>ht u (List.mem_cons_of_mem _ hu)) (fun x hx=>hlt x (List.mem_append_right _ hx)) (fun x hx=>hs x (List.mem_append_right _ hx)) h2)
theorem ajr_ {f:Func} {s:ChangeSpec} {W W':World} {args:Array Value} {ds gs:List (DataW H)} {before:List MemPlace} {tb:TypeId} (hl:laidOutB P=true)
  (hW:DataW.Whole enc P f.params.toList s.vars false W args.toList ds gs before) (hv:s.vars= []) (hpar: ∀t∈f.params.toList,P.readableRec t=true∧t<P.types.size)
  (hr:f.resultTypes= #[tb]) (htb:P.underlying tb=some .bool) (hfn:s.fn H ds={results:= [.lit (.bool true)],args:=ds}) (hp:Hp W [] W'):
  s.post enc P f false true false false W args (.bool true) W':=by
 have hlt:=hW.lt
 have hW0:=hW
 obtain⟨p,q,hA,hV,rfl,hz,hn⟩:=hW
 rw[hv] at hV
 obtain⟨rfl,rfl⟩:=trodVars_none hV
 rw[List.append_nil] at hW0 hlt hz
 have hargs: ∀sp:Nat→Bool,(∀x∈p,sp x.block=true)→DataW.TrodAll enc P W' 0 sp true f.params.toList args.toList (s.fn H (ds++ [])).args p:=fun sp hs=>by
  rw[List.append_nil,hfn]
  exact Zf_ hl hp hpar hlt hs hA
 have hvars: ∀sp:Nat→Bool,DataW.TrodVars enc P W' sp s.vars (s.fn H (ds++ [])).vars []:=fun sp=>by
  rw[List.append_nil,hfn,hv];rfl
 have hres: ∀ (b:Nat) (sp:Nat→Bool) (hd:Bool),DataW.TrodAll enc P W' b sp hd f.resultTypes.toList ((Value.bool true).resultList f.resultTypes.size) (s.fn H (ds++ [])).results []:=fun b sp hd=>by
  rw[List.append_nil,hfn,hr]
  exact trodAll_cons_mk (shut_bool htb true) trodAll_mk0
 have hold: ∀x∈p,(fun b=>decide (b<W.heap.size)) x.block=true:=fun x hx=>by simpa using hlt x hx
 refine⟨ds,[],p,[],p,[],hW0,hres _ _ _,hargs _ hold,hvars _,hp.kept _,fun _=> ?_⟩
 refine⟨ok_one hr rfl (okWide_bool_mk htb true),_,_,([]++p)++ [],⟨[]++p,[],trodAll_append (hargs _ (fun _ _=>rfl)) (hres _ _ _),hvars _,rfl, ?_,fun h=>by cases h⟩, ?_⟩
 ·intro b off hx
  have hx':MemPlace.cell b off∈p:=by simpa using hx
  rw[hp.frozen (hlt _ hx')]
  exact hz b off hx'
 ·intro x hx _
  simpa using hx
end
section
variable {P:Program} {W:World} {name:String} {k:IntKind} {zs:List Int}
theorem kU_ {t e:TypeId} {g n:Nat} (hg:P.globalNamed name=some g) (hty: (P.globals[g]?).map (·.type)=some t) (ht:P.underlying t=some (.array n e)) (he:P.underlying e=some (.int k)) (hce:P.cellsOf e=1) (hct:P.cellsOf t=n):
  ∀ {laid:List (String×DataW Unit)} {ps:List MemPlace},DataW.LaidVars P W laid ps→(name,Lib.tabData k zs)∈laid→Lib.TabIs P W name k zs
 | [],_,_,hm=>by cases hm
 | (n',d')::rest,ps,h,hm=>by
  obtain⟨g',t',cs,fuel,p,q,hg',ht',hvar,hd,hr,-⟩:=h
  rcases List.mem_cons.1 hm with hm|hm
  ·cases hm
   obtain rfl:=Option.some.inj (hg.symm.trans hg')
   obtain rfl:=Option.some.inj (hty.symm.trans ht')
   unfold Lib.TabIs
   rw[hvar,←Lib.cells_of_tab ht he hce hct hd]
  ·exact kU_ hg hty ht he hce hct hr hm
theorem wo_ {g:Nat} (hg:P.globalNamed name=some g) (h:Lib.TabIs P W name k zs): ∃e f,W.heap[g]? =some (.cells (zs.map fun z=>Value.int k z).toArray e f):=by
 unfold Lib.TabIs at h
 simp only[World.var?,hg,Option.bind_some] at h
 split at h
 ·rename_i cs e f hb
  cases h
  exact⟨e,f,hb⟩
 ·cases h
end
section
variable {H:Type} {enc:TypeId×Value→H} {P:Program}
end
end Go.Sx
namespace Go.Sx
open Go
section
variable {P:Program}
theorem alk_ {fits:TypeId→Bool} {d:Nat} {e:TypeId} {count off n:Nat} (h:rowAt P fits d e count off n=true):off≤count*P.cellsOf e:=by
 cases d with
 |zero=>simp[rowAt] at h
 |succ d=>
  unfold rowAt at h
  simp only at h
  split at h
  ·cases h
  ·rename_i hs
   have hs':0<P.cellsOf e:=Nat.pos_of_ne_zero hs
   have hd:=Nat.div_add_mod off (P.cellsOf e)
   have hm:=Nat.mod_lt off hs'
   rw[Bool.or_eq_true] at h
   rcases h with h|h
   ·simp only[Bool.and_eq_true,beq_iff_eq,decide_eq_true_eq] at h
    have:off / P.cellsOf e*P.cellsOf e≤count*P.cellsOf e:=Nat.mul_le_mul_right _ (by omega)
    rw[Nat.mul_comm (P.cellsOf e)] at hd
    omega
   ·simp only[Bool.and_eq_true,decide_eq_true_eq] at h
    have: (off / P.cellsOf e+1)*P.cellsOf e≤count*P.cellsOf e:=Nat.mul_le_mul_right _ (by omega)
    rw[Nat.add_mul,Nat.one_mul] at this
    rw[Nat.mul_comm (P.cellsOf e)] at hd
    omega
theorem aa6_ {e:TypeId} {count off:Nat}: ∀ {d:Nat} {u:TypeId} {n:Nat},liesAt P d e count off u n=true→off≤count*P.cellsOf e
 |0,u,n,h=>by simp[liesAt] at h
 |d+1,u,n,h=>by
  unfold liesAt at h
  rw[Bool.or_eq_true] at h
  rcases h with h|h
  ·exact alk_ h
  ·split at h
   ·exact aa6_ h
   ·cases h
theorem aqa_ {W:World} {r:Reach} {base:Nat} {a:Addr} {e:TypeId} {n:Nat} (h:W.has P r base a e n):a.spot=none∧ ∃arr E fz,W.heap[a.block]? =some (.cells arr E fz)∧a.off≤arr.size:=by
 obtain⟨-,hs,row,cells,hsh,hl⟩:=h
 refine⟨hs, ?_⟩
 unfold World.shape? at hsh
 split at hsh
 ·rename_i c el fz hh
  cases hsh
  refine⟨c,_,fz,hh,Nat.le_trans (aa6_ hl) ?_⟩
  exact Nat.div_mul_le_self _ _
 ·cases hsh
theorem ai0_ {W:World} {r:Reach} {base:Nat} {t e:TypeId} {v:Value} (ht:P.underlying t=some (.slice e)) (h:Value.okWide P W r base t v):
  v= .slice none 0 0∨ ∃b off len cap arr E fz,v=vsl b off len cap∧len≤cap∧W.heap[b]? =some (.cells arr E fz)∧off≤arr.size:=by
 obtain⟨a,len,cap,rfl⟩:=Go.WideShapes.okWide_slice ht h
 unfold Value.okWide at h
 rw[ht] at h
 unfold Cell.okWide at h
 rw[ht] at h
 simp only at h
 unfold Cell.ok at h
 rw[ht] at h
 cases a with
 |none=>
  left
  simp only at h
  split at h
  all_goals first| (cases h;done) |simp_all
 |some a=>
  right
  simp only at h
  obtain⟨hle,-,hh⟩:=h
  obtain⟨hs,arr,E,fz,hb,ho⟩:=aqa_ hh
  obtain⟨b,off,sp⟩:=a
  simp only at hs
  subst hs
  exact⟨b,off,len,cap,arr,E,fz,rfl,hle,hb,ho⟩
theorem aqR_ {α:Type} {enc:α→List Value} {z:α} {m:Nat} {W:World} {base b off c:Nat} {l:List α} {arr:Array Value} {E:TypeId} {fz:Nat×Nat} (hm0:0<m) (hm: ∀x,(enc x).length=m)
  (hcells: ∀i,i<l.length→W.cells? base ((Addr.mk b off none).add (i*m)) m=some (enc (l.getD i z))) (hheap:W.heap[b]? =some (.cells arr E fz)) (hoff:off≤arr.size) (hc:l.length≤c):SlV m enc z W (vsl b off l.length c) l:=by
 have get: ∀k,k<l.length→ ∀j,j<m→arr[off+k*m+j]? =(enc (l.getD k z))[j]? :=by
  intro k hk j hj
  obtain⟨-,hl,hg⟩:=World.cells?_some (hcells k hk)
  have:=hg j (by omega)
  rw[qG_,qG_] at this
  simp only[World.cell?,hheap,Option.isSome_none,Bool.false_eq_true,if_false] at this
  exact this
 refine SlV.sl hheap get hc ?_
 by_cases h0:l.length=0
 ·rw[h0];omega
 ·have h1:=get (l.length - 1) (by omega) (m - 1) (by omega)
  rw[List.getElem?_eq_getElem (by rw[hm];omega)] at h1
  have h2:=(Array.getElem?_eq_some_iff.1 h1).1
  have h3: (l.length - 1)*m+m=l.length*m:=by
   rw[←Nat.succ_mul];congr 1;omega
  omega
theorem am2_ {H:Type} {tell:TypeId×Value→H} {α:Type} {enc:α→List Value} {z:α} {m:Nat} {W:World} {r:Reach} {base b0:Nat} {sp:Nat→Bool} {held:Bool} {fuel:Nat} {t e:TypeId} {v:Value} {x:DataW H×List MemPlace}
  (ht:P.underlying t=some (.slice e)) (he:P.cellsOf e=m) (hm0:0<m) (hm: ∀x,(enc x).length=m) (hval:Value.okWide P W r b0 t v)
  (hdec: ∀n cs y,DataW.trod tell P W base sp held n e cs=some y→ ∃a,cs=enc a) (hd:DataW.trod tell P W base sp held fuel t [v]=some x): ∃l,SlV m enc z W v l:=by
 rcases DataW.trod_slice ht hd with⟨hcs,-⟩ | ⟨a,len,cap,elems,rest,n,-,hcs,-,-,hl,-,hlen,hel,-,-⟩
 ·simp only[List.cons.injEq,and_true] at hcs
  subst hcs
  exact⟨[],SlV.nil W⟩
 ·simp only[List.cons.injEq,and_true] at hcs
  subst hcs
  rcases ai0_ ht hval with h0| ⟨b,off,len',cap',arr,E,fz,h1,-,hb,ho⟩
  ·cases h0
  ·unfold vsl at h1
   cases h1
   rw[he] at hel
   have hex: ∀i,i<len→ ∃q,W.cells? base ((Addr.mk b off none).add (i*m)) m=some (enc q):=by
    intro i hi
    have h2:=hel i hi
    rw[List.getElem?_eq_getElem (by omega)] at h2
    cases hc:W.cells? base ((Addr.mk b off none).add (i*m)) m with
    |none=>rw[hc] at h2;cases h2
    |some cs=>
     rw[hc] at h2
     obtain⟨q,rfl⟩:=hdec _ _ _ h2
     exact⟨q,rfl⟩
   obtain⟨f,hf⟩: ∃f:Nat→α,∀i,i<len→W.cells? base ((Addr.mk b off none).add (i*m)) m=some (enc (f i)):=by
    classical
    refine⟨fun i=>if h:i<len then Classical.choose (hex i h) else z,fun i hi=> ?_⟩
    simp only[dif_pos hi]
    exact Classical.choose_spec (hex i hi)
   have hll: ((List.range len).map f).length=len:=by simp
   refine⟨(List.range len).map f, ?_⟩
   have:=aqR_ (W:=W) (base:=base) (b:=b) (off:=off) (c:=cap) (l:=(List.range len).map f) (z:=z) hm0 hm (fun i hi=>by
    rw[hll] at hi
    rw[hf i hi]
    congr 2
    rw[List.getD_eq_getElem?_getD,List.getElem?_map,List.getElem?_range hi];rfl) hb ho (by rw[hll];exact hl)
   rw[hll] at this
   exact this
end
end Go.Sx
section
open Go Go.Proofs Go.Sx Go.StP Go.ChangeShapes
namespace Go.Proofs
set_option maxRecDepth 100000
set_option maxHeartbeats 1000000
set_option linter.unusedSimpArgs false
theorem anT_ {H:Type} {tell:TypeId×Value→H} {W:World} {base:Nat} {sp:Nat→Bool} {held:Bool} (n:Nat) (cs:List Value) (y:DataW H×List MemPlace)
  (h:DataW.trod tell Tryz.prog W base sp held n 37 cs=some y): ∃o:ObK,cs=xi_ o:=by
 have hc: (Tryz.prog).cellsOf 37=2:=by kernel_rfl
 have hc3: (Tryz.prog).cellsOf 3=1:=by kernel_rfl
 have hcT: (Tryz.prog).cellsOf 9=1:=by kernel_rfl
 obtain⟨y0,y1,n',-,hlen,h0,h1⟩:=ChangeShapes.trod_struct2 Tryz.underlying37 h
 simp only at h0 h1 hlen
 rw[hc3,List.drop_zero] at h0
 rw[hcT] at h1
 rw[hc] at hlen
 obtain⟨z,hz,-,-⟩:=DataW.trod_int Tryz.underlying3 h0
 obtain⟨s,hs2,-,-⟩:=DataW.trod_string Tryz.underlying9 h1
 have hd:cs=cs.take 1++ (cs.drop 1).take 1:=by
  rw[show(cs.drop 1).take 1=cs.drop 1 from List.take_of_length_le (by rw[List.length_drop];omega),List.take_append_drop]
 rw[hz,hs2] at hd
 exact⟨⟨z,s.data.toList⟩,by rw[hd];rfl⟩
theorem aiR_ {H:Type} {enc:TypeId×Value→H} {W:World} {r:Reach} {b0 base:Nat} {sp:Nat→Bool} {held:Bool} {v:Value} {d:DataW H} {p:List MemPlace}
  (hval:Value.okWide Tryz.prog W r b0 22 v) (hd:DataW.Trod enc Tryz.prog W base sp held 22 v d p): ∃l,SlV 2 xi_ xr_ W v l:=by
 obtain⟨a0,len,cap,rfl⟩:=WideShapes.okWide_slice Tryz.underlying22 hval
 obtain⟨fu,hf⟩:=hd
 exact am2_ (z:=xr_) Tryz.underlying22 (by kernel_rfl) (by decide) xq_ hval anT_ hf
theorem anJ_ {w:World} {r:Reach} {b:Nat} {v:Value} (h:Cell.ok Tryz.prog w r b 124 v): ∃k:Nat×Nat,v=cxw k.1 k.2:=by
 unfold Cell.ok at h
 rw[Tryz.underlying124] at h
 cases v with
 |complex k re im=>obtain⟨rfl,-,-⟩:=h;exact⟨(re,im),rfl⟩
 |_=>exact h.elim
theorem ae9_: ∀cs:List Value,(∀v,v∈cs→ ∃k:Nat×Nat,v=cxw k.1 k.2)→ ∃l:List (Nat×Nat),cs=l.map fun k=>cxw k.1 k.2
 | [],_=>⟨[],rfl⟩
 |v::cs,h=>by
  obtain⟨l,rfl⟩:=ae9_ cs fun v hv=>h v (List.mem_cons_of_mem _ hv)
  obtain⟨k,rfl⟩:=h v List.mem_cons_self
  exact⟨k::l,rfl⟩
theorem aja_: ((begin Tryz.prog (fun _ _=>0) default).world.heap[(4:Nat)]?).bind Obj.row? =some (#[cxw 0 0,cxw 0 0,cxw 0 0,cxw 0 0],125):=by kernel_rfl
theorem ab6_:Tryz.prog.cellTypes Tryz.prog.depth 125=some [124,124,124,124]:=by kernel_rfl
theorem ar2_ {W:World} (h:W.ShapedOpen Tryz.prog): ∃T,GlobT T W:=by
 obtain⟨cs,h1,h2,h3⟩:=h.1 (4:Nat) _ _ (of_decide_eq_true (by kernel_rfl)) aja_
 obtain⟨ts,h4,-,h5⟩:=h3 (by kernel_rfl)
 rw[ab6_] at h4
 cases h4
 obtain⟨l,hl⟩:=ae9_ cs.toList fun v hv=>by
  obtain⟨i,hi,rfl⟩:=List.getElem_of_mem hv
  obtain⟨u,hu,hok⟩:=h5 i cs.toList[i] (by rw[←Array.getElem?_toList];exact List.getElem?_eq_getElem hi)
  have h6:i%4<4:=Nat.mod_lt _ (by decide)
  have hu': ([124,124,124,124]:List TypeId)[i%4]? =some u:=hu
  have:u=124:=by
   generalize i%4=j at*
   match j,h6 with
   |0,_=>cases hu';rfl
   |1,_=>cases hu';rfl
   |2,_=>cases hu';rfl
   |3,_=>cases hu';rfl
  rw[this] at hok
  exact anJ_ hok
 refine⟨l.map dtc,l, ?_,rfl,125,(0,0), ?_⟩
 ·have:=congrArg List.length hl
  rw[List.length_map,Array.length_toList,h2] at this
  exact this.symm
 ·rw[h1,akR_,←hl]
end Go.Proofs
end
namespace Go.Sx
open Go
theorem akK_ {P:Program} {f:FuncId} {fn:Func} {s:ChangeSpec} {c:OpenClaim}
  (h1: (c.wf (OpenSpec.ofChange s))=true)
  (h2: (laidOutB P)=true)
  (h3: (mapsRowed P)=true)
  (h4: (fn.params.all (P.readableRec ·))=true)
  (h5: (namedTie P c.named s.vars)=true)
  (h6: ((c.stops== []))=true)
  (h7: ((P.stops== []))=true)
  (h8: ((c.knobs== []))=true)
  (h9: ((P.stopKnobs== []))=true)
  (h10: ((c.inPlace==P.inPlace f))=true)
  (h11: ((c.unfollowed==P.unfollowed f))=true)
  (h12: ((c.recurses==P.recurses f))=true)
  (h13: ((c.named==P.varsNamed f))=true)
  (h14: ((c.maps==(fn.params.toList++s.plain.varTypes P).any (P.mapsRec ·)))=true)
  (h15: ((c.ifaces==(fn.params.toList++s.plain.varTypes P).any (P.ifacesRec ·)))=true)
  (h16: ((c.mapsOut==P.mapsAmong fn.resultTypes.toList))=true)
  (h17: ((c.loops==(fn.params.toList++s.plain.varTypes P).any (P.loopsFrom ·)))=true)
  (h18: ((c.wideKeys==(fn.params.toList++s.plain.varTypes P++fn.resultTypes.toList).any (P.wideKeysFrom ·)))=true)
  (h19: (s.vars.all (P.varReadable ·))=true)
  (h20: (fn.resultTypes.all (fun t=>P.readableRec t&&decide (t<P.types.size)))=true)
  (h21: ((c.ifacesOut==fn.resultTypes.toList.any (P.ifacesRec ·)))=true)
  (h22: ((c.loopsOut==fn.resultTypes.toList.any (P.loopsFrom ·)))=true)
  (h23: ((c.plainKeys==P.plainKeys))=true)
  (h24: (c.shortTexts.isNone)=true)
  (h25: (P.stopsHeard)=true)
  (h26: (P.mayEnter)=true)
  (h27: ((c.lifted==P.liftsFinal))=true)
  (h28: ((P.make==some c.make))=true)
  (h29: ((c.kinds==(if c.domain.isEmpty then [] else fn.params.toList.map fun t=>match P.underlying t with|some (.int k)=>some k|_=>none)))=true)
  (h30: ((c.pinned==c.pinnedBy))=true)
  (h31: ((c.veiled==(fn.params.toList++s.plain.varTypes P++fn.resultTypes.toList).any (P.veiledRec ·)))=true)
  (h32: (c.veiledFits P fn.params.toList (fn.params.toList++s.plain.varTypes P++fn.resultTypes.toList))=true):
  joinedFacts P f fn s c=true:=by
 unfold joinedFacts
 exact(Bool.and_eq_true_iff.2 ⟨(Bool.and_eq_true_iff.2 ⟨(Bool.and_eq_true_iff.2 ⟨(Bool.and_eq_true_iff.2 ⟨(Bool.and_eq_true_iff.2 ⟨(Bool.and_eq_true_iff.2 ⟨(Bool.and_eq_true_iff.2 ⟨(Bool.and_eq_true_iff.2 ⟨(Bool.and_eq_true_iff.2 ⟨(Bool.and_eq_true_iff.2 ⟨(Bool.and_eq_true_iff.2 ⟨(Bool.and_eq_true_iff.2 ⟨(Bool.and_eq_true_iff.2 ⟨(Bool.and_eq_true_iff.2 ⟨(Bool.and_eq_true_iff.2 ⟨(Bool.and_eq_true_iff.2 ⟨(Bool.and_eq_true_iff.2 ⟨(Bool.and_eq_true_iff.2 ⟨(Bool.and_eq_true_iff.2 ⟨(Bool.and_eq_true_iff.2 ⟨(Bool.and_eq_true_iff.2 ⟨(Bool.and_eq_true_iff.2 ⟨(Bool.and_eq_true_iff.2 ⟨(Bool.and_eq_true_iff.2 ⟨(Bool.and_eq_true_iff.2 ⟨(Bool.and_eq_true_iff.2 ⟨(Bool.and_eq_true_iff.2 ⟨(Bool.and_eq_true_iff.2 ⟨(Bool.and_eq_true_iff.2 ⟨(Bool.and_eq_true_iff.2 ⟨(Bool.and_eq_true_iff.2 ⟨h1,h2⟩),h3⟩),h4⟩),h5⟩),h6⟩),h7⟩),h8⟩),h9⟩),h10⟩),h11⟩),h12⟩),h13⟩),h14⟩),h15⟩),h16⟩),h17⟩),h18⟩),h19⟩),h20⟩),h21⟩),h22⟩),h23⟩),h24⟩),h25⟩),h26⟩),h27⟩),h28⟩),h29⟩),h30⟩),h31⟩),h32⟩)
end Go.Sx
