/-
  Part 5 of the walk: contracts of the functions that the law reaches, and the calculus they stand on.
  No conditions.
-/
import Derived.Test.YtfdphhalimbpbaaGreatDoorA4
import Derived.ProofKit
import Derived.OpenShut
import Derived.WideKeyArgs
import Derived.ChangeSame
import Derived.ChangeMaps5
import Derived.Lib.LaidTab
import Derived.SliceStrings
import Derived.DataReads
import Derived.Deep.Strs
section
open Go Go.Proofs Go.Sx Go.StP Go.RooP
namespace Go.Proofs
set_option maxRecDepth 10000
set_option maxHeartbeats 1000000
set_option linter.unusedSimpArgs false
theorem anU_ (c:UInt8):zw_ .rem (v8 c) (v8 30)=some (v8 (c%30)):=by
 simp only[zw_,v8,jD_, ↓reduceIte]
 rw[if_neg (by decide),UInt8.toNat_mod]
 rfl
theorem aal_ (x:ObK): (kl_ x).all Value.oneCell'=true:=rfl
structure MkAaG where
 i:Nat
 o:List ObK
 W:WkS
 sv:Value
 vL:Value
 vI:Value
 X:zi_
 XD:zi_
 S:zi_
set_option linter.defProp false
def zr_:=And.intro (And.intro (@zJ_) (And.intro (@zI_) (@Sx.tup2_0))) (And.intro (And.intro (@Sx.tup2_1) (@kp_)) (And.intro (@l7_4) (@l7_5)))
theorem Xx_ (v vm vr:Value) (l mo:List ObK) (r:List IdL) (c:UInt8) (w:World) (hG:GlobE w) (hv:SlV 2 kl_ jU_ w v l) (hmo:SlV 2 kl_ jU_ w vm mo) (hr:SlV 32 z4_ id0 w vr r) (hlb:l.length≤1048576) (hmb:mo.length≤1048576):
  Rets Tryz.prog 8 #[v,vm,vr,v8 c] w (fun v' D=>v'= .bool true∧D= []):=by
 have lnr:=hr.len
 refine Rets.enterV Tryz.func8 rfl (rs:= [.tmp 8]) Tryz.results8 Tryz.ntmps8 ?_
 refine kf ?_
 first|with_reducible refine ks [] @zr_ ?_|refine kp @zr_ ?_
 refine Ow.callFV rfl Tryz.call13 (fun w' hw'=>W0_ w' (hG.new hw' trivial)) ?_
 refine ko @zr_ ?_
 first|with_reducible refine ks [] @zr_ ?_|refine kp @zr_ ?_
 refine Ow.appendXG (e:=35) (k:=l.length) (new:=(l.map kl_).flatten) (X:= []) (.slice none 0 0) (List.nil_append _).symm rfl rfl rfl Tryz.underlying22 Tryz.ag35 (by kernel_rfl) Xl_ (by kernel_rfl) Tryz.underlying22 (by intro k h;cases h) Gr.nl (fun w' hw'=>(hv.oldN hw' trivial).appX ji_ aal_) (by omega) (fun B1 v1 D1 hA1 hB1 hG1 hk11 hk21 hlk1=> ?_)
 rw[Nat.zero_add,List.nil_append] at hG1
 rw[List.append_nil]
 have hN1:New w.heap.size D1:=New.of_le fun q hq=>(hk21 q hq).elim (fun h=>by cases h) fun h=>by omega
 refine ko @zr_ ?_
 first|with_reducible refine ks [] @zr_ ?_|refine kp @zr_ ?_
 refine Ow.appendXG (e:=35) (k:=mo.length) (new:=(mo.map kl_).flatten) (X:=D1) v1 (List.append_nil _).symm rfl rfl rfl Tryz.underlying22 Tryz.ag35 (by kernel_rfl) Xl_ (by kernel_rfl) Tryz.underlying22 (by intro k h;cases h) hG1 (fun w' hw'=>(hmo.oldN hw' hN1).appX ji_ aal_) (by omega) (fun B2 v2 D2 hA2 hB2 hG2 hk12 hk22 hlk2=> ?_)
 rw[List.append_nil]
 have hN2:New w.heap.size D2:=New.of_le fun q hq=>(hk22 q hq).elim (hN1.le q) fun h=>by omega
 replace hG2:Gr D2 35 2 v2 (l++mo).length ((l++mo).map kl_).flatten:=by simpa [List.map_append] using hG2
 clear hG1 hA1 hB1 hk11 hk21 hlk1 hA2 hB2 hk12 hk22 hlk2 hN1
 refine ko @zr_ ?_
 first|with_reducible refine ks [] @zr_ ?_|refine kp @zr_ ?_
 refine Ow.callFV rfl Tryz.call14 (fun w' hw'=>aaM_ v2 (l++mo) w' (SlV.rowX (hG2.slV hw' rfl rfl ji_))) ?_
 cases hgr:VX_ (l++mo) with
 |true=>
  refine ko @zr_ ?_
  first|with_reducible refine ks [] @zr_ ?_|refine kp @zr_ ?_
  refine⟨_,(ke @zr_),hN2, ?_⟩
  rfl
 |false=>
 obtain⟨h40,h25⟩:=ag6_ hgr
 have hll:l.length≤40:=by rw[List.length_append] at h40;omega
 refine ko @zr_ ?_
 refine Ow.callC rfl rfl Tryz.call15 (fun w' hw'=>Rets.toX (Wf_ v2 (l++mo) w' (SlV.rowX (hG2.slV hw' rfl rfl ji_)) (by omega) (fun o ho=>by have:=h25 o ho;omega))) (fun BC vC DC hAC hBC hNC hSC=> ?_)
 obtain⟨rfl,bc,rfl,hcl⟩:=hSC
 clear hAC hNC
 rw[List.append_nil]
 cases bc with
 |true=>
  refine ko @zr_ ?_
  first|with_reducible refine ks [] @zr_ ?_|refine kp @zr_ ?_
  refine⟨_,(ke @zr_),hN2, ?_⟩
  rfl
 |false=>
 replace hcl:=hcl rfl
 by_cases h30:30<r.length
 ·have d1:decide ((30:Int)< (r.length:Int))=true:=decide_eq_true (by omega)
  refine ko (And.intro @zr_ (And.intro @lnr (@d1))) ?_
  first|with_reducible refine ks [] @zr_ ?_|refine kp @zr_ ?_
  refine⟨_,(ke @zr_),hN2, ?_⟩
  rfl
 have d1:decide ((30:Int)< (r.length:Int))=false:=decide_eq_false (by omega)
 refine ko (And.intro @zr_ (And.intro @lnr (@d1))) ?_
 first|with_reducible refine ks [] @zr_ ?_|refine kp @zr_ ?_
 have hes1:zN_ (qK_ l)=ZL_ l:=ZF_ (hcl.sub fun a ha=>List.mem_append_left _ ha)
 have hes2:zN_ (qK_ (l++mo))=ZL_ (l++mo):=ZF_ hcl
 have hids1: ∀i,(ZL_ l i).2=true→i∈ (qK_ l).map Prod.fst:=fun i h=>by rw[←hes1] at h;exact Vc_ h
 have hids2: ∀i,(ZL_ (l++mo) i).2=true→i∈ (qK_ (l++mo)).map Prod.fst:=fun i h=>by rw[←hes2] at h;exact Vc_ h
 have h25l: ∀o,o∈l→o.t.length≤2500:=fun o ho=>h25 o (List.mem_append_left _ ho)
 refine Ow.callC rfl rfl Tryz.call16 (fun w' hw'=>xU_ v l w' (hG.new hw' hN2) (SlV.rowX (hv.oldN hw' hN2)) (by omega)) (fun B3 v3 D3 hA3 hB3 hN3 hS3=> ?_)
 have hN3':=hN3.mono hB3
 refine ko @zr_ ?_
 refine Ow.callC rfl rfl Tryz.call21 (fun w' hw'=>VW_ v3 (qK_ l) vr r w' ((hS3.mono fun p hp=>List.mem_append_right _ hp).W hw') (SlV.rowX (hr.oldN hw' (hN2.app hN3'))) (by omega)) (fun B4 v4 D4 hA4 hB4 hN4 hS4=> ?_)
 obtain⟨bw,rfl,hP4⟩:=hS4
 have hN4':=hN4.mono hB4
 refine ko @zr_ ?_
 refine Ow.callC rfl rfl Tryz.call17 (fun w' hw'=>adz_ v l w' (SlV.rowX (hv.oldN hw' ((hN2.app hN3').app hN4'))) (by omega) (fun o ho=>by have:=h25l o ho;omega)) (fun B5 v5 D5 hA5 hB5 hN5 hS5=> ?_)
 obtain⟨vL,vI,rfl,hgL,hgI⟩:=hS5
 have hN5':=hN5.mono hB5
 refine ko @zr_ ?_
 refine Ow.build (.agg #[vL,vI, .slice none 0 0, .slice none 0 0, .slice none 0 0, .slice none 0 0, .slice none 0 0]) rfl (aiC_ vL vI) ?_
 refine ko @zr_ ?_
 refine Ow.box rfl rfl fun bd hbd hwd=> ?_
 simp only[zW_,zT_,z1_,ze_,List.cons_append,List.nil_append]
 refine ko @zr_ ?_
 have hNb:New w.heap.size [(bd,Obj.cells #[vL,vI, .slice none 0 0, .slice none 0 0, .slice none 0 0, .slice none 0 0, .slice none 0 0] 46 (0,0))]:=⟨hwd,trivial⟩
 have hN35:=hN3'.app hN5'
 have hN0:=hNb.app (hN4'.app (hN2.app hN35))
 first|with_reducible refine ks [] @zr_ ?_|refine kp @zr_ ?_
 refine Ow.permL (M:= [(bd, .cells #[vL,vI, .slice none 0 0, .slice none 0 0, .slice none 0 0, .slice none 0 0, .slice none 0 0] 46 (0,0))]++ (D4++ (D2++ (D3++D5)))) (by classical exact List.perm_iff_count.2 fun a=>by simp only[List.count_append,List.count_cons,List.count_nil]<;>omega) ?_
 refine Ow.callX (X:= [(bd, .cells #[vL,vI, .slice none 0 0, .slice none 0 0, .slice none 0 0, .slice none 0 0, .slice none 0 0] 46 (0,0))]) (Y:=D4++ (D2++ (D3++D5))) rfl rfl rfl Tryz.call22 (fun w' hw' hX' hn'=>aht_ bd vL vI Zy_ vr r _ w' hX' hn' (amM_ bd vL vI) (((SlV.rowX hr).ext fun c hc=> .inr (hN0.le c hc)).old hw' fun c hc=>by rw[zd_];exact List.mem_append_left _ hc) (by decide) (by omega)) (fun v6 D6 hC6 hS6=> ?_)
 obtain⟨rfl,hP6⟩:=hS6
 have hE6:Ext w [] D6:=(Ext.of_new hNb).came0 hC6
 have hE4:Ext w [] D4:=Ext.of_new hN4'
 refine Ow.permL (M:=D4++ (D6++ (D2++ (D3++D5)))) (by classical exact List.perm_iff_count.2 fun a=>by simp only[List.count_append,List.count_cons,List.count_nil]<;>omega) ?_
 clear hC6 hN0 hNb hwd hbd hA3 hA4 hA5 hN3 hN4 hN5 hN3' hN4' hN5'
 refine ko @zr_ ?_
 first|with_reducible refine ks [] @zr_ ?_|refine kp @zr_ ?_
 refine Cw.loopG (G:=MkAaG) [47,48,51,52,53,54,55,56,57,58,59,60,61,62,63,64,65,66,67,13,14,68,69,70,71,72,73,74,75,76,77,78,79,80,81,82,83,84,85,86,87,88,89,90,8,91,92,93,94,95,49,50,12] (fun g=> [(12,vi g.i)]) (fun g=>g.X++ (g.XD++ (D2++g.S))) (fun g=>g.i≤3000∧WkP bw g.sv g.W g.X∧Ext w [] g.X∧DwP bd g.vL g.vI g.W g.XD∧Ext w [] g.XD∧New w.heap.size g.S∧SrcK g.S g.sv (qK_ g.o)∧GrI g.S 35 2 g.vL (g.o.filter rdK).length ((g.o.filter rdK).map kl_).flatten∧GrI g.S 24 32 g.vI ((g.o.filter rdK).map idK).length (((g.o.filter rdK).map idK).map z4_).flatten∧(∃n',WkD (ZL_ g.o) ((qK_ g.o).map Prod.fst) r n' g.W∧n'≤2000∧(g.i≤ (c%30).toNat→n'≤30))∧(g.i≤ (c%30).toNat→g.o=l)∧((c%30).toNat<g.i→g.o=l++mo)∧g.i≤31+g.W.vis.length∧zN_ (qK_ g.o)=ZL_ g.o∧g.o.length≤40) (fun g=>3000 - g.i) ⟨0,l,newK r,v3,vL,vI,D4,D6,D3++D5⟩ rfl rfl ?_ ?_
 ·exact⟨Nat.zero_le _,hP4,hE4,hP6,hE6,hN35,hS3.mono fun p hp=>List.mem_append_left _ hp,hgL.mono fun p hp=>List.mem_append_right _ hp,hgI.mono fun p hp=>List.mem_append_right _ hp,⟨r.length,WkD.new r hids1,by omega,fun _=>by omega⟩,fun _=>rfl,fun h=>absurd h (Nat.not_lt_zero _),Nat.zero_le _,hes1,hll⟩
 intro g j hg
 refine kv ?_
 clear hP4 hE4 hP6 hE6 hN35 hS3 hgL hgI
 obtain⟨i,o,W,sv,vL,vI,X,XD,S⟩:=g
 simp only at hg ⊢
 obtain⟨hi,hP,hE,hPD,hED,hNS,hSK,hgL,hgI,⟨n',hN,hn2,hn3⟩,ho1,ho2,hiv,hes,ho40⟩:=hg
 have ha30: (c%30).toNat<30:=by rw[UInt8.toNat_mod];exact Nat.mod_lt _ (by decide)
 by_cases hlt:i<3000
 ·have d0:decide ((i:Int)<3000)=true:=decide_eq_true (by omega)
  have hrem:=anU_ c
  generalize c%30=a at*
  by_cases hia:i=a.toNat
  ·subst hia
   obtain rfl:=ho1 (Nat.le_refl _)
   have h30n:=hn3 (Nat.le_refl _)
   have q1:=hN.N.q
   have q2:=hN.N.lk
   have q3:=hN.N.vis
   have hml:=jv_ o
   rw[List.length_map] at q1 q2 q3
   have hNA:=hN.again (agT_ o mo) hids2
   first|with_reducible refine ks [12] (And.intro @zr_ (And.intro @d0 (@hrem))) ?_|refine kp (And.intro @zr_ (And.intro @d0 (@hrem))) ?_
   refine Ow.callC rfl rfl Tryz.call16 (fun w' hw'=>xU_ v2 (o++mo) w' (hG.new hw' (hE.new0.app (hED.new0.app (hN2.app hNS)))) (xJ_ jU_ ⟨D2,fun p hp=>hp,hG2⟩ (fun b o hm=>hw'.has b o (by simp[hm])) ji_ (fun c _ h=>by cases h)) (by omega)) (fun B7 v7 D7 hA7 hB7 hN7 hS7=> ?_)
   have hN7':=hN7.mono hB7
   refine Ow.permL (M:=X++ (XD++ (D2++ (S++D7)))) (by classical exact List.perm_iff_count.2 fun a=>by simp only[List.count_append,List.count_cons,List.count_nil]<;>omega) ?_
   refine ko @zr_ ?_
   refine Ow.callX (X:=X) (Y:=XD++ (D2++ (S++D7))) rfl rfl rfl Tryz.call34 (fun w' hw' hX' hn'=>acr_ bw sv v7 W (qK_ (o++mo)) X w' hX' hn' hP (hS7.WX hw' (fun p hp=>by simp[hp]) (ZG_ hw'.nodup (fun p hp=>by simp[hp]))) hN.N.I.nv (by omega)) (fun v8 X5 hC8 hS8=> ?_)
   obtain⟨rfl,hP5⟩:=hS8
   rw[hes2] at hP5
   have hE5:=hE.came0 hC8
   refine ko @zr_ ?_
   first|with_reducible refine ks [12] @zr_ ?_|refine kp @zr_ ?_
   refine Ow.callC rfl rfl Tryz.call17 (fun w' hw'=>adz_ v2 (o++mo) w' (xJ_ jU_ ⟨D2,fun p hp=>hp,hG2⟩ (fun b o hm=>hw'.has b o (by simp[hm])) ji_ (fun c _ h=>by cases h)) (by omega) (fun o ho=>by have:=h25 o ho;omega)) (fun B9 v9 D9 hA9 hB9 hN9 hS9=> ?_)
   obtain⟨vL1,vI1,rfl,hgL1,hgI1⟩:=hS9
   have hN9':=hN9.mono hB9
   have hfl:=List.length_filter_le rdK (o++mo)
   refine Ow.permL (M:=XD++ (X5++ (D2++ (S++ (D7++D9))))) (by classical exact List.perm_iff_count.2 fun a=>by simp only[List.count_append,List.count_cons,List.count_nil]<;>omega) ?_
   refine ko @zr_ ?_
   refine Ow.callX (X:=XD) (Y:=X5++ (D2++ (S++ (D7++D9)))) rfl rfl rfl Tryz.call35 (fun w' hw' hX' hn'=>acc_ bd vL vI vL1 vI1 ((o++mo).filter rdK) W XD w' hX' hn' hPD (xJ_ jU_ hgL1 (fun b o hm=>hw'.has b o (by simp[hm])) ji_ (ZG_ hw'.nodup (fun p hp=>by simp[hp]))) (xJ_ id0 hgI1 (fun b o hm=>hw'.has b o (by simp[hm])) z0_ (ZG_ hw'.nodup (fun p hp=>by simp[hp]))) (kh_ hgL1).1 (kh_ hgI1).1 (by omega) (by omega) (by omega) (by omega)) (fun v10 X6 hC10 hS10=> ?_)
   obtain⟨rfl,hP6⟩:=hS10
   rw[ab8_] at hP6
   have hE6:=hED.came0 hC10
   refine Ow.permL (M:=X5++ (X6++ (D2++ (S++ (D7++D9))))) (by classical exact List.perm_iff_count.2 fun a=>by simp only[List.count_append,List.count_cons,List.count_nil]<;>omega) ?_
   replace hSK:SrcK (S++ (D7++D9)) v7 (qK_ (o++mo)):=hS7.mono fun p hp=>by simp[hp]
   replace hgL1:=hgL1.mono (D':=S++ (D7++D9)) fun p hp=>by simp[hp]
   replace hgI1:=hgI1.mono (D':=S++ (D7++D9)) fun p hp=>by simp[hp]
   have hNS1:New w.heap.size (S++ (D7++D9)):=hNS.app (hN7'.app hN9')
   obtain⟨n1,hn1⟩: ∃n1,n1=n'+W.lk.length:=⟨_,rfl⟩
   rw[←hn1] at hNA
   have hn12:n1≤2000:=by omega
   clear hP hPD hE hED hC8 hC10 hN hes hNS hgL hgI hS7 hA7 hA9 hN7 hN9 hn3 ho1 ho2
   have hN:=hNA
   have hes:=hes2
   clear hNA
   generalize Ja_ (ZL_ (o++mo)) W=W1 at*
   generalize S++ (D7++D9)=S1 at*
   obtain⟨sv1,rfl⟩: ∃s,s=v7:=⟨_,rfl⟩
   obtain⟨i,hii⟩: ∃i,i=a.toNat:=⟨_,rfl⟩
   have hiv1:i≤31:=by omega
   have hivW:i≤31+W1.vis.length:=by omega
   have hoN1:i+1≤i→o++mo=o:=fun h=>by omega
   have hoN2:i<i+1→o++mo=o++mo:=fun _=>rfl
   have hnN:i+1≤i→n1≤30:=fun h=>by omega
   rw[←hii] at hlt ⊢
   refine ko @zr_ ?_
   first|with_reducible refine ks [12] @zr_ ?_|refine kp @zr_ ?_
   have hO40:=h40
   have b1:=hN.N.q
   have b2:=hN.N.lk
   have b3:=hN.N.vis
   have b4:=hN.N.ms
   have hN':=hN.step
   have b5:=hN'.N.ms
   have b6:=hN'.N.lk
   have b7:=hN'.N.vis
   have hml:=jv_ (o++mo)
   have hfl:=List.length_filter_le rdK (o++mo)
   rw[List.length_map] at b1 b2 b3 b4 b5 b6 b7
   refine Ow.callX (X:=X5) (Y:=X6++ (D2++S1)) rfl rfl rfl Tryz.call24 (fun w' hw' hX' hn'=>ZQ_ bw sv1 W1 (qK_ (o++mo)) X5 w' hX' hn' hP5 (hSK.WX hw' (fun p hp=>by simp[hp]) (ZG_ hw'.nodup (fun p hp=>by simp[hp]))) (by omega) (by omega)) (fun v7 X7 hC7 hS7=> ?_)
   obtain⟨rfl,hP7⟩:=hS7
   have hE7:=hE5.came0 hC7
   rw[hes] at hP7 ⊢
   refine Ow.permL (M:=X6++ (X7++ (D2++S1))) (by classical exact List.perm_iff_count.2 fun a=>by simp only[List.count_append,List.count_cons,List.count_nil]<;>omega) ?_
   refine ko @zr_ ?_
   refine Ow.callX (X:=X6) (Y:=X7++ (D2++S1)) rfl rfl rfl Tryz.call25 (fun w' hw' hX' hn'=>Kw_ bd vL1 vI1 ((o++mo).filter rdK) W1 X6 w' hX' hn' hP6 (xJ_ jU_ hgL1 (fun b o hm=>hw'.has b o (by simp[hm])) ji_ (ZG_ hw'.nodup (fun p hp=>by simp[hp]))) (xJ_ id0 hgI1 (fun b o hm=>hw'.has b o (by simp[hm])) z0_ (ZG_ hw'.nodup (fun p hp=>by simp[hp]))) (fun o ho=>(List.mem_filter.1 ho).2) (by omega) (by omega) (by omega) (by omega) (by omega)) (fun v8 X8 hC8 hS8=> ?_)
   obtain⟨rfl,hP8⟩:=hS8
   have hE8:=hE6.came0 hC8
   rw[ab8_] at hP8 ⊢
   clear hP5 hP6 hC7 hC8 hE5 hE6
   have hend:=fun h=>Vd_ (s:=ZL_ (o++mo)) (W:=W1) h
   have hon:=fun h=>Vi_ (s:=ZL_ (o++mo)) (W:=W1) h
   generalize (xy_ (ZL_ (o++mo)) W1).2=W2 at*
   generalize (xy_ (ZL_ (o++mo)) W1).1=bst at*
   have hPD8:=hP8
   obtain⟨vq,vv,vl,vmk,vms,Q,V,M,K,hA⟩:=hP8
   have hbm: (bd,Obj.cells #[vL1,vI1,vq,vv,vl,vmk,vms] 46 (0,0))∈X8:=hA.perm.mem_iff.2 List.mem_cons_self
   have hKm: ∀p,p∈K→p∈X8:=fun p hp=>hA.perm.mem_iff.2 (by simp[hp])
   have hk8:bd∈keys (X8++ (X7++ (D2++S1))):=by rw[zd_];exact List.mem_append_left _ (List.mem_map_of_mem hbm)
   have hbb:=anh_ bst
   have s1:=xf_ W2.ms
   have s2:=xf_ (W2.lk.map ChildL.id)
   rw[List.length_map] at s2
   refine ko @zr_ ?_
   first|with_reducible refine ks [12] @zr_ ?_|refine kp @zr_ ?_
   refine Cw.world fun wz hwz=> ?_
   have rbd:zv_ w (X8++ (X7++ (D2++S1))) bd=some (.cells #[vL1,vI1,vq,vv,vl,vmk,vms] 46 (0,0)):=jb_ hwz.nodup (List.mem_append_left _ hbm)
   clear hwz wz
   refine Cw.regionS [bd] [0,1,2,3,4,6,7,8,9,5,10,11,12,13,14,16,17,18,19,15,20,21,22] [] (by kernel_rfl) (by kernel_rfl) (by kernel_rfl) ?_
   simp only[zh_, ↓zc_, ↓za_, ↓zk_, ↓zj_,zb_]
   refine kq (And.intro @zr_ (And.intro @rbd (@hbb))) ?_
   refine Ow.soft rfl rfl rfl ?_
   refine Ow.callC rfl rfl Tryz.call27 (fun w' hw'=>kq_ bw sv1 W2 w' ⟨X7,fun p hp=>hw'.has _ _ (by simp[hp]),hP7⟩ hN'.N.I.nm (by omega)) (fun B9 v9 D9 hA9 hB9 hN9 hS9=> ?_)
   with_reducible refine Ow.nil ?_
   refine⟨zq_ (fun b hb=>by rw[List.mem_singleton.1 hb];exact hk8), ?_⟩
   refine kq (And.intro @zr_ @rbd) ?_
   refine Ow.soft rfl rfl rfl ?_
   refine Ow.callFV rfl Tryz.call26 (fun w' hw'=>jZ_ v9 vmk _ _ w' (xF_ hS9 (fun b o hm=>hw'.has b o (by simp[hm]))) (xF_ hA.m (fun b o hm=>hw'.has b o (by simp[hKm _ hm]))) (by omega) (by omega)) ?_
   rw[decide_eq_true (show xr_ W2.ms=xr_ W2.ms from rfl)]
   with_reducible refine Ow.nil ?_
   refine⟨by intro b hb;simp only[List.mem_cons,List.not_mem_nil,or_false] at hb;(try subst hb);rfl, ?_⟩
   have rbd2:=(j8_ (w0:=w) (M:=D9) hk8).trans rbd
   have hk9:bd∈keys (X8++ (X7++ (D2++S1))++D9):=by rw[zd_];exact List.mem_append_left _ hk8
   refine kq (And.intro @zr_ @rbd2) ?_
   refine Ow.soft rfl rfl rfl ?_
   refine Ow.callC rfl rfl Tryz.call28 (fun w' hw'=>xN_ bw sv1 W2 w' ⟨X7,fun p hp=>hw'.has _ _ (by simp[hp]),hP7⟩ (by omega)) (fun B10 v10 D10 hA10 hB10 hN10 hS10=> ?_)
   with_reducible refine Ow.nil ?_
   refine⟨zq_ (fun b hb=>by rw[List.mem_singleton.1 hb];exact hk9), ?_⟩
   refine kq (And.intro @zr_ @rbd2) ?_
   refine Ow.soft rfl rfl rfl ?_
   refine Ow.callFV rfl Tryz.call26 (fun w' hw'=>jZ_ v10 vms _ _ w' (xF_ hS10 (fun b o hm=>hw'.has b o (by simp[hm]))) (xF_ hA.n (fun b o hm=>hw'.has b o (by simp[hKm _ hm]))) (by show(xr_ _).length<_;omega) (by show(xr_ _).length<_;omega)) ?_
   rw[decide_eq_true (show jL_ W2.lk=jL_ W2.lk from rfl)]
   with_reducible refine Ow.nil ?_
   refine⟨by intro b hb;simp only[List.mem_cons,List.not_mem_nil,or_false] at hb;(try subst hb);rfl, ?_⟩
   refine kq @zr_ ?_
   try with_reducible refine Ow.nil ?_
   cases bst with
   |false=>
    have hv2:=hon rfl
    first|with_reducible refine ks [12] @zr_ ?_|refine kp @zr_ ?_
    refine Cw.permL (M:=X7++ (X8++ (D2++ (S1++ (D9++D10))))) (by classical exact List.perm_iff_count.2 fun a=>by simp only[List.count_append,List.count_cons,List.count_nil]<;>omega) ?_
    first|with_reducible refine ks [] @zr_ ?_|refine kp @zr_ ?_
    exact Again.mk ⟨i+1,(o++mo),W2,sv1,vL1,vI1,X7,X8,S1++ (D9++D10)⟩ (by show 3000 - (i+1)<3000 - i;omega) ⟨hlt,hP7,hE7,hPD8,hE8,hNS1.app ((hN9.mono hB9).app (hN10.mono hB10)),hSK.mono fun p hp=>List.mem_append_left _ hp,hgL1.mono fun p hp=>List.mem_append_left _ hp,hgI1.mono fun p hp=>List.mem_append_left _ hp,⟨n1,hN',hn12,hnN⟩,hoN1,hoN2,by show i+1≤31+W2.vis.length;omega,hes,hO40⟩ rfl rfl
   |true=>
   by_cases h31:i≤30
   ·have d31:decide ((30:Int)< (i:Int))=false:=decide_eq_false (by omega)
    first|with_reducible refine ks [12] (And.intro @zr_ @d31) ?_|refine kp (And.intro @zr_ @d31) ?_
    refine Cw.permL (M:=X7++ (X8++ (D2++ (S1++ (D9++D10))))) (by classical exact List.perm_iff_count.2 fun a=>by simp only[List.count_append,List.count_cons,List.count_nil]<;>omega) ?_
    first|with_reducible refine ks [] @zr_ ?_|refine kp @zr_ ?_
    exact Again.mk ⟨i+1,(o++mo),W2,sv1,vL1,vI1,X7,X8,S1++ (D9++D10)⟩ (by show 3000 - (i+1)<3000 - i;omega) ⟨hlt,hP7,hE7,hPD8,hE8,hNS1.app ((hN9.mono hB9).app (hN10.mono hB10)),hSK.mono fun p hp=>List.mem_append_left _ hp,hgL1.mono fun p hp=>List.mem_append_left _ hp,hgI1.mono fun p hp=>List.mem_append_left _ hp,⟨n1,hN',hn12,hnN⟩,hoN1,hoN2,by show i+1≤31+W2.vis.length;omega,hes,hO40⟩ rfl rfl
   exact absurd h31 (by omega)
  ·have d3:decide ((i:Int)=(a.toNat:Int))=false:=decide_eq_false (by omega)
   have d4: ((i:Int)==(a.toNat:Int))=false:=by simpa using d3
   first|with_reducible refine ks [12] (And.intro @zr_ (And.intro @d0 (And.intro @hrem (And.intro @d3 (@d4))))) ?_|refine kp (And.intro @zr_ (And.intro @d0 (And.intro @hrem (And.intro @d3 (@d4))))) ?_
   obtain⟨W1,rfl⟩: ∃q,q=W:=⟨W,rfl⟩
   obtain⟨X5,rfl⟩: ∃q,q=X:=⟨X,rfl⟩
   obtain⟨X6,rfl⟩: ∃q,q=XD:=⟨XD,rfl⟩
   obtain⟨S1,rfl⟩: ∃q,q=S:=⟨S,rfl⟩
   obtain⟨sv1,rfl⟩: ∃q,q=sv:=⟨sv,rfl⟩
   obtain⟨vL1,rfl⟩: ∃q,q=vL:=⟨vL,rfl⟩
   obtain⟨vI1,rfl⟩: ∃q,q=vI:=⟨vI,rfl⟩
   obtain⟨n1,rfl⟩: ∃q,q=n':=⟨n',rfl⟩
   have hP5:=hP
   have hP6:=hPD
   have hE5:=hE
   have hE6:=hED
   have hgL1:=hgL
   have hgI1:=hgI
   have hNS1:=hNS
   have hn12:=hn2
   have hivW:=hiv
   have hO40:=ho40
   have hoN1:i+1≤a.toNat→o=l:=fun h=>ho1 (by omega)
   have hoN2:a.toNat<i+1→o=l++mo:=fun h=>ho2 (by omega)
   have hnN:i+1≤a.toNat→n1≤30:=fun h=>hn3 (by omega)
   clear hP hPD hE hED hgL hgI hNS
   have b1:=hN.N.q
   have b2:=hN.N.lk
   have b3:=hN.N.vis
   have b4:=hN.N.ms
   have hN':=hN.step
   have b5:=hN'.N.ms
   have b6:=hN'.N.lk
   have b7:=hN'.N.vis
   have hml:=jv_ o
   have hfl:=List.length_filter_le rdK o
   rw[List.length_map] at b1 b2 b3 b4 b5 b6 b7
   refine Ow.callX (X:=X5) (Y:=X6++ (D2++S1)) rfl rfl rfl Tryz.call24 (fun w' hw' hX' hn'=>ZQ_ bw sv1 W1 (qK_ o) X5 w' hX' hn' hP5 (hSK.WX hw' (fun p hp=>by simp[hp]) (ZG_ hw'.nodup (fun p hp=>by simp[hp]))) (by omega) (by omega)) (fun v7 X7 hC7 hS7=> ?_)
   obtain⟨rfl,hP7⟩:=hS7
   have hE7:=hE5.came0 hC7
   rw[hes] at hP7 ⊢
   refine Ow.permL (M:=X6++ (X7++ (D2++S1))) (by classical exact List.perm_iff_count.2 fun a=>by simp only[List.count_append,List.count_cons,List.count_nil]<;>omega) ?_
   refine ko @zr_ ?_
   refine Ow.callX (X:=X6) (Y:=X7++ (D2++S1)) rfl rfl rfl Tryz.call25 (fun w' hw' hX' hn'=>Kw_ bd vL1 vI1 (o.filter rdK) W1 X6 w' hX' hn' hP6 (xJ_ jU_ hgL1 (fun b o hm=>hw'.has b o (by simp[hm])) ji_ (ZG_ hw'.nodup (fun p hp=>by simp[hp]))) (xJ_ id0 hgI1 (fun b o hm=>hw'.has b o (by simp[hm])) z0_ (ZG_ hw'.nodup (fun p hp=>by simp[hp]))) (fun o ho=>(List.mem_filter.1 ho).2) (by omega) (by omega) (by omega) (by omega) (by omega)) (fun v8 X8 hC8 hS8=> ?_)
   obtain⟨rfl,hP8⟩:=hS8
   have hE8:=hE6.came0 hC8
   rw[ab8_] at hP8 ⊢
   clear hP5 hP6 hC7 hC8 hE5 hE6
   have hend:=fun h=>Vd_ (s:=ZL_ o) (W:=W1) h
   have hon:=fun h=>Vi_ (s:=ZL_ o) (W:=W1) h
   generalize (xy_ (ZL_ o) W1).2=W2 at*
   generalize (xy_ (ZL_ o) W1).1=bst at*
   have hPD8:=hP8
   obtain⟨vq,vv,vl,vmk,vms,Q,V,M,K,hA⟩:=hP8
   have hbm: (bd,Obj.cells #[vL1,vI1,vq,vv,vl,vmk,vms] 46 (0,0))∈X8:=hA.perm.mem_iff.2 List.mem_cons_self
   have hKm: ∀p,p∈K→p∈X8:=fun p hp=>hA.perm.mem_iff.2 (by simp[hp])
   have hk8:bd∈keys (X8++ (X7++ (D2++S1))):=by rw[zd_];exact List.mem_append_left _ (List.mem_map_of_mem hbm)
   have hbb:=anh_ bst
   have s1:=xf_ W2.ms
   have s2:=xf_ (W2.lk.map ChildL.id)
   rw[List.length_map] at s2
   refine ko @zr_ ?_
   first|with_reducible refine ks [12] @zr_ ?_|refine kp @zr_ ?_
   refine Cw.world fun wz hwz=> ?_
   have rbd:zv_ w (X8++ (X7++ (D2++S1))) bd=some (.cells #[vL1,vI1,vq,vv,vl,vmk,vms] 46 (0,0)):=jb_ hwz.nodup (List.mem_append_left _ hbm)
   clear hwz wz
   refine Cw.regionS [bd] [0,1,2,3,4,6,7,8,9,5,10,11,12,13,14,16,17,18,19,15,20,21,22] [] (by kernel_rfl) (by kernel_rfl) (by kernel_rfl) ?_
   simp only[zh_, ↓zc_, ↓za_, ↓zk_, ↓zj_,zb_]
   refine kq (And.intro @zr_ (And.intro @rbd (@hbb))) ?_
   refine Ow.soft rfl rfl rfl ?_
   refine Ow.callC rfl rfl Tryz.call27 (fun w' hw'=>kq_ bw sv1 W2 w' ⟨X7,fun p hp=>hw'.has _ _ (by simp[hp]),hP7⟩ hN'.N.I.nm (by omega)) (fun B9 v9 D9 hA9 hB9 hN9 hS9=> ?_)
   with_reducible refine Ow.nil ?_
   refine⟨zq_ (fun b hb=>by rw[List.mem_singleton.1 hb];exact hk8), ?_⟩
   refine kq (And.intro @zr_ @rbd) ?_
   refine Ow.soft rfl rfl rfl ?_
   refine Ow.callFV rfl Tryz.call26 (fun w' hw'=>jZ_ v9 vmk _ _ w' (xF_ hS9 (fun b o hm=>hw'.has b o (by simp[hm]))) (xF_ hA.m (fun b o hm=>hw'.has b o (by simp[hKm _ hm]))) (by omega) (by omega)) ?_
   rw[decide_eq_true (show xr_ W2.ms=xr_ W2.ms from rfl)]
   with_reducible refine Ow.nil ?_
   refine⟨by intro b hb;simp only[List.mem_cons,List.not_mem_nil,or_false] at hb;(try subst hb);rfl, ?_⟩
   have rbd2:=(j8_ (w0:=w) (M:=D9) hk8).trans rbd
   have hk9:bd∈keys (X8++ (X7++ (D2++S1))++D9):=by rw[zd_];exact List.mem_append_left _ hk8
   refine kq (And.intro @zr_ @rbd2) ?_
   refine Ow.soft rfl rfl rfl ?_
   refine Ow.callC rfl rfl Tryz.call28 (fun w' hw'=>xN_ bw sv1 W2 w' ⟨X7,fun p hp=>hw'.has _ _ (by simp[hp]),hP7⟩ (by omega)) (fun B10 v10 D10 hA10 hB10 hN10 hS10=> ?_)
   with_reducible refine Ow.nil ?_
   refine⟨zq_ (fun b hb=>by rw[List.mem_singleton.1 hb];exact hk9), ?_⟩
   refine kq (And.intro @zr_ @rbd2) ?_
   refine Ow.soft rfl rfl rfl ?_
   refine Ow.callFV rfl Tryz.call26 (fun w' hw'=>jZ_ v10 vms _ _ w' (xF_ hS10 (fun b o hm=>hw'.has b o (by simp[hm]))) (xF_ hA.n (fun b o hm=>hw'.has b o (by simp[hKm _ hm]))) (by show(xr_ _).length<_;omega) (by show(xr_ _).length<_;omega)) ?_
   rw[decide_eq_true (show jL_ W2.lk=jL_ W2.lk from rfl)]
   with_reducible refine Ow.nil ?_
   refine⟨by intro b hb;simp only[List.mem_cons,List.not_mem_nil,or_false] at hb;(try subst hb);rfl, ?_⟩
   refine kq @zr_ ?_
   try with_reducible refine Ow.nil ?_
   cases bst with
   |false=>
    have hv2:=hon rfl
    first|with_reducible refine ks [12] @zr_ ?_|refine kp @zr_ ?_
    refine Cw.permL (M:=X7++ (X8++ (D2++ (S1++ (D9++D10))))) (by classical exact List.perm_iff_count.2 fun a=>by simp only[List.count_append,List.count_cons,List.count_nil]<;>omega) ?_
    first|with_reducible refine ks [] @zr_ ?_|refine kp @zr_ ?_
    exact Again.mk ⟨i+1,o,W2,sv1,vL1,vI1,X7,X8,S1++ (D9++D10)⟩ (by show 3000 - (i+1)<3000 - i;omega) ⟨hlt,hP7,hE7,hPD8,hE8,hNS1.app ((hN9.mono hB9).app (hN10.mono hB10)),hSK.mono fun p hp=>List.mem_append_left _ hp,hgL1.mono fun p hp=>List.mem_append_left _ hp,hgI1.mono fun p hp=>List.mem_append_left _ hp,⟨n1,hN',hn12,hnN⟩,hoN1,hoN2,by show i+1≤31+W2.vis.length;omega,hes,hO40⟩ rfl rfl
   |true=>
   by_cases h31:i≤30
   ·have d31:decide ((30:Int)< (i:Int))=false:=decide_eq_false (by omega)
    first|with_reducible refine ks [12] (And.intro @zr_ @d31) ?_|refine kp (And.intro @zr_ @d31) ?_
    refine Cw.permL (M:=X7++ (X8++ (D2++ (S1++ (D9++D10))))) (by classical exact List.perm_iff_count.2 fun a=>by simp only[List.count_append,List.count_cons,List.count_nil]<;>omega) ?_
    first|with_reducible refine ks [] @zr_ ?_|refine kp @zr_ ?_
    exact Again.mk ⟨i+1,o,W2,sv1,vL1,vI1,X7,X8,S1++ (D9++D10)⟩ (by show 3000 - (i+1)<3000 - i;omega) ⟨hlt,hP7,hE7,hPD8,hE8,hNS1.app ((hN9.mono hB9).app (hN10.mono hB10)),hSK.mono fun p hp=>List.mem_append_left _ hp,hgL1.mono fun p hp=>List.mem_append_left _ hp,hgI1.mono fun p hp=>List.mem_append_left _ hp,⟨n1,hN',hn12,hnN⟩,hoN1,hoN2,by show i+1≤31+W2.vis.length;omega,hes,hO40⟩ rfl rfl
   obtain rfl:=ho2 (by omega)
   have d31:decide ((30:Int)< (i:Int))=true:=decide_eq_true (by omega)
   have hq2:=hend rfl
   first|with_reducible refine ks [] (And.intro @zr_ @d31) ?_|refine kp (And.intro @zr_ @d31) ?_
   have hNN:New w.heap.size (X8++ (X7++ (D2++S1))++D9++D10):=((hE8.new0.app (hE7.new0.app (hN2.app hNS1))).app (hN9.mono hB9)).app (hN10.mono hB10)
   refine Ow.callC rfl rfl Tryz.call16 (fun w' hw'=>xU_ v2 (l++mo) w' (hG.new hw' hNN) (xJ_ jU_ ⟨D2,fun p hp=>hp,hG2⟩ (fun b o hm=>hw'.has b o (by simp[hm])) ji_ (fun c _ h=>by cases h)) (by omega)) (fun B11 v11 D11 hA11 hB11 hN11 hS11=> ?_)
   have hN11':=hN11.mono hB11
   refine ko @zr_ ?_
   refine Ow.callC rfl rfl Tryz.call29 (fun w' hw'=>jT_ v11 (qK_ (l++mo)) vr r w' ((hS11.mono fun p hp=>List.mem_append_right _ hp).W hw') (SlV.rowX (hr.oldN hw' (hNN.app hN11'))) (by omega) (Nat.le_trans (jv_ (l++mo)) (by omega))) (fun B12 v12 D12 hA12 hB12 hN12 hS12=> ?_)
   obtain⟨W',va,vb,hW',hq',hm1',hm2',rfl,hga,hgb⟩:=hS12
   rw[hes] at hW'
   have hN12':=hN12.mono hB12
   have em:=am8_ hW' hq' hN'.N.I hq2 (fun i=>Iff.rfl)
   have el:=anl_ hW' hq' hN'.N.I hq2 (fun i=>Iff.rfl)
   have s3:=xf_ W'.ms
   have s4:=xf_ (W'.lk.map ChildL.id)
   rw[List.length_map] at s4
   refine ko @zr_ ?_
   first|with_reducible refine ks [] @zr_ ?_|refine kp @zr_ ?_
   refine Ow.callC rfl rfl Tryz.call27 (fun w' hw'=>kq_ bw sv1 W2 w' ⟨X7,fun p hp=>hw'.has _ _ (by simp[hp]),hP7⟩ hN'.N.I.nm (by omega)) (fun B13 v13 D13 hA13 hB13 hN13 hS13=> ?_)
   have hN13':=hN13.mono hB13
   refine ko @zr_ ?_
   refine Ow.callFV rfl Tryz.call26 (fun w' hw'=>jZ_ va v13 _ _ w' (xF_ hga (fun b o hm=>hw'.has b o (by simp[hm]))) (xF_ hS13 (fun b o hm=>hw'.has b o (by simp[hm]))) (by omega) (by omega)) ?_
   rw[decide_eq_true em]
   refine ko @zr_ ?_
   refine Ow.callC rfl rfl Tryz.call28 (fun w' hw'=>xN_ bw sv1 W2 w' ⟨X7,fun p hp=>hw'.has _ _ (by simp[hp]),hP7⟩ (by omega)) (fun B14 v14 D14 hA14 hB14 hN14 hS14=> ?_)
   have hN14':=hN14.mono hB14
   refine ko @zr_ ?_
   refine Ow.callFV rfl Tryz.call26 (fun w' hw'=>jZ_ vb v14 _ _ w' (xF_ hgb (fun b o hm=>hw'.has b o (by simp[hm]))) (xF_ hS14 (fun b o hm=>hw'.has b o (by simp[hm]))) (by show(xr_ _).length<_;omega) (by show(xr_ _).length<_;omega)) ?_
   rw[decide_eq_true (show jL_ W'.lk=jL_ W2.lk from el)]
   refine ko @zr_ ?_
   first|with_reducible refine ks [] @zr_ ?_|refine kp @zr_ ?_
   refine⟨_,(ke @zr_),(((hNN.app hN11').app hN12').app hN13').app hN14', ?_⟩
   rfl
 ·exfalso
  have q3:=hN.N.vis
  have hml:=jv_ o
  rw[List.length_map] at q3
  omega
end Go.Proofs
end
namespace Go.Sx
open Go Go.ChangeShapes Go.WideShapes Go.RowKit
theorem Hp.same0 {W W':World} (h:Hp W [] W') {b:Nat} (hb:b<W.heap.size):W'.heap[b]? =W.heap[b]? :=h.old b hb (fun hm=>by cases hm)
theorem Hp.kept {W W':World} (h:Hp W [] W') (may:MemPlace→Prop):W.keptBut W' may:=by
 refine⟨h.os,h.output,fun i hi=> ?_⟩
 rw[h.same0 hi]
 cases ho:W.heap[i]? with
 |none=>rfl
 |some o=>
  cases o<;>first
   |exact⟨rfl,rfl,rfl,fun _ _=>rfl⟩
   |exact .inr ⟨rfl,rfl⟩
   |rfl
theorem Hp.sameAt {W W':World} (h:Hp W [] W') {p:MemPlace} (hp:p.block<W.heap.size):W.sameAt W' p:=by
 cases p with
 |cell b off=>
  have:=h.same0 (b:=b) hp
  simp only[World.sameAt,World.cell?,this]
 |map b=>exact h.same0 hp
theorem Hp.frozen {W W':World} (h:Hp W [] W') {a:Addr} (ha:a.block<W.heap.size):W'.frozen? a=W.frozen? a:=by
 simp only[World.frozen?,h.same0 ha]
section
variable {H:Type} {enc:TypeId×Value→H} {P:Program}
theorem ZB_ (hl:laidOutB P=true) {W W':World} {sp:Nat→Bool} (hp:Hp W [] W'): ∀ {ts:List TypeId} {vs:List Value} {ds:List (DataW H)} {ps:List MemPlace},
  (∀t∈ts,P.readableRec t=true∧t<P.types.size)→(∀p∈ps,p.block<W.heap.size)→(∀p∈ps,sp p.block=true)→
  DataW.TrodAll enc P W 0 (fun _=>true) true ts vs ds ps→DataW.TrodAll enc P W' 0 sp true ts vs ds ps
 | [],_,_,_,_,_,_,h=>by
  obtain⟨rfl,rfl,rfl⟩:=trodAll_nil h
  exact trodAll_mk0
 |t::ts,_,_,_,ht,hlt,hs,h=>by
  obtain⟨v,vs,d,ds,p,q,rfl,rfl,rfl,h1,h2⟩:=trodAll_cons h
  have hlt1: ∀x∈p,x.block<W.heap.size:=fun x hx=>hlt x (List.mem_append_left _ hx)
  exact trodAll_cons_mk (WideElems.Trod_stays hl (ht t List.mem_cons_self).1 (ht t List.mem_cons_self).2 h1 (fun x hx=>hp.sameAt (hlt1 x hx)) (fun x hx=>hs x (List.mem_append_left _ hx)))
   (ZB_ hl hp (fun u hu=>ht u (List.mem_cons_of_mem _ hu)) (fun x hx=>hlt x (List.mem_append_right _ hx)) (fun x hx=>hs x (List.mem_append_right _ hx)) h2)
theorem ag9_ {f:Func} {s:ChangeSpec} {W W':World} {args:Array Value} {ds gs:List (DataW H)} {before:List MemPlace} {tb:TypeId} (hl:laidOutB P=true)
  (hW:DataW.Whole enc P f.params.toList s.vars false W args.toList ds gs before) (hv:s.vars= []) (hpar: ∀t∈f.params.toList,P.readableRec t=true∧t<P.types.size)
  (hr:f.resultTypes= #[tb]) (htb:P.underlying tb=some .bool) (hfn:s.fn H ds={results:= [.lit (.bool true)],args:=ds}) (hp:Hp W [] W'):
  s.post enc P f false true false false W args (.bool true) W':=by
 have hlt:=hW.lt
 have hW0:=hW
 obtain⟨p,q,hA,hV,rfl,hz,hn⟩:=hW
 rw[hv] at hV
 obtain⟨rfl,rfl⟩:=trodVars_none hV
 rw[List.append_nil] at hW0 hlt hz
 have hargs: ∀sp:Nat→Bool,(∀x∈p,sp x.block=true)→DataW.TrodAll enc P W' 0 sp true f.params.toList args.toList (s.fn H (ds++ [])).args p:=fun sp hs=>by
  rw[List.append_nil,hfn]
  exact ZB_ hl hp hpar hlt hs hA
 have hvars: ∀sp:Nat→Bool,DataW.TrodVars enc P W' sp s.vars (s.fn H (ds++ [])).vars []:=fun sp=>by
  rw[List.append_nil,hfn,hv];rfl
 have hres: ∀ (b:Nat) (sp:Nat→Bool) (hd:Bool),DataW.TrodAll enc P W' b sp hd f.resultTypes.toList ((Value.bool true).resultList f.resultTypes.size) (s.fn H (ds++ [])).results []:=fun b sp hd=>by
  rw[List.append_nil,hfn,hr]
  exact trodAll_cons_mk (shut_bool htb true) trodAll_mk0
 have hold: ∀x∈p,(fun b=>decide (b<W.heap.size)) x.block=true:=fun x hx=>by simpa using hlt x hx
 refine⟨ds,[],p,[],p,[],hW0,hres _ _ _,hargs _ hold,hvars _,hp.kept _,fun _=> ?_⟩
 refine⟨ok_one hr rfl (okWide_bool_mk htb true),_,_,([]++p)++ [],⟨[]++p,[],trodAll_append (hargs _ (fun _ _=>rfl)) (hres _ _ _),hvars _,rfl, ?_,fun h=>by cases h⟩, ?_⟩
 ·intro b off hx
  have hx':MemPlace.cell b off∈p:=by simpa using hx
  rw[hp.frozen (hlt _ hx')]
  exact hz b off hx'
 ·intro x hx _
  simpa using hx
end
section
variable {P:Program} {W:World} {name:String} {k:IntKind} {zs:List Int}
theorem wT_ {t e:TypeId} {g n:Nat} (hg:P.globalNamed name=some g) (hty: (P.globals[g]?).map (·.type)=some t) (ht:P.underlying t=some (.array n e)) (he:P.underlying e=some (.int k)) (hce:P.cellsOf e=1) (hct:P.cellsOf t=n):
  ∀ {laid:List (String×DataW Unit)} {ps:List MemPlace},DataW.LaidVars P W laid ps→(name,Lib.tabData k zs)∈laid→Lib.TabIs P W name k zs
 | [],_,_,hm=>by cases hm
 | (n',d')::rest,ps,h,hm=>by
  obtain⟨g',t',cs,fuel,p,q,hg',ht',hvar,hd,hr,-⟩:=h
  rcases List.mem_cons.1 hm with hm|hm
  ·cases hm
   obtain rfl:=Option.some.inj (hg.symm.trans hg')
   obtain rfl:=Option.some.inj (hty.symm.trans ht')
   unfold Lib.TabIs
   rw[hvar,←Lib.cells_of_tab ht he hce hct hd]
  ·exact wT_ hg hty ht he hce hct hr hm
theorem Jc_ {g:Nat} (hg:P.globalNamed name=some g) (h:Lib.TabIs P W name k zs): ∃e f,W.heap[g]? =some (.cells (zs.map fun z=>Value.int k z).toArray e f):=by
 unfold Lib.TabIs at h
 simp only[World.var?,hg,Option.bind_some] at h
 split at h
 ·rename_i cs e f hb
  cases h
  exact⟨e,f,hb⟩
 ·cases h
end
section
variable {H:Type} {enc:TypeId×Value→H} {P:Program}
end
end Go.Sx
namespace Go.Sx
open Go
section
variable {P:Program}
theorem aiK_ {fits:TypeId→Bool} {d:Nat} {e:TypeId} {count off n:Nat} (h:rowAt P fits d e count off n=true):off≤count*P.cellsOf e:=by
 cases d with
 |zero=>simp[rowAt] at h
 |succ d=>
  unfold rowAt at h
  simp only at h
  split at h
  ·cases h
  ·rename_i hs
   have hs':0<P.cellsOf e:=Nat.pos_of_ne_zero hs
   have hd:=Nat.div_add_mod off (P.cellsOf e)
   have hm:=Nat.mod_lt off hs'
   rw[Bool.or_eq_true] at h
   rcases h with h|h
   ·simp only[Bool.and_eq_true,beq_iff_eq,decide_eq_true_eq] at h
    have:off / P.cellsOf e*P.cellsOf e≤count*P.cellsOf e:=Nat.mul_le_mul_right _ (by omega)
    rw[Nat.mul_comm (P.cellsOf e)] at hd
    omega
   ·simp only[Bool.and_eq_true,decide_eq_true_eq] at h
    have: (off / P.cellsOf e+1)*P.cellsOf e≤count*P.cellsOf e:=Nat.mul_le_mul_right _ (by omega)
    rw[Nat.add_mul,Nat.one_mul] at this
    rw[Nat.mul_comm (P.cellsOf e)] at hd
    omega
theorem aam_ {e:TypeId} {count off:Nat}: ∀ {d:Nat} {u:TypeId} {n:Nat},liesAt P d e count off u n=true→off≤count*P.cellsOf e
 |0,u,n,h=>by simp[liesAt] at h
 |d+1,u,n,h=>by
  unfold liesAt at h
  rw[Bool.or_eq_true] at h
  rcases h with h|h
  ·exact aiK_ h
  ·split at h
   ·exact aam_ h
   ·cases h
theorem amZ_ {W:World} {r:Reach} {base:Nat} {a:Addr} {e:TypeId} {n:Nat} (h:W.has P r base a e n):a.spot=none∧ ∃arr E fz,W.heap[a.block]? =some (.cells arr E fz)∧a.off≤arr.size:=by
 obtain⟨-,hs,row,cells,hsh,hl⟩:=h
 refine⟨hs, ?_⟩
 unfold World.shape? at hsh
 split at hsh
 ·rename_i c el fz hh
  cases hsh
  refine⟨c,_,fz,hh,Nat.le_trans (aam_ hl) ?_⟩
  exact Nat.div_mul_le_self _ _
 ·cases hsh
theorem WJ_ {W:World} {r:Reach} {base:Nat} {t e:TypeId} {v:Value} (ht:P.underlying t=some (.slice e)) (h:Value.okWide P W r base t v):
  v= .slice none 0 0∨ ∃b off len cap arr E fz,v=vsl b off len cap∧len≤cap∧W.heap[b]? =some (.cells arr E fz)∧off≤arr.size:=by
 obtain⟨a,len,cap,rfl⟩:=Go.WideShapes.okWide_slice ht h
 unfold Value.okWide at h
 rw[ht] at h
 unfold Cell.okWide at h
 rw[ht] at h
 simp only at h
 unfold Cell.ok at h
 rw[ht] at h
 cases a with
 |none=>
  left
  simp only at h
  split at h
  all_goals first| (cases h;done) |simp_all
 |some a=>
  right
  simp only at h
  obtain⟨hle,-,hh⟩:=h
  obtain⟨hs,arr,E,fz,hb,ho⟩:=amZ_ hh
  obtain⟨b,off,sp⟩:=a
  simp only at hs
  subst hs
  exact⟨b,off,len,cap,arr,E,fz,rfl,hle,hb,ho⟩
theorem akL_ {α:Type} {enc:α→List Value} {z:α} {m:Nat} {W:World} {base b off c:Nat} {l:List α} {arr:Array Value} {E:TypeId} {fz:Nat×Nat} (hm0:0<m) (hm: ∀x,(enc x).length=m)
  (hcells: ∀i,i<l.length→W.cells? base ((Addr.mk b off none).add (i*m)) m=some (enc (l.getD i z))) (hheap:W.heap[b]? =some (.cells arr E fz)) (hoff:off≤arr.size) (hc:l.length≤c):SlV m enc z W (vsl b off l.length c) l:=by
 have get: ∀k,k<l.length→ ∀j,j<m→arr[off+k*m+j]? =(enc (l.getD k z))[j]? :=by
  intro k hk j hj
  obtain⟨-,hl,hg⟩:=World.cells?_some (hcells k hk)
  have:=hg j (by omega)
  rw[qE_,qE_] at this
  simp only[World.cell?,hheap,Option.isSome_none,Bool.false_eq_true,if_false] at this
  exact this
 refine SlV.sl hheap get hc ?_
 by_cases h0:l.length=0
 ·rw[h0];omega
 ·have h1:=get (l.length - 1) (by omega) (m - 1) (by omega)
  rw[List.getElem?_eq_getElem (by rw[hm];omega)] at h1
  have h2:=(Array.getElem?_eq_some_iff.1 h1).1
  have h3: (l.length - 1)*m+m=l.length*m:=by
   rw[←Nat.succ_mul];congr 1;omega
  omega
theorem ake_ {H:Type} {tell:TypeId×Value→H} {α:Type} {enc:α→List Value} {z:α} {m:Nat} {W:World} {r:Reach} {base b0:Nat} {sp:Nat→Bool} {held:Bool} {fuel:Nat} {t e:TypeId} {v:Value} {x:DataW H×List MemPlace}
  (ht:P.underlying t=some (.slice e)) (he:P.cellsOf e=m) (hm0:0<m) (hm: ∀x,(enc x).length=m) (hval:Value.okWide P W r b0 t v)
  (hdec: ∀n cs y,DataW.trod tell P W base sp held n e cs=some y→ ∃a,cs=enc a) (hd:DataW.trod tell P W base sp held fuel t [v]=some x): ∃l,SlV m enc z W v l:=by
 rcases DataW.trod_slice ht hd with⟨hcs,-⟩ | ⟨a,len,cap,elems,rest,n,-,hcs,-,-,hl,-,hlen,hel,-,-⟩
 ·simp only[List.cons.injEq,and_true] at hcs
  subst hcs
  exact⟨[],SlV.nil W⟩
 ·simp only[List.cons.injEq,and_true] at hcs
  subst hcs
  rcases WJ_ ht hval with h0| ⟨b,off,len',cap',arr,E,fz,h1,-,hb,ho⟩
  ·cases h0
  ·unfold vsl at h1
   cases h1
   rw[he] at hel
   have hex: ∀i,i<len→ ∃q,W.cells? base ((Addr.mk b off none).add (i*m)) m=some (enc q):=by
    intro i hi
    have h2:=hel i hi
    rw[List.getElem?_eq_getElem (by omega)] at h2
    cases hc:W.cells? base ((Addr.mk b off none).add (i*m)) m with
    |none=>rw[hc] at h2;cases h2
    |some cs=>
     rw[hc] at h2
     obtain⟨q,rfl⟩:=hdec _ _ _ h2
     exact⟨q,rfl⟩
   obtain⟨f,hf⟩: ∃f:Nat→α,∀i,i<len→W.cells? base ((Addr.mk b off none).add (i*m)) m=some (enc (f i)):=by
    classical
    refine⟨fun i=>if h:i<len then Classical.choose (hex i h) else z,fun i hi=> ?_⟩
    simp only[dif_pos hi]
    exact Classical.choose_spec (hex i hi)
   have hll: ((List.range len).map f).length=len:=by simp
   refine⟨(List.range len).map f, ?_⟩
   have:=akL_ (W:=W) (base:=base) (b:=b) (off:=off) (c:=cap) (l:=(List.range len).map f) (z:=z) hm0 hm (fun i hi=>by
    rw[hll] at hi
    rw[hf i hi]
    congr 2
    rw[List.getD_eq_getElem?_getD,List.getElem?_map,List.getElem?_range hi];rfl) hb ho (by rw[hll];exact hl)
   rw[hll] at this
   exact this
end
end Go.Sx
section
open Go Go.Proofs Go.Sx Go.StP Go.ChangeShapes
namespace Go.Proofs
set_option maxRecDepth 10000
set_option maxHeartbeats 1000000
set_option linter.unusedSimpArgs false
theorem aiI_ {H:Type} {tell:TypeId×Value→H} {W:World} {base:Nat} {sp:Nat→Bool} {held:Bool} {n:Nat} {cs:List Value} {y:DataW H×List MemPlace}
  (h:DataW.trod tell Tryz.prog W base sp held n 24 cs=some y): ∃i:IdL,cs=i.l.map v8:=by
 obtain⟨xs,m,-,-,hlen,hxl,hel⟩:=DataW.trod_array Tryz.underlying24 h
 have hc: (Tryz.prog).cellsOf 24=32:=by kernel_rfl
 have h1: (Tryz.prog).cellsOf 5=1:=by kernel_rfl
 rw[hc] at hlen
 rw[h1] at hel
 have hex: ∀i (hi:i<cs.length),∃x:UInt8,cs[i]=v8 x:=by
  intro i hi
  have h2:=hel i (by omega)
  rw[List.getElem?_eq_getElem (by omega),Nat.mul_one,List.drop_eq_getElem_cons hi,List.take_succ_cons,List.take_zero] at h2
  obtain⟨z,hz,-,hw⟩:=DataW.trod_int Tryz.underlying5 h2
  simp only[List.cons.injEq,and_true] at hz
  rw[hz]
  simp only[Lit.wf,Bool.and_eq_true,decide_eq_true_eq] at hw
  have hw1:0≤z:=by simpa [IntKind.min,IntKind.bits,IntKind.signed] using hw.1
  have hw2:z≤255:=by simpa [IntKind.max,IntKind.bits,IntKind.signed] using hw.2
  refine⟨UInt8.ofNat z.toNat, ?_⟩
  unfold v8
  rw[UInt8.toNat_ofNat',Nat.mod_eq_of_lt (by omega)]
  congr 1;omega
 have hl: ∃l:List UInt8,cs=l.map v8:=by
  clear hel hlen hxl h
  induction cs with
  |nil=>exact⟨[],rfl⟩
  |cons c r ih=>
   obtain⟨x,hx⟩:=hex 0 (by simp)
   obtain⟨l,hl⟩:=ih (fun i hi=>by have:=hex (i+1) (by simpa using hi);simpa using this)
   exact⟨x::l,by rw[hl];simp at hx;simp[hx]⟩
 obtain⟨l,rfl⟩:=hl
 exact⟨⟨l,by simpa using hlen⟩,rfl⟩
theorem ak2_ {H:Type} {tell:TypeId×Value→H} {W:World} {base:Nat} {sp:Nat→Bool} {held:Bool} (n:Nat) (cs:List Value) (y:DataW H×List MemPlace)
  (h:DataW.trod tell Tryz.prog W base sp held n 35 cs=some y): ∃o:ObK,cs=kl_ o:=by
 have hc: (Tryz.prog).cellsOf 35=2:=by kernel_rfl
 have hc3: (Tryz.prog).cellsOf 3=1:=by kernel_rfl
 have hcT: (Tryz.prog).cellsOf 9=1:=by kernel_rfl
 obtain⟨y0,y1,n',-,hlen,h0,h1⟩:=ChangeShapes.trod_struct2 Tryz.underlying35 h
 simp only at h0 h1 hlen
 rw[hc3,List.drop_zero] at h0
 rw[hcT] at h1
 rw[hc] at hlen
 obtain⟨z,hz,-,-⟩:=DataW.trod_int Tryz.underlying3 h0
 obtain⟨s,hs2,-,-⟩:=DataW.trod_string Tryz.underlying9 h1
 have hd:cs=cs.take 1++ (cs.drop 1).take 1:=by
  rw[show(cs.drop 1).take 1=cs.drop 1 from List.take_of_length_le (by rw[List.length_drop];omega),List.take_append_drop]
 rw[hz,hs2] at hd
 exact⟨⟨z,s.data.toList⟩,by rw[hd];rfl⟩
theorem aiG_ {H:Type} {enc:TypeId×Value→H} {W:World} {r:Reach} {b0 base:Nat} {sp:Nat→Bool} {held:Bool} {v:Value} {d:DataW H} {p:List MemPlace}
  (hval:Value.okWide Tryz.prog W r b0 30 v) (hd:DataW.Trod enc Tryz.prog W base sp held 30 v d p): ∃l,SlV 32 z4_ id0 W v l:=by
 obtain⟨a0,len,cap,rfl⟩:=WideShapes.okWide_slice Tryz.underlying30 hval
 obtain⟨fu,hf⟩:=hd
 exact ake_ (z:=id0) Tryz.underlying30 (by kernel_rfl) (by decide) ki_ hval (fun n cs y h=>by obtain⟨i,hi⟩:=aiI_ h;exact⟨i,hi⟩) hf
end Go.Proofs
end
section
open Go Go.Proofs Go.Sx Go.StP
namespace Go.Proofs
set_option linter.unusedSimpArgs false
theorem ans_ {n:Int} (h: (Lit.int .u8 n).wf=true): ∃c:UInt8,Value.int .u8 n=v8 c:=by
 simp only[Lit.wf,Bool.and_eq_true,decide_eq_true_eq] at h
 have h1: (0:Int)≤n:=h.1
 have h2:n≤255:=h.2
 refine⟨UInt8.ofNat n.toNat, ?_⟩
 unfold v8
 rw[UInt8.toNat_ofNat',Nat.mod_eq_of_lt (by omega),Int.toNat_of_nonneg h1]
end Go.Proofs
end
section
open Go Go.Proofs Go.Sx Go.StP
open Go.ChangeShapes Go.WideShapes Go.ChangeAt Go.RowKit Go.ChangeMaps
namespace Go.Proofs
set_option maxRecDepth 10000
set_option maxHeartbeats 1000000
set_option linter.unusedSimpArgs false
theorem aiS_ {H:Type} {tell:TypeId×Value→H} {α:Type} {enc:α→List Value} {z:α} {m:Nat} {W:World} {r:Reach} {base b0:Nat} {sp:Nat→Bool} {held:Bool} {fuel:Nat} {t e:TypeId} {v:Value} {x:DataW H×List MemPlace}
  (ht: (Tryz.prog).underlying t=some (.slice e)) (he: (Tryz.prog).cellsOf e=m) (hm0:0<m) (hm: ∀x,(enc x).length=m) (hval:Value.okWide Tryz.prog W r b0 t v)
  (hdec: ∀n cs y,DataW.trod tell Tryz.prog W base sp held n e cs=some y→ ∃a,cs=enc a) (hd:DataW.trod tell Tryz.prog W base sp held fuel t [v]=some x):
  ∃l,SlV m enc z W v l∧(l= []∨ ∃es sp',x.1= .slice es sp'∧l.length≤es.length):=by
 rcases DataW.trod_slice ht hd with⟨hcs,-⟩ | ⟨a,len,cap,elems,rest,n,-,hcs,hx,-,hl,-,hlen,hel,-,-⟩
 ·simp only[List.cons.injEq,and_true] at hcs
  subst hcs
  exact⟨[],SlV.nil W, .inl rfl⟩
 ·simp only[List.cons.injEq,and_true] at hcs
  subst hcs
  rcases WJ_ ht hval with h0| ⟨b,off,len',cap',arr,E,fz,h1,-,hb,ho⟩
  ·cases h0
  ·unfold vsl at h1
   cases h1
   rw[he] at hel
   have hex: ∀i,i<len→ ∃q,W.cells? base ((Addr.mk b off none).add (i*m)) m=some (enc q):=by
    intro i hi
    have h2:=hel i hi
    rw[List.getElem?_eq_getElem (by omega)] at h2
    cases hc:W.cells? base ((Addr.mk b off none).add (i*m)) m with
    |none=>rw[hc] at h2;cases h2
    |some cs=>
     rw[hc] at h2
     obtain⟨q,rfl⟩:=hdec _ _ _ h2
     exact⟨q,rfl⟩
   obtain⟨f,hf⟩: ∃f:Nat→α,∀i,i<len→W.cells? base ((Addr.mk b off none).add (i*m)) m=some (enc (f i)):=by
    classical
    refine⟨fun i=>if h:i<len then Classical.choose (hex i h) else z,fun i hi=> ?_⟩
    simp only[dif_pos hi]
    exact Classical.choose_spec (hex i hi)
   have hll: ((List.range len).map f).length=len:=by simp
   have hgd: ∀i,i<len→((List.range len).map f).getD i z=f i:=fun i hi=>by
    rw[List.getD_eq_getElem?_getD,List.getElem?_map,List.getElem?_range hi];rfl
   refine⟨(List.range len).map f, ?_, .inr ⟨_,_,by rw[hx], ?_⟩⟩
   ·have:=akL_ (W:=W) (base:=base) (b:=b) (off:=off) (c:=cap) (l:=(List.range len).map f) (z:=z) hm0 hm (fun i hi=>by
     rw[hll] at hi
     rw[hf i hi,hgd i hi]) hb ho (by rw[hll];exact hl)
    rw[hll] at this
    exact this
   ·rw[hll,List.length_map];omega
theorem Ko_ {H:Type} {enc:TypeId×Value→H} {W:World} {r:Reach} {b0 base:Nat} {sp:Nat→Bool} {held:Bool} {v:Value} {d:DataW H} {p:List MemPlace}
  (hval:Value.okWide Tryz.prog W r b0 22 v) (hd:DataW.Trod enc Tryz.prog W base sp held 22 v d p): ∃l,SlV 2 kl_ jU_ W v l∧(l= []∨ ∃es sp',d= .slice es sp'∧l.length≤es.length):=by
 obtain⟨a0,len,cap,rfl⟩:=WideShapes.okWide_slice Tryz.underlying22 hval
 obtain⟨fu,hf⟩:=hd
 exact aiS_ (z:=jU_) Tryz.underlying22 (by kernel_rfl) (by decide) ji_ hval ak2_ hf
end Go.Proofs
end
namespace Go.Sx
open Go
theorem aie_ {P:Program} {f:FuncId} {fn:Func} {s:ChangeSpec} {c:OpenClaim}
  (h1: (c.wf (OpenSpec.ofChange s))=true)
  (h2: (laidOutB P)=true)
  (h3: (mapsRowed P)=true)
  (h4: (fn.params.all (P.readableRec ·))=true)
  (h5: (namedTie P c.named s.vars)=true)
  (h6: ((c.stops== []))=true)
  (h7: ((P.stops== []))=true)
  (h8: ((c.knobs== []))=true)
  (h9: ((P.stopKnobs== []))=true)
  (h10: ((c.inPlace==P.inPlace f))=true)
  (h11: ((c.unfollowed==P.unfollowed f))=true)
  (h12: ((c.recurses==P.recurses f))=true)
  (h13: ((c.named==P.varsNamed f))=true)
  (h14: ((c.maps==(fn.params.toList++s.plain.varTypes P).any (P.mapsRec ·)))=true)
  (h15: ((c.ifaces==(fn.params.toList++s.plain.varTypes P).any (P.ifacesRec ·)))=true)
  (h16: ((c.mapsOut==P.mapsAmong fn.resultTypes.toList))=true)
  (h17: ((c.loops==(fn.params.toList++s.plain.varTypes P).any (P.loopsFrom ·)))=true)
  (h18: ((c.wideKeys==(fn.params.toList++s.plain.varTypes P++fn.resultTypes.toList).any (P.wideKeysFrom ·)))=true)
  (h19: (s.vars.all (P.varReadable ·))=true)
  (h20: (fn.resultTypes.all (fun t=>P.readableRec t&&decide (t<P.types.size)))=true)
  (h21: ((c.ifacesOut==fn.resultTypes.toList.any (P.ifacesRec ·)))=true)
  (h22: ((c.loopsOut==fn.resultTypes.toList.any (P.loopsFrom ·)))=true)
  (h23: ((c.plainKeys==P.plainKeys))=true)
  (h24: (c.shortTexts.isNone)=true)
  (h25: (P.stopsHeard)=true)
  (h26: (P.mayEnter)=true)
  (h27: ((c.lifted==P.liftsFinal))=true)
  (h28: ((P.make==some c.make))=true)
  (h29: ((c.kinds==(if c.domain.isEmpty then [] else fn.params.toList.map fun t=>match P.underlying t with|some (.int k)=>some k|_=>none)))=true)
  (h30: ((c.pinned==c.pinnedBy))=true)
  (h31: ((c.veiled==(fn.params.toList++s.plain.varTypes P++fn.resultTypes.toList).any (P.veiledRec ·)))=true)
  (h32: (c.veiledFits P fn.params.toList (fn.params.toList++s.plain.varTypes P++fn.resultTypes.toList))=true):
  joinedFacts P f fn s c=true:=by
 unfold joinedFacts
 exact(Bool.and_eq_true_iff.2 ⟨(Bool.and_eq_true_iff.2 ⟨(Bool.and_eq_true_iff.2 ⟨(Bool.and_eq_true_iff.2 ⟨(Bool.and_eq_true_iff.2 ⟨(Bool.and_eq_true_iff.2 ⟨(Bool.and_eq_true_iff.2 ⟨(Bool.and_eq_true_iff.2 ⟨(Bool.and_eq_true_iff.2 ⟨(Bool.and_eq_true_iff.2 ⟨(Bool.and_eq_true_iff.2 ⟨(Bool.and_eq_true_iff.2 ⟨(Bool.and_eq_true_iff.2 ⟨(Bool.and_eq_true_iff.2 ⟨(Bool.and_eq_true_iff.2 ⟨(Bool.and_eq_true_iff.2 ⟨(Bool.and_eq_true_iff.2 ⟨(Bool.and_eq_true_iff.2 ⟨(Bool.and_eq_true_iff.2 ⟨(Bool.and_eq_true_iff.2 ⟨(Bool.and_eq_true_iff.2 ⟨(Bool.and_eq_true_iff.2 ⟨(Bool.and_eq_true_iff.2 ⟨(Bool.and_eq_true_iff.2 ⟨(Bool.and_eq_true_iff.2 ⟨(Bool.and_eq_true_iff.2 ⟨(Bool.and_eq_true_iff.2 ⟨(Bool.and_eq_true_iff.2 ⟨(Bool.and_eq_true_iff.2 ⟨(Bool.and_eq_true_iff.2 ⟨(Bool.and_eq_true_iff.2 ⟨h1,h2⟩),h3⟩),h4⟩),h5⟩),h6⟩),h7⟩),h8⟩),h9⟩),h10⟩),h11⟩),h12⟩),h13⟩),h14⟩),h15⟩),h16⟩),h17⟩),h18⟩),h19⟩),h20⟩),h21⟩),h22⟩),h23⟩),h24⟩),h25⟩),h26⟩),h27⟩),h28⟩),h29⟩),h30⟩),h31⟩),h32⟩)
end Go.Sx
