/-
  Part 4 of the walk: contracts of the functions that the law reaches, and the calculus they stand on.
  No conditions.
-/
import Derived.Test.YtooklcgflocbcaaGreatDoorI3
import Derived.ProofKit
import Derived.OpenShut
import Derived.WideKeyArgs
import Derived.ChangeSame
import Derived.ChangeMaps5
import Derived.Lib.LaidTab
import Derived.SliceStrings
import Derived.DataReads
import Derived.Deep.Strs
section
open Go Go.Proofs Go.Sx Go.StP Go.Flo
namespace Go.Proofs
set_option maxRecDepth 10000
set_option maxHeartbeats 400000
set_option linter.unusedSimpArgs false
def kJ_ (sp:List Nat) (ids:List IdL):List RwL:=(List.range ids.length).map fun i=>⟨ids.getD i id0,(i:Int),(sp.getD i 0:Nat)⟩
theorem xQ_ (sp:List Nat) (ids:List IdL): (kJ_ sp ids).length=ids.length:=by simp[kJ_]
theorem wa_ (sp:List Nat) (ids:List IdL) {k:Nat} (h:k<ids.length): (kJ_ sp ids).getD k rw0=⟨ids.getD k id0,(k:Int),(sp.getD k 0:Nat)⟩:=by
 unfold kJ_
 rw[List.getD_eq_getElem?_getD,List.getElem?_map,List.getElem?_range h];rfl
def agl_ (b:List UInt8) (v:Value):Prop:=match wB_ b with
 |none=>v= .tuple #[vs [],vi 2]
 |some q=> ∃Z,rws_SortOf (kJ_ q.2.1 q.2.2.1) Z∧v= .tuple #[vs (xw_ (b.drop (b.length - 4)) Z).1,vi (xw_ (b.drop (b.length - 4)) Z).2]
theorem JO_ {b:List UInt8} {q:List PartL×List Nat×List IdL×List ObL} (h:wB_ b=some q):4≤b.length:=by
 unfold wB_ at h
 split at h
 ·rename_i hc
  have:=KJ_ hc.1
  rw[←this,xS_];omega
 ·cases h
structure MkG where
 k:Nat
 v:Value
 D:za_
set_option linter.defProp false
def xt_:=And.intro (And.intro (@zg_) (@zf_)) (And.intro (@Sx.tup2_0) (@Sx.tup2_1))
theorem XR_ (b:List UInt8) (w:World) (hG:GlobE w) (hC:GlobC w) (hb:b.length<1099511627776):
  Rets Tryz.prog 47 #[vs b] w (fun v D=>agl_ b v∧D= []):=by
 refine Rets.enterV Tryz.func47 rfl (rs:= [.tmp 2, .tmp 3]) Tryz.results47 Tryz.ntmps47 ?_
 refine kf ?_
 first|with_reducible refine ks [1000004] @xt_ ?_|refine kp @xt_ ?_
 refine Ow.callC rfl rfl Tryz.call17 (fun w' hw'=>Kb_ b w' (hG.new hw' trivial) (hC.newP hw' trivial) hb) (fun B1 v1 D1 hA1 hB1 hN1 hS1=> ?_)
 have hD1:New w.heap.size D1:=hN1.mono hB1
 rw[List.nil_append]
 unfold ajV_ at hS1
 unfold agl_
 cases hop:wB_ b with
 |none=>
  rw[hop] at hS1
  have hS1':v1= .tuple #[.pointer none,vi 2]:=hS1
  subst hS1'
  refine ko @xt_ ?_
  first|with_reducible refine ks [] @xt_ ?_|refine kp @xt_ ?_
  refine⟨_,(ke @xt_),hD1, ?_⟩
  rfl
 |some q=>
  obtain⟨l,sp,q⟩:=q
  rw[hop] at hS1
  obtain⟨bp,rfl,hP⟩:=hS1
  simp only at hP
  obtain⟨hs1,hs2,hs3,hs4,hs5⟩:=wx_ hop
  have hb4:=JO_ hop
  obtain⟨ids,os⟩:=q
  simp only at hP hs3 hs4 hs5 ⊢
  have hrl:=xQ_ sp ids
  refine ko @xt_ ?_
  refine Cw.rebaseV hD1 (by rfl) fun w1 hw1=> ?_
  have hP1:=hP.inW (fun q hq=>hq) hw1
  have hC1:=hC.newP hw1 hD1
  clear hw1 hP hD1 hN1
  first|with_reducible refine ks [] @xt_ ?_|refine kp @xt_ ?_
  refine Ow.callFV rfl Tryz.call20 (fun w' hw'=>VN_ bp l sp ids os w' (hP1.old hw' trivial)) ?_
  refine ko @xt_ ?_
  refine Cw.loopG (G:=MkG) [19,20,7,21,22,23,24,25,26,27,28,29,30,31,6,32,18] (fun g=> [(6,g.v),(18,vi g.k)]) (fun g=>g.D) (fun g=>g.k≤l.length∧Ext w1 [] g.D∧Gr g.D 104 34 g.v g.k (((kJ_ sp ids).take g.k).map rwC).flatten) (fun g=>l.length - g.k) ⟨0, .slice none 0 0,[]⟩ rfl rfl ?_ ?_
  ·exact⟨Nat.zero_le _,Ext.refl w1 [],Gr.nl⟩
  intro g j hg
  refine kv ?_
  obtain⟨k,v,D⟩:=g
  simp only at hg ⊢
  obtain⟨hk,hE,hGr⟩:=hg
  have hN:=hE.new0
  by_cases hlt:k<l.length
  ·have d1:decide ((k:Int)< (l.length:Int))=true:=decide_eq_true (by omega)
   have hh:hasV l (k:Int)=true:=by unfold hasV;rw[d1,Bool.and_true];exact decide_eq_true (by omega)
   have hra:=wa_ sp ids (show k<ids.length by omega)
   first|with_reducible refine ks [] (And.intro @xt_ @d1) ?_|refine kp (And.intro @xt_ @d1) ?_
   refine Ow.callFV rfl Tryz.call22 (fun w' hw'=>acZ_ bp (k:Int) l sp ids os w' (hP1.old hw' hN) (by omega)) ?_
   rw[hh,if_pos rfl,Int.toNat_natCast]
   refine ko @xt_ ?_
   refine Ow.callFV rfl Tryz.call23 (fun w' hw'=>XM_ bp (k:Int) l sp ids os w' (hP1.old hw' hN) hs3) ?_
   rw[hh,if_pos rfl,Int.toNat_natCast]
   refine ko @xt_ ?_
   refine Ow.build (.agg (rwC ((kJ_ sp ids).getD k rw0)).toArray) rfl (by rw[hra];exact aiS_ ⟨ids.getD k id0,(k:Int),(sp.getD k 0:Nat)⟩) ?_
   refine ko @xt_ ?_
   refine Ow.buildSlice (e:=104) (rwC ((kJ_ sp ids).getD k rw0)).toArray rfl rfl (qA_ Tryz.underlying81 adV_ Vq_ (by decide) (zG_ _)) fun b6 hb6 hw6=> ?_
   refine ko @xt_ ?_
   refine Ow.appendG (e:=104) (k:=1) (new:=rwC ((kJ_ sp ids).getD k rw0)) v rfl rfl rfl Tryz.underlying81 adV_ (by kernel_rfl) Vq_ (by rw[qR_,List.size_toArray,zG_]) Tryz.underlying81 (by intro k h;cases h) hGr.app (fun w' hw'=>AppX.one1 (hw'.has _ _ (List.mem_append_right _ List.mem_cons_self)) (zG_ _) (ZX_ _)) (by show(rwC _).length=1*34;rw[zG_]) (by omega) (fun v3 L3 hB3 _ hg3 hs3=> ?_)
   have hE3:=(hE.app (o:= .cells (rwC ((kJ_ sp ids).getD k rw0)).toArray 104 (0,0)) hw6).grew hg3
   refine ko @xt_ ?_
   first|with_reducible refine ks [] @xt_ ?_|refine kp @xt_ ?_
   refine Again.mk ⟨k+1,v3,L3⟩ (by show l.length - (k+1)<l.length - k;omega) ⟨hlt,hE3, ?_⟩ rfl rfl
   show Gr L3 104 34 v3 (k+1) (((kJ_ sp ids).take (k+1)).map rwC).flatten
   rw[StP.take_snoc (z:=rw0) (by omega)]
   simpa only[List.map_append,List.map_cons,List.map_nil,List.flatten_append,List.flatten_cons,List.flatten_nil,List.append_nil] using hB3
  ·obtain rfl:k=l.length:=by omega
   have d1:decide ((l.length:Int)< (l.length:Int))=false:=decide_eq_false (by omega)
   rw[List.take_of_length_le (by omega)] at hGr
   have e4: (b.length:Int) - 4=((b.length - 4:Nat):Int):=by omega
   first|with_reducible refine ks [] (And.intro @xt_ (And.intro @d1 (@e4))) ?_|refine kp (And.intro @xt_ (And.intro @d1 (@e4))) ?_
   have hdl: (b.drop (b.length - 4)).length<1099511627776:=by rw[List.length_drop];omega
   refine Ow.callC rfl rfl Tryz.call42 (fun w' hw'=>Rets.toX (kW_ (b.drop (b.length - 4)) v (kJ_ sp ids) w' (hC1.newP hw' hN) (hGr.slV hw' (by omega) rfl zG_) (by omega) hdl)) (fun B2 v2 D2 hA2 hB2 hN2 hS2=> ?_)
   obtain⟨rfl,Z,hZ,rfl⟩:=hS2
   rw[List.append_nil]
   refine ko @xt_ ?_
   first|with_reducible refine ks [] @xt_ ?_|refine kp @xt_ ?_
   refine⟨_,(ke @xt_),hN, ?_⟩
   exact⟨Z,hZ,rfl⟩
end Go.Proofs
end
section
open Go Go.Proofs Go.Sx Go.StP Go.Flo Go.Dig
namespace Go.Proofs
set_option maxRecDepth 10000
set_option maxHeartbeats 400000
set_option linter.unusedSimpArgs false
def aiR:RwL:=⟨jY_ abS,0,5⟩
theorem anc_ (s:List UInt8) (h:s.length=4):q3_ s [aiR]=true:=by
 unfold q3_
 rw[h]
 rfl
theorem ajG_ {r:RwL} {Z:List RwL} (h:rws_SortOf [r] Z):Z= [r]:=h.eq ⟨rfl,List.pairwise_singleton _ _,StP.St.refl _ _⟩
theorem aky_: (km_ [aiR] [])= [aiR]:=by
 unfold km_
 rw[List.filter_cons,List.filter_nil,if_pos]
 unfold Wz_
 rw[List.length_nil,List.take_zero]
 simp
set_option linter.defProp false
def vl_:=And.intro (And.intro (@zg_) (@zf_)) (And.intro (@Sx.tup2_0) (And.intro (@Sx.tup2_1) (@qa_)))
theorem qC_ (w:World) (hG:GlobE w) (hC:GlobC w):Rets Tryz.prog 41 #[] w (fun v D=>v= .bool true∧D= []):=by
 have hop:wB_ (qE_ (kq_ [abP]))=some ([abP],_,_):=X2_ ahd_ akl_
 have hal:=an7_
 have hwv:wU_ [abP]=(qE_ (kq_ [abP]),0):=by unfold wU_;rw[ahd_]
 generalize qE_ (kq_ [abP])=b at*
 have hsp:kJ_ (Z4_ 0 (4+ (qS_ [abP].length).length) [abP]) [jY_ abS]= [aiR]:=by
  show [RwL.mk (jY_ abS) 0 _]=_
  rw[show qS_ [abP].length= [1] from by rw[show [abP].length=1 from rfl,jm_ (by decide)];rfl]
  rfl
 have hdl: (b.drop (b.length - 4)).length=4:=by rw[List.length_drop];omega
 have hri:=anc_ (b.drop (b.length - 4)) hdl
 have hoi:=wE_ hri
 have hwi:xw_ (b.drop (b.length - 4)) [aiR]=(qE_ (v8_ (b.drop (b.length - 4)) [aiR]),0):=by unfold xw_;rw[if_pos hri]
 have hil: (qE_ (v8_ (b.drop (b.length - 4)) [aiR])).length<1000000:=by
  have h1:=vy_ [aiR] 1 (by decide)
  have h2:=zp_ (([aiR].length:Nat):Int)
  have h3:=vv_ (Qs_ (x9_ [aiR]))
  rw[x3_,kl_] at h3
  rw[List.take_of_length_le (by decide)] at h1
  rw[xS_]
  unfold v8_ kG_
  rw[List.length_append,List.length_append,List.length_append,List.length_append,hdl,show magI.length=4 from rfl]
  omega
 refine Rets.enterV Tryz.func41 rfl (rs:= [.tmp 0]) Tryz.results41 Tryz.ntmps41 ?_
 refine kf ?_
 first|with_reducible refine ks [] @vl_ ?_|refine kp @vl_ ?_
 refine Ow.build (.agg (zr_ abP).toArray) rfl (Jx_ abS) ?_
 refine ko @vl_ ?_
 refine Ow.buildSlice (e:=114) (zr_ abP).toArray rfl rfl (by kernel_rfl) fun b10 hb10 hw10=> ?_
 refine ko @vl_ ?_
 have hN10:New w.heap.size [(b10,Obj.cells (zr_ abP).toArray 114 (0,0))]:=⟨hw10,trivial⟩
 refine Ow.callFV rfl Tryz.call14 (fun w' hw'=>Jq_ (vsl b10 0 1 1) [abP] w' (ajo_ (hw'.has b10 _ List.mem_cons_self)) (hG.new hw' hN10) (hC.newP hw' hN10) (fun g hg=>by obtain rfl:g=0:=(by simpa using hg);decide) (by decide)) ?_
 rw[hwv]
 refine ko @vl_ ?_
 first|with_reducible refine ks [] @vl_ ?_|refine kp @vl_ ?_
 refine Ow.callC rfl rfl Tryz.call47 (fun w' hw'=>Rets.toX (XR_ b w' (hG.new hw' hN10) (hC.newP hw' hN10) (by omega))) (fun B1 v1 D1 hA1 hB1 hN1 hS1=> ?_)
 obtain⟨rfl,hS1⟩:=hS1
 unfold agl_ at hS1
 rw[hop] at hS1
 obtain⟨Z,hZ,rfl⟩:=hS1
 simp only at hZ
 rw[hsp] at hZ
 obtain rfl:=ajG_ hZ
 rw[hwi,List.append_nil]
 generalize qE_ (v8_ (b.drop (b.length - 4)) [aiR])=s at*
 refine ko @vl_ ?_
 first|with_reducible refine ks [] @vl_ ?_|refine kp @vl_ ?_
 refine Ow.callC rfl rfl Tryz.call49 (fun w' hw'=>vX_ s w' (hC.newP hw' hN10) (by omega)) (fun B2 v2 D2 hA2 hB2 hN2 hS2=> ?_)
 unfold Ki_ at hS2
 rw[hoi] at hS2
 obtain⟨bi,rfl,hI⟩:=hS2
 simp only at hI
 have hN:=hN10.app (hN2.mono hB2)
 refine ko @vl_ ?_
 first|with_reducible refine ks [] @vl_ ?_|refine kp @vl_ ?_
 refine Ow.callC rfl rfl Tryz.call51 (fun w' hw'=>kQ_ bi _ [aiR] w' ((hI.mono (fun q hq=>by simp[hq])).inW hw') (by decide)) (fun B3 v3 D3 hA3 hB3 hN3 hS3=> ?_)
 have hN':=hN.app (hN3.mono hB3)
 refine Ow.world fun w1 hw1=> ?_
 obtain⟨rb,off,arr,E,fz,hr,hlk⟩:=(hS3.mono (D':=(b10,Obj.cells (zr_ abP).toArray 114 (0,0)):: (D2++D3)) (fun q hq=>by simp[hq])).rowL (z:=rw0) rfl hw1 zG_
 have rd:=z6_ (w0:=w) (hlk (by decide))
 have ln:=ZW_ hS3
 have ix:z8_ (.sl (true,34)) v3 (some 0)=some (vp rb off):=by simpa using hr.idx true 0 (by decide)
 have ld: ∀n,zo_ (some (false,n)) (some (.cells arr E fz)) (off+33)=some (vi 5):=fun n=>by simpa [aiR] using amz_ hr (k:=0) (by decide) n
 have e1: ((([aiR].length:Nat):Int)==1)=true:=rfl
 have e5: ((5:Int)==5)=true:=rfl
 refine ko (And.intro @vl_ (And.intro @ln (And.intro @ix (And.intro @rd (And.intro @ld (And.intro @e1 (@e5))))))) ?_
 refine Ow.callC rfl rfl Tryz.call53 (fun w' hw'=>abI_ bi _ [aiR] [] w' ((hI.mono (fun q hq=>by simp[hq])).inW hw') (by decide)) (fun B4 v4 D4 hA4 hB4 hN4 hS4=> ?_)
 rw[aky_] at hS4
 have ln4:=ZW_ hS4
 refine ko (And.intro @vl_ (And.intro @ln4 (@e1))) ?_
 first|with_reducible refine ks [] @vl_ ?_|refine kp @vl_ ?_
 refine⟨_,(ke @vl_),(hN'.app (hN4.mono hB4)), ?_⟩
 rfl
end Go.Proofs
end
section
open Go Go.Proofs Go.Sx Go.StP Go.Flo Go.Dig
namespace Go.Proofs
set_option maxRecDepth 10000
set_option maxHeartbeats 1000000
set_option linter.unusedSimpArgs false
theorem WR_ {Z:List RwL} (h:wQ_ Z Z.length=true) {r:RwL} (hr:r∈Z):JR_ Z r.id=(r,true):=by
 unfold JR_
 cases hf:Z.find? (fun q=>q.id.l==r.id.l) with
 |none=>
  have:=List.find?_eq_none.1 hf _ hr
  exact absurd (beq_self_eq_true r.id.l) this
 |some q=>
  have h5:=List.find?_some hf
  have h6:q.id.l=r.id.l:=by simpa using h5
  obtain⟨i,hi,rfl⟩:=List.getElem_of_mem (List.mem_of_find?_eq_some hf)
  obtain⟨j,hj,rfl⟩:=List.getElem_of_mem hr
  rw[←qZ_ hi,←qZ_ hj] at h6 ⊢
  have:i=j:=by
   rcases Nat.lt_trichotomy i j with hlt|e|hlt
   ·have:=wM_ h hlt hj;rw[h6,j7_] at this;cases this
   ·exact e
   ·have:=wM_ h hlt hi;rw[h6,j7_] at this;cases this
  subst this;rfl
theorem afr_ (r:RwL): (!((r.id.l==r.id.l)&& (r.place==r.place)&& (r.spot==r.spot)))=false:=by simp
structure IbG where
 k:Nat
 DG:za_
set_option linter.defProp false
def zQ_:=And.intro (And.intro (And.intro (@zg_) (@zf_)) (And.intro (@Sx.tup2_0) (@Sx.tup2_1))) (And.intro (And.intro (@qR_) (@kw_)) (And.intro (@vY_) (@ju_)))
theorem Xw_ (s:List UInt8) (v:Value) (l:List RwL) (b:List UInt8) (w:World) (hG:GlobE w) (hC:GlobC w) (hv:RwSl w v l):Rets Tryz.prog 10 #[vs s,v,vs b] w (fun v D=>v= .bool true∧D= []):=by
 obtain⟨rb,off,arr,E,fz,hro⟩:=hv.row
 have ln:=hv.len
 refine Rets.enterV Tryz.func10 rfl (rs:= [.tmp 6]) Tryz.results10 Tryz.ntmps10 ?_
 refine kf ?_
 first|with_reducible refine ks [1000006,3] @zQ_ ?_|refine kp @zQ_ ?_
 refine Ow.callFV rfl Tryz.call41 (fun w' hw'=>qC_ w' (hG.new hw' trivial) (hC.newP hw' trivial)) ?_
 refine ko @zQ_ ?_
 by_cases hll:210<l.length
 ·have d1:decide ((210:Int)< (l.length:Int))=true:=decide_eq_true (by omega)
  first|with_reducible refine ks [] (And.intro @zQ_ (And.intro @ln (@d1))) ?_|refine kp (And.intro @zQ_ (And.intro @ln (@d1))) ?_
  refine Ow.callFV rfl Tryz.call41 (fun w' hw'=>qC_ w' (hG.new hw' trivial) (hC.newP hw' trivial)) ?_
  refine ko @zQ_ ?_
  first|with_reducible refine ks [] @zQ_ ?_|refine kp @zQ_ ?_
  refine⟨_,(ke @zQ_),trivial, ?_⟩
  rfl
 have d1:decide ((210:Int)< (l.length:Int))=false:=decide_eq_false (by omega)
 by_cases hsl:100<s.length
 ·have d2:decide ((100:Int)< (s.length:Int))=true:=decide_eq_true (by omega)
  first|with_reducible refine ks [] (And.intro @zQ_ (And.intro @ln (And.intro @d1 (@d2)))) ?_|refine kp (And.intro @zQ_ (And.intro @ln (And.intro @d1 (@d2)))) ?_
  refine Ow.callFV rfl Tryz.call41 (fun w' hw'=>qC_ w' (hG.new hw' trivial) (hC.newP hw' trivial)) ?_
  refine ko @zQ_ ?_
  first|with_reducible refine ks [] @zQ_ ?_|refine kp @zQ_ ?_
  refine⟨_,(ke @zQ_),trivial, ?_⟩
  rfl
 have d2:decide ((100:Int)< (s.length:Int))=false:=decide_eq_false (by omega)
 by_cases hbl:8000<b.length
 ·have d3:decide ((8000:Int)< (b.length:Int))=true:=decide_eq_true (by omega)
  first|with_reducible refine ks [] (And.intro @zQ_ (And.intro @ln (And.intro @d1 (And.intro @d2 (@d3))))) ?_|refine kp (And.intro @zQ_ (And.intro @ln (And.intro @d1 (And.intro @d2 (@d3))))) ?_
  refine Ow.callFV rfl Tryz.call41 (fun w' hw'=>qC_ w' (hG.new hw' trivial) (hC.newP hw' trivial)) ?_
  refine ko @zQ_ ?_
  first|with_reducible refine ks [] @zQ_ ?_|refine kp @zQ_ ?_
  refine⟨_,(ke @zQ_),trivial, ?_⟩
  rfl
 have d3:decide ((8000:Int)< (b.length:Int))=false:=decide_eq_false (by omega)
 first|with_reducible refine ks [] (And.intro @zQ_ (And.intro @ln (And.intro @d1 (And.intro @d2 (@d3))))) ?_|refine kp (And.intro @zQ_ (And.intro @ln (And.intro @d1 (And.intro @d2 (@d3))))) ?_
 refine Ow.callC rfl rfl Tryz.call42 (fun w' hw'=>Rets.toX (kW_ s v l w' (hC.newP hw' trivial) (hv.oldN hw' trivial) (by omega) (by omega))) (fun B1 v1 D1 hA1 hB1 hN1 hS1=> ?_)
 obtain⟨rfl,Z,hZ,rfl⟩:=hS1
 rw[List.append_nil]
 refine ko @zQ_ ?_
 refine Cw.cutO (G:=za_) [9,10,11,12,13,40,41,42,43,44,45,46,47,48,49,50,51,52,53,54,55,56,57,58,59,60,61,62,63,64,65,66,67,68,69,70,71,72,73,74,75,76,77,78,79,80,81,82,83,84,85,86,87,88] (fun g=> []) (fun g=>g) (fun g=>New w.heap.size g) ?_ ?_
 ·cases hr:q3_ s Z with
  |false=>
   have hw:xw_ s Z=([],1):=by unfold xw_;rw[if_neg (by rw[hr];simp)]
   rw[hw]
   have e2: ((1:Int)==0)=false:=rfl
   first|with_reducible refine ks [] (And.intro @zQ_ @e2) ?_|refine kp (And.intro @zQ_ @e2) ?_
   exact CutO.mk [] trivial rfl rfl
  |true=>
   have hw:xw_ s Z=(qE_ (v8_ s Z),0):=by unfold xw_;rw[if_pos hr]
   rw[hw]
   obtain⟨hok,hs4,hl2⟩:=jQ_ hr
   have hop:=wE_ hr
   have hil: (qE_ (v8_ s Z)).length<1000000:=by
    have h1:=vy_ Z Z.length (Nat.le_refl _)
    have h2:=zp_ ((Z.length:Nat):Int)
    have h3:=vv_ (Qs_ (x9_ Z))
    rw[x3_,kl_] at h3
    rw[List.take_length] at h1
    rw[xS_]
    unfold v8_ kG_
    rw[List.length_append,List.length_append,List.length_append,List.length_append,hs4,show magI.length=4 from rfl]
    omega
   generalize qE_ (v8_ s Z)=sb at*
   have e2: ((0:Int)==0)=true:=rfl
   have e3: ((0:Int) !=0)=false:=rfl
   have hZl:=hZ.1
   first|with_reducible refine ks [] (And.intro @zQ_ @e2) ?_|refine kp (And.intro @zQ_ @e2) ?_
   refine Ow.callC rfl rfl Tryz.call49 (fun w' hw'=>vX_ sb w' (hC.newP hw' trivial) (by omega)) (fun B2 v2 D2 hA2 hB2 hN2 hS2=> ?_)
   unfold Ki_ at hS2
   rw[hop] at hS2
   obtain⟨bi,rfl,hI⟩:=hS2
   simp only at hI
   have hD2:New w.heap.size D2:=hN2.mono hB2
   rw[List.nil_append]
   refine ko @zQ_ ?_
   first|with_reducible refine ks [] (And.intro @zQ_ @e3) ?_|refine kp (And.intro @zQ_ @e3) ?_
   refine Ow.callC rfl rfl Tryz.call51 (fun w' hw'=>kQ_ bi s Z w' (hI.inW hw') (by omega)) (fun B3 v3 D3 hA3 hB3 hN3 hS3=> ?_)
   have hD3:=hN3.mono hB3
   have ln3:=ZW_ hS3
   have e4: ((Z.length:Int) !=(l.length:Int))=false:=by rw[hZl];exact bne_self_eq_false _
   refine ko (And.intro @zQ_ (And.intro @ln3 (And.intro @ln (@e4)))) ?_
   refine Ow.callFV rfl Tryz.call52 (fun w' hw'=>Jo_ bi s Z w' ((hI.mono (fun q hq=>by simp[hq])).inW hw')) ?_
   have e5: (s !=s)=false:=bne_self_eq_false _
   refine ko (And.intro @zQ_ @e5) ?_
   refine Cw.permL (M:=(D2++D3)++ []) (by simp) ?_
   have hDD:New w.heap.size (D2++D3):=hD2.app hD3
   refine Cw.loopG (G:=IbG) [63,64,65,66,70,71,72,73,74,75,76,69,77,78,12,13,79,80,81,82,83,84,85,86,87,88,6,67,68,11] (fun g=> [(6, .bool false),(11,vi g.k)]) (fun g=>(D2++D3)++g.DG) (fun g=>g.k≤l.length∧New w.heap.size g.DG) (fun g=>l.length - g.k) ⟨0,[]⟩ rfl rfl ?_ ?_
   ·exact⟨Nat.zero_le _,trivial⟩
   ·intro g j hg
    refine kv ?_
    obtain⟨k,DG⟩:=g
    simp only at hg ⊢
    obtain⟨hk,hNG⟩:=hg
    by_cases hlt:k<l.length
    ·have d5:decide ((k:Int)< (l.length:Int))=true:=decide_eq_true (by omega)
     have hb:=hro.has (by omega)
     have hrl:=hro.lt (by omega)
     have ix:=hro.idx true k hlt
     have ld:=hro.load zG_ (by omega) hlt
     have ldi:=ah2_ hro hlt
     rw[Nat.add_zero] at ldi
     have rd: ∀X,New w.heap.size X→zB_ w X rb=some (.cells arr E fz):=fun X hX=>by rw[q9_ (hX.not hrl)];exact hb
     have rd1:=rd _ (hDD.app hNG)
     have hmem:l.getD k rw0∈Z:=by rw[hZ.2.2.mem,qZ_ hlt];exact List.getElem_mem hlt
     have hfr:=WR_ hok hmem
     generalize l.getD k rw0=r at*
     first|with_reducible refine ks [12] (And.intro @zQ_ (And.intro @ln (And.intro @d5 (And.intro @ix (And.intro @rd1 (@ldi)))))) ?_|refine kp (And.intro @zQ_ (And.intro @ln (And.intro @d5 (And.intro @ix (And.intro @rd1 (@ldi)))))) ?_
     refine Ow.callFV rfl Tryz.call56 (fun w' hw'=>ZQ_ bi s Z r.id w' ((hI.mono (fun q hq=>by simp[hq])).inW hw') hok (by omega)) ?_
     rw[hfr]
     refine ko @zQ_ ?_
     refine Ow.alloc rfl rfl Vq_ fun b12 hb12 hw12=> ?_
     simp only[zd_,List.nil_append,List.cons_append]
     refine Ow.permL (M:=(b12, .cells (rwC rw0).toArray 104 (0,0)):: ((D2++D3)++DG)) (by classical exact List.perm_iff_count.2 fun a=>by simp only[List.count_append,List.count_cons,List.count_nil]<;>omega) ?_
     refine ko @zQ_ ?_
     have hnb:b12≠rb:=by omega
     have rd2:=rd ((b12, .cells (rwC r).toArray 104 (0,0)):: ((D2++D3)++DG)) ⟨hw12,hDD.app hNG⟩
     have nr:=neRw r r
     rw[afr_] at nr
     first|with_reducible refine ks [] @zQ_ ?_|refine kp @zQ_ ?_
     refine Cw.regionS [b12,rb] [0,1,2,4,5,6,3,7,8,9] [] (by kernel_rfl) (by kernel_rfl) (by kernel_rfl) ?_
     simp only[zk_, ↓ze_, ↓zc_, ↓zt_, ↓zs_,zb_]
     refine kq (And.intro @zQ_ (And.intro @ix (And.intro @rd2 (And.intro @ld (@nr))))) ?_
     try with_reducible refine Ow.nil ?_
     refine Cw.permL (M:=(D2++D3)++ ((b12, .cells (rwC r).toArray 104 (0,0))::DG)) (by classical exact List.perm_iff_count.2 fun a=>by simp only[List.count_append,List.count_cons,List.count_nil]<;>omega) ?_
     first|with_reducible refine ks [] @zQ_ ?_|refine kp @zQ_ ?_
     exact Again.mk ⟨k+1,(b12, .cells (rwC r).toArray 104 (0,0))::DG⟩ (by show l.length - (k+1)<l.length - k;omega) ⟨hlt,hw12,hNG⟩ rfl rfl
    ·obtain rfl:k=l.length:=by omega
     have d5:decide ((l.length:Int)< (l.length:Int))=false:=decide_eq_false (by omega)
     first|with_reducible refine ks [] (And.intro @zQ_ (And.intro @ln (@d5))) ?_|refine kp (And.intro @zQ_ (And.intro @ln (@d5))) ?_
     exact CutO.mk ((D2++D3)++DG) (hDD.app hNG) rfl rfl
 ·intro D jD hD
  refine kv ?_
  first|with_reducible refine ks [] @zQ_ ?_|refine kp @zQ_ ?_
  refine Ow.callC rfl rfl Tryz.call49 (fun w' hw'=>vX_ b w' (hC.newP hw' hD) (by omega)) (fun B2 v2 D2 hA2 hB2 hN2 hS2=> ?_)
  have hN:New w.heap.size (D++D2):=hD.app (hN2.mono hB2)
  unfold Ki_ at hS2
  cases hop:abZ_ b with
  |none=>
   rw[hop] at hS2
   have hS2':v2= .tuple #[.pointer none,vi 2]:=hS2
   subst hS2'
   have e2: ((2:Int) !=0)=true:=rfl
   refine ko @zQ_ ?_
   first|with_reducible refine ks [] (And.intro @zQ_ @e2) ?_|refine kp (And.intro @zQ_ @e2) ?_
   refine Ow.callFV rfl Tryz.call41 (fun w' hw'=>qC_ w' (hG.new hw' hN) (hC.newP hw' hN)) ?_
   refine ko @zQ_ ?_
   first|with_reducible refine ks [] @zQ_ ?_|refine kp @zQ_ ?_
   refine⟨_,(ke @zQ_),hN, ?_⟩
   rfl
  |some q=>
   obtain⟨s2,l2⟩:=q
   rw[hop] at hS2
   obtain⟨bi,rfl,hI⟩:=hS2
   simp only at hI
   obtain⟨hr2,rfl⟩:=openI_iff.1 hop
   obtain⟨hok2,hs2,hl2⟩:=jQ_ hr2
   have e2: ((0:Int) !=0)=false:=rfl
   have e3: ((0:Int)==0)=true:=rfl
   refine ko @zQ_ ?_
   first|with_reducible refine ks [] (And.intro @zQ_ @e2) ?_|refine kp (And.intro @zQ_ @e2) ?_
   refine Ow.callFV rfl Tryz.call52 (fun w' hw'=>Jo_ bi s2 l2 w' ((hI.mono (fun q hq=>by simp[hq])).inW hw')) ?_
   refine ko @zQ_ ?_
   refine Ow.callC rfl rfl Tryz.call51 (fun w' hw'=>kQ_ bi s2 l2 w' ((hI.mono (fun q hq=>by simp[hq])).inW hw') (by omega)) (fun B3 v3 D3 hA3 hB3 hN3 hS3=> ?_)
   have hN3':=hN.app (hN3.mono hB3)
   refine ko @zQ_ ?_
   refine Ow.callC rfl rfl Tryz.call42 (fun w' hw'=>Rets.toX (kW_ s2 v3 l2 w' (hC.newP hw' hN3') ((hS3.mono (fun q hq=>by simp[hq])).slV hw' rfl rfl zG_) (by omega) (by omega))) (fun B4 v4 D4 hA4 hB4 hN4 hS4=> ?_)
   obtain⟨rfl,Z2,hZ2,rfl⟩:=hS4
   rw[acJ_ hr2 hZ2,List.append_nil]
   generalize qE_ (v8_ s2 l2)=b at*
   have e4: (b==b)=true:=beq_self_eq_true b
   refine ko @zQ_ ?_
   first|with_reducible refine ks [] @zQ_ ?_|refine kp @zQ_ ?_
   refine Ow.callFV rfl Tryz.call41 (fun w' hw'=>qC_ w' (hG.new hw' hN3') (hC.newP hw' hN3')) ?_
   refine ko (And.intro @zQ_ (And.intro @e3 (@e4))) ?_
   first|with_reducible refine ks [] @zQ_ ?_|refine kp @zQ_ ?_
   refine⟨_,(ke @zQ_),hN3', ?_⟩
   rfl
end Go.Proofs
end
section
open Go Go.Proofs Go.Sx Go.StP Go.Flo
namespace Go.Proofs
set_option maxRecDepth 10000
set_option maxHeartbeats 400000
set_option linter.unusedSimpArgs false
set_option linter.defProp false
def aqR_:=And.intro (@zg_) (And.intro (@zf_) (@Wh_))
def cpR (p:PcL) (b:Int):Value:=match cpV p b with
 |some q=> .tuple #[vi q.1,vi q.2, .bool true]
 |none=>if(1≤p.n∧p.n≤4099)∧p.x= []∧(p.n:Int)≤b then .tuple #[vi 0,vi p.n, .bool false] else .tuple #[vi 0,vi 0, .bool false]
set_option linter.defProp false
def ap6_:=And.intro (And.intro (And.intro (And.intro (@zg_) (@zf_)) (And.intro (@xb_) (@xe_))) (And.intro (And.intro (@kv_) (@jx_)) (And.intro (@Jd_) (@cxz)))) (And.intro (And.intro (And.intro (@Vs_) (@KR_)) (And.intro (@xP_) (@Sx.tup2_0))) (And.intro (And.intro (@Sx.tup2_1) (@Sx.tup3_0)) (And.intro (@Sx.tup3_1) (@Sx.tup3_2))))
end Go.Proofs
end
section
open Go Go.Proofs Go.Sx Go.StP Go.Flo
namespace Go.Proofs
set_option maxRecDepth 10000
set_option maxHeartbeats 400000
set_option linter.unusedSimpArgs false
set_option linter.defProp false
def aqy_:=And.intro (And.intro (And.intro (And.intro (@zg_) (@zf_)) (And.intro (@xb_) (@xe_))) (And.intro (And.intro (@kv_) (@jx_)) (And.intro (@Jd_) (@cxz)))) (And.intro (And.intro (And.intro (@Vs_) (@KR_)) (And.intro (@xP_) (@Sx.tup2_0))) (And.intro (And.intro (@Sx.tup2_1) (@Sx.tup3_0)) (And.intro (@Sx.tup3_1) (@Sx.tup3_2))))
end Go.Proofs
end
section
open Go Go.Proofs Go.Sx Go.StP Go.Flo
namespace Go.Proofs
set_option maxRecDepth 10000
set_option maxHeartbeats 400000
set_option linter.unusedSimpArgs false
set_option linter.defProp false
def aqU_:=And.intro (And.intro (And.intro (@zg_) (@zf_)) (And.intro (@xb_) (And.intro (@xe_) (@kv_)))) (And.intro (And.intro (@jx_) (And.intro (@Sx.tup2_0) (@Sx.tup2_1))) (And.intro (@Sx.tup3_0) (And.intro (@Sx.tup3_1) (@Sx.tup3_2))))
end Go.Proofs
end
section
open Go Go.Proofs Go.Sx Go.StP Go.Flo
namespace Go.Proofs
set_option maxRecDepth 10000
set_option maxHeartbeats 400000
set_option linter.unusedSimpArgs false
set_option linter.defProp false
def aq2_:=And.intro (And.intro (And.intro (@zg_) (@zf_)) (And.intro (@xb_) (And.intro (@xe_) (@kv_)))) (And.intro (And.intro (@jx_) (And.intro (@Sx.tup2_0) (@Sx.tup2_1))) (And.intro (@Sx.tup3_0) (And.intro (@Sx.tup3_1) (@Sx.tup3_2))))
end Go.Proofs
end
section
open Go Go.Proofs Go.Sx Go.StP Go.Flo
namespace Go.Proofs
set_option maxRecDepth 10000
set_option maxHeartbeats 400000
set_option linter.unusedSimpArgs false
def rrO (s:List UInt8) (a:Nat) (e:Int):Obj:= .cells #[vs s,vi a,vi e] 166 (0,0)
theorem adz_ (s:List UInt8) (a:Nat) (e:Int) (n:Nat):zo_ (some (false,n)) (some (rrO s a e)) 0=some (vs s):=(rfl)
theorem ac4_ (s:List UInt8) (a:Nat) (e:Int) (n:Nat):zo_ (some (false,n)) (some (rrO s a e)) 1=some (vi a):=(rfl)
theorem adg_ (s:List UInt8) (a:Nat) (e:Int) (n:Nat):zo_ (some (false,n)) (some (rrO s a e)) 2=some (vi e):=(rfl)
structure RrG where
 a:Nat
 e:Int
 out:List PcL
 v:Value
 D:za_
 DG:za_
def RrJ (d:List UInt8) (a0:Nat) (e0:Int) (sz:Nat) (g:RrG):Prop:=
 New sz g.D∧New sz g.DG∧Gr g.D 300 2 g.v g.out.length (g.out.map pcC).flatten∧g.a≤d.length∧BndP g.out∧g.out.length≤g.a+1∧(g.e=0→g.out.length≤g.a)∧
  ((e0≠0∧g.e≠0)∨(e0=0∧((g.e=0∧pcs d a0=(g.out++ (pcs d g.a).1,(pcs d g.a).2))∨(g.e≠0∧pcs d a0=(g.out,g.a,g.e)))))
def apP_ (d:List UInt8) (v:Value) (D:za_):Prop:=match kb_ d with
 |some p=> ∃x,v= .tuple #[vi p.1,x, .bool true]∧BndP p.2∧p.2.length≤4099∧p.1≤4099∧GrI D 300 2 x p.2.length (p.2.map pcC).flatten
 |none=>v= .tuple #[vi 0, .slice none 0 0, .bool false]
set_option linter.defProp false
def aqL_:=And.intro (And.intro (And.intro (@zg_) (And.intro (@zf_) (@adz_))) (And.intro (And.intro (@ac4_) (@adg_)) (And.intro (@xb_) (@xe_)))) (And.intro (And.intro (And.intro (@kv_) (@jx_)) (And.intro (@Sx.tup2_0) (@Sx.tup2_1))) (And.intro (And.intro (@Sx.tup3_0) (@Sx.tup3_1)) (And.intro (@Sx.tup3_2) (@xP_))))
end Go.Proofs
end
section
open Go Go.Proofs Go.Sx Go.StP Go.Flo
namespace Go.Proofs
set_option maxRecDepth 10000
set_option maxHeartbeats 400000
set_option linter.unusedSimpArgs false
set_option linter.defProp false
def aqu_:=And.intro (And.intro (And.intro (@zg_) (@zf_)) (And.intro (@xb_) (And.intro (@xe_) (@kv_)))) (And.intro (And.intro (@jx_) (And.intro (@Sx.tup2_0) (@Sx.tup2_1))) (And.intro (@Sx.tup3_0) (And.intro (@Sx.tup3_1) (@Sx.tup3_2))))
structure PrG where
 at_:Nat
 out:List Nat
 v:Value
 D:za_
 DG:za_
set_option linter.defProp false
def aqO_:=And.intro (And.intro (And.intro (@zg_) (@zf_)) (And.intro (@jd_) (@jg_))) (And.intro (And.intro (@jh_) (@qa_)) (And.intro (@Sx.tup2_0) (@Sx.tup2_1)))
end Go.Proofs
end
section
open Go Go.Proofs Go.Sx Go.StP Go.Flo
namespace Go.Proofs
set_option maxRecDepth 10000
set_option maxHeartbeats 400000
set_option linter.unusedSimpArgs false
def BndD (l:List PartL):Prop:= ∀g,g<l.length→(l.getD g z1_).x.length<100000000
structure TrG where
 n:Nat
 s:List UInt8
 DG:za_
set_option linter.defProp false
def aqT_:=And.intro (And.intro (And.intro (@zg_) (@zf_)) (And.intro (@jd_) (@jg_))) (And.intro (And.intro (@jh_) (@qa_)) (And.intro (@Sx.tup2_0) (@Sx.tup2_1)))
end Go.Proofs
end
section
open Go Go.Proofs Go.Sx Go.StP Go.Flo
namespace Go.Proofs
set_option maxRecDepth 10000
set_option maxHeartbeats 400000
set_option linter.unusedSimpArgs false
structure A9G where
 ts:List (List UInt8)
 v:Value
 D:za_
 DG:za_
set_option linter.defProp false
def aqX_:=And.intro (And.intro (@zg_) (@zf_)) (And.intro (@Sx.tup2_0) (@Sx.tup2_1))
end Go.Proofs
end
section
open Go Go.Proofs Go.Sx Go.StP Go.Flo
namespace Go.Proofs
set_option maxRecDepth 10000
set_option maxHeartbeats 400000
set_option linter.unusedSimpArgs false
set_option linter.defProp false
def aq4_:=And.intro (And.intro (@zg_) (@zf_)) (And.intro (@ji_) (@ahQ_))
end Go.Proofs
end
section
open Go Go.Proofs Go.Sx Go.StP Go.Flo
namespace Go.Proofs
set_option maxRecDepth 10000
set_option maxHeartbeats 1000000
set_option linter.unusedSimpArgs false
def mkO (v0 v1 v2 v3:Value):Obj:= .cells #[v0,v1,v2,v3] 32 (0,0)
def mkV (v0 v1 v2 v3:Value):Value:= .agg #[v0,v1,v2,v3]
theorem Kr_ (v0 v1 v2 v3:Value):zo_ (some (true,4)) (some (mkO v0 v1 v2 v3)) 0=some (mkV v0 v1 v2 v3):=(rfl)
theorem adl_ (v0 v1 v2 v3:Value) (n:Nat):zo_ (some (false,n)) (some (mkO v0 v1 v2 v3)) 2=some v2:=(rfl)
theorem KP_ (v0 v1 v2 v3:Value) (n:Nat):zo_ (some (false,n)) (some (mkO v0 v1 v2 v3)) 3=some v3:=(rfl)
abbrev OneC (q:Value):Prop:=Value.oneCell' q=true∧q.cells= #[q]
def OfS (l:List PartL) (v0:Value) (v:Value) (D:za_):Prop:=match fillV l with
 |some p=> ∃x2 x3,v= .tuple #[mkV v0 (.slice none 0 0) x3 x2, .bool true]∧GrI D 37 32 x2 p.1.length (p.1.map w3_).flatten∧GrI D 43 2 x3 p.2.length (p.2.map obC).flatten
 |none=> ∃x2 x3,v= .tuple #[mkV v0 (.slice none 0 0) x3 x2, .bool false]∧OneC x2∧OneC x3
set_option linter.defProp false
def aq5_:=And.intro (And.intro (And.intro (@zg_) (And.intro (@zf_) (@Kr_))) (And.intro (@adl_) (And.intro (@KP_) (@Sx.tup2_0)))) (And.intro (And.intro (@Sx.tup2_1) (And.intro (@qQ_) (@qh_))) (And.intro (@qf_) (And.intro (@qn_) (@ji_))))
end Go.Proofs
end
namespace Go.Sx
def kB (c:Bool):BitVec 32:=bif c then 3988292384#32 else 0#32
def stB (x:BitVec 32):BitVec 32:=(x>>>1)^^^kB (x.getLsbD 0)
def hvB:List (BitVec 32):= [0x00000000,0x1db71064,0x3b6e20c8,0x26d930ac,0x76dc4190,0x6b6b51f4,0x4db26158,0x5005713c,0xedb88320,0xf00f9344,0xd6d6a3e8,0xcb61b38c,0x9b64c2b0,0x86d3d2d4,0xa00ae278,0xbdbdf21c]
end Go.Sx
section
open Go Go.Proofs Go.Sx
namespace Go.Proofs
set_option maxRecDepth 10000
set_option maxHeartbeats 4000000
set_option linter.unusedSimpArgs false
def apg_ (n:UInt32):UInt32:=if n%2==1 then n / 2^^^3988292384 else n / 2
def aoW_ (n:UInt32):Nat→UInt32
 |0=>n
 |k+1=>apg_ (aoW_ n k)
set_option linter.defProp false
def aqp_:=And.intro (And.intro (@zg_) (@we_)) (And.intro (@v7_) (And.intro (@vW_) (@zf_)))
end Go.Proofs
end
section
open Go Go.Proofs Go.Sx Go.StP Go.Flo
namespace Go.Proofs
set_option maxRecDepth 10000
set_option maxHeartbeats 1000000
set_option linter.unusedSimpArgs false
set_option linter.defProp false
def aq0_:=And.intro (And.intro (@zg_) (And.intro (@zf_) (@jd_))) (And.intro (@jg_) (And.intro (@jh_) (@qa_)))
end Go.Proofs
end
section
open Go Go.Proofs Go.Sx Go.StP Go.Flo
namespace Go.Proofs
set_option maxRecDepth 10000
set_option maxHeartbeats 1000000
set_option linter.unusedSimpArgs false
def apH_ (s:List UInt8) (v:Value) (D:za_):Prop:=
 if(j1_ s).2.1=true then∃x y n A,v= .tuple #[x,y,vi n,vi A, .bool true]∧n=(j1_ s).1∧0≤n∧n≤200∧GrI D 114 3 x (jH_ s).1.length ((jH_ s).1.map zr_).flatten∧GrI D 3 1 y (jH_ s).2.1.length ((jH_ s).2.1.map Vc_).flatten∧
  (((jH_ s).2.2.2=0∧A=(jH_ s).2.2.1∧((jH_ s).1.length:Int)=n)∨((jH_ s).2.2.2≠0∧((jH_ s).1.length:Int)<n))
 else v= .tuple #[.slice none 0 0, .slice none 0 0,vi 0,vi 0, .bool false]
structure RdDG where
 l:List PartL
 sp:List Nat
 a:Nat
 v1:Value
 v2:Value
 D1:za_
 D2:za_
 DG:za_
set_option linter.defProp false
def aqi_:=And.intro (And.intro (@zg_) (And.intro (@zf_) (@adz_))) (And.intro (And.intro (@ac4_) (@adg_)) (And.intro (@qa_) (@wh_)))
end Go.Proofs
end
section
open Go Go.Proofs Go.Sx Go.StP Go.Flo
namespace Go.Proofs
set_option maxRecDepth 10000
set_option maxHeartbeats 1000000
set_option linter.unusedSimpArgs false
def MkD (D:za_) (v:Value) (l:List PartL) (sp:List Nat) (ids:List IdL) (os:List ObL):Prop:=
 ∃v0 v1 v2 v3,v=mkV v0 v1 v3 v2∧GrI D 114 3 v0 l.length (l.map zr_).flatten∧GrI D 3 1 v1 sp.length (sp.map Vc_).flatten∧GrI D 37 32 v2 ids.length (ids.map w3_).flatten∧GrI D 43 2 v3 os.length (os.map obC).flatten
def apF_ (b:List UInt8) (v:Value) (D:za_):Prop:=match wB_ b with
 |some q=> ∃x,v= .tuple #[x, .bool true]∧MkD D x q.1 q.2.1 q.2.2.1 q.2.2.2
 |none=> ∃c0 c1 c2 c3,v= .tuple #[mkV c0 c1 c2 c3, .bool false]∧OneC c0∧OneC c1∧OneC c2∧OneC c3
def apI_ (l:List PartL) (_x c2 c3:Value) (ok:Bool) (D:za_):Prop:=match fillV l with
 |some p=>ok=true∧GrI D 37 32 c2 p.1.length (p.1.map w3_).flatten∧GrI D 43 2 c3 p.2.length (p.2.map obC).flatten
 |none=>ok=false
theorem afC_ {s:List UInt8} {i a:Nat} {e:Int} (ha:a≤s.length): (vs_ s i a e).2.1≤s.length:=by
 have h1:=qb_ (s:=s) (a:=a) (e:=e) (most:=200) ha
 exact(v2_ (s:=s) (a:=(zq_ s a e 200).2.1) (e:=(zq_ s a e 200).2.2) (most:=65536) h1.2).2
theorem anK_ (a b c d e:Value): #[a,b,c,d,e][0]? =some a:=rfl
theorem any_ (a b c d e:Value): #[a,b,c,d,e][1]? =some b:=rfl
theorem and_ (a b c d e:Value): #[a,b,c,d,e][2]? =some c:=rfl
theorem am5_ (a b c d e:Value): #[a,b,c,d,e][3]? =some d:=rfl
theorem anr_ (a b c d e:Value): #[a,b,c,d,e][4]? =some e:=rfl
set_option linter.defProp false
def aqI_:=And.intro (And.intro (And.intro (@zg_) (@zf_)) (And.intro (@Kr_) (And.intro (@Sx.tup2_0) (@Sx.tup2_1)))) (And.intro (And.intro (@anK_) (@any_)) (And.intro (@and_) (And.intro (@am5_) (@anr_))))
end Go.Proofs
end
section
open Go Go.Proofs Go.Sx Go.StP Go.Flo
namespace Go.Proofs
set_option maxRecDepth 10000
set_option maxHeartbeats 1000000
set_option linter.unusedSimpArgs false
theorem akU_:qu_ Tryz.prog .eql 38 (.pointer none) (.pointer none)=some (.bool true):=by
 simp[qu_,eqX,qm_,qt_,Tryz.underlying38]
theorem anm_ (b o:Nat):qu_ Tryz.prog .neq 38 (vp b o) (.pointer none)=some (.bool true):=by
 simp[qu_,eqX,qm_,qt_,Tryz.underlying38,vp]
set_option linter.defProp false
def aqr_:=And.intro (And.intro (And.intro (@zg_) (@zf_)) (And.intro (@akU_) (@qQ_))) (And.intro (And.intro (@qh_) (@qf_)) (And.intro (@qn_) (@ji_)))
end Go.Proofs
end
section
open Go Go.Proofs Go.Sx Go.StP Go.Flo
namespace Go.Proofs
set_option maxRecDepth 10000
set_option maxHeartbeats 1000000
set_option linter.unusedSimpArgs false
theorem aiG_ (v0 v1 v2 v3:Value) (n:Nat):zo_ (some (false,n)) (some (mkO v0 v1 v2 v3)) 0=some v0:=(rfl)
theorem akv_ (v0 v1 v2 v3:Value) (n:Nat):zo_ (some (false,n)) (some (mkO v0 v1 v2 v3)) 1=some v1:=(rfl)
theorem anT_ (k k':Int) (t t':List UInt8):qu_ Tryz.prog .neq 43 (obV k t) (obV k' t')=some (.bool (!decide ((⟨k,t⟩:ObL)=⟨k',t'⟩))):=apx_ ⟨k,t⟩ ⟨k',t'⟩
structure SmG where
 i:Nat
 DG:za_
set_option linter.defProp false
def ap1_:=And.intro (And.intro (And.intro (And.intro (@zg_) (@zf_)) (And.intro (@Kr_) (@aiG_))) (And.intro (And.intro (@akv_) (@adl_)) (And.intro (@KP_) (@qQ_)))) (And.intro (And.intro (And.intro (@qh_) (@qf_)) (And.intro (@qn_) (@ji_))) (And.intro (And.intro (@aaV_) (@anT_)) (And.intro (@Sx.tup2_0) (@Sx.tup2_1))))
end Go.Proofs
end
section
open Go Go.Proofs Go.Sx Go.StP Go.Flo
namespace Go.Proofs
set_option maxRecDepth 10000
set_option maxHeartbeats 1000000
set_option linter.unusedSimpArgs false
def Dst (l:List IdL):Prop:= ∀k,k<l.length→idxG (l.getD k id0) l 0=(k:Int)
set_option linter.defProp false
def aqE_:=And.intro (And.intro (And.intro (@zg_) (And.intro (@zf_) (@Kr_))) (And.intro (And.intro (@KP_) (@qQ_)) (And.intro (@qh_) (@qf_)))) (And.intro (And.intro (And.intro (@qn_) (@ji_)) (And.intro (@aaV_) (@anT_))) (And.intro (And.intro (@anm_) (@akU_)) (And.intro (@Sx.tup2_0) (@Sx.tup2_1))))
end Go.Proofs
end
namespace Go.Sx
open Go Go.ChangeShapes Go.WideShapes Go.RowKit
theorem Hp.same0 {W W':World} (h:Hp W [] W') {b:Nat} (hb:b<W.heap.size):W'.heap[b]? =W.heap[b]? :=h.old b hb (fun hm=>by cases hm)
theorem Hp.kept {W W':World} (h:Hp W [] W') (may:MemPlace→Prop):W.keptBut W' may:=by
 refine⟨h.os,h.output,fun i hi=> ?_⟩
 rw[h.same0 hi]
 cases ho:W.heap[i]? with
 |none=>rfl
 |some o=>
  cases o<;>first
   |exact⟨rfl,rfl,rfl,fun _ _=>rfl⟩
   |exact .inr ⟨rfl,rfl⟩
   |rfl
theorem Hp.sameAt {W W':World} (h:Hp W [] W') {p:MemPlace} (hp:p.block<W.heap.size):W.sameAt W' p:=by
 cases p with
 |cell b off=>
  have:=h.same0 (b:=b) hp
  simp only[World.sameAt,World.cell?,this]
 |map b=>exact h.same0 hp
theorem Hp.frozen {W W':World} (h:Hp W [] W') {a:Addr} (ha:a.block<W.heap.size):W'.frozen? a=W.frozen? a:=by
 simp only[World.frozen?,h.same0 ha]
section
variable {H:Type} {enc:TypeId×Value→H} {P:Program}
theorem wV_ (hl:laidOutB P=true) {W W':World} {sp:Nat→Bool} (hp:Hp W [] W'): ∀ {ts:List TypeId} {vs:List Value} {ds:List (DataW H)} {ps:List MemPlace},
  (∀t∈ts,P.readableRec t=true∧t<P.types.size)→(∀p∈ps,p.block<W.heap.size)→(∀p∈ps,sp p.block=true)→
  DataW.TrodAll enc P W 0 (fun _=>true) true ts vs ds ps→DataW.TrodAll enc P W' 0 sp true ts vs ds ps
 | [],_,_,_,_,_,_,h=>by
  obtain⟨rfl,rfl,rfl⟩:=trodAll_nil h
  exact trodAll_mk0
 |t::ts,_,_,_,ht,hlt,hs,h=>by
  obtain⟨v,vs,d,ds,p,q,rfl,rfl,rfl,h1,h2⟩:=trodAll_cons h
  have hlt1: ∀x∈p,x.block<W.heap.size:=fun x hx=>hlt x (List.mem_append_left _ hx)
  exact trodAll_cons_mk (WideElems.Trod_stays hl (ht t List.mem_cons_self).1 (ht t List.mem_cons_self).2 h1 (fun x hx=>hp.sameAt (hlt1 x hx)) (fun x hx=>hs x (List.mem_append_left _ hx)))
   (wV_ hl hp (fun u hu=>ht u (List.mem_cons_of_mem _ hu)) (fun x hx=>hlt x (List.mem_append_right _ hx)) (fun x hx=>hs x (List.mem_append_right _ hx)) h2)
theorem VL_ {f:Func} {s:ChangeSpec} {W W':World} {args:Array Value} {ds gs:List (DataW H)} {before:List MemPlace} {tb:TypeId} (hl:laidOutB P=true)
  (hW:DataW.Whole enc P f.params.toList s.vars false W args.toList ds gs before) (hv:s.vars= []) (hpar: ∀t∈f.params.toList,P.readableRec t=true∧t<P.types.size)
  (hr:f.resultTypes= #[tb]) (htb:P.underlying tb=some .bool) (hfn:s.fn H ds={results:= [.lit (.bool true)],args:=ds}) (hp:Hp W [] W'):
  s.post enc P f false true false false W args (.bool true) W':=by
 have hlt:=hW.lt
 have hW0:=hW
 obtain⟨p,q,hA,hV,rfl,hz,hn⟩:=hW
 rw[hv] at hV
 obtain⟨rfl,rfl⟩:=trodVars_none hV
 rw[List.append_nil] at hW0 hlt hz
 have hargs: ∀sp:Nat→Bool,(∀x∈p,sp x.block=true)→DataW.TrodAll enc P W' 0 sp true f.params.toList args.toList (s.fn H (ds++ [])).args p:=fun sp hs=>by
  rw[List.append_nil,hfn]
  exact wV_ hl hp hpar hlt hs hA
 have hvars: ∀sp:Nat→Bool,DataW.TrodVars enc P W' sp s.vars (s.fn H (ds++ [])).vars []:=fun sp=>by
  rw[List.append_nil,hfn,hv];rfl
 have hres: ∀ (b:Nat) (sp:Nat→Bool) (hd:Bool),DataW.TrodAll enc P W' b sp hd f.resultTypes.toList ((Value.bool true).resultList f.resultTypes.size) (s.fn H (ds++ [])).results []:=fun b sp hd=>by
  rw[List.append_nil,hfn,hr]
  exact trodAll_cons_mk (shut_bool htb true) trodAll_mk0
 have hold: ∀x∈p,(fun b=>decide (b<W.heap.size)) x.block=true:=fun x hx=>by simpa using hlt x hx
 refine⟨ds,[],p,[],p,[],hW0,hres _ _ _,hargs _ hold,hvars _,hp.kept _,fun _=> ?_⟩
 refine⟨ok_one hr rfl (okWide_bool_mk htb true),_,_,([]++p)++ [],⟨[]++p,[],trodAll_append (hargs _ (fun _ _=>rfl)) (hres _ _ _),hvars _,rfl, ?_,fun h=>by cases h⟩, ?_⟩
 ·intro b off hx
  have hx':MemPlace.cell b off∈p:=by simpa using hx
  rw[hp.frozen (hlt _ hx')]
  exact hz b off hx'
 ·intro x hx _
  simpa using hx
end
section
variable {P:Program} {W:World} {name:String} {k:IntKind} {zs:List Int}
theorem jy_ {t e:TypeId} {g n:Nat} (hg:P.globalNamed name=some g) (hty: (P.globals[g]?).map (·.type)=some t) (ht:P.underlying t=some (.array n e)) (he:P.underlying e=some (.int k)) (hce:P.cellsOf e=1) (hct:P.cellsOf t=n):
  ∀ {laid:List (String×DataW Unit)} {ps:List MemPlace},DataW.LaidVars P W laid ps→(name,Lib.tabData k zs)∈laid→Lib.TabIs P W name k zs
 | [],_,_,hm=>by cases hm
 | (n',d')::rest,ps,h,hm=>by
  obtain⟨g',t',cs,fuel,p,q,hg',ht',hvar,hd,hr,-⟩:=h
  rcases List.mem_cons.1 hm with hm|hm
  ·cases hm
   obtain rfl:=Option.some.inj (hg.symm.trans hg')
   obtain rfl:=Option.some.inj (hty.symm.trans ht')
   unfold Lib.TabIs
   rw[hvar,←Lib.cells_of_tab ht he hce hct hd]
  ·exact jy_ hg hty ht he hce hct hr hm
theorem j0_ {g:Nat} (hg:P.globalNamed name=some g) (h:Lib.TabIs P W name k zs): ∃e f,W.heap[g]? =some (.cells (zs.map fun z=>Value.int k z).toArray e f):=by
 unfold Lib.TabIs at h
 simp only[World.var?,hg,Option.bind_some] at h
 split at h
 ·rename_i cs e f hb
  cases h
  exact⟨e,f,hb⟩
 ·cases h
end
section
variable {H:Type} {enc:TypeId×Value→H} {P:Program}
end
end Go.Sx
namespace Go.Sx
open Go
section
variable {P:Program}
theorem akH_ {fits:TypeId→Bool} {d:Nat} {e:TypeId} {count off n:Nat} (h:rowAt P fits d e count off n=true):off≤count*P.cellsOf e:=by
 cases d with
 |zero=>simp[rowAt] at h
 |succ d=>
  unfold rowAt at h
  simp only at h
  split at h
  ·cases h
  ·rename_i hs
   have hs':0<P.cellsOf e:=Nat.pos_of_ne_zero hs
   have hd:=Nat.div_add_mod off (P.cellsOf e)
   have hm:=Nat.mod_lt off hs'
   rw[Bool.or_eq_true] at h
   rcases h with h|h
   ·simp only[Bool.and_eq_true,beq_iff_eq,decide_eq_true_eq] at h
    have:off / P.cellsOf e*P.cellsOf e≤count*P.cellsOf e:=Nat.mul_le_mul_right _ (by omega)
    rw[Nat.mul_comm (P.cellsOf e)] at hd
    omega
   ·simp only[Bool.and_eq_true,decide_eq_true_eq] at h
    have: (off / P.cellsOf e+1)*P.cellsOf e≤count*P.cellsOf e:=Nat.mul_le_mul_right _ (by omega)
    rw[Nat.add_mul,Nat.one_mul] at this
    rw[Nat.mul_comm (P.cellsOf e)] at hd
    omega
theorem Wb_ {e:TypeId} {count off:Nat}: ∀ {d:Nat} {u:TypeId} {n:Nat},liesAt P d e count off u n=true→off≤count*P.cellsOf e
 |0,u,n,h=>by simp[liesAt] at h
 |d+1,u,n,h=>by
  unfold liesAt at h
  rw[Bool.or_eq_true] at h
  rcases h with h|h
  ·exact akH_ h
  ·split at h
   ·exact Wb_ h
   ·cases h
theorem anv_ {W:World} {r:Reach} {base:Nat} {a:Addr} {e:TypeId} {n:Nat} (h:W.has P r base a e n):a.spot=none∧ ∃arr E fz,W.heap[a.block]? =some (.cells arr E fz)∧a.off≤arr.size:=by
 obtain⟨-,hs,row,cells,hsh,hl⟩:=h
 refine⟨hs, ?_⟩
 unfold World.shape? at hsh
 split at hsh
 ·rename_i c el fz hh
  cases hsh
  refine⟨c,_,fz,hh,Nat.le_trans (Wb_ hl) ?_⟩
  exact Nat.div_mul_le_self _ _
 ·cases hsh
theorem ahB_ {W:World} {r:Reach} {base:Nat} {t e:TypeId} {v:Value} (ht:P.underlying t=some (.slice e)) (h:Value.okWide P W r base t v):
  v= .slice none 0 0∨ ∃b off len cap arr E fz,v=vsl b off len cap∧len≤cap∧W.heap[b]? =some (.cells arr E fz)∧off≤arr.size:=by
 obtain⟨a,len,cap,rfl⟩:=Go.WideShapes.okWide_slice ht h
 unfold Value.okWide at h
 rw[ht] at h
 unfold Cell.okWide at h
 rw[ht] at h
 simp only at h
 unfold Cell.ok at h
 rw[ht] at h
 cases a with
 |none=>
  left
  simp only at h
  split at h
  all_goals first| (cases h;done) |simp_all
 |some a=>
  right
  simp only at h
  obtain⟨hle,-,hh⟩:=h
  obtain⟨hs,arr,E,fz,hb,ho⟩:=anv_ hh
  obtain⟨b,off,sp⟩:=a
  simp only at hs
  subst hs
  exact⟨b,off,len,cap,arr,E,fz,rfl,hle,hb,ho⟩
theorem ans_ {α:Type} {enc:α→List Value} {z:α} {m:Nat} {W:World} {base b off c:Nat} {l:List α} {arr:Array Value} {E:TypeId} {fz:Nat×Nat} (hm0:0<m) (hm: ∀x,(enc x).length=m)
  (hcells: ∀i,i<l.length→W.cells? base ((Addr.mk b off none).add (i*m)) m=some (enc (l.getD i z))) (hheap:W.heap[b]? =some (.cells arr E fz)) (hoff:off≤arr.size) (hc:l.length≤c):SlV m enc z W (vsl b off l.length c) l:=by
 have get: ∀k,k<l.length→ ∀j,j<m→arr[off+k*m+j]? =(enc (l.getD k z))[j]? :=by
  intro k hk j hj
  obtain⟨-,hl,hg⟩:=World.cells?_some (hcells k hk)
  have:=hg j (by omega)
  rw[je_,je_] at this
  simp only[World.cell?,hheap,Option.isSome_none,Bool.false_eq_true,if_false] at this
  exact this
 refine SlV.sl hheap get hc ?_
 by_cases h0:l.length=0
 ·rw[h0];omega
 ·have h1:=get (l.length - 1) (by omega) (m - 1) (by omega)
  rw[List.getElem?_eq_getElem (by rw[hm];omega)] at h1
  have h2:=(Array.getElem?_eq_some_iff.1 h1).1
  have h3: (l.length - 1)*m+m=l.length*m:=by
   rw[←Nat.succ_mul];congr 1;omega
  omega
theorem adD_ {H:Type} {tell:TypeId×Value→H} {α:Type} {enc:α→List Value} {z:α} {m:Nat} {W:World} {r:Reach} {base b0:Nat} {sp:Nat→Bool} {held:Bool} {fuel:Nat} {t e:TypeId} {v:Value} {x:DataW H×List MemPlace}
  (ht:P.underlying t=some (.slice e)) (he:P.cellsOf e=m) (hm0:0<m) (hm: ∀x,(enc x).length=m) (hval:Value.okWide P W r b0 t v)
  (hdec: ∀n cs y,DataW.trod tell P W base sp held n e cs=some y→ ∃a,cs=enc a) (hd:DataW.trod tell P W base sp held fuel t [v]=some x): ∃l,SlV m enc z W v l:=by
 rcases DataW.trod_slice ht hd with⟨hcs,-⟩ | ⟨a,len,cap,elems,rest,n,-,hcs,-,-,hl,-,hlen,hel,-,-⟩
 ·simp only[List.cons.injEq,and_true] at hcs
  subst hcs
  exact⟨[],SlV.nil W⟩
 ·simp only[List.cons.injEq,and_true] at hcs
  subst hcs
  rcases ahB_ ht hval with h0| ⟨b,off,len',cap',arr,E,fz,h1,-,hb,ho⟩
  ·cases h0
  ·unfold vsl at h1
   cases h1
   rw[he] at hel
   have hex: ∀i,i<len→ ∃q,W.cells? base ((Addr.mk b off none).add (i*m)) m=some (enc q):=by
    intro i hi
    have h2:=hel i hi
    rw[List.getElem?_eq_getElem (by omega)] at h2
    cases hc:W.cells? base ((Addr.mk b off none).add (i*m)) m with
    |none=>rw[hc] at h2;cases h2
    |some cs=>
     rw[hc] at h2
     obtain⟨q,rfl⟩:=hdec _ _ _ h2
     exact⟨q,rfl⟩
   obtain⟨f,hf⟩: ∃f:Nat→α,∀i,i<len→W.cells? base ((Addr.mk b off none).add (i*m)) m=some (enc (f i)):=by
    classical
    refine⟨fun i=>if h:i<len then Classical.choose (hex i h) else z,fun i hi=> ?_⟩
    simp only[dif_pos hi]
    exact Classical.choose_spec (hex i hi)
   have hll: ((List.range len).map f).length=len:=by simp
   refine⟨(List.range len).map f, ?_⟩
   have:=ans_ (W:=W) (base:=base) (b:=b) (off:=off) (c:=cap) (l:=(List.range len).map f) (z:=z) hm0 hm (fun i hi=>by
    rw[hll] at hi
    rw[hf i hi]
    congr 2
    rw[List.getD_eq_getElem?_getD,List.getElem?_map,List.getElem?_range hi];rfl) hb ho (by rw[hll];exact hl)
   rw[hll] at this
   exact this
end
end Go.Sx
section
open Go Go.Proofs Go.Sx Go.StP Go.ChangeShapes
namespace Go.Proofs
set_option maxRecDepth 10000
set_option maxHeartbeats 400000
theorem ajA_ {H:Type} {tell:TypeId×Value→H} {W:World} {base:Nat} {sp:Nat→Bool} {held:Bool} (n:Nat) (cs:List Value) (y:DataW H×List MemPlace)
  (h:DataW.trod tell Tryz.prog W base sp held n 114 cs=some y): ∃a: {p:PartL // p.x.length≤maxLen},cs=zr_ a.1:=by
 obtain⟨y0,y1,y2,n',-,hlen,h0,h1,h2⟩:=Deep.trod_struct3 Tryz.underlying114 h
 have hc: (Tryz.prog).cellsOf 114=3:=by kernel_rfl
 have hc0: (Tryz.prog).cellsOf 4=1:=by kernel_rfl
 have hc1: (Tryz.prog).cellsOf 3=1:=by kernel_rfl
 have hc2: (Tryz.prog).cellsOf 9=1:=by kernel_rfl
 simp only at h0 h1 h2
 rw[hc0,List.drop_zero] at h0
 rw[hc1] at h1
 rw[hc2] at h2
 rw[hc] at hlen
 obtain⟨bb,hbb,-⟩:=DataW.trod_bool Tryz.underlying4 h0
 obtain⟨z,hz,-,-⟩:=DataW.trod_int Tryz.underlying3 h1
 obtain⟨s,hs,-,hsz⟩:=DataW.trod_string Tryz.underlying9 h2
 refine⟨⟨⟨bb,z,s.data.toList⟩,by show s.data.toList.length≤maxLen;simpa using hsz⟩, ?_⟩
 have hd:cs=cs.take 1++ ((cs.drop 1).take 1++ (cs.drop 2).take 1):=by
  rw[show(cs.drop 2).take 1=cs.drop 2 from List.take_of_length_le (by rw[List.length_drop];omega),show cs.drop 2=(cs.drop 1).drop 1 by rw[List.drop_drop],List.take_append_drop,List.take_append_drop]
 rw[hd,hbb,hz,hs]
 rfl
theorem amH_ {w:World} {v:Value} {Q:PartL→Prop} {z: {p:PartL // Q p}} {l:List {p:PartL // Q p}} (h:SlV 3 (fun a: {p:PartL // Q p}=>zr_ a.1) z w v l):kO_ w v (l.map Subtype.val):=by
 have hl: (l.map Subtype.val).length=l.length:=by simp
 have hg: ∀k,k<l.length→(l.map Subtype.val).getD k z1_=(l.getD k z).1:=by
  intro k hk
  rw[List.getD_eq_getElem?_getD,List.getD_eq_getElem?_getD,List.getElem?_map,List.getElem?_eq_getElem hk];rfl
 obtain⟨b,off,c,arr,E,fz,hr,hc,hv⟩:=h
 rcases hv with⟨rfl,rfl,rfl⟩ | ⟨rfl,hhas,hsz⟩
 ·exact SlV.nil w
 ·rw[←hl]
  refine SlV.sl hhas (fun k hk j hj=> ?_) (by rw[hl];exact hc) (by rw[hl];exact hsz)
  rw[hl] at hk
  rw[hg k hk]
  exact hr.get k hk j hj
theorem aeF_ {H:Type} {enc:TypeId×Value→H} {W:World} {r:Reach} {b0 base:Nat} {sp:Nat→Bool} {held:Bool} {v:Value} {d:DataW H} {p:List MemPlace}
  (hval:Value.okWide Tryz.prog W r b0 22 v) (hd:DataW.Trod enc Tryz.prog W base sp held 22 v d p): ∃l,kO_ W v l∧BndL l:=by
 obtain⟨a0,len,cap,rfl⟩:=WideShapes.okWide_slice Tryz.underlying22 hval
 obtain⟨fu,hf⟩:=hd
 obtain⟨l,hl⟩:=adD_ (z:=(⟨z1_,by show 0≤maxLen;exact Nat.zero_le _⟩: {p:PartL // p.x.length≤maxLen})) Tryz.underlying22 (by kernel_rfl) (by decide) (fun a=>jP_ a.1) hval ajA_ hf
 refine⟨l.map Subtype.val,amH_ hl,fun g hg=> ?_⟩
 rw[List.getD_eq_getElem?_getD,List.getElem?_eq_getElem hg,Option.getD_some,List.getElem_map]
 have:=(l[g]'(by simpa using hg)).2
 have hm:maxLen<9223372036854775808:=by decide
 omega
end Go.Proofs
end
section
open Go Go.Proofs Go.Sx
namespace Go.Proofs
set_option maxRecDepth 10000
set_option maxHeartbeats 400000
theorem afI_ {H:Type} {tell:TypeId×Value→H} {W:World} {base:Nat} {sp:Nat→Bool} {held:Bool} {n:Nat} {cs:List Value} {y:DataW H×List MemPlace}
  (h:DataW.trod tell Tryz.prog W base sp held n 37 cs=some y): ∃i:IdL,cs=i.l.map v8:=by
 obtain⟨xs,m,-,-,hlen,hxl,hel⟩:=DataW.trod_array Tryz.underlying37 h
 have hc: (Tryz.prog).cellsOf 37=32:=by kernel_rfl
 have h1: (Tryz.prog).cellsOf 5=1:=by kernel_rfl
 rw[hc] at hlen
 rw[h1] at hel
 have hex: ∀i (hi:i<cs.length),∃x:UInt8,cs[i]=v8 x:=by
  intro i hi
  have h2:=hel i (by omega)
  rw[List.getElem?_eq_getElem (by omega),Nat.mul_one,List.drop_eq_getElem_cons hi,List.take_succ_cons,List.take_zero] at h2
  obtain⟨z,hz,-,hw⟩:=DataW.trod_int Tryz.underlying5 h2
  simp only[List.cons.injEq,and_true] at hz
  rw[hz]
  simp only[Lit.wf,Bool.and_eq_true,decide_eq_true_eq] at hw
  have hw1:0≤z:=by simpa [IntKind.min,IntKind.bits,IntKind.signed] using hw.1
  have hw2:z≤255:=by simpa [IntKind.max,IntKind.bits,IntKind.signed] using hw.2
  refine⟨UInt8.ofNat z.toNat, ?_⟩
  unfold v8
  rw[UInt8.toNat_ofNat',Nat.mod_eq_of_lt (by omega)]
  congr 1;omega
 have hl: ∃l:List UInt8,cs=l.map v8:=by
  clear hel hlen hxl h
  induction cs with
  |nil=>exact⟨[],rfl⟩
  |cons c r ih=>
   obtain⟨x,hx⟩:=hex 0 (by simp)
   obtain⟨l,hl⟩:=ih (fun i hi=>by have:=hex (i+1) (by simpa using hi);simpa using this)
   exact⟨x::l,by rw[hl];simp at hx;simp[hx]⟩
 obtain⟨l,rfl⟩:=hl
 exact⟨⟨l,by simpa using hlen⟩,rfl⟩
theorem ali_ {H:Type} {tell:TypeId×Value→H} {W:World} {r:Reach} {base b0:Nat} {sp:Nat→Bool} {held:Bool} {fuel:Nat} {v:Value} {x:DataW H×List MemPlace}
  (hval:Value.okWide Tryz.prog W r b0 37 v) (hd:DataW.trod tell Tryz.prog W base sp held fuel 37 v.cells.toList=some x): ∃i:IdL,v= .agg (a8 i.l):=by
 unfold Value.okWide at hval
 rw[Tryz.underlying37] at hval
 obtain⟨cs,rfl,-⟩:=hval
 rw[zd_] at hd
 obtain⟨i,hi⟩:=afI_ hd
 refine⟨i, ?_⟩
 congr 1
 exact Array.toList_inj.1 (by rw[hi];rfl)
end Go.Proofs
end
section
open Go Go.Proofs Go.Sx Go.StP Go.ChangeShapes
namespace Go.Proofs
set_option maxRecDepth 10000
set_option maxHeartbeats 400000
theorem ak8_ {H:Type} {tell:TypeId×Value→H} {W:World} {base:Nat} {sp:Nat→Bool} {held:Bool} (n:Nat) (cs:List Value) (y:DataW H×List MemPlace)
  (h:DataW.trod tell Tryz.prog W base sp held n 104 cs=some y): ∃a:RwL,cs=rwC a:=by
 obtain⟨y0,y1,y2,n',-,hlen,h0,h1,h2⟩:=Deep.trod_struct3 Tryz.underlying104 h
 have hc: (Tryz.prog).cellsOf 104=34:=by kernel_rfl
 have hc0: (Tryz.prog).cellsOf 37=32:=by kernel_rfl
 have hc1: (Tryz.prog).cellsOf 3=1:=by kernel_rfl
 simp only at h0 h1 h2
 rw[hc0,List.drop_zero] at h0
 rw[hc1] at h1 h2
 rw[hc] at hlen
 obtain⟨i,hi⟩:=afI_ h0
 obtain⟨z1,hz1,-,-⟩:=DataW.trod_int Tryz.underlying3 h1
 obtain⟨z2,hz2,-,-⟩:=DataW.trod_int Tryz.underlying3 h2
 refine⟨⟨i,z1,z2⟩, ?_⟩
 have hd:cs=cs.take 32++ ((cs.drop 32).take 1++ (cs.drop 33).take 1):=by
  rw[show(cs.drop 33).take 1=cs.drop 33 from List.take_of_length_le (by rw[List.length_drop];omega),show cs.drop 33=(cs.drop 32).drop 1 by rw[List.drop_drop],List.take_append_drop,List.take_append_drop]
 have e1: (cs.drop 32).take 1= [vi z1]:=hz1
 have e2: (cs.drop 33).take 1= [vi z2]:=hz2
 rw[hd,hi,e1,e2]
 rfl
theorem agX_ {H:Type} {enc:TypeId×Value→H} {W:World} {r:Reach} {b0 base:Nat} {sp:Nat→Bool} {held:Bool} {v:Value} {d:DataW H} {p:List MemPlace}
  (hval:Value.okWide Tryz.prog W r b0 81 v) (hd:DataW.Trod enc Tryz.prog W base sp held 81 v d p): ∃l,SlV 34 rwC rw0 W v l:=by
 obtain⟨a0,len,cap,rfl⟩:=WideShapes.okWide_slice Tryz.underlying81 hval
 obtain⟨fu,hf⟩:=hd
 exact adD_ (z:=rw0) Tryz.underlying81 (by kernel_rfl) (by decide) zG_ hval ak8_ hf
end Go.Proofs
end
section
open Go Go.Proofs Go.Sx Go.StP Go.Flo Go.Dig
namespace Go.Proofs
set_option maxRecDepth 10000
set_option maxHeartbeats 1000000
set_option linter.unusedSimpArgs false
def Dist (l:List RwL):Prop:=l.Pairwise fun a b=>a.id.l≠b.id.l
theorem agM_ {Z:List RwL} (hs:zw_ Z) (hd:Dist Z) (hr: ∀r,r∈Z→jA_ r=true): ∀n,n≤Z.length→wQ_ Z n=true
 |0,_=>rfl
 |n+1,h=>by
  have hn:n<Z.length:=by omega
  unfold wQ_
  rw[agM_ hs hd hr n (by omega),Bool.true_and,Bool.and_eq_true,Bool.or_eq_true,decide_eq_true_eq,decide_eq_true_eq]
  refine⟨?_,hr _ (by rw[qZ_ hn];exact List.getElem_mem hn)⟩
  by_cases h0:n=0
  ·exact .inl h0
  ·right
   have h1:n - 1<Z.length:=by omega
   rw[cmpI_lt,qZ_ h1,qZ_ hn]
   have a:=List.pairwise_iff_getElem.1 hs (n - 1) n h1 hn (by omega)
   have b:=List.pairwise_iff_getElem.1 hd (n - 1) n h1 hn (by omega)
   exact Q9_ a (fun e=>b e.symm)
theorem Jy_: ∀ {l:List RwL},Dist l→ ∀k,(StP.of (fun r:RwL=>r.id.l) k l).length≤1
 | [],_,k=>by simp[StP.of]
 |r::l,h,k=>by
  have h1:=List.pairwise_cons.1 h
  have ih:=Jy_ (l:=l) h1.2 k
  unfold StP.of at ih ⊢
  rw[List.filter_cons]
  split
  ·rename_i hk
   have:l.filter (fun a=>a.id.l==k)= []:=by
    rw[List.filter_eq_nil_iff]
    intro y hy hyk
    exact h1.1 y hy ((by simpa using hk:r.id.l=k).trans (by simpa using hyk:y.id.l=k).symm)
   rw[this];simp
  ·exact ih
theorem JP_: ∀ {l:List RwL},(∀k,(StP.of (fun r:RwL=>r.id.l) k l).length≤1)→Dist l
 | [],_=>List.Pairwise.nil
 |r::l,h=>by
  refine List.pairwise_cons.2 ⟨fun y hy e=> ?_,JP_ fun k=> ?_⟩
  ·have:=h r.id.l
   unfold StP.of at this
   rw[List.filter_cons,if_pos (by simp),List.length_cons] at this
   have h0:l.filter (fun a=>a.id.l==r.id.l)= []:=List.eq_nil_of_length_eq_zero (Nat.le_zero.1 (Nat.le_of_succ_le_succ this))
   rw[List.filter_eq_nil_iff] at h0
   exact h0 y hy (by simp[e])
  ·have:=h k
   unfold StP.of at this ⊢
   rw[List.filter_cons] at this
   split at this
   ·rw[List.length_cons] at this;omega
   ·exact this
theorem alp_ {l Z:List RwL} (h:q7_ l Z) (hd:Dist l):Dist Z:=JP_ fun k=>by rw[h k];exact Jy_ hd k
theorem Jj_: ∀ (ts:List (List UInt8)) (ids:List IdL) (os:List ObL) (p:List IdL×List ObL),qG_ ts ids os=some p→ids.Pairwise (fun a b=>a.l≠b.l)→p.1.Pairwise (fun a b=>a.l≠b.l)
 | [],ids,os,p,h,hd=>by cases h;exact hd
 |s::r,ids,os,p,h,hd=>by
  rw[qG_] at h
  split at h
  ·rename_i hc
   refine Jj_ r _ _ p h (List.pairwise_append.2 ⟨hd,List.pairwise_singleton _ _, ?_⟩)
   intro a ha b hb e
   rw[List.mem_singleton] at hb
   subst hb
   have:=List.any_eq_false.1 hc.2 a ha
   exact this (by simp[e])
  ·cases h
theorem adL_ {sp:List Nat} {ids:List IdL} (h:ids.Pairwise (fun a b=>a.l≠b.l)):Dist (kJ_ sp ids):=by
 refine List.pairwise_iff_getElem.2 fun i j hi hj hij=> ?_
 rw[←qZ_ hi,←qZ_ hj]
 rw[xQ_] at hi hj
 rw[wa_ sp ids hi,wa_ sp ids hj]
 show(ids.getD i id0).l≠ (ids.getD j id0).l
 rw[List.getD_eq_getElem?_getD,List.getElem?_eq_getElem hi,List.getD_eq_getElem?_getD,List.getElem?_eq_getElem hj]
 exact List.pairwise_iff_getElem.1 h i j hi hj hij
theorem ZA_ {s:List UInt8}: ∀ (k i a:Nat) (e:Int),a≤s.length→ ∀x,x∈ (zX_ s k i a e).2.1→x≤s.length
 |0,_,_,_,_,x,h=>by cases h
 |k+1,i,a,e,ha,x,h=>by
  unfold zX_ at h
  split at h
  ·rcases List.mem_cons.1 h with rfl|h
   ·exact ha
   ·exact ZA_ k (i+1) _ 0 (afC_ (i:=i) ha) x h
  ·cases h
theorem ae0_ {b:List UInt8} {q:List PartL×List Nat×List IdL×List ObL} (h:wB_ b=some q) (hb:b.length<1099511627776) {Z:List RwL} (hZ:rws_SortOf (kJ_ q.2.1 q.2.2.1) Z):q3_ (b.drop (b.length - 4)) Z=true∧Dist (kJ_ q.2.1 q.2.2.1):=by
 obtain⟨l,sp,ids,os⟩:=q
 have h4:=JO_ h
 obtain⟨-,hl,hsl,hil,-⟩:=wx_ h
 simp only at hZ hl hsl hil ⊢
 have hun: (zn_ b).1.length≤b.length:=Je_ b
 unfold wB_ at h
 split at h
 ·cases hf:fillV (jH_ (zn_ b).1).1 with
  |none=>rw[hf] at h;cases h
  |some q'=>
   rw[hf] at h
   simp only[Option.map_some,Option.some.injEq,Prod.mk.injEq] at h
   obtain⟨-,hsp,rfl⟩:=h
   have hd:ids.Pairwise (fun a b=>a.l≠b.l):=by
    unfold fillV at hf
    cases ha:ZJ_ (jH_ (zn_ b).1).1 with
    |error e=>rw[ha] at hf;cases hf
    |ok ts=>rw[ha] at hf;exact Jj_ ts [] [] _ hf List.Pairwise.nil
   have hD:=adL_ (sp:=sp) hd
   have hle:=acL_ (zn_ b).1
   have hso: ∀x,x∈sp→x≤ (zn_ b).1.length:=by
    rw[←hsp]
    exact fun x hx=>ZA_ _ _ _ _ hle x hx
   have hro: ∀r,r∈kJ_ sp ids→jA_ r=true:=by
    intro r hr
    obtain⟨i,hi,rfl⟩:=List.getElem_of_mem hr
    rw[←qZ_ hi]
    rw[xQ_] at hi
    rw[wa_ sp ids hi]
    have hx:sp.getD i 0≤ (zn_ b).1.length:=hso _ (by rw[List.getD_eq_getElem?_getD,List.getElem?_eq_getElem (by omega)];exact List.getElem_mem _)
    unfold jA_
    simp only[Bool.and_eq_true,Bool.not_eq_true',decide_eq_false_iff_not]
    omega
   refine⟨?_,hD⟩
   unfold q3_
   rw[agM_ hZ.2.1 (alp_ hZ.2.2 hD) (fun r hr=>hro r ((hZ.2.2.mem r).1 hr)) _ (Nat.le_refl _),Bool.true_and,Bool.and_eq_true,decide_eq_true_eq,decide_eq_true_eq]
   have:=hZ.1
   rw[xQ_] at this
   rw[List.length_drop]
   omega
 ·cases h
theorem alO_ {b:List UInt8} {q:List PartL×List Nat×List IdL×List ObL} (h:wB_ b=some q) (hb:b.length<1099511627776) {v:Value} (hv:agl_ b v): ∃Z,rws_SortOf (kJ_ q.2.1 q.2.2.1) Z∧q3_ (b.drop (b.length - 4)) Z=true∧v= .tuple #[vs (qE_ (v8_ (b.drop (b.length - 4)) Z)),vi 0]:=by
 unfold agl_ at hv
 rw[h] at hv
 obtain⟨Z,hZ,rfl⟩:=hv
 have hr:=(ae0_ h hb hZ).1
 refine⟨Z,hZ,hr, ?_⟩
 unfold xw_;rw[if_pos hr]
theorem ajr_ {s:List UInt8} {Z:List RwL} (h:q3_ s Z=true): (qE_ (v8_ s Z)).length<1000000:=by
 obtain⟨-,hs4,hl2⟩:=jQ_ h
 have h1:=vy_ Z Z.length (Nat.le_refl _)
 have h2:=zp_ ((Z.length:Nat):Int)
 have h3:=vv_ (Qs_ (x9_ Z))
 rw[x3_,kl_] at h3
 rw[List.take_length] at h1
 rw[xS_]
 unfold v8_ kG_
 rw[List.length_append,List.length_append,List.length_append,List.length_append,hs4,show magI.length=4 from rfl]
 omega
theorem alq_ {Z l:List RwL} (h:q7_ l Z) {x:IdL} (hx: ∀r,r∈l→r.id.l≠x.l):JR_ Z x=(rw0,false):=by
 unfold JR_
 cases hf:Z.find? (fun q=>q.id.l==x.l) with
 |none=>rfl
 |some q=>
  have h5:=List.find?_some hf
  exact absurd (by simpa using h5) (hx q ((h.mem q).1 (List.mem_of_find?_eq_some hf)))
end Go.Proofs
end
section
open Go Go.Proofs Go.Sx Go.StP Go.Flo Go.Dig
namespace Go.Proofs
set_option maxRecDepth 10000
set_option maxHeartbeats 1000000
set_option linter.unusedSimpArgs false
theorem ac8_ {sp:List Nat} {ids:List IdL} {Z:List RwL} (hZ:rws_SortOf (kJ_ sp ids) Z) (hok:wQ_ Z Z.length=true) {k:Nat} (hk:k<ids.length):JR_ Z (ids.getD k id0)=(⟨ids.getD k id0,(k:Int),(sp.getD k 0:Nat)⟩,true):=by
 have hm: (⟨ids.getD k id0,(k:Int),(sp.getD k 0:Nat)⟩:RwL)∈Z:=by
  rw[hZ.2.2.mem,←wa_ sp ids hk,qZ_ (by rw[xQ_];exact hk)]
  exact List.getElem_mem _
 exact WR_ hok hm
theorem akk_ {sp:List Nat} {ids:List IdL} {Z:List RwL} (hZ:rws_SortOf (kJ_ sp ids) Z) (hok:wQ_ Z Z.length=true) (x:IdL): (JR_ Z x).2=decide (0≤idxG x ids 0):=by
 rw[Kz_]
 cases h:ids.any fun y=>x.l==y.l with
 |true=>
  obtain⟨y,hy,hxy⟩:=List.any_eq_true.1 h
  obtain⟨k,hk,rfl⟩:=List.getElem_of_mem hy
  have hx:x=ids.getD k id0:=by
   rw[List.getD_eq_getElem?_getD,List.getElem?_eq_getElem hk]
   exact akZ_ (by simpa using hxy)
  rw[hx,ac8_ hZ hok hk]
 |false=>
  rw[alq_ hZ.2.2 (fun r hr e=>by
   obtain⟨i,hi,rfl⟩:=List.getElem_of_mem hr
   rw[←qZ_ hi] at e
   rw[xQ_] at hi
   rw[wa_ sp ids hi] at e
   have h2:=List.any_eq_false.1 h (ids.getD i id0) (by rw[List.getD_eq_getElem?_getD,List.getElem?_eq_getElem hi];exact List.getElem_mem hi)
   exact h2 (by simpa using e.symm))]
theorem alm_ (a b:Bool):qu_ Tryz.prog .eql 4 (.bool a) (.bool b)=some (.bool (a==b)):=by cases a<;>cases b<;>rfl
structure IfG where
 k:Nat
 DG:za_
set_option linter.defProp false
def zN_:=And.intro (And.intro (And.intro (@zg_) (@zf_)) (And.intro (@Sx.tup2_0) (And.intro (@Sx.tup2_1) (@qR_)))) (And.intro (And.intro (@kw_) (And.intro (@vY_) (@wX_))) (And.intro (@wR_) (And.intro (@ju_) (@ji_))))
theorem JM_ (v0:Value) (l:List PartL) (x:IdL) (w:World) (hG:GlobE w) (hC:GlobC w) (hv:kO_ w v0 l) (hb:BndL l):Rets Tryz.prog 11 #[v0, .agg (a8 x.l)] w (fun v D=>v= .bool true∧D= []):=by
 have ln:=hv.len
 refine Rets.enterV Tryz.func11 rfl (rs:= [.tmp 4]) Tryz.results11 Tryz.ntmps11 ?_
 refine kf ?_
 first|with_reducible refine ks [1000011,3,15] @zN_ ?_|refine kp @zN_ ?_
 refine Ow.box rfl rfl fun b3 hb3 hw3=> ?_
 simp only[qy_,qr_,qs_,zd_,List.nil_append,List.cons_append]
 refine Ow.go rfl ?_
 simp(disch:=(first|assumption|omega| (simp only[jW_,jX_,UInt64.reduceToNat];try omega))) only[↓Sx.S0,Sx.S1,Tryz.fx,zN_,Nat.reduceAdd,Nat.reducePow,Int.reducePow,Nat.reduceBEq, ↓reduceIte,UInt8.reduceToNat,UInt16.reduceToNat,UInt32.reduceToNat,UInt64.reduceToNat,Int.reduceToNat]
 have hN3:New w.heap.size [(b3,Obj.cells (a8 x.l) 37 (0,0))]:=⟨hw3,trivial⟩
 first|with_reducible refine ks [] @zN_ ?_|refine kp @zN_ ?_
 refine Ow.callFV rfl Tryz.call41 (fun w' hw'=>qC_ w' (hG.new hw' hN3) (hC.newP hw' hN3)) ?_
 refine ko @zN_ ?_
 cases hgt:WI_ l with
 |true=>
  first|with_reducible refine ks [] @zN_ ?_|refine kp @zN_ ?_
  refine Ow.callFV rfl Tryz.call13 (fun w' hw'=>X3_ v0 l w' (hv.oldN hw' hN3) hb) ?_
  rw[hgt]
  refine ko @zN_ ?_
  first|with_reducible refine ks [] @zN_ ?_|refine kp @zN_ ?_
  refine Ow.callFV rfl Tryz.call41 (fun w' hw'=>qC_ w' (hG.new hw' hN3) (hC.newP hw' hN3)) ?_
  refine ko @zN_ ?_
  first|with_reducible refine ks [] @zN_ ?_|refine kp @zN_ ?_
  refine⟨_,(ke @zN_),hN3, ?_⟩
  rfl
 |false=>
  obtain⟨hll,hgx⟩:=agc_ hgt
  first|with_reducible refine ks [] @zN_ ?_|refine kp @zN_ ?_
  refine Ow.callFV rfl Tryz.call13 (fun w' hw'=>X3_ v0 l w' (hv.oldN hw' hN3) hb) ?_
  rw[hgt]
  refine ko @zN_ ?_
  first|with_reducible refine ks [] @zN_ ?_|refine kp @zN_ ?_
  refine Ow.callFV rfl Tryz.call14 (fun w' hw'=>Jq_ v0 l w' (hv.oldN hw' hN3) (hG.new hw' hN3) (hC.newP hw' hN3) hb (by omega)) ?_
  cases hf:fillV l with
  |none=>
   rw[agN_ hf]
   have e2: ((1:Int) !=0)=true:=rfl
   refine ko @zN_ ?_
   first|with_reducible refine ks [] (And.intro @zN_ @e2) ?_|refine kp (And.intro @zN_ @e2) ?_
   refine Ow.callFV rfl Tryz.call41 (fun w' hw'=>qC_ w' (hG.new hw' hN3) (hC.newP hw' hN3)) ?_
   refine ko @zN_ ?_
   first|with_reducible refine ks [] @zN_ ?_|refine kp @zN_ ?_
   refine⟨_,(ke @zN_),hN3, ?_⟩
   rfl
  |some q=>
   rw[agK_ hf]
   have e3: ((0:Int) !=0)=false:=rfl
   obtain⟨hsum,hpx⟩:=hgx (ZV_ hf)
   have hop:=X2_ hf hpx
   have hpl:=af9_ hf
   generalize qE_ (kq_ l)=b at*
   generalize Z4_ 0 (4+ (qS_ l.length).length) l=sp at*
   obtain⟨ids,os⟩:=q
   obtain⟨hs1,hs2,hs3,hs4,hs5⟩:=wx_ hop
   simp only at hs3 hs4 hs5
   refine ko @zN_ ?_
   first|with_reducible refine ks [] (And.intro @zN_ @e3) ?_|refine kp (And.intro @zN_ @e3) ?_
   refine Ow.callC rfl rfl Tryz.call17 (fun w' hw'=>Kb_ b w' (hG.new hw' hN3) (hC.newP hw' hN3) (by omega)) (fun B1 v1 D1 hA1 hB1 hN1 hS1=> ?_)
   unfold ajV_ at hS1
   rw[hop] at hS1
   obtain⟨bp,rfl,hP⟩:=hS1
   simp only at hP
   have hD1:=hN3.app (hN1.mono hB1)
   refine ko @zN_ ?_
   first|with_reducible refine ks [] @zN_ ?_|refine kp @zN_ ?_
   refine Ow.callC rfl rfl Tryz.call47 (fun w' hw'=>Rets.toX (XR_ b w' (hG.new hw' hD1) (hC.newP hw' hD1) (by omega))) (fun B2 v2 D2 hA2 hB2 hN2 hS2=> ?_)
   obtain⟨rfl,hS2⟩:=hS2
   obtain⟨Z,hZ,hri,rfl⟩:=alO_ hop hpl hS2
   simp only at hZ
   have hoi:=wE_ hri
   have hsl:=ajr_ hri
   obtain⟨hok,hs4',hZ2⟩:=jQ_ hri
   have hZl:=hZ.1
   rw[xQ_] at hZl
   rw[List.append_nil]
   have hb4:=JO_ hop
   obtain⟨ss,hss⟩: ∃q,q=b.drop (b.length - 4):=⟨_,rfl⟩
   rw[←hss] at hoi hsl
   rw[←hss]
   generalize qE_ (v8_ ss Z)=s at*
   refine ko @zN_ ?_
   first|with_reducible refine ks [] @zN_ ?_|refine kp @zN_ ?_
   refine Ow.callC rfl rfl Tryz.call49 (fun w' hw'=>vX_ s w' (hC.newP hw' hD1) (by omega)) (fun B4 v4 D4 hA4 hB4 hN4 hS4=> ?_)
   unfold Ki_ at hS4
   rw[hoi] at hS4
   obtain⟨bi,rfl,hI⟩:=hS4
   simp only at hI
   have hD4:=hD1.app (hN4.mono hB4)
   refine ko @zN_ ?_
   refine Cw.rebaseV hD4 (by rfl) fun w1 hw1=> ?_
   have hG1:=hG.new hw1 hD4
   have hC1:=hC.newP hw1 hD4
   have hP1:=hP.inW (fun q hq=>by simp[hq]) hw1
   have hI1:=(hI.mono (fun q hq=>by simp[hq])).inW hw1
   have hb31:=hw1.has b3 (.cells (a8 x.l) 37 (0,0)) (by simp)
   have hb3l:=(Array.getElem?_eq_some_iff.1 hb31).1
   clear hw1 hP hI hD4 hD1 hN4 hN1 hA4 hA1 hN2 hA2 hG hC hv hoi hop
   have e4: (b.length:Int) - 4=((b.length - 4:Nat):Int):=by omega
   have e5: (ss !=b.drop (b.length - 4))=false:=by rw[hss];exact bne_self_eq_false _
   have e6: ((Z.length:Int) !=(l.length:Int))=false:=by rw[hZl,hs4];exact bne_self_eq_false _
   first|with_reducible refine ks [] @zN_ ?_|refine kp @zN_ ?_
   refine Cw.regionS [] [0,1,2,3,4,5,6,7,9,10,11,12,13,8,14,15,16,17,20,21,18,19,22,23] [] (by kernel_rfl) (by kernel_rfl) (by kernel_rfl) ?_
   simp only[zk_, ↓ze_, ↓zc_, ↓zt_, ↓zs_,zb_]
   refine kq (And.intro @zN_ (And.intro @e3 (@e4))) ?_
   refine Ow.soft rfl rfl rfl ?_
   refine Ow.callFV rfl Tryz.call52 (fun w' hw'=>Jo_ bi ss Z w' (hI1.old hw' trivial)) ?_
   with_reducible refine Ow.nil ?_
   refine⟨fun b hb=>(by cases hb), ?_⟩
   refine kq (And.intro @zN_ (And.intro @e5 (@ln))) ?_
   refine Ow.soft rfl rfl rfl ?_
   refine Ow.callC rfl rfl Tryz.call51 (fun w' hw'=>kQ_ bi ss Z w' (hI1.old hw' trivial) (by omega)) (fun B5 v5 D5 hA5 hB5 hN5 hS5=> ?_)
   have ln5:=ZW_ hS5
   have hD5:New w1.heap.size D5:=hN5.mono hB5
   with_reducible refine Ow.nil ?_
   refine⟨fun b hb=>(by cases hb), ?_⟩
   rw[List.nil_append]
   refine kq (And.intro @zN_ (And.intro @ln5 (And.intro @ln (@e6)))) ?_
   try with_reducible refine Ow.nil ?_
   first|with_reducible refine ks [] @zN_ ?_|refine kp @zN_ ?_
   refine Cw.loopG (G:=IfG) [70,71,72,73,77,78,79,80,81,76,82,83,14,15,84,85,86,87,88,89,90,91,92,93,94,95,96,97,98,99,4,74,75,13] (fun g=> [(4, .bool false),(13,vi g.k)]) (fun g=>g.DG) (fun g=>g.k≤l.length∧New w1.heap.size g.DG) (fun g=>l.length - g.k) ⟨0,D5⟩ rfl rfl ?_ ?_
   ·exact⟨Nat.zero_le _,hD5⟩
   intro g j hg
   refine kv ?_
   obtain⟨k,DG⟩:=g
   simp only at hg ⊢
   obtain⟨hk,hN⟩:=hg
   by_cases hlt:k<l.length
   ·have d1:decide ((k:Int)< (l.length:Int))=true:=decide_eq_true (by omega)
    have hh:hasV l (k:Int)=true:=by unfold hasV;rw[d1,Bool.and_true];exact decide_eq_true (by omega)
    have hfr:=ac8_ (sp:=sp) hZ hok (show k<ids.length by omega)
    first|with_reducible refine ks [15] (And.intro @zN_ (And.intro @ln (@d1))) ?_|refine kp (And.intro @zN_ (And.intro @ln (@d1))) ?_
    refine Ow.callFV rfl Tryz.call22 (fun w' hw'=>acZ_ bp (k:Int) l sp ids os w' (hP1.old hw' hN) (by omega)) ?_
    rw[hh,if_pos rfl,Int.toNat_natCast]
    refine ko @zN_ ?_
    refine Ow.callFV rfl Tryz.call56 (fun w' hw'=>ZQ_ bi ss Z (ids.getD k id0) w' (hI1.old hw' hN) hok (by omega)) ?_
    rw[hfr]
    refine ko @zN_ ?_
    refine Ow.alloc rfl rfl Vq_ fun b14 hb14 hw14=> ?_
    simp only[zd_,List.nil_append,List.cons_append]
    refine Ow.permL (M:=(b14, .cells (rwC rw0).toArray 104 (0,0))::DG) (by classical exact List.perm_iff_count.2 fun a=>by simp only[List.count_append,List.count_cons,List.count_nil]<;>omega) ?_
    refine ko @zN_ ?_
    have hN14:New w1.heap.size ((b14,Obj.cells (rwC ⟨ids.getD k id0,(k:Int),(sp.getD k 0:Nat)⟩).toArray 104 (0,0))::DG):=⟨hw14,hN⟩
    have e7: ((k:Int) !=(k:Int))=false:=bne_self_eq_false _
    have e8: (((sp.getD k 0:Nat):Int) !=((sp.getD k 0:Nat):Int))=false:=bne_self_eq_false _
    first|with_reducible refine ks [] @zN_ ?_|refine kp @zN_ ?_
    refine Cw.regionS [b14] [0,1,2,3,5,4,6,7,8,9,11,12,10,13,14,15] [] (by kernel_rfl) (by kernel_rfl) (by kernel_rfl) ?_
    simp only[zk_, ↓ze_, ↓zc_, ↓zt_, ↓zs_,zb_]
    refine kq (And.intro @zN_ @e7) ?_
    refine Ow.soft rfl rfl rfl ?_
    refine Ow.callFV rfl Tryz.call23 (fun w' hw'=>XM_ bp (k:Int) l sp ids os w' (hP1.old hw' hN14) hs3) ?_
    rw[hh,if_pos rfl,Int.toNat_natCast]
    with_reducible refine Ow.nil ?_
    refine⟨by intro b hb;simp only[List.mem_cons,List.not_mem_nil,or_false] at hb;(try subst hb);rfl, ?_⟩
    refine kq (And.intro @zN_ @e8) ?_
    try with_reducible refine Ow.nil ?_
    first|with_reducible refine ks [] @zN_ ?_|refine kp @zN_ ?_
    exact Again.mk ⟨k+1,(b14, .cells (rwC ⟨ids.getD k id0,(k:Int),(sp.getD k 0:Nat)⟩).toArray 104 (0,0))::DG⟩ (by show l.length - (k+1)<l.length - k;omega) ⟨hlt,hN14⟩ rfl rfl
   ·obtain rfl:k=l.length:=by omega
    have d1:decide ((l.length:Int)< (l.length:Int))=false:=decide_eq_false (by omega)
    have hfa:=akk_ hZ hok x
    have rd3: ∀X,New w1.heap.size X→zB_ w1 X b3=some (.cells (a8 x.l) 37 (0,0)):=fun X hX=>by rw[q9_ (hX.not hb3l)];exact hb31
    have rd31:=rd3 DG hN
    first|with_reducible refine ks [] (And.intro @zN_ (And.intro @ln (And.intro @d1 (@rd31)))) ?_|refine kp (And.intro @zN_ (And.intro @ln (And.intro @d1 (@rd31)))) ?_
    refine Ow.callFV rfl Tryz.call56 (fun w' hw'=>ZQ_ bi ss Z x w' (hI1.old hw' hN) hok (by omega)) ?_
    rw[hfa]
    refine ko @zN_ ?_
    refine Ow.alloc rfl rfl Vq_ fun b16 hb16 hw16=> ?_
    simp only[zd_,List.nil_append,List.cons_append]
    refine Ow.permL (M:=(b16, .cells (rwC rw0).toArray 104 (0,0))::DG) (by classical exact List.perm_iff_count.2 fun a=>by simp only[List.count_append,List.count_cons,List.count_nil]<;>omega) ?_
    refine ko @zN_ ?_
    have hN16:New w1.heap.size ((b16,Obj.cells (rwC (JR_ Z x).1).toArray 104 (0,0))::DG):=⟨hw16,hN⟩
    have rd32:=rd3 _ hN16
    first|with_reducible refine ks [] @zN_ ?_|refine kp @zN_ ?_
    refine Ow.callFV rfl Tryz.call41 (fun w' hw'=>qC_ w' (hG1.new hw' hN16) (hC1.newP hw' hN16)) ?_
    refine ko (And.intro @zN_ @rd32) ?_
    refine Ow.callFV rfl Tryz.call24 (fun w' hw'=>afc_ bp x l sp ids os w' (hP1.old hw' hN16) (by omega)) ?_
    have e9: ((decide (0≤idxG x ids 0))==(decide (0≤idxG x ids 0)))=true:=beq_self_eq_true _
    refine ko (And.intro @zN_ (And.intro @alm_ (@e9))) ?_
    first|with_reducible refine ks [] @zN_ ?_|refine kp @zN_ ?_
    refine⟨_,(ke @zN_),hN16, ?_⟩
    rfl
end Go.Proofs
end
