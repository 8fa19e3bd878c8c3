/-
  Part 4 of the walk: contracts of the functions that the law reaches, and the calculus they stand on.
  No conditions.
-/
import Derived.Test.YtjjiclcgdngfdaaGreatDoorW3
import Derived.ProofKit
import Derived.OpenShut
import Derived.WideKeyArgs
import Derived.ChangeSame
import Derived.ChangeMaps5
import Derived.Lib.LaidTab
import Derived.SliceStrings
import Derived.DataReads
import Derived.Deep.Strs
section
open Go Go.Proofs Go.Sx Go.StP
namespace Go.Proofs
set_option maxRecDepth 10000
set_option maxHeartbeats 1000000
set_option linter.unusedSimpArgs false
structure OcG where
 i:Nat
 S:DiskL
 G:DcG
 X:zc_
def ofN (l:List FiL) (q:Int) (i:Nat):DiskL:=(l.take i).foldl zR_ (Zp_ q)
theorem afE_ (l:List FiL) (q:Int) {i:Nat} (h:i<l.length):ofN l q (i+1)=zR_ (ofN l q i) (l.getD i fi0):=by
 unfold ofN
 rw[StP.take_snoc (z:=fi0) h,List.foldl_append];rfl
theorem We_ (S:DiskL) (f:FiL) {n:Nat} (h:S.files.length≤n∧ ∀k,(S.dir k).seen.length≤n): (zR_ S f).files.length≤n+1∧ ∀k,((zR_ S f).dir k).seen.length≤n+1:=by
 unfold zR_
 split
 ·rename_i k _
  split
  ·refine⟨?_,fun j=> ?_⟩
   ·show(S.files++ [_]).length≤n+1
    rw[List.length_append];simp;exact h.1
   ·by_cases e:j=k
    ·subst e
     rw[zM_]
     have:=J2_ (S.dir j).seen (f.name,S.files.length)
     have:=h.2 j
     show(KK_ _ _).length≤n+1
     omega
    ·rw[z4_ _ _ e]
     have:=h.2 j
     show(S.dir j).seen.length≤n+1
     omega
  ·exact⟨Nat.le_succ_of_le h.1,fun k=>Nat.le_succ_of_le (h.2 k)⟩
 ·exact⟨Nat.le_succ_of_le h.1,fun k=>Nat.le_succ_of_le (h.2 k)⟩
def KM_ (S:DiskL) (k:Nat):DiskL:={S with dir:=fun j=>if j<k then⟨(S.dir j).seen,(S.dir j).seen,[]⟩ else S.dir j}
theorem arg_ (S:DiskL):KM_ S 0=S:=by
 unfold KM_
 simp
theorem arl_ {S:DiskL} (_h: ∀k,(S.dir k).pend= []∧(S.dir k).stl= []):KM_ S 3=setV S [0,1,2]:=by
 unfold KM_ setV
 congr 1
 funext j
 by_cases e:j<3
 ·rw[if_pos e,if_pos (by
   have:j=0∨j=1∨j=2:=by omega
   rcases this with rfl|rfl|rfl<;>simp)]
 ·rw[if_neg e,if_neg (by simp;omega)]
theorem ajr_ {S:DiskL} (h: ∀k,(S.dir k).pend= []∧(S.dir k).stl= []) (k j:Nat): ((KM_ S (k+1)).dir j).seen=((KM_ S k).dir j).seen∧((KM_ S (k+1)).dir j).pend=((KM_ S k).dir j).pend∧(j≠k→((KM_ S (k+1)).dir j).stl=((KM_ S k).dir j).stl)∧((KM_ S (k+1)).dir k).stl=((KM_ S k).dir k).seen:=by
 have hp:=(h j).1
 unfold KM_
 simp only
 refine⟨?_, ?_,fun e=> ?_, ?_⟩
 ·split<;>split<;>first|rfl|omega
 ·split<;>split<;>first|rfl|omega| (rw[hp])
 ·split<;>split<;>first|rfl|omega
 ·rw[if_pos (Nat.lt_succ_self k),if_neg (Nat.lt_irrefl k)]
theorem DcP.updS {X L:zc_} {G:DcG} {S:DiskL} (h:DcP X G S) {k:Nat} (hk:k<3) {sv:Value} {sn:NmL} (keep: ∀b o,b≠G.bd→Sx.look X b=some o→Sx.look L b=some o) (hd:Sx.look L G.bd=some (dcO (jQ_ G k sv) S)) (hs:NdP L sv sn):DcP L (jQ_ G k sv) (zZ_ S k ⟨sn,(S.dir k).stl,(S.dir k).pend⟩):=
 h.upd rfl keep hd (fun j hj=>by
  by_cases e:j=k
  ·subst e
   right
   rw[zM_,show(jQ_ G j sv).s j=sv by simp[jQ_]]
   exact hs
  ·exact .inl ⟨by simp[jQ_,e],by rw[z4_ _ _ e]⟩) (fun j hj=> .inl ⟨rfl,by
   by_cases e:j=k
   ·subst e;rw[zM_]
   ·rw[z4_ _ _ e]⟩) (fun j hj=> .inl ⟨rfl,by
   by_cases e:j=k
   ·subst e;rw[zM_]
   ·rw[z4_ _ _ e]⟩) ⟨rfl,rfl⟩
set_option linter.defProp false
def qK_:=And.intro (And.intro (And.intro (@zg_) (@zf_)) (And.intro (@kJ_) (@x2_))) (And.intro (And.intro (@kQ_) (@kX_)) (And.intro (@JB_) (@xE_)))
theorem alo_ (quota:Int) (v:Value) (l:List FiL) (w:World) (_hq: -9223372036854775808≤quota∧quota<9223372036854775808) (hv:FiSl w v l) (hl:l.length<1000000) (hb:FiB l):
  Rets Tryz.prog 26 #[vi quota,v] w (XS w [] (fun v D=> ∃G,v=vp G.bd 0∧DcP D G (ofD quota l))):=by
 have ln:=hv.len
 obtain⟨rb,off,arr,E,fz,hr⟩:=hv.row
 refine Rets.enterX Tryz.func26 rfl (rs:= [.tmp 4]) Tryz.results26 Tryz.ntmps26 (fun p hp=>by cases hp) (by simp[keys]) ?_
 refine kf ?_
 first|with_reducible refine ks [7,8,12,1000002] @qK_ ?_|refine kp @qK_ ?_
 refine Ow.callC rfl rfl Tryz.call29 (fun w' hw'=>abw_ quota w') (fun B1 v1 X0 hA1 hB1 hN1 hS1=> ?_)
 obtain⟨G0,rfl,hP0⟩:=hS1
 have hN0:=hN1.mono hB1
 rw[List.nil_append]
 refine ko @qK_ ?_
 first|with_reducible refine ks [4,7,8,12] @qK_ ?_|refine kp @qK_ ?_
 refine Cw.loopG (G:=OcG) [11,12,13,14,17,18,19,20,21,22,7,23,24,25,26,27,28,29,30,31,32,33,34,35,36,37,38,39,40,41,42,43,44,45,46,47,48,49,50,51,52,53,54,55,56,57,58,59,60,61,62,63,64,65,66,67,68,69,70,71,72,73,74,75,76,77,78,79,80,81,82,83,84,85,86,87,88,89,15,16,6] (fun g=> [(6,vi g.i)]) (fun g=>g.X) (fun g=>g.i≤l.length∧g.S=ofN l quota g.i∧DcP g.X g.G g.S∧g.G.bd=G0.bd∧New w.heap.size g.X∧(g.S.files.length≤g.i∧ ∀k,(g.S.dir k).seen.length≤g.i)) (fun g=>l.length - g.i) ⟨0,Zp_ quota,G0,X0⟩ rfl rfl ?_ ?_
 ·exact⟨Nat.zero_le _,rfl,hP0,rfl,hN0,Nat.zero_le _,fun _=>Nat.zero_le _⟩
 intro g j hg
 refine kv ?_
 obtain⟨i,S,G,X⟩:=g
 simp only at hg ⊢
 obtain⟨hi,hS,hP,hbd,hN,hln⟩:=hg
 rw[←hbd]
 by_cases hlt:i<l.length
 ·have d1:decide ((i:Int)< (l.length:Int))=true:=decide_eq_true (by omega)
  have ix:=hr.idx true i hlt
  have rda: ∀Y,New w.heap.size Y→zA_ w Y rb=some (.cells arr E fz):=fun Y hY=>by rw[z2_ (hY.not (hr.lt (by omega)))];exact hr.has (by omega)
  have rd1:=rda X hN
  have l0: ∀n,zk_ (some (false,n)) (some (.cells arr E fz)) (off+i*3)=some (vs (l.getD i fi0).dir):=fun n=>by have:=aoR_ hr hlt n;rwa [Nat.add_zero] at this
  have l1:=fun n=>aiE_ hr hlt n
  have l2:=fun n=>acS_ hr hlt n
  have hfb:=hb (l.getD i fi0) (xp_ hlt)
  have hnx:=afE_ l quota hlt
  rw[←hS] at hnx
  have hsl:=We_ S (l.getD i fi0) hln
  generalize l.getD i fi0=f at*
  have hrdd:=za_ (w0:=w) hP.disk
  first|with_reducible refine ks [4,7,8] (And.intro @qK_ (And.intro @ln (And.intro @d1 (And.intro @ix (And.intro @rd1 (@l0)))))) ?_|refine kp (And.intro @qK_ (And.intro @ln (And.intro @d1 (And.intro @ix (And.intro @rd1 (@l0)))))) ?_
  refine Ow.callFV rfl Tryz.call84 (fun w' hw'=>w8_ f.dir w') ?_
  cases hw:zE_ f.dir with
  |none=>
   have hwi:xd_ f.dir= -1:=by unfold xd_;rw[hw]
   have e1:decide ((-1:Int)<0)=true:=rfl
   have hst:zR_ S f=S:=by unfold zR_;rw[hw]
   rw[hwi]
   refine ko (And.intro @qK_ @e1) ?_
   first|with_reducible refine ks [] @qK_ ?_|refine kp @qK_ ?_
   exact Again.mk ⟨i+1,S,G,X⟩ (by show l.length - (i+1)<l.length - i;omega) ⟨hlt,by rw[hnx,hst],hP,rfl,hN,Nat.le_succ_of_le hln.1,fun k=>Nat.le_succ_of_le (hln.2 k)⟩ rfl rfl
  |some k=>
   have hk:=(qD_ hw).1
   have hwi:xd_ f.dir=(k:Int):=by unfold xd_;rw[hw]
   have e1:decide ((k:Int)<0)=false:=decide_eq_false (by omega)
   rw[hwi]
   refine ko (And.intro @qK_ (And.intro @e1 (And.intro @ix (And.intro @rd1 (@l1))))) ?_
   refine Ow.callFV rfl Tryz.call85 (fun w' hw'=>Qd_ f.name w' hfb.1) ?_
   cases hf:qp_ f.name with
   |false=>
    have hst:zR_ S f=S:=by unfold zR_;rw[hw];simp only[hf,Bool.false_eq_true,false_and, ↓reduceIte]
    refine ko @qK_ ?_
    first|with_reducible refine ks [] @qK_ ?_|refine kp @qK_ ?_
    exact Again.mk ⟨i+1,S,G,X⟩ (by show l.length - (i+1)<l.length - i;omega) ⟨hlt,by rw[hnx,hst],hP,rfl,hN,Nat.le_succ_of_le hln.1,fun k=>Nat.le_succ_of_le (hln.2 k)⟩ rfl rfl
   |true=>
    cases hm:decide ((1048576:Int)< (f.data.length:Int)) with
    |true=>
     have hm':=of_decide_eq_true hm
     have hst:zR_ S f=S:=by unfold zR_;rw[hw];simp only[hf,true_and];rw[if_neg (by omega)]
     refine ko (And.intro @qK_ (And.intro @ix (And.intro @rd1 (And.intro @l2 (@hm))))) ?_
     first|with_reducible refine ks [] @qK_ ?_|refine kp @qK_ ?_
     exact Again.mk ⟨i+1,S,G,X⟩ (by show l.length - (i+1)<l.length - i;omega) ⟨hlt,by rw[hnx,hst],hP,rfl,hN,Nat.le_succ_of_le hln.1,fun k=>Nat.le_succ_of_le (hln.2 k)⟩ rfl rfl
    |false=>
     have hm':=of_decide_eq_false hm
     have hst:zR_ S f=zZ_ (k0_ S ⟨f.data,f.data.length⟩) k ⟨KK_ (S.dir k).seen (f.name,S.files.length),(S.dir k).stl,(S.dir k).pend⟩:=by unfold zR_;rw[hw];simp only[hf,true_and];rw[if_pos (by omega)]
     refine ko (And.intro @qK_ (And.intro @ix (And.intro @rd1 (And.intro @l2 (@hm))))) ?_
     first|with_reducible refine ks [4,7,8] @qK_ ?_|refine kp @qK_ ?_
     refine Cw.regionG [G.bd,rb] [21] 22 (by kernel_rfl) rfl ?_
     simp only[List.replicate_succ,List.replicate_zero]
     refine OwG.run [0,1,2,3,4,5,6,7,8,9,10,11,12,13,14,15] [true,true,true,true,true,true,true,true,true,true,true,true,true,true,true,true,false,false,false,false,false,false] 6 rfl (by kernel_rfl) (by kernel_rfl) fun k hk=> ?_
     simp only[zo_, ↓zi_, ↓zd_, ↓zz_, ↓zy_,ze_]
     simp(disch:=(first|assumption|omega| (simp only[KC_,XQ_,UInt64.reduceToNat];try omega))) only[↓Sx.S0,Sx.S1,Tryz.fx,qK_,Nat.reduceAdd,Nat.reducePow,Int.reducePow,Nat.reduceBEq, ↓reduceIte,UInt8.reduceToNat,UInt16.reduceToNat,UInt32.reduceToNat,UInt64.reduceToNat,Int.reduceToNat,Md.next_sofnil,hrdd,ix,rd1,l2]
     (with_reducible refine hk _ _ _ ?_);clear hk k
     refine OwG.one 16 _ (by kernel_rfl) rfl ?_
     refine Ow.build (.agg (fdC ⟨f.data,(f.data.length:Int)⟩).toArray) rfl (amR_ ⟨f.data,(f.data.length:Int)⟩) ?_
     with_reducible refine Ow.nil ?_
     refine⟨(fun _ _=>rfl), ?_⟩
     simp only[List.set_cons_zero,List.set_cons_succ,jH_,v7_,v8_]
     refine OwG.one 17 _ (by kernel_rfl) rfl ?_
     refine Ow.buildSlice (e:=141) (fdC ⟨f.data,(f.data.length:Int)⟩).toArray rfl rfl (zV_ Tryz.underlying58 ald_ zrFd (by decide) (q7_ _)) fun bp hbp hwp=> ?_
     have hFf:Gr X 141 2 G.f S.files.length ((S.files.map xO_).map fdC).flatten:=by
      have:=hP.files
      unfold FdP at this
      rwa [List.length_map] at this
     have hne:slB G.f≠some G.bd:=fun e=>by
      obtain⟨arr,ha⟩:=kC_ hFf e
      rw[hP.disk] at ha
      have:=congrArg tyO (Option.some.inj ha)
      rw[xc_] at this
      exact wj_ this
     have hN2:New w.heap.size (X++ [(bp,Obj.cells (fdC ⟨f.data,(f.data.length:Int)⟩).toArray 141 (0,0))]):=hN.app ⟨hwp,trivial⟩
     have hd2:Sx.look (X++ [(bp,Obj.cells (fdC ⟨f.data,(f.data.length:Int)⟩).toArray 141 (0,0))]) G.bd=some (dcO G S):=zl_ hP.disk
     with_reducible refine Ow.nil ?_
     refine⟨(fun r hr=>by simp only[List.mem_cons,List.not_mem_nil,or_false] at hr;rcases hr with rfl|rfl;exact(za_ hd2).trans hrdd.symm;exact(rda _ hN2).trans rd1.symm), ?_⟩
     simp only[List.set_cons_zero,List.set_cons_succ,jH_,v7_,v8_]
     refine OwG.one 18 _ (by kernel_rfl) rfl ?_
     refine Ow.appendG (e:=141) (k:=1) (new:=fdC ⟨f.data,(f.data.length:Int)⟩) G.f rfl rfl rfl Tryz.underlying58 ald_ (by kernel_rfl) zrFd (by rw[JB_,List.size_toArray,q7_]) Tryz.underlying58 (by intro k h;cases h) hFf.app (fun w' hw'=>AppX.one1 (hw'.has bp (.cells (fdC ⟨f.data,(f.data.length:Int)⟩).toArray 141 (0,0)) (by simp)) (q7_ _) (ajt_ _)) (q7_ _) (by omega) (fun v2 L5 hB5 _ hg5 hs5=> ?_)
     have hd5:Sx.look L5 G.bd=some (dcO G S):=hg5.look _ _ hne hd2
     have rd5:=za_ (w0:=w) hd5
     have hN5:New w.heap.size L5:=New.of_le fun c hc=>by
      rcases hg5.new c hc with h| ⟨-,h⟩
      ·exact hN2.le c h
      ·exact h
     have st5:=fun x=>abh_ G S x hB5.cell
     with_reducible refine Ow.nil ?_
     refine⟨(fun r hr=>by simp only[List.mem_cons,List.not_mem_nil,or_false] at hr;rcases hr with rfl|rfl;exact rd5.trans (za_ hd2).symm;exact(rda _ hN5).trans (rda _ hN2).symm), ?_⟩
     simp only[List.set_cons_zero,List.set_cons_succ,jH_,v7_,v8_]
     refine OwG.rest [19,20,21] rfl (by kernel_rfl) (by kernel_rfl) ?_
     simp only[zo_, ↓zi_, ↓zd_, ↓zz_, ↓zy_,ze_]
     refine kq @qK_ ?_
     refine Ow.store rfl rfl rfl (ke (And.intro @qK_ (And.intro @hd5 (@st5)))) ?_
     refine ko @qK_ ?_
     have hP6:DcP (setB L5 G.bd (dcO {G with f:=v2} S)) {G with f:=v2} (k0_ S ⟨f.data,f.data.length⟩):=by
      refine DcP.updF (G:=G) hP (v:=v2) (fl:=S.files++ [⟨f.data,f.data.length⟩]) (fun b o hb hf ho=>by rw[zb_ (Ne.symm hb)];exact hg5.look _ _ hf (zl_ ho)) (zw_ hd5) ?_
      have hG7:FdP L5 v2 (S.files++ [⟨f.data,f.data.length⟩]):=by
       have hf0:xO_ ⟨f.data,f.data.length⟩=⟨f.data,(f.data.length:Int)⟩:=rfl
       unfold FdP
       simpa [hf0] using hB5
      exact Gr.keepTy hG7 hd5 (by rw[xc_];exact wj_) fun b o hb ho=>by rw[zb_ (Ne.symm hb)];exact ho
     have hN6:New w.heap.size (setB L5 G.bd (dcO {G with f:=v2} S)):=New.of_le fun c hc=>hN5.le c (by rwa [zQ_] at hc)
     generalize setB L5 G.bd (dcO {G with f:=v2} S)=L6 at*
     obtain⟨G2,hG2⟩: ∃G2:DcG,G2={G with f:=v2}:=⟨_,rfl⟩
     rw[←hG2] at hP6
     have hbd2:G.bd=G2.bd:=by rw[hG2]
     rw[hbd2]
     clear hg5 hs5 hB5 st5 hd5 rd5 hN5 hd2 hN2
     have rd6:=za_ (w0:=w) hP6.disk
     have ls6:=fun n=>xj_ G2 (k0_ S ⟨f.data,f.data.length⟩) hk n
     have ln6: ∀m,Jv_ (.sl m) G2.f=some (vi ((S.files.length+1:Nat):Int)):=fun m=>by
      have:=(hP6.files).len m
      rw[List.length_map] at this
      rw[this]
      show some (vi (((S.files++ [_]).length:Nat):Int))=_
      rw[List.length_append];rfl
     have es: ((S.files.length+1:Nat):Int) - 1=(S.files.length:Int):=by omega
     have rdb6:=rda _ hN6
     have hsl6:=hln.2 k
     first|with_reducible refine ks [4,8] @qK_ ?_|refine kp @qK_ ?_
     refine Cw.regionG [G2.bd,rb] [26] 27 (by kernel_rfl) rfl ?_
     simp only[List.replicate_succ,List.replicate_zero]
     refine OwG.run [0,1,2,3,4,5,6,7,8,9,10,11,12,13,14,15,16,17,18,19,22,23] [true,true,true,true,true,true,true,true,true,true,true,true,true,true,true,true,true,true,true,true,false,false,true,true,false,false,false] 5 rfl (by kernel_rfl) (by kernel_rfl) fun k hk=> ?_
     simp only[zo_, ↓zi_, ↓zd_, ↓zz_, ↓zy_,ze_]
     simp(disch:=(first|assumption|omega| (simp only[KC_,XQ_,UInt64.reduceToNat];try omega))) only[↓Sx.S0,Sx.S1,Tryz.fx,qK_,Nat.reduceAdd,Nat.reducePow,Int.reducePow,Nat.reduceBEq, ↓reduceIte,UInt8.reduceToNat,UInt16.reduceToNat,UInt32.reduceToNat,UInt64.reduceToNat,Int.reduceToNat,Md.next_sofnil,rd6,ls6,ix,rdb6,l1,ln6,es]
     (with_reducible refine hk _ _ _ ?_);clear hk k
     refine OwG.one 20 _ (by kernel_rfl) rfl ?_
     refine Ow.build (.agg (ndC (z7_ (f.name,S.files.length))).toArray) rfl (Kh_ (f.name,S.files.length)) ?_
     with_reducible refine Ow.nil ?_
     refine⟨(fun _ _=>rfl), ?_⟩
     simp only[List.set_cons_zero,List.set_cons_succ,jH_,v7_,v8_]
     refine OwG.one 21 _ (by kernel_rfl) rfl ?_
     refine Ow.callC rfl rfl Tryz.call86 (fun w' hw'=>Xa_ (G2.s k) (S.dir k).seen (f.name,S.files.length) w' (Gr.slW (hP6.seen k hk) (fun b o h=>hw'.has b o (zp_ h)) zP_) (by omega)) (fun B7 v7 D7 hA7 hB7 hN7 hS7=> ?_)
     have hN7':=hN7.mono hB7
     have hN8:=hN6.app hN7'
     have hd7:Sx.look (L6++D7) G2.bd=some (dcO G2 (k0_ S ⟨f.data,f.data.length⟩)):=zl_ hP6.disk
     have st7:=fun x=>X4_ G2 (k0_ S ⟨f.data,f.data.length⟩) hk x (afj_ hS7)
     with_reducible refine Ow.nil ?_
     refine⟨(fun r hr=>by simp only[List.mem_cons,List.not_mem_nil,or_false] at hr;rcases hr with rfl|rfl;exact(za_ hd7).trans rd6.symm;exact(rda _ hN8).trans rdb6.symm), ?_⟩
     simp only[List.set_cons_zero,List.set_cons_succ,jH_,v7_,v8_]
     refine OwG.rest [24,25,26] rfl (by kernel_rfl) (by kernel_rfl) ?_
     simp only[zo_, ↓zi_, ↓zd_, ↓zz_, ↓zy_,ze_]
     refine kq @qK_ ?_
     refine Ow.store rfl rfl rfl (ke (And.intro @qK_ (And.intro @hd7 (@st7)))) ?_
     refine ko @qK_ ?_
     refine Cw.world fun wz hwz=> ?_
     have hnd:=hwz.nodup
     clear hwz wz
     rw[zQ_] at hnd
     obtain⟨Xs,hXs,hGs⟩:=hS7
     have hS8:NdP (L6++D7) v7 (KK_ (S.dir k).seen (f.name,S.files.length)):=hGs.keep fun b o _ ho=>jV_ hnd (List.mem_append_right _ (hXs _ (zp_ ho)))
     have hP8:DcP (setB (L6++D7) G2.bd (dcO (jQ_ G2 k v7) (k0_ S ⟨f.data,f.data.length⟩))) (jQ_ G2 k v7) (zR_ S f):=by
      rw[hst]
      exact hP6.updS hk (fun b o hb ho=>by rw[zb_ (Ne.symm hb)];exact zl_ ho) (zw_ hd7) (Gr.keepTy hS8 hd7 (by rw[xc_];exact v6_) fun b o hb ho=>by rw[zb_ (Ne.symm hb)];exact ho)
     first|with_reducible refine ks [] @qK_ ?_|refine kp @qK_ ?_
     exact Again.mk ⟨i+1,zR_ S f,jQ_ G2 k v7,setB (L6++D7) G2.bd (dcO (jQ_ G2 k v7) (k0_ S ⟨f.data,f.data.length⟩))⟩ (by show l.length - (i+1)<l.length - i;omega) ⟨hlt,hnx.symm,hP8,rfl,New.of_le (fun c hc=>hN8.le c (by rwa [zQ_] at hc)),hsl⟩ rfl rfl
 ·obtain rfl:i=l.length:=by omega
  have d1:decide ((l.length:Int)< (l.length:Int))=false:=decide_eq_false (by omega)
  have hT:S=l.foldl zR_ (Zp_ quota):=by rw[hS];unfold ofN;rw[List.take_length]
  have hpe:=Ko_ l (Zp_ quota) (fun _=>⟨rfl,rfl⟩)
  rw[←hT] at hpe
  have hof:ofD quota l=setV S [0,1,2]:=by rw[hT];rfl
  rw[hof]
  clear hS hT hof
  rw[←arl_ hpe]
  first|with_reducible refine ks [12] (And.intro @qK_ (And.intro @ln (@d1))) ?_|refine kp (And.intro @qK_ (And.intro @ln (@d1))) ?_
  refine Cw.loopG (G:=OcG) [90,91,94,95,96,97,98,99,100,101,102,103,104,105,106,92,93,8] (fun g=> [(8,vi g.i)]) (fun g=>g.X) (fun g=>g.i≤3∧g.S=KM_ S g.i∧DcP g.X g.G g.S∧g.G.bd=G.bd∧New w.heap.size g.X) (fun g=>3 - g.i) ⟨0,S,G,X⟩ rfl rfl ?_ ?_
  ·exact⟨Nat.zero_le _,(arg_ S).symm,hP,rfl,hN⟩
  intro g j hg
  refine kv ?_
  clear hP hN hbd
  obtain⟨k,S2,G2,X2⟩:=g
  simp only at hg ⊢
  obtain⟨hk,hS2,hP,hbd,hN⟩:=hg
  rw[←hbd]
  by_cases hlt:k<3
  ·have d2:decide ((k:Int)<3)=true:=decide_eq_true (by omega)
   have rdd:=za_ (w0:=w) hP.disk
   have lds:=fun n=>xj_ G2 S2 hlt n
   have st:=fun x=>KI_ G2 S2 hlt x (Gr.cell (hP.seen k hlt))
   have hk1: ∀j,((KM_ S (k+1)).dir j).seen=(S2.dir j).seen∧((KM_ S (k+1)).dir j).pend=(S2.dir j).pend∧(j≠k→((KM_ S (k+1)).dir j).stl=(S2.dir j).stl)∧((KM_ S (k+1)).dir k).stl=(S2.dir k).seen:=fun j=>by
    rw[hS2];exact ajr_ hpe k j
   have hfi: (KM_ S (k+1)).files=S2.files:=by rw[hS2];rfl
   have hdc:dcO (Zi_ G2 k (G2.s k)) S2=dcO (Zi_ G2 k (G2.s k)) (KM_ S (k+1)):=by rw[hS2];rfl
   first|with_reducible refine ks [] (And.intro @qK_ @d2) ?_|refine kp (And.intro @qK_ @d2) ?_
   refine Cw.regionO [0,1,2,3,4,5,6,7,9,10,8,11,12,13] [13] rfl (by kernel_rfl) (by kernel_rfl) ?_
   simp only[zo_, ↓zi_, ↓zd_, ↓zz_, ↓zy_,ze_]
   refine kq (And.intro @qK_ (And.intro @rdd (@lds))) ?_
   refine Ow.store rfl rfl rfl (by simp(disch:=(first|assumption|omega| (simp only[KC_,XQ_,UInt64.reduceToNat];try omega))) only[↓Sx.S0,Sx.S1,Tryz.fx,qK_,Nat.reduceAdd,Nat.reducePow,Int.reducePow,Nat.reduceBEq, ↓reduceIte,UInt8.reduceToNat,UInt16.reduceToNat,UInt32.reduceToNat,UInt64.reduceToNat,Int.reduceToNat,hP.disk,st];rfl) ?_
   refine ko @qK_ ?_
   rw[hdc]
   first|with_reducible refine ks [] @qK_ ?_|refine kp @qK_ ?_
   refine Again.mk ⟨k+1,KM_ S (k+1),Zi_ G2 k (G2.s k),setB X2 G2.bd (dcO (Zi_ G2 k (G2.s k)) (KM_ S (k+1)))⟩ (by show 3 - (k+1)<3 - k;omega) ⟨hlt,rfl, ?_,rfl,New.of_le (fun c hc=>hN.le c (by rwa [zQ_] at hc))⟩ rfl rfl
   refine hP.upd rfl (fun b o hb ho=>by rw[zb_ (Ne.symm hb)];exact ho) (zw_ hP.disk) (fun j hj=> .inl ⟨rfl,(hk1 j).1⟩) (fun j hj=> ?_) (fun j hj=> .inl ⟨rfl,(hk1 j).2.1⟩) ⟨rfl,hfi⟩
   by_cases e:j=k
   ·subst e
    right
    rw[(hk1 j).2.2.2,show(Zi_ G2 j (G2.s j)).t j=G2.s j by simp[Zi_]]
    exact Gr.keepTy (hP.seen j hj) hP.disk (by rw[xc_];exact v6_) fun b o hb ho=>by rw[zb_ (Ne.symm hb)];exact ho
   ·exact .inl ⟨by simp[Zi_,e],(hk1 j).2.2.1 e⟩
  ·obtain rfl:k=3:=by omega
   have d2:decide (((3:Nat):Int)<3)=false:=rfl
   first|with_reducible refine ks [] (And.intro @qK_ @d2) ?_|refine kp (And.intro @qK_ @d2) ?_
   refine⟨_,(ke @qK_), ?_⟩
   rw[←hS2]
   exact⟨Ext.of_new hN,G2,rfl,hP⟩
end Go.Proofs
end
section
open Go Go.Proofs Go.Sx Go.StP
namespace Go.Proofs
set_option maxRecDepth 10000
set_option maxHeartbeats 1000000
set_option linter.unusedSimpArgs false
theorem aoe_ {c d:CallL} (h:kz_ c=kz_ d) (h1:c.kind=1):d.kind=1∧c.a=d.a:=by
 unfold kz_ at h
 rw[if_neg (by omega),if_pos h1] at h
 by_cases d0:d.kind=0
 ·rw[if_pos d0] at h;cases h
 ·rw[if_neg d0] at h
  by_cases d1:d.kind=1
  ·rw[if_pos d1] at h
   exact⟨d1,by have:=congrArg CallL.a h;exact this⟩
  ·rw[if_neg d1] at h;cases h
theorem al0_ {pl qd:List CallL} (h:pl.map kz_=qd.map kz_) {i:Nat} (hi:i<qd.length):kz_ (pl.getD i ⟨0,[],[],0⟩)=kz_ (qd.getD i wa_):=by
 have hl:pl.length=qd.length:=by have:=congrArg List.length h;simpa using this
 have:=congrArg (fun l=>l[i]?) h
 simp only[List.getElem?_map] at this
 rw[List.getD_eq_getElem?_getD,List.getD_eq_getElem?_getD]
 rw[List.getElem?_eq_getElem (by omega),List.getElem?_eq_getElem hi] at this ⊢
 simpa using this
theorem am1_ {S:DiskL} {N:Nat} (h:DkN N S) (k i:Nat): (xt_ S k i).length≤N:=by
 have h1:=(ad5_ ((S.dir k).pend.take i) (h k).stlB fun c hc=>(h k).pendB c (List.mem_of_mem_take hc)).2
 have h2:=(h k).stl
 unfold xt_
 rw[List.length_take] at h1
 omega
theorem adI_ {E:TypeId} {rest:List Value} {l:List NdR} (k:Nat) (hk:k<l.length) (n:Nat):zk_ (some (false,n)) (some (j4_ ndC E rest l)) (k*2+1)=some (vi (l.getD k nd0).n):=by
 obtain⟨A,C,e,hA,-⟩:=ke_ (z:=nd0) (rest:=rest) zP_ hk
 unfold j4_
 rw[e]
 have:=zK_ (A++ [vs (l.getD k nd0).s]) C (vi (l.getD k nd0).n) n E (0,0) (o:=k*2+1) (by rw[List.length_append,hA];rfl)
 rw[List.append_assoc] at this
 exact this
def FilB (S:DiskL):Prop:= ∀n,n<S.files.length→(zx_ S n).data.length≤1048576∧(zx_ S n).stl≤ (zx_ S n).data.length
structure CrG where
 k:Nat
 at_:Nat
 S:DiskL
 G:DcG
 X:zc_
structure CkG where
 at_:Nat
 n:Nat
structure CiG where
 i:Nat
 v:Value
 X:zc_
set_option linter.defProp false
def qB_:=And.intro (And.intro (And.intro (@zg_) (@zf_)) (And.intro (@kT_) (And.intro (@kJ_) (@x2_)))) (And.intro (And.intro (@kQ_) (And.intro (@kX_) (@Qp_))) (And.intro (@QH_) (And.intro (@Qm_) (@wP_))))
theorem adp_ (X0:zc_) (G0:DcG) (S0:DiskL) (N:Nat) (pv:Value) (pl:List UInt16) (w:World) (hX: ∀p,p∈X0→w.heap[p.1]? =some p.2) (hn: (keys X0).Nodup) (hP0:DcP X0 G0 S0) (ok:DkOk S0) (okc:DkOk (xq_ S0 pl)) (hH:j7_ S0) (hN:DkN N S0) (hN9:N<900000) (hp:PkS w pv pl) (hpb:PkB w X0 pl pv) (hpl:pl.length<1000000):
  Rets Tryz.prog 31 #[vp G0.bd 0,pv] w (XS w X0 (fun _ D=> ∃G',G'.bd=G0.bd∧DcP D G' (xq_ S0 pl))):=by
 have lnp:=hp.len
 refine Rets.enterX Tryz.func31 rfl (rs:= []) Tryz.results31 Tryz.ntmps31 hX hn ?_
 refine kf ?_
 have hpk:pl= []∨ ∃rb off arr E fz,RowS 1 u16C 0 w pv pl rb off arr E fz∧rb<w.heap.size∧rb∉keys X0:=by
  by_cases h0:pl= []
  ·exact .inl h0
  ·right
   obtain⟨b',off,c,arr,E,fz,hr,hc,⟨rfl,rfl,rfl⟩ | ⟨rfl,hh,-⟩⟩:=hp.resolve_right fun e=>h0 e.1
   ·exact absurd rfl h0
   ·exact⟨b',off,arr,E,fz,hr,(hpb h0 b' rfl).1,(hpb h0 b' rfl).2⟩
 first|with_reducible refine ks [7,25,28,30,31,1000006,1000027] @qB_ ?_|refine kp @qB_ ?_
 refine Cw.loopG (G:=CrG) [14,15,18,19,20,21,22,6,7,23,24,25,26,27,28,29,30,31,32,33,34,35,36,37,38,39,40,4,41,42,43,44,8,9,45,46,47,50,51,52,53,54,55,56,57,58,48,49,59,60,61,62,63,64,65,66,67,68,69,16,17,5] (fun g=> [(4,vi g.at_),(5,vi g.k)]) (fun g=>g.X) (fun g=>g.k≤3∧(g.S,pl.drop g.at_)=qa_ (S0,pl) g.k∧g.at_≤pl.length∧DcP g.X g.G g.S∧g.G.bd=G0.bd∧Ext w X0 g.X) (fun g=>3 - g.k) ⟨0,0,S0,G0,X0⟩ rfl rfl ?_ ?_
 ·exact⟨Nat.zero_le _,rfl,Nat.zero_le _,hP0,rfl,Ext.refl w X0⟩
 intro g j hg
 refine kv ?_
 obtain⟨k,at_,S,G,X⟩:=g
 simp only at hg ⊢
 obtain⟨hk,hS,hat,hP,hbd,hE⟩:=hg
 rw[←hbd]
 by_cases hlt:k<3
 ·have d1:decide ((k:Int)<3)=true:=decide_eq_true (by omega)
  have hdk:S.dir k=S0.dir k:=by
   have:=congrArg (fun q=>q.1.dir k) hS
   simp only at this
   rw[this]
   exact QA_ (S0,pl) (Nat.le_refl k)
  have hSN:DkN N S:=by
   have:=x6_ (q:=(S0,pl)) hN k
   rw[←hS] at this;exact this
  have hnx:qa_ (S0,pl) (k+1)=Kq_ (S,pl.drop at_) k:=by show Kq_ (qa_ (S0,pl) k) k=_;rw[←hS]
  obtain⟨qd,hqn,hGq⟩:=hP.pend k hlt
  have hql:qd.length=(S.dir k).pend.length:=by have:=congrArg List.length hqn;simpa using this
  have hpn:=(hSN k).stl
  have lnq: ∀m,Jv_ (.sl m) (G.p k)=some (vi ((S.dir k).pend.length:Int)):=fun m=>by have:=hGq.len m;rw[List.length_map,hql] at this;exact this
  have rdd:=za_ (w0:=w) hP.disk
  have lds:=fun n=>xj_ G S hlt n
  have ldt:=fun n=>alO_ G S hlt n
  have ldp:=fun n=>afl_ G S hlt n
  first|with_reducible refine ks [7,1000006] (And.intro @qB_ @d1) ?_|refine kp (And.intro @qB_ @d1) ?_
  refine Cw.cutO (G:=CkG) [4,7,23,24,25,26,27,28,29,30,31,32,33,34,35,36,37,38,39,40] (fun g=> [(4,vi g.at_),(7,vi g.n)]) (fun g=>X) (fun g=>g.n=vn_ (pl.drop at_) (S.dir k).pend.length∧pl.drop g.at_=(pl.drop at_).drop 1∧g.at_≤pl.length) ?_ ?_
  ·by_cases hal:at_<pl.length
   ·have d2:decide ((at_:Int)< (pl.length:Int))=true:=decide_eq_true (by omega)
    obtain h0| ⟨rb,off,arr,E,fz,hr,hrb,hrn⟩:=hpk
    ·rw[h0] at hal;simp at hal
    have rda:zA_ w X rb=some (.cells arr E fz):=hE.old (hr.has (by omega)) hrn
    have ix:=hr.idx false at_ hal
    have ld:=fun n=>adl_ hr hal n
    have hdr:pl.drop at_=pl.getD at_ 0::pl.drop (at_+1):=by
     rw[List.drop_eq_getElem_cons hal,List.getD_eq_getElem?_getD,List.getElem?_eq_getElem hal];rfl
    generalize pl.getD at_ 0=x at*
    have em: (x.toNat:Int)% (((S.dir k).pend.length:Int)+1)=((x.toNat% ((S.dir k).pend.length+1):Nat):Int):=by rw[Int.natCast_emod];rfl
    have hx:=x.toNat_lt
    first|with_reducible refine ks [7] (And.intro @qB_ (And.intro @lnp (@d2))) ?_|refine kp (And.intro @qB_ (And.intro @lnp (@d2))) ?_
    refine Cw.regionS [rb,G.bd] [0,1,2,5,6,7,3,4,8,9,10,11,12] [] (by kernel_rfl) (by kernel_rfl) (by kernel_rfl) ?_
    simp only[zo_, ↓zi_, ↓zd_, ↓zz_, ↓zy_,ze_]
    refine kq (And.intro @qB_ (And.intro @ix (And.intro @rda (And.intro @ld (And.intro @rdd (And.intro @ldp (And.intro @lnq (@em)))))))) ?_
    first|with_reducible refine ks [] @qB_ ?_|refine kp @qB_ ?_
    exact CutO.mk ⟨at_+1,x.toNat% ((S.dir k).pend.length+1)⟩ ⟨by rw[hdr];rfl,by rw[hdr];rfl,hal⟩ rfl rfl
   ·have d2:decide ((at_:Int)< (pl.length:Int))=false:=decide_eq_false (by omega)
    have hdr:pl.drop at_= []:=List.drop_eq_nil_of_le (by omega)
    first|with_reducible refine ks [] (And.intro @qB_ (And.intro @lnp (@d2))) ?_|refine kp (And.intro @qB_ (And.intro @lnp (@d2))) ?_
    exact CutO.mk ⟨at_,0⟩ ⟨by rw[hdr];rfl,by rw[hdr];rfl,hat⟩ rfl rfl
  ·intro g j hg
   refine kv ?_
   obtain⟨at2,m⟩:=g
   simp only at hg ⊢
   obtain⟨hm,hat2,hatl⟩:=hg
   have hmp:=JN_ (pl.drop at_) (S.dir k).pend.length
   rw[←hm] at hmp
   first|with_reducible refine ks [12] (And.intro @qB_ (And.intro @rdd (@ldt))) ?_|refine kp (And.intro @qB_ (And.intro @rdd (@ldt))) ?_
   refine Cw.loopG (G:=CiG) [45,46,47,50,51,52,53,54,55,56,57,58,8,48,49,9] (fun g=> [(8,g.v),(9,vi g.i)]) (fun g=>g.X) (fun g=>g.i≤m∧DcP g.X G S∧NdP g.X g.v (xt_ S k g.i)∧KcP g.X (G.p k) qd∧Ext w X0 g.X) (fun g=>m - g.i) ⟨0,G.t k,X⟩ rfl rfl ?_ ?_
   ·refine⟨Nat.zero_le _,hP, ?_,hGq,hE⟩
    show NdP X (G.t k) (xt_ S k 0)
    exact hP.stl k hlt
   intro g j hg
   refine kv ?_
   clear hP hGq hE rdd
   obtain⟨i,v,X⟩:=g
   simp only at hg ⊢
   obtain⟨hi,hP,hNv,hGq,hE⟩:=hg
   have rdd:=za_ (w0:=w) hP.disk
   by_cases hit:i<m
   ·have d2:decide ((i:Int)< (m:Int))=true:=decide_eq_true (by omega)
    have hip:i< (S.dir k).pend.length:=by omega
    have hiq:i< (qd.map Vc_).length:=by rw[List.length_map];omega
    obtain⟨rq,rest,cq,hv,hlk,-⟩:=Gr.upd hGq vN_ hiq kc0
    have rdq:=za_ (w0:=w) hlk
    have ixq:zO_ (.sl (true,4)) (G.p k) (some (i:Int))=some (vp rq (i*4)):=by rw[hv,zY_ _ _ _ _ _ _ (by omega)];simp
    have ldq:=Ze_ (E:=150) (rest:=rest) (z:=kc0) vN_ i hiq
    rw[aq4_] at ldq
    have hnn:=al0_ hqn hip
    have hok:=(hH k).2 i (by rw[←hdk];exact hip)
    rw[←hdk] at hok
    have hfx:=VU_ hip
    have hdn:qr_ (xt_ S k i) (qd.getD i ⟨0,[],[],0⟩)=xt_ S k (i+1):=by rw[hfx,←J5_,hnn,J5_]
    have hoq: (qd.getD i ⟨0,[],[],0⟩).kind=1→zC_ (xt_ S k i) (qd.getD i ⟨0,[],[],0⟩).a≠none:=fun h=>by
     obtain⟨h1,h2⟩:=aoe_ hnn h
     rw[h2]
     exact(hok h1).1
    have hfl:=am1_ hSN k i
    generalize qd.getD i ⟨0,[],[],0⟩=c at*
    first|with_reducible refine ks [12] (And.intro @qB_ (And.intro @d2 (And.intro @rdd (And.intro @ldp (And.intro @ixq (And.intro @rdq (@ldq))))))) ?_|refine kp (And.intro @qB_ (And.intro @d2 (And.intro @rdd (And.intro @ldp (And.intro @ixq (And.intro @rdq (@ldq))))))) ?_
    refine Ow.callC rfl rfl Tryz.call91 (fun w' hw'=>Wl_ v (xt_ S k i) c w' (Gr.slW hNv (fun b o h=>hw'.has b o (zp_ h)) zP_) (by omega) hoq) (fun B6 v6 D6 hA6 hB6 hN6 hS6=> ?_)
    have hN6':=hN6.mono hB6
    rw[hdn] at hS6
    refine ko @qB_ ?_
    refine Cw.world fun wz hwz=> ?_
    have hnd:=hwz.nodup
    clear hwz wz
    obtain⟨Xs,hXs,hGs⟩:=hS6
    first|with_reducible refine ks [] @qB_ ?_|refine kp @qB_ ?_
    have hE6:Ext w X0 (X++D6):=⟨fun c hc=>by
     rw[zt_] at hc
     rcases List.mem_append.1 hc with hc|hc
     ·exact hE.new c hc
     ·exact .inr (hN6'.le c hc),fun c hc=>by rw[zt_];exact List.mem_append_left _ (hE.all c hc)⟩
    have hNv6:NdP (X++D6) v6 (xt_ S k (i+1)):=hGs.keep fun b o _ ho=>jV_ hnd (List.mem_append_right _ (hXs _ (zp_ ho)))
    exact Again.mk ⟨i+1,v6,X++D6⟩ (by show m - (i+1)<m - i;omega) ⟨hit,hP.mono fun b o h=>zl_ h,hNv6,hGq.keep (fun b o _ h=>zl_ h),hE6⟩ rfl rfl
   ·obtain rfl:i=m:=by omega
    have d2:decide ((i:Int)< (i:Int))=false:=decide_eq_false (by omega)
    have hcl:=Gr.cell hNv
    have st1:=fun x=>X4_ G S hlt x hcl
    have st2:=fun x=>KI_ (jQ_ G k v) S hlt x hcl
    have st3:=fun x=>XM_ (Zi_ (jQ_ G k v) k v) S hlt x (q:= .slice none 0 0) ⟨rfl,rfl⟩
    have hlB:Sx.look (setB X G.bd (dcO (jQ_ G k v) S)) G.bd=some (dcO (jQ_ G k v) S):=zw_ hP.disk
    have hlC:Sx.look (setB (setB X G.bd (dcO (jQ_ G k v) S)) G.bd (dcO (Zi_ (jQ_ G k v) k v) S)) G.bd=some (dcO (Zi_ (jQ_ G k v) k v) S):=zw_ hlB
    ((try with_reducible refine Cw.go [] ?_);(try simp(disch:=(first|assumption|omega| (simp only[KC_,XQ_,UInt64.reduceToNat];try omega))) only[↓Sx.S0,Sx.S1,Tryz.fx,qB_,Nat.reduceAdd,Nat.reducePow,Int.reducePow,Nat.reduceBEq, ↓reduceIte,UInt8.reduceToNat,UInt16.reduceToNat,UInt32.reduceToNat,UInt64.reduceToNat,Int.reduceToNat,d2,hP.disk,hlB,hlC,st1,st2,st3,jE_]))
    have hk3: ∀b o,b≠G.bd→Sx.look X b=some o→Sx.look (setB (setB (setB X G.bd (dcO (jQ_ G k v) S)) G.bd (dcO (Zi_ (jQ_ G k v) k v) S)) G.bd (dcO (qX_ (Zi_ (jQ_ G k v) k v) k (.slice none 0 0)) S)) b=some o:=fun b o hb ho=>by
     rw[zb_ (Ne.symm hb),zb_ (Ne.symm hb),zb_ (Ne.symm hb)];exact ho
    have hNv3:=Gr.keepTy hNv hP.disk (by rw[xc_];exact v6_) hk3
    refine Again.mk ⟨k+1,at2,zZ_ S k ⟨xt_ S k i,xt_ S k i,[]⟩,qX_ (Zi_ (jQ_ G k v) k v) k (.slice none 0 0),setB (setB (setB X G.bd (dcO (jQ_ G k v) S)) G.bd (dcO (Zi_ (jQ_ G k v) k v) S)) G.bd (dcO (qX_ (Zi_ (jQ_ G k v) k v) k (.slice none 0 0)) S)⟩ (by show 3 - (k+1)<3 - k;omega) ⟨hlt, ?_,hatl, ?_,rfl,hE.setB.setB.setB⟩ rfl rfl
    ·rw[hnx]
     unfold Kq_
     simp only
     rw[←hm,hat2]
    ·refine hP.upd rfl hk3 (zw_ hlC) (fun j hj=> ?_) (fun j hj=> ?_) (fun j hj=> ?_) ⟨rfl,rfl⟩
     ·by_cases e:j=k
      ·subst e
       right
       rw[zM_,show(qX_ (Zi_ (jQ_ G j v) j v) j (.slice none 0 0)).s j=v by simp[qX_,Zi_,jQ_]]
       exact hNv3
      ·exact .inl ⟨by simp[qX_,Zi_,jQ_,e],by rw[z4_ _ _ e]⟩
     ·by_cases e:j=k
      ·subst e
       right
       rw[zM_,show(qX_ (Zi_ (jQ_ G j v) j v) j (.slice none 0 0)).t j=v by simp[qX_,Zi_,jQ_]]
       exact hNv3
      ·exact .inl ⟨by simp[qX_,Zi_,jQ_,e],by rw[z4_ _ _ e]⟩
     ·by_cases e:j=k
      ·subst e
       exact .inr ⟨by simp[qX_],by rw[zM_]⟩
      ·exact .inl ⟨by simp[qX_,Zi_,jQ_,e],by rw[z4_ _ _ e]⟩
 ·obtain rfl:k=3:=by omega
  have d1:decide (((3:Nat):Int)<3)=false:=rfl
  have hSN:DkN N S:=by
   have:=x6_ (q:=(S0,pl)) hN 3
   rw[←hS] at this;exact this
  have hfs:S.files=S0.files:=by
   have:=wm_ (S0,pl) 3
   rw[←hS] at this;exact this
  have hcv:xq_ S0 pl=(qG_ (j2_ S,pl.drop at_) 3).1:=by unfold xq_;rw[←hS]
  have hdir: (xq_ S0 pl).dir=S.dir:=by rw[hcv,x9_];rfl
  have hflen: ∀q:DiskL×List UInt16,∀l:NmL,(l.foldl qM_ q).1.files.length=q.1.files.length:=fun q l=>by
   induction l generalizing q with
   |nil=>rfl
   |cons a l ih=>
    rw[List.foldl_cons,ih]
    show(q.1.files.set _ _).length=_
    rw[List.length_set]
  have hfm: ∀k,(qG_ (j2_ S,pl.drop at_) k).1.files.length=S.files.length:=fun k=>by
   induction k with
   |zero=>rfl
   |succ k ih=>show(List.foldl qM_ _ _).1.files.length=_;rw[hflen,ih]
  have hsn: ∀k,k<3→ ∀p,p∈ (S.dir k).seen→p.2<S.files.length:=fun k hk p hp=>by
   have:=okc.seenN k hk p (by rw[hdir];exact hp)
   rw[hcv,hfm] at this;exact this
  have hFB:FilB (j2_ S):=fun n hn=>by
   have:=wF_ ok (n:=n) (by rw[←hfs];exact hn)
   have e:zx_ (j2_ S) n=zx_ S0 n:=by unfold zx_ j2_;rw[hfs]
   rw[e];exact this
  rw[hcv]
  clear hcv hfm hflen hdir
  have hl1:=hP.disk
  have so:=fun x=>Qm_ G S false x
  have hl2:Sx.look (setB X G.bd (dcO G {S with off:=false})) G.bd=some (dcO G {S with off:=false}):=zw_ hl1
  have sl:=fun x=>Qp_ G {S with off:=false} (-1) x
  have hdw:dcL G {S with off:=false} (-1) false=dcO G (j2_ S):=afF_ G {S with off:=false} (j2_ S) rfl rfl rfl
  first|with_reducible refine ks [25,28,30,31,1000027] (And.intro @qB_ (And.intro @d1 (And.intro @hl1 (And.intro @so (And.intro @hl2 (And.intro @sl (@jE_))))))) ?_|refine kp (And.intro @qB_ (And.intro @d1 (And.intro @hl1 (And.intro @so (And.intro @hl2 (And.intro @sl (@jE_))))))) ?_
  have hPw:DcP (setB (setB X G.bd (dcO G {S with off:=false})) G.bd (dcO G (j2_ S))) G (j2_ S):=(hP.setD {S with off:=false} rfl rfl).setD (j2_ S) rfl rfl
  have hEw:Ext w X0 (setB (setB X G.bd (dcO G {S with off:=false})) G.bd (dcO G (j2_ S))):=hE.setB.setB
  refine Cw.permL (M:=setB (setB X G.bd (dcO G {S with off:=false})) G.bd (dcO G (j2_ S))) (by rw[←hdw]) ?_
  generalize setB (setB X G.bd (dcO G {S with off:=false})) G.bd (dcO G (j2_ S))=Xw at*
  clear hl1 so hl2 sl hdw hP hE
  have hwl: (j2_ S).files.length=S.files.length:=rfl
  refine Cw.loopG (G:=CrG) [76,77,11,80,81,82,83,84,85,86,87,88,89,92,93,94,95,96,97,98,99,100,101,102,103,104,105,106,107,12,13,108,109,110,111,112,113,114,115,116,117,118,119,120,121,122,123,124,125,126,127,128,129,130,4,131,132,133,134,135,136,137,138,139,140,141,142,143,144,145,146,147,148,149,150,151,152,90,91,78,79,10] (fun g=> [(4,vi g.at_),(10,vi g.k)]) (fun g=>g.X) (fun g=>g.k≤3∧(g.S,pl.drop g.at_)=qG_ (j2_ S,pl.drop at_) g.k∧g.at_≤pl.length∧DcP g.X g.G g.S∧g.G.bd=G.bd∧Ext w X0 g.X∧g.S.dir=S.dir∧g.S.files.length=S.files.length∧FilB g.S) (fun g=>3 - g.k) ⟨0,at_,j2_ S,G,Xw⟩ rfl rfl ?_ ?_
  ·exact⟨Nat.zero_le _,rfl,hat,hPw,rfl,hEw,rfl,rfl,hFB⟩
  intro g j hg
  refine kv ?_
  clear hPw hEw hFB hat
  obtain⟨k,at3,S3,G3,X3⟩:=g
  simp only at hg ⊢
  obtain⟨hk,hS3,hat,hP,hbd3,hE,hd3,hf3,hFB⟩:=hg
  rw[←hbd3]
  by_cases hlt:k<3
  ·have d2:decide ((k:Int)<3)=true:=decide_eq_true (by omega)
   have hsn3:=hsn k hlt
   have hbl:=(hSN k).seen
   have hnx:qG_ (j2_ S,pl.drop at_) (k+1)=(S.dir k).seen.foldl qM_ (S3,pl.drop at3):=by
    show((j2_ S).dir k).seen.foldl qM_ (qG_ (j2_ S,pl.drop at_) k)=_
    rw[←hS3];rfl
   obtain⟨sn,hsnE⟩: ∃sn,(S.dir k).seen=sn:=⟨_,rfl⟩
   rw[hsnE] at hsn3 hbl hnx
   first|with_reducible refine ks [25,28,30,31,1000027] (And.intro @qB_ @d2) ?_|refine kp (And.intro @qB_ @d2) ?_
   refine Cw.loopG (G:=CrG) [80,81,82,83,84,85,86,87,88,89,92,93,94,95,96,97,98,99,100,101,102,103,104,105,106,107,12,13,108,109,110,111,112,113,114,115,116,117,118,119,120,121,122,123,124,125,126,127,128,129,130,4,131,132,133,134,135,136,137,138,139,140,141,142,143,144,145,146,147,148,149,150,151,152,90,91,11] (fun g=> [(4,vi g.at_),(11,vi g.k)]) (fun g=>g.X) (fun g=>g.k≤sn.length∧(g.S,pl.drop g.at_)=(sn.take g.k).foldl qM_ (S3,pl.drop at3)∧g.at_≤pl.length∧DcP g.X g.G g.S∧g.G.bd=G3.bd∧Ext w X0 g.X∧g.S.dir=S.dir∧g.S.files.length=S.files.length∧FilB g.S) (fun g=>sn.length - g.k) ⟨0,at3,S3,G3,X3⟩ rfl rfl ?_ ?_
   ·exact⟨Nat.zero_le _,rfl,hat,hP,rfl,hE,hd3,hf3,hFB⟩
   intro g j hg
   refine kv ?_
   clear hP hE hFB hat hd3 hf3
   obtain⟨i,at4,S4,G4,X4⟩:=g
   simp only at hg ⊢
   obtain⟨hi,hS4,hat,hP,hbd4,hE,hd4,hf4,hFB⟩:=hg
   rw[←hbd4]
   have rdd:=za_ (w0:=w) hP.disk
   have lds:=fun n=>xj_ G4 S4 hlt n
   have hnv:NdP X4 (G4.s k) sn:=by have:=hP.seen k hlt;rw[hd4,hsnE] at this;exact this
   have lns:=hnv.len
   rw[List.length_map] at lns
   by_cases hit:i<sn.length
   ·have d3:decide ((i:Int)< (sn.length:Int))=true:=decide_eq_true (by omega)
    have hlm:i< (sn.map z7_).length:=by rw[List.length_map];exact hit
    obtain⟨rs,rest,cs,hv,hlk,-⟩:=Gr.upd hnv zP_ hlm nd0
    have rds:=za_ (w0:=w) hlk
    have ixs:zO_ (.sl (true,2)) (G4.s k) (some (i:Int))=some (vp rs (i*2)):=by rw[hv,zY_ _ _ _ _ _ _ (by omega)];simp
    have ld1:=fun n=>adI_ (E:=144) (rest:=rest) i hlm n
    rw[J3_] at ld1
    have hts: (sn.take (i+1)).foldl qM_ (S3,pl.drop at3)=qM_ ((sn.take i).foldl qM_ (S3,pl.drop at3)) (sn.getD i ([],0)):=by
     rw[StP.take_snoc (z:=([],0)) hit,List.foldl_append];rfl
    rw[←hS4] at hts
    have hn4:=hsn3 _ (xp_ (z:=([],0)) hit)
    generalize sn.getD i ([],0)=q at*
    obtain⟨qs,n⟩:=q
    simp only[z7_] at ld1 hn4
    have hn5:n<S4.files.length:=by omega
    have hnm2:n< (S4.files.map xO_).length:=by rw[List.length_map];exact hn5
    obtain⟨hb1,hb2⟩:=hFB n hn5
    obtain⟨f,hf⟩: ∃f,zx_ S4 n=f:=⟨_,rfl⟩
    rw[hf] at hb1 hb2
    have hff: (S4.files.map xO_).getD n fd0=xO_ f:=by rw[ZY_,←hf];rfl
    have hmp:=JN_ (pl.drop at4) (f.data.length - f.stl)
    obtain⟨m,hmE⟩: ∃m,vn_ (pl.drop at4) (f.data.length - f.stl)=m:=⟨_,rfl⟩
    rw[hmE] at hmp
    obtain⟨rf,restf,cf,hvf,hlkf,hup⟩:=Gr.upd hP.files q7_ hnm2 (xO_ ⟨f.data.take (f.stl+m),(f.data.take (f.stl+m)).length⟩)
    have rdf:=za_ (w0:=w) hlkf
    have ixf:zO_ (.sl (true,2)) G4.f (some (n:Int))=some (vp rf (n*2)):=by rw[hvf,zY_ _ _ _ _ _ _ (by omega)];simp
    have lf0:=fun y=>kd_ (E:=141) (rest:=restf) n hnm2 y
    have lf1:=fun y=>ac1_ (E:=141) (rest:=restf) n hnm2 y
    rw[hff] at lf0 lf1
    have lf0': ∀y,zk_ (some (false,y)) (some (j4_ fdC 141 restf (S4.files.map xO_))) (n*2)=some (vs f.data):=lf0
    have lf1': ∀y,zk_ (some (false,y)) (some (j4_ fdC 141 restf (S4.files.map xO_))) (n*2+1)=some (vi (f.stl:Int)):=lf1
    clear lf0 lf1
    first|with_reducible refine ks [25,28,30,31,1000027] (And.intro @qB_ (And.intro @rdd (And.intro @lds (And.intro @lns (@d3))))) ?_|refine kp (And.intro @qB_ (And.intro @rdd (And.intro @lds (And.intro @lns (@d3))))) ?_
    refine Cw.regionS [G4.bd,rs] [0,1,2,4,5,6,7,8,9,11,3,10,12,13,14,15,16] [] (by kernel_rfl) (by kernel_rfl) (by kernel_rfl) ?_
    simp only[zo_, ↓zi_, ↓zd_, ↓zz_, ↓zy_,ze_]
    refine kq (And.intro @qB_ (And.intro @rdd (And.intro @lds (And.intro @ixs (And.intro @rds (And.intro @ld1 (@ixf))))))) ?_
    first|with_reducible refine ks [28,30,31,1000027] @qB_ ?_|refine kp @qB_ ?_
    refine Cw.cutO (G:=CkG) [4,13,108,109,110,111,112,113,114,115,116,117,118,119,120,121,122,123,124,125,126,127,128,129,130] (fun g=> [(4,vi g.at_),(13,vi g.n)]) (fun g=>X4) (fun g=>g.n=m∧pl.drop g.at_=(pl.drop at4).drop 1∧g.at_≤pl.length) ?_ ?_
    ·by_cases hal:at4<pl.length
     ·have d4:decide ((at4:Int)< (pl.length:Int))=true:=decide_eq_true (by omega)
      obtain h0| ⟨rb,off,arr,E,fz,hr,hrb,hrn⟩:=hpk
      ·rw[h0] at hal;simp at hal
      have rda:zA_ w X4 rb=some (.cells arr E fz):=hE.old (hr.has (by omega)) hrn
      have ix:=hr.idx false at4 hal
      have ld:=fun n=>adl_ hr hal n
      have hdr:pl.drop at4=pl.getD at4 0::pl.drop (at4+1):=by
       rw[List.drop_eq_getElem_cons hal,List.getD_eq_getElem?_getD,List.getElem?_eq_getElem hal];rfl
      generalize pl.getD at4 0=x at*
      have es: (f.data.length:Int) - (f.stl:Int)=((f.data.length - f.stl:Nat):Int):=by omega
      have em: (x.toNat:Int)% (((f.data.length - f.stl:Nat):Int)+1)=((x.toNat% (f.data.length - f.stl+1):Nat):Int):=by rw[Int.natCast_emod];rfl
      have hx:=x.toNat_lt
      rw[hdr] at hmE
      first|with_reducible refine ks [28] (And.intro @qB_ (And.intro @lnp (@d4))) ?_|refine kp (And.intro @qB_ (And.intro @lnp (@d4))) ?_
      refine Cw.regionS [rb,rf] [0,1,2,5,6,7,10,11,12,3,4,8,9,13,14,15,16,17] [] (by kernel_rfl) (by kernel_rfl) (by kernel_rfl) ?_
      simp only[zo_, ↓zi_, ↓zd_, ↓zz_, ↓zy_,ze_]
      refine kq (And.intro @qB_ (And.intro @ix (And.intro @rda (And.intro @ld (And.intro @rdf (And.intro @lf0' (And.intro @lf1' (And.intro @es (@em))))))))) ?_
      first|with_reducible refine ks [] @qB_ ?_|refine kp @qB_ ?_
      exact CutO.mk ⟨at4+1,x.toNat% (f.data.length - f.stl+1)⟩ ⟨hmE,by rw[hdr];rfl,hal⟩ rfl rfl
     ·have d4:decide ((at4:Int)< (pl.length:Int))=false:=decide_eq_false (by omega)
      have hdr:pl.drop at4= []:=List.drop_eq_nil_of_le (by omega)
      rw[hdr] at hmE
      first|with_reducible refine ks [] (And.intro @qB_ (And.intro @lnp (@d4))) ?_|refine kp (And.intro @qB_ (And.intro @lnp (@d4))) ?_
      exact CutO.mk ⟨at4,0⟩ ⟨hmE,by rw[hdr];rfl,hat⟩ rfl rfl
    ·intro g j hg
     refine kv ?_
     obtain⟨at5,m5⟩:=g
     simp only at hg ⊢
     obtain⟨rfl,hat5,hatl⟩:=hg
     have hadd: (f.stl:Int)+ (m5:Int)=((f.stl+m5:Nat):Int):=by omega
     have hle:f.stl+m5≤f.data.length:=by omega
     obtain⟨l0,hl0⟩: ∃l0,S4.files.map xO_=l0:=⟨_,rfl⟩
     rw[hl0] at hnm2 hff rdf lf0' lf1' hlkf hup
     have st0: ∀a:Bool,zn_ (some (a,1)) (some (j4_ fdC 141 restf l0)) (n*2) (vs (f.data.take (f.stl+m5)))=some (j4_ fdC 141 restf (l0.set n ⟨f.data.take (f.stl+m5),(f.stl:Int)⟩)):=fun a=>by
      rw[Jj_ n hnm2 _ a,hff];rfl
     obtain⟨l1,hl1⟩: ∃l1,l0.set n ⟨f.data.take (f.stl+m5),(f.stl:Int)⟩=l1:=⟨_,rfl⟩
     have hg1:l1.getD n fd0=⟨f.data.take (f.stl+m5),(f.stl:Int)⟩:=by
      rw[←hl1,List.getD_eq_getElem?_getD,List.getElem?_set_self hnm2];rfl
     have hnl1:n<l1.length:=by rw[←hl1,List.length_set];exact hnm2
     rw[hl1] at st0
     have hlk1:Sx.look (setB X4 rf (j4_ fdC 141 restf l1)) rf=some (j4_ fdC 141 restf l1):=zw_ hlkf
     have rd1:=za_ (w0:=w) hlk1
     have lg0: ∀y,zk_ (some (false,y)) (some (j4_ fdC 141 restf l1)) (n*2)=some (vs (f.data.take (f.stl+m5))):=fun y=>by
      rw[kd_ n hnl1 y,hg1]
     have st1: ∀a:Bool,zn_ (some (a,1)) (some (j4_ fdC 141 restf l1)) (n*2+1) (vi ((f.data.take (f.stl+m5)).length:Int))=some (j4_ fdC 141 restf (l0.set n (xO_ ⟨f.data.take (f.stl+m5),(f.data.take (f.stl+m5)).length⟩))):=fun a=>by
      rw[Q4_ n hnl1 _ a,hg1,←hl1,List.set_set];rfl
     have htl: (f.data.take (f.stl+m5)).length≤1048576:=by rw[List.length_take];omega
     have htl2: (f.data.take (f.stl+m5)).length=f.stl+m5:=by rw[List.length_take];omega
     first|with_reducible refine ks [30,31] @qB_ ?_|refine kp @qB_ ?_
     refine Cw.regionO [0,1,2,3,5,6,7,9,4,8,10,11,12,13,14] [14] rfl (by kernel_rfl) (by kernel_rfl) ?_
     simp only[zo_, ↓zi_, ↓zd_, ↓zz_, ↓zy_,ze_]
     refine kq (And.intro @qB_ (And.intro @rdf (And.intro @lf0' (And.intro @lf1' (@hadd))))) ?_
     refine Ow.store rfl rfl rfl (ke (And.intro @qB_ (And.intro @hlkf (@st0)))) ?_
     refine ko @qB_ ?_
     first|with_reducible refine ks [] (And.intro @qB_ (And.intro @rd1 (And.intro @lg0 (And.intro @hlk1 (And.intro @st1 (@jE_)))))) ?_|refine kp (And.intro @qB_ (And.intro @rd1 (And.intro @lg0 (And.intro @hlk1 (And.intro @st1 (@jE_)))))) ?_
     have hlk2:Sx.look (setB (setB X4 rf (j4_ fdC 141 restf l1)) rf (j4_ fdC 141 restf (l0.set n (xO_ ⟨f.data.take (f.stl+m5),(f.data.take (f.stl+m5)).length⟩)))) rf=some (j4_ fdC 141 restf (l0.set n (xO_ ⟨f.data.take (f.stl+m5),(f.data.take (f.stl+m5)).length⟩))):=zw_ hlk1
     have hcf:qM_ (S4,pl.drop at4) (qs,n)=(Zw_ S4 n ⟨f.data.take (f.stl+m5),(f.data.take (f.stl+m5)).length⟩,pl.drop at5):=by
      unfold qM_
      simp only
      rw[hf,hmE,hat5]
     refine Again.mk ⟨i+1,at5,Zw_ S4 n ⟨f.data.take (f.stl+m5),(f.data.take (f.stl+m5)).length⟩,G4,setB (setB X4 rf (j4_ fdC 141 restf l1)) rf (j4_ fdC 141 restf (l0.set n (xO_ ⟨f.data.take (f.stl+m5),(f.data.take (f.stl+m5)).length⟩)))⟩ (by show sn.length - (i+1)<sn.length - i;omega) ⟨hit,by rw[hts,hcf],hatl, ?_,rfl,hE.setB.setB,hd4,(by show(S4.files.set _ _).length=_;rw[List.length_set];exact hf4), ?_⟩ rfl rfl
     ·have hrb:rf≠G4.bd:=fun e=>by
       rw[e,hP.disk] at hlkf
       have:=congrArg tyO (Option.some.inj hlkf)
       rw[xc_] at this
       exact wj_ this
      refine DcP.updF (G:=G4) hP (v:=G4.f) (fun b o hb hff ho=> ?_) ?_ ?_
      ·have hne:rf≠b:=by rintro rfl;exact hff (by rw[hvf];rfl)
       rw[zb_ hne,zb_ hne];exact ho
      ·rw[zb_ hrb,zb_ hrb];exact hP.disk
      ·show Gr _ _ _ _ _ _
       rw[List.map_set,hl0]
       exact hup _ hlk2
     ·intro j hj
      have hj':j<S4.files.length:=by
       have: (S4.files.set n ⟨f.data.take (f.stl+m5),(f.data.take (f.stl+m5)).length⟩).length=S4.files.length:=List.length_set ..
       have h2:j< (S4.files.set n ⟨f.data.take (f.stl+m5),(f.data.take (f.stl+m5)).length⟩).length:=hj
       omega
      rw[ajU_ _ _ hn5]
      by_cases e:j=n
      ·rw[if_pos e];exact⟨htl,Nat.le_refl _⟩
      ·rw[if_neg e];exact hFB j hj'
   ·obtain rfl:i=sn.length:=by omega
    have d3:decide ((sn.length:Int)< (sn.length:Int))=false:=decide_eq_false (by omega)
    rw[List.take_length,←hnx] at hS4
    first|with_reducible refine ks [] (And.intro @qB_ (And.intro @rdd (And.intro @lds (And.intro @lns (@d3))))) ?_|refine kp (And.intro @qB_ (And.intro @rdd (And.intro @lds (And.intro @lns (@d3))))) ?_
    exact Again.mk ⟨k+1,at4,S4,G4,X4⟩ (by show 3 - (k+1)<3 - k;omega) ⟨hlt,hS4,hat,hP,rfl,hE,hd4,hf4,hFB⟩ rfl rfl
  ·obtain rfl:k=3:=by omega
   have d2:decide (((3:Nat):Int)<3)=false:=rfl
   first|with_reducible refine ks [] (And.intro @qB_ @d2) ?_|refine kp (And.intro @qB_ @d2) ?_
   refine⟨_,(ke @qB_), ?_⟩
   rw[←hS3]
   exact⟨hE,G3,rfl,hP⟩
end Go.Proofs
end
section
open Go Go.Proofs Go.Sx Go.StP Go.Flo
namespace Go.Proofs
set_option maxRecDepth 10000
set_option maxHeartbeats 400000
set_option linter.unusedSimpArgs false
set_option linter.defProp false
def kE_:=And.intro (@zg_) (And.intro (@zf_) (@ack_))
theorem abl_ (x a b:Int) (w:World) (hx:x.natAbs<8192) (ha:a.natAbs<8192) (hb:b.natAbs<8192):
  Rets Tryz.prog 253 #[fl x,vi a,vi b] w (fun v D=>v= .tuple #[vi (if a≤x∧x≤b then x else 0), .bool (decide (a≤x∧x≤b))]∧D= []):=by
 refine Rets.enterV Tryz.func253 rfl (rs:= [.tmp 6, .tmp 7]) Tryz.results253 Tryz.ntmps253 ?_
 refine kf ?_
 first|with_reducible refine ks [] @kE_ ?_|refine kp @kE_ ?_
 refine Ow.convIF rfl rfl cvIF Tryz.underlying3 Tryz.underlying312 rfl ?_
 refine Ow.fgeq rfl rfl rfl hx ha ?_
 by_cases h1:a≤x
 ·rw[decide_eq_true h1]
  refine ko @kE_ ?_
  refine Ow.convIF rfl rfl cvIF Tryz.underlying3 Tryz.underlying312 rfl ?_
  refine Ow.fleq rfl rfl rfl hx hb ?_
  by_cases h2:x≤b
  ·rw[decide_eq_true h2,decide_eq_true (show a≤x∧x≤b from⟨h1,h2⟩),if_pos ⟨h1,h2⟩]
   refine ko @kE_ ?_
   first|with_reducible refine ks [] @kE_ ?_|refine kp @kE_ ?_
   refine Ow.convFI rfl rfl cvFI Tryz.underlying312 Tryz.underlying3 rfl hx ?_
   refine ko @kE_ ?_
   first|with_reducible refine ks [] @kE_ ?_|refine kp @kE_ ?_
   refine Ow.convIF rfl rfl cvIF Tryz.underlying3 Tryz.underlying312 rfl ?_
   refine ko @kE_ ?_
   refine Ow.feql rfl rfl rfl hx hx ?_
   rw[show(x==x)=true by simp]
   refine ko @kE_ ?_
   first|with_reducible refine ks [] @kE_ ?_|refine kp @kE_ ?_
   refine⟨_,(ke @kE_),trivial, ?_⟩
   rfl
  ·rw[decide_eq_false h2,decide_eq_false (show¬ (a≤x∧x≤b) from fun h=>h2 h.2),if_neg (fun h=>h2 h.2)]
   refine ko @kE_ ?_
   first|with_reducible refine ks [] @kE_ ?_|refine kp @kE_ ?_
   refine⟨_,(ke @kE_),trivial, ?_⟩
   rfl
 ·rw[decide_eq_false h1,decide_eq_false (show¬ (a≤x∧x≤b) from fun h=>h1 h.1),if_neg (fun h=>h1 h.1)]
  refine ko @kE_ ?_
  first|with_reducible refine ks [] @kE_ ?_|refine kp @kE_ ?_
  refine⟨_,(ke @kE_),trivial, ?_⟩
  rfl
def cpR (p:PcL) (b:Int):Value:=match cpV p b with
 |some q=> .tuple #[vi q.1,vi q.2, .bool true]
 |none=>if(1≤p.n∧p.n≤4099)∧p.x= []∧(p.n:Int)≤b then .tuple #[vi 0,vi p.n, .bool false] else .tuple #[vi 0,vi 0, .bool false]
theorem apv_ {p:PcL} {b:Int} (h:1≤p.n∧p.n≤4099∧p.x= []∧(p.a:Int)≤b - p.n):cpV p b=some (p.a,p.n):=by unfold cpV;rw[if_pos h]
theorem V3_ {p:PcL} {b:Int} (h: ¬ (1≤p.n∧p.n≤4099∧p.x= []∧(p.a:Int)≤b - p.n)):cpV p b=none:=by unfold cpV;rw[if_neg h]
set_option linter.defProp false
def j6_:=And.intro (And.intro (And.intro (And.intro (@zg_) (@zf_)) (And.intro (@xC_) (@xA_))) (And.intro (And.intro (@k5_) (@xg_)) (And.intro (@KB_) (@cxz)))) (And.intro (And.intro (And.intro (@aag_) (@WG_)) (And.intro (@km_) (@Sx.tup2_0))) (And.intro (And.intro (@Sx.tup2_1) (@Sx.tup3_0)) (And.intro (@Sx.tup3_1) (@Sx.tup3_2))))
theorem w2_ (p:PcL) (b:Int) (w:World) (hp:PcB p) (h0:0≤b) (h1:b≤4099):
  Rets Tryz.prog 247 #[.agg (pcC p).toArray,vi b] w (fun v D=>v=cpR p b∧D= []):=by
 obtain⟨hpa,hpn⟩:=hp
 refine Rets.enterV Tryz.func247 rfl (rs:= [.tmp 4, .tmp 5, .tmp 6]) Tryz.results247 Tryz.ntmps247 ?_
 refine kf ?_
 first|with_reducible refine ks [] @j6_ ?_|refine kp @j6_ ?_
 refine Ow.box rfl rfl fun b2 hb2 hw2=> ?_
 simp only[qv_,qu_,qA_,zj_,List.nil_append,List.cons_append]
 refine Ow.go rfl ?_
 simp(disch:=(first|assumption|omega| (simp only[KC_,XQ_,UInt64.reduceToNat];try omega))) only[↓Sx.S0,Sx.S1,Tryz.fx,j6_,Nat.reduceAdd,Nat.reducePow,Int.reducePow,Nat.reduceBEq, ↓reduceIte,UInt8.reduceToNat,UInt16.reduceToNat,UInt32.reduceToNat,UInt64.reduceToNat,Int.reduceToNat]
 first|with_reducible refine ks [] @j6_ ?_|refine kp @j6_ ?_
 refine Ow.imag rfl rfl ?_
 refine Ow.callFV rfl Tryz.call253 (fun w' hw'=>abl_ (p.n:Int) 1 4099 w' (by omega) (by omega) (by omega)) ?_
 unfold cpR
 by_cases c1:1≤p.n
 ·rw[decide_eq_true (show(1:Int)≤ (p.n:Int)∧(p.n:Int)≤4099 by omega),if_pos (show(1:Int)≤ (p.n:Int)∧(p.n:Int)≤4099 by omega)]
  by_cases c2:p.x= []
  ·have d2:decide (0< (p.x.length:Int))=false:=by rw[c2];rfl
   by_cases c4: (p.n:Int)≤b
   ·have d4:decide (b< (p.n:Int))=false:=decide_eq_false (by omega)
    refine ko (And.intro @j6_ (And.intro @d2 (@d4))) ?_
    first|with_reducible refine ks [] @j6_ ?_|refine kp @j6_ ?_
    refine Ow.real rfl rfl ?_
    refine ko @j6_ ?_
    refine Ow.callFV rfl Tryz.call253 (fun w' hw'=>abl_ (p.a:Int) 0 (b - p.n) w' (by omega) (by omega) (by omega)) ?_
    by_cases c3: (p.a:Int)≤b - p.n
    ·rw[decide_eq_true (show(0:Int)≤ (p.a:Int)∧(p.a:Int)≤b - p.n by omega),if_pos (show(0:Int)≤ (p.a:Int)∧(p.a:Int)≤b - p.n by omega),apv_ ⟨c1,hpn,c2,c3⟩]
     refine ko @j6_ ?_
     first|with_reducible refine ks [] @j6_ ?_|refine kp @j6_ ?_
     refine⟨_,(ke @j6_),⟨hw2,trivial⟩, ?_⟩
     rfl
    ·rw[decide_eq_false (show¬ ((0:Int)≤ (p.a:Int)∧(p.a:Int)≤b - p.n) by omega),if_neg (show¬ ((0:Int)≤ (p.a:Int)∧(p.a:Int)≤b - p.n) by omega),V3_ (fun h=>c3 h.2.2.2)]
     simp only
     rw[if_pos ⟨⟨c1,hpn⟩,c2,c4⟩]
     refine ko @j6_ ?_
     first|with_reducible refine ks [] @j6_ ?_|refine kp @j6_ ?_
     refine⟨_,(ke @j6_),⟨hw2,trivial⟩, ?_⟩
     rfl
   ·have d4:decide (b< (p.n:Int))=true:=decide_eq_true (by omega)
    rw[V3_ (fun h=>by have:=h.2.2.2;omega)]
    simp only
    rw[if_neg (fun h=>c4 h.2.2)]
    refine ko (And.intro @j6_ (And.intro @d2 (@d4))) ?_
    first|with_reducible refine ks [] @j6_ ?_|refine kp @j6_ ?_
    refine⟨_,(ke @j6_),⟨hw2,trivial⟩, ?_⟩
    rfl
  ·have d2:decide (0< (p.x.length:Int))=true:=decide_eq_true (by have:=List.length_pos_iff.2 c2;omega)
   rw[V3_ (fun h=>c2 h.2.2.1)]
   simp only
   rw[if_neg (fun h=>c2 h.2.1)]
   refine ko (And.intro @j6_ @d2) ?_
   first|with_reducible refine ks [] @j6_ ?_|refine kp @j6_ ?_
   refine⟨_,(ke @j6_),⟨hw2,trivial⟩, ?_⟩
   rfl
 ·rw[decide_eq_false (show¬ ((1:Int)≤ (p.n:Int)∧(p.n:Int)≤4099) by omega),if_neg (show¬ ((1:Int)≤ (p.n:Int)∧(p.n:Int)≤4099) by omega),V3_ (fun h=>c1 h.1)]
  simp only
  rw[if_neg (fun h=>c1 h.1.1)]
  refine ko @j6_ ?_
  first|with_reducible refine ks [] @j6_ ?_|refine kp @j6_ ?_
  refine⟨_,(ke @j6_),⟨hw2,trivial⟩, ?_⟩
  rfl
end Go.Proofs
end
section
open Go Go.Proofs Go.Sx Go.StP Go.Flo
namespace Go.Proofs
set_option maxRecDepth 10000
set_option maxHeartbeats 400000
set_option linter.unusedSimpArgs false
theorem Kd_ {p:PcL} {b:Int} (h:jZ_ p b≠0):jZ_ p b=(match cpV p b with|some q=>q.2|none=>p.x.length):=by
 unfold jZ_ at h ⊢
 split
 ·rename_i hz
  rw[V3_ (fun hc=>by omega)]
 ·rename_i hz
  rw[if_neg hz] at h
  cases hc:cpV p b with
  |none=>rw[hc] at h;exact absurd rfl h
  |some q=>rfl
theorem anQ_ {p:PcL} {b:Int} {q:Nat×Nat} (h:cpV p b=some q):q=(p.a,p.n)∧1≤p.n:=by
 unfold cpV at h
 split at h
 ·rename_i hc;cases h;exact⟨rfl,hc.1⟩
 ·cases h
set_option linter.defProp false
def jJ_:=And.intro (And.intro (And.intro (And.intro (@zg_) (@zf_)) (And.intro (@xC_) (@xA_))) (And.intro (And.intro (@k5_) (@xg_)) (And.intro (@KB_) (@cxz)))) (And.intro (And.intro (And.intro (@aag_) (@WG_)) (And.intro (@km_) (@Sx.tup2_0))) (And.intro (And.intro (@Sx.tup2_1) (@Sx.tup3_0)) (And.intro (@Sx.tup3_1) (@Sx.tup3_2))))
theorem ad2_ (p:PcL) (b:Int) (w:World) (hp:PcB p) (h0:0≤b) (h1:b≤4099):
  Rets Tryz.prog 252 #[.agg (pcC p).toArray,vi b] w (fun v D=>v= .bool (decide (jZ_ p b≠0))∧D= []):=by
 have hp':=hp
 obtain⟨hpa,hpn⟩:=hp'
 have hcall: ¬ (p.a=0∧p.n=0)→(cpV p b).isSome=decide (jZ_ p b≠0):=by
  intro hz
  unfold jZ_
  rw[if_neg (fun h=>hz ⟨h.1,h.2.1⟩)]
  cases hc:cpV p b with
  |none=>rfl
  |some q=>
   obtain⟨rfl,hn⟩:=anQ_ hc
   rw[decide_eq_true (show p.n≠0 by omega)]
   rfl
 refine Rets.enterV Tryz.func252 rfl (rs:= [.tmp 4]) Tryz.results252 Tryz.ntmps252 ?_
 refine kf ?_
 first|with_reducible refine ks [3] @jJ_ ?_|refine kp @jJ_ ?_
 refine Ow.box rfl rfl fun b2 hb2 hw2=> ?_
 simp only[qv_,qu_,qA_,zj_,List.nil_append,List.cons_append]
 refine Ow.go rfl ?_
 simp(disch:=(first|assumption|omega| (simp only[KC_,XQ_,UInt64.reduceToNat];try omega))) only[↓Sx.S0,Sx.S1,Tryz.fx,jJ_,Nat.reduceAdd,Nat.reducePow,Int.reducePow,Nat.reduceBEq, ↓reduceIte,UInt8.reduceToNat,UInt16.reduceToNat,UInt32.reduceToNat,UInt64.reduceToNat,Int.reduceToNat]
 first|with_reducible refine ks [] @jJ_ ?_|refine kp @jJ_ ?_
 refine Ow.real rfl rfl ?_
 refine Ow.feql (b:=0) rfl rfl rfl (by omega) (by omega) ?_
 have fin: ∀v,v=cpR p b→ ∃x y,v= .tuple #[x,y, .bool (cpV p b).isSome]:=by
  rintro v rfl
  unfold cpR
  cases cpV p b with
  |some q=>exact⟨_,_,rfl⟩
  |none=>
   simp only
   split
   ·exact⟨_,_,rfl⟩
   ·exact⟨_,_,rfl⟩
 obtain⟨x,y,hxy⟩:=fin _ rfl
 by_cases ha:p.a=0
 ·have e1: (((p.a:Nat):Int)==0)=true:=by rw[ha];rfl
  rw[e1]
  refine ko @jJ_ ?_
  refine Ow.imag rfl rfl ?_
  refine Ow.feql (b:=0) rfl rfl rfl (by omega) (by omega) ?_
  by_cases hn:p.n=0
  ·have e2: (((p.n:Nat):Int)==0)=true:=by rw[hn];rfl
   rw[e2]
   have hc:cpV p b=none:=V3_ (fun h=>by omega)
   by_cases hl:1≤p.x.length
   ·have d1:decide ((1:Int)≤ (p.x.length:Int))=true:=decide_eq_true (by omega)
    by_cases hm:p.x.length≤4099
    ·have d2:decide ((p.x.length:Int)≤4099)=true:=decide_eq_true (by omega)
     have hr:decide (jZ_ p b≠0)=true:=decide_eq_true (by unfold jZ_;rw[if_pos ⟨ha,hn,hm⟩];omega)
     rw[hr]
     refine ko (And.intro @jJ_ (And.intro @d1 (@d2))) ?_
     first|with_reducible refine ks [] (And.intro @jJ_ (And.intro @d1 (@d2))) ?_|refine kp (And.intro @jJ_ (And.intro @d1 (@d2))) ?_
     refine⟨_,(ke @jJ_),⟨hw2,trivial⟩, ?_⟩
     rfl
    ·have d2:decide ((p.x.length:Int)≤4099)=false:=decide_eq_false (by omega)
     have hr:decide (jZ_ p b≠0)=false:=decide_eq_false (by unfold jZ_;rw[if_neg (fun h=>hm h.2.2),hc];simp)
     rw[hr]
     refine ko (And.intro @jJ_ (And.intro @d1 (@d2))) ?_
     first|with_reducible refine ks [] (And.intro @jJ_ (And.intro @d1 (@d2))) ?_|refine kp (And.intro @jJ_ (And.intro @d1 (@d2))) ?_
     refine⟨_,(ke @jJ_),⟨hw2,trivial⟩, ?_⟩
     rfl
   ·have d1:decide ((1:Int)≤ (p.x.length:Int))=false:=decide_eq_false (by omega)
    have hr:decide (jZ_ p b≠0)=false:=decide_eq_false (by unfold jZ_;rw[if_pos ⟨ha,hn,by omega⟩];omega)
    rw[hr]
    refine ko (And.intro @jJ_ @d1) ?_
    first|with_reducible refine ks [] (And.intro @jJ_ @d1) ?_|refine kp (And.intro @jJ_ @d1) ?_
    refine⟨_,(ke @jJ_),⟨hw2,trivial⟩, ?_⟩
    rfl
  ·have e2: (((p.n:Nat):Int)==0)=false:=beq_eq_false_iff_ne.2 (by omega)
   rw[e2,←hcall (fun h=>hn h.2)]
   refine ko @jJ_ ?_
   first|with_reducible refine ks [] @jJ_ ?_|refine kp @jJ_ ?_
   refine Ow.callFV rfl Tryz.call247 (fun w' hw'=>w2_ p b w' hp h0 h1) ?_
   rw[hxy]
   refine ko @jJ_ ?_
   first|with_reducible refine ks [] @jJ_ ?_|refine kp @jJ_ ?_
   refine⟨_,(ke @jJ_),⟨hw2,trivial⟩, ?_⟩
   rfl
 ·have e1: (((p.a:Nat):Int)==0)=false:=beq_eq_false_iff_ne.2 (by omega)
  rw[e1,←hcall (fun h=>ha h.1)]
  refine ko @jJ_ ?_
  first|with_reducible refine ks [] @jJ_ ?_|refine kp @jJ_ ?_
  refine Ow.callFV rfl Tryz.call247 (fun w' hw'=>w2_ p b w' hp h0 h1) ?_
  rw[hxy]
  refine ko @jJ_ ?_
  first|with_reducible refine ks [] @jJ_ ?_|refine kp @jJ_ ?_
  refine⟨_,(ke @jJ_),⟨hw2,trivial⟩, ?_⟩
  rfl
end Go.Proofs
end
section
open Go Go.Proofs Go.Sx Go.StP Go.Flo
namespace Go.Proofs
set_option maxRecDepth 10000
set_option maxHeartbeats 400000
set_option linter.unusedSimpArgs false
theorem afp_ {p:PcL} {b:Int} {q:Nat×Nat} (h:cpV p b=some q):cpR p b= .tuple #[vi q.1,vi q.2, .bool true]:=by unfold cpR;rw[h]
theorem afu_ {p:PcL} {b:Int} (h:cpV p b=none): ∃y:Int,cpR p b= .tuple #[vi 0,vi y, .bool false]:=by
 unfold cpR
 rw[h]
 simp only
 split
 ·exact⟨_,rfl⟩
 ·exact⟨_,rfl⟩
set_option linter.defProp false
def jn_:=And.intro (And.intro (And.intro (@zg_) (@zf_)) (And.intro (@xC_) (And.intro (@xA_) (@k5_)))) (And.intro (And.intro (@xg_) (And.intro (@Sx.tup2_0) (@Sx.tup2_1))) (And.intro (@Sx.tup3_0) (And.intro (@Sx.tup3_1) (@Sx.tup3_2))))
theorem XS_ (b:Int) (v:Value) (l:List PcL) (w:World) (hv:PcSl w v l) (hl:BndP l) (hn:l.length<1000000000):
  Rets Tryz.prog 246 #[vi b,v] w (fun v D=>v= .tuple #[vi (chkV b l).1,vi (chkV b l).2]∧D= []):=by
 obtain⟨bb,off,arr,E,fz,hr⟩:=hv.row
 have ln:=hv.len
 refine Rets.enterV Tryz.func246 rfl (rs:= [.tmp 4, .tmp 5]) Tryz.results246 Tryz.ntmps246 ?_
 refine kf ?_
 unfold chkV
 by_cases hb0:b<0
 ·have d1:decide (b<0)=true:=decide_eq_true hb0
  rw[if_pos (.inl hb0)]
  first|with_reducible refine ks [] (And.intro @jn_ @d1) ?_|refine kp (And.intro @jn_ @d1) ?_
  refine⟨_,(ke @jn_),trivial, ?_⟩
  rfl
 have d1:decide (b<0)=false:=decide_eq_false hb0
 by_cases hb4:4099<b
 ·have d2:decide (4099<b)=true:=decide_eq_true hb4
  rw[if_pos (.inr hb4)]
  first|with_reducible refine ks [] (And.intro @jn_ (And.intro @d1 (@d2))) ?_|refine kp (And.intro @jn_ (And.intro @d1 (@d2))) ?_
  refine⟨_,(ke @jn_),trivial, ?_⟩
  rfl
 have d2:decide (4099<b)=false:=decide_eq_false hb4
 rw[if_neg (by omega)]
 first|with_reducible refine ks [] (And.intro @jn_ (And.intro @d1 (@d2))) ?_|refine kp (And.intro @jn_ (And.intro @d1 (@d2))) ?_
 refine Cw.loopG (G:=Nat) [18,19,20,21,24,25,26,27,28,29,30,4,5,22,23,6] (fun g=> [(6,vi g)]) (fun g=> []) (fun g=>g≤l.length∧anyZ b (l.take g)=false) (fun g=>l.length - g) 0 rfl rfl ?_ ?_
 ·exact⟨Nat.zero_le _,rfl⟩
 intro k jk hk
 refine kv ?_
 obtain⟨hk,hz⟩:=hk
 by_cases hlt:k<l.length
 ·have d3:decide ((k:Int)< (l.length:Int))=true:=decide_eq_true (by omega)
  have rd:=hr.has (by omega)
  have ix:=hr.idx true k hlt
  have ld:=hr.load ZC_ (by omega) hlt
  obtain⟨hpb,hpx⟩:=hl k hlt
  have htk:=aiC_ (b:=b) hlt
  have hmz:=Wr_ (b:=b) hlt
  generalize l.getD k pc0=p at*
  first|with_reducible refine ks [] (And.intro @jn_ (And.intro @ln (And.intro @d3 (And.intro @ix (And.intro @rd (@ld)))))) ?_|refine kp (And.intro @jn_ (And.intro @ln (And.intro @d3 (And.intro @ix (And.intro @rd (@ld)))))) ?_
  refine Ow.callFV rfl Tryz.call252 (fun w' hw'=>ad2_ p b w' hpb (by omega) (by omega)) ?_
  by_cases hp0:jZ_ p b=0
  ·rw[decide_eq_false (show¬ (jZ_ p b≠0) by omega),if_pos (hmz hp0)]
   refine ko @jn_ ?_
   first|with_reducible refine ks [] @jn_ ?_|refine kp @jn_ ?_
   refine⟨_,(ke @jn_),trivial, ?_⟩
   rfl
  ·rw[decide_eq_true (show jZ_ p b≠0 from hp0)]
   refine ko @jn_ ?_
   first|with_reducible refine ks [] @jn_ ?_|refine kp @jn_ ?_
   refine Again.mk (k+1) (by omega) ⟨hlt, ?_⟩ rfl rfl
   rw[htk,hz,Bool.false_or]
   exact beq_eq_false_iff_ne.2 hp0
 ·obtain rfl:k=l.length:=by omega
  have d3:decide ((l.length:Int)< (l.length:Int))=false:=decide_eq_false (by omega)
  rw[List.take_length] at hz
  rw[if_neg (by rw[hz];decide)]
  first|with_reducible refine ks [] (And.intro @jn_ (And.intro @ln (@d3))) ?_|refine kp (And.intro @jn_ (And.intro @ln (@d3))) ?_
  refine Cw.loopG (G:=Nat) [31,32,33,34,38,39,40,41,42,43,37,44,45,46,9,10,11,47,48,49,50,51,52,53,54,55,56,57,7,58,59,4,5,35,36,8] (fun g=> [(7,vi (wD_ b (l.take g):Nat)),(8,vi g)]) (fun g=> []) (fun g=>g≤l.length∧wD_ b (l.take g)≤4099) (fun g=>l.length - g) 0 rfl rfl ?_ ?_
  ·exact⟨Nat.zero_le _,by simp[wD_]⟩
  intro m jm hm
  refine kv ?_
  obtain⟨hm,hs⟩:=hm
  by_cases hlt:m<l.length
  ·have d4:decide ((m:Int)< (l.length:Int))=true:=decide_eq_true (by omega)
   have rd:=hr.has (by omega)
   have ix:=hr.idx true m hlt
   have ld:=hr.load ZC_ (by omega) hlt
   have ld1:zk_ (some (false,1)) (some (.cells arr E fz)) (off+m*2+1)=some (vs (l.getD m pc0).x):=hr.cell (j:=1) (n:=1) hlt (by omega)
   obtain⟨hpb,hpx⟩:=hl m hlt
   have hst:=aii_ (b:=b) hlt
   have hle:=Jq_ (b:=b) (l:=l) (g:=m+1)
   have hp0:jZ_ (l.getD m pc0) b≠0:=fun h=>by rw[Wr_ hlt h] at hz;cases hz
   have hpr:=Kd_ hp0
   have hpl:=ae6_ (l.getD m pc0) b
   generalize l.getD m pc0=p at*
   first|with_reducible refine ks [15] (And.intro @jn_ (And.intro @ln (And.intro @d4 (And.intro @ix (And.intro @rd (@ld)))))) ?_|refine kp (And.intro @jn_ (And.intro @ln (And.intro @d4 (And.intro @ix (And.intro @rd (@ld)))))) ?_
   refine Ow.callFV rfl Tryz.call247 (fun w' hw'=>w2_ p b w' hpb (by omega) (by omega)) ?_
   have fin: ∀N:Nat,wD_ b (l.take (m+1))=wD_ b (l.take m)+N→((wD_ b (l.take m):Nat):Int)+ (N:Int)=((wD_ b (l.take (m+1)):Nat):Int):=fun N h=>by omega
   cases hc:cpV p b with
   |some q=>
    rw[hc] at hpr
    simp only at hpr
    rw[afp_ hc,←hpr]
    generalize jZ_ p b=N at*
    have hf:=fin N hst
    refine ko @jn_ ?_
    by_cases h4:4099<wD_ b (l.take (m+1))
    ·have d5:decide ((4099:Int)< ((wD_ b (l.take (m+1)):Nat):Int))=true:=decide_eq_true (by omega)
     rw[if_pos (show 4099<wD_ b l by omega)]
     first|with_reducible refine ks [] (And.intro @jn_ (And.intro @hf (@d5))) ?_|refine kp (And.intro @jn_ (And.intro @hf (@d5))) ?_
     refine⟨_,(ke @jn_),trivial, ?_⟩
     rfl
    ·have d5:decide ((4099:Int)< ((wD_ b (l.take (m+1)):Nat):Int))=false:=decide_eq_false (by omega)
     first|with_reducible refine ks [] (And.intro @jn_ (And.intro @hf (@d5))) ?_|refine kp (And.intro @jn_ (And.intro @hf (@d5))) ?_
     exact Again.mk (m+1) (by omega) ⟨hlt,by omega⟩ rfl rfl
   |none=>
    rw[hc] at hpr
    simp only at hpr
    obtain⟨y,hy⟩:=afu_ hc
    rw[hy]
    have hf:=fin p.x.length (by omega)
    refine ko (And.intro @jn_ (And.intro @ix (And.intro @rd (@ld1)))) ?_
    by_cases h4:4099<wD_ b (l.take (m+1))
    ·have d5:decide ((4099:Int)< ((wD_ b (l.take (m+1)):Nat):Int))=true:=decide_eq_true (by omega)
     rw[if_pos (show 4099<wD_ b l by omega)]
     first|with_reducible refine ks [] (And.intro @jn_ (And.intro @hf (@d5))) ?_|refine kp (And.intro @jn_ (And.intro @hf (@d5))) ?_
     refine⟨_,(ke @jn_),trivial, ?_⟩
     rfl
    ·have d5:decide ((4099:Int)< ((wD_ b (l.take (m+1)):Nat):Int))=false:=decide_eq_false (by omega)
     first|with_reducible refine ks [] (And.intro @jn_ (And.intro @hf (@d5))) ?_|refine kp (And.intro @jn_ (And.intro @hf (@d5))) ?_
     exact Again.mk (m+1) (by omega) ⟨hlt,by omega⟩ rfl rfl
  ·obtain rfl:m=l.length:=by omega
   have d4:decide ((l.length:Int)< (l.length:Int))=false:=decide_eq_false (by omega)
   rw[List.take_length] at hs
   rw[if_neg (by omega),List.take_length]
   first|with_reducible refine ks [] (And.intro @jn_ (And.intro @ln (@d4))) ?_|refine kp (And.intro @jn_ (And.intro @ln (@d4))) ?_
   refine⟨_,(ke @jn_),trivial, ?_⟩
   rfl
end Go.Proofs
end
section
open Go Go.Proofs Go.Sx Go.StP Go.Flo
namespace Go.Proofs
set_option maxRecDepth 10000
set_option maxHeartbeats 400000
set_option linter.unusedSimpArgs false
theorem aqH_ {p:PcL} {b:Int} {q:Nat×Nat} (h:cpV p b=some q):q=(p.a,p.n)∧1≤p.n∧p.n≤4099∧p.x= []∧(p.a:Int)≤b - p.n:=by
 unfold cpV at h
 split at h
 ·rename_i hc;cases h;exact⟨rfl,hc⟩
 ·cases h
set_option linter.defProp false
def vs_:=And.intro (And.intro (And.intro (@zg_) (@zf_)) (And.intro (@xC_) (And.intro (@xA_) (@k5_)))) (And.intro (And.intro (@xg_) (And.intro (@Sx.tup2_0) (@Sx.tup2_1))) (And.intro (@Sx.tup3_0) (And.intro (@Sx.tup3_1) (@Sx.tup3_2))))
theorem adX_ (base:List UInt8) (v:Value) (l:List PcL) (w:World) (hv:PcSl w v l) (hl:BndP l) (hn:l.length<1000000000):
  Rets Tryz.prog 235 #[vs base,v] w (fun v' D=>v'= .tuple #[vs (if(chkV base.length l).2=0 then txtP base l else []),vi (chkV base.length l).2]∧D= []):=by
 obtain⟨bb,off,arr,E,fz,hr⟩:=hv.row
 have ln:=hv.len
 refine Rets.enterV Tryz.func235 rfl (rs:= [.tmp 4, .tmp 5]) Tryz.results235 Tryz.ntmps235 ?_
 refine kf ?_
 first|with_reducible refine ks [] @vs_ ?_|refine kp @vs_ ?_
 refine Ow.callFV rfl Tryz.call246 (fun w' hw'=>XS_ (base.length:Int) v l w' (hv.oldN hw' trivial) hl hn) ?_
 by_cases he: (chkV base.length l).2=0
 ·obtain⟨m,hm⟩: ∃m,chkV base.length l=(m,0):=⟨(chkV base.length l).1,by rw[←he]⟩
  obtain⟨-,hb4,hz,hs4,-,hl4⟩:=adO_ hm
  rw[if_pos he,hm]
  have e0: ((0:Int) !=0)=false:=rfl
  refine ko @vs_ ?_
  first|with_reducible refine ks [] (And.intro @vs_ @e0) ?_|refine kp (And.intro @vs_ @e0) ?_
  refine Cw.loopG (G:=Nat) [23,24,25,26,30,31,32,33,34,35,36,29,37,38,39,10,11,12,40,41,42,43,44,45,46,47,48,8,49,50,51,52,53,54,55,27,28,9] (fun g=> [(8,vs (txtP base (l.take g))),(9,vi g)]) (fun g=> []) (fun g=>g≤l.length) (fun g=>l.length - g) 0 rfl rfl ?_ ?_
  ·exact Nat.zero_le _
  intro k jk hk
  refine kv ?_
  by_cases hlt:k<l.length
  ·have d3:decide ((k:Int)< (l.length:Int))=true:=decide_eq_true (by omega)
   have rd:=hr.has (by omega)
   have ix:=hr.idx true k hlt
   have ld:=hr.load ZC_ (by omega) hlt
   have ld1:zk_ (some (false,1)) (some (.cells arr E fz)) (off+k*2+1)=some (vs (l.getD k pc0).x):=hr.cell (j:=1) (n:=1) hlt (by omega)
   obtain⟨hpb,hpx⟩:=hl k hlt
   have htk:=ahQ_ (base:=base) hlt
   have hpt:pcT base (l.getD k pc0)=(match cpV (l.getD k pc0) base.length with|some q=>(base.drop q.1).take q.2++ (l.getD k pc0).x|none=>(l.getD k pc0).x):=rfl
   have htl: (txtP base (l.take k)).length≤4099:=by
    rw[aaf_ (base:=base) (ape_ (g:=k) hz)]
    have:=Jq_ (b:=(base.length:Int)) (l:=l) (g:=k)
    omega
   have hxl:cpV (l.getD k pc0) base.length=none→(l.getD k pc0).x.length≤4099:=fun hc=>by
    have hp0:jZ_ (l.getD k pc0) base.length≠0:=fun h=>by rw[Wr_ hlt h] at hz;cases hz
    have h1:=Kd_ hp0
    have h2:=ae6_ (l.getD k pc0) base.length
    rw[hc] at h1
    simp only at h1
    omega
   generalize l.getD k pc0=p at*
   first|with_reducible refine ks [] (And.intro @vs_ (And.intro @ln (And.intro @d3 (And.intro @ix (And.intro @rd (@ld)))))) ?_|refine kp (And.intro @vs_ (And.intro @ln (And.intro @d3 (And.intro @ix (And.intro @rd (@ld)))))) ?_
   refine Ow.callFV rfl Tryz.call247 (fun w' hw'=>w2_ p (base.length:Int) w' hpb (by omega) (by omega)) ?_
   cases hc:cpV p base.length with
   |some q=>
    rw[hc] at hpt
    simp only at hpt
    obtain⟨rfl,h1,h2,h3,h4⟩:=aqH_ hc
    rw[afp_ hc]
    rw[h3,List.append_nil] at hpt
    simp only at hpt ⊢
    refine ko @vs_ ?_
    first|with_reducible refine ks [] @vs_ ?_|refine kp @vs_ ?_
    refine Again.mk (k+1) (by omega) (by omega) rfl ?_
    rw[htk,hpt,←show(base.take (p.a+p.n)).drop p.a=(base.drop p.a).take p.n by rw[List.drop_take,Nat.add_sub_cancel_left]]
    rfl
   |none=>
    rw[hc] at hpt
    simp only at hpt
    obtain⟨y,hy⟩:=afu_ hc
    have hx4:=hxl hc
    rw[hy]
    refine ko @vs_ ?_
    first|with_reducible refine ks [] (And.intro @vs_ (And.intro @ix (And.intro @rd (@ld1)))) ?_|refine kp (And.intro @vs_ (And.intro @ix (And.intro @rd (@ld1)))) ?_
    refine Again.mk (k+1) (by omega) (by omega) rfl ?_
    rw[htk,hpt]
    rfl
  ·obtain rfl:k=l.length:=by omega
   have d3:decide ((l.length:Int)< (l.length:Int))=false:=decide_eq_false (by omega)
   rw[List.take_length]
   first|with_reducible refine ks [] (And.intro @vs_ (And.intro @ln (@d3))) ?_|refine kp (And.intro @vs_ (And.intro @ln (@d3))) ?_
   refine⟨_,(ke @vs_),trivial, ?_⟩
   rfl
 ·rw[if_neg he]
  have e0: ((chkV base.length l).2 !=0)=true:=bne_iff_ne.2 he
  refine ko @vs_ ?_
  first|with_reducible refine ks [] (And.intro @vs_ @e0) ?_|refine kp (And.intro @vs_ @e0) ?_
  refine⟨_,(ke @vs_),trivial, ?_⟩
  rfl
end Go.Proofs
end
section
open Go Go.Proofs Go.Sx Go.StP Go.Flo
namespace Go.Proofs
set_option maxRecDepth 10000
set_option maxHeartbeats 400000
set_option linter.unusedSimpArgs false
def rrO (s:List UInt8) (a:Nat) (e:Int):Obj:= .cells #[vs s,vi a,vi e] 217 (0,0)
theorem afe_ (s:List UInt8) (a:Nat) (e:Int) (n:Nat):zk_ (some (false,n)) (some (rrO s a e)) 0=some (vs s):=(rfl)
theorem afQ_ (s:List UInt8) (a:Nat) (e:Int) (n:Nat):zk_ (some (false,n)) (some (rrO s a e)) 1=some (vi a):=(rfl)
theorem aeW_ (s:List UInt8) (a:Nat) (e:Int) (n:Nat):zk_ (some (false,n)) (some (rrO s a e)) 2=some (vi e):=(rfl)
theorem aay_ (b:Nat) (s:List UInt8) (a:Nat) (e n:Int) (w:World) (ha:a≤s.length) (hs:s.length<1099511627776) (ho:w.heap[b]? =some (rrO s a e)):
  Rets Tryz.prog 182 #[vp b 0,vi n] w (fun v D=> ∃o,D= [(b,o)]∧v=vs (jo_ s a e n).1∧o=rrO s (jo_ s a e n).2.1 (jo_ s a e n).2.2):=Zu_ b s a e n w ha hs ho
theorem qW_ (b:Nat) (s:List UInt8) (a:Nat) (e most:Int) (w:World) (ha:a≤s.length) (hs:s.length<1099511627776) (ho:w.heap[b]? =some (rrO s a e)):
  Rets Tryz.prog 146 #[vp b 0,vi most] w (fun v D=> ∃o,D= [(b,o)]∧v=vi (zD_ s a e most).1∧o=rrO s (zD_ s a e most).2.1 (zD_ s a e most).2.2):=xD_ b s a e most w ha hs ho
theorem Q7_ (b:Nat) (s:List UInt8) (a:Nat) (e:Int) (w:World) (ho:w.heap[b]? =some (rrO s a e)):
  Rets Tryz.prog 145 #[vp b 0] w (fun v D=>v=vi (vF_ s a e)∧D= []):=vV_ b s a e w ho
theorem zrRR:zL_ Tryz.prog 217=some (.agg #[vs [],vi 0,vi 0]):=id (by kernel_rfl)
theorem alt_ (s:List UInt8):jk_ (vw_ Tryz.prog 217) (zL_ Tryz.prog 217) [(0,vs s)]=some (.agg #[vs s,vi 0,vi 0]):=by
 rw[show vw_ Tryz.prog 217=some [(0,1),(1,1),(2,1)] from id (by kernel_rfl),zrRR];rfl
theorem ajb_:jk_ (vw_ Tryz.prog 311) (zL_ Tryz.prog 311) []=some (.agg (pcC pc0).toArray):=by
 rw[show vw_ Tryz.prog 311=some [(0,1),(1,1)] from id (by kernel_rfl),zrPc];rfl
theorem aiI_ (x n:Nat) (E:TypeId) (a:Bool):zn_ (some (a,1)) (some (.cells (pcC pc0).toArray E (0,0))) 0 (cx x n)=some (.cells (pcC ⟨x,n,[]⟩).toArray E (0,0)):=(rfl)
theorem ajq_ (x:List UInt8) (E:TypeId) (a:Bool):zn_ (some (a,1)) (some (.cells (pcC pc0).toArray E (0,0))) 1 (vs x)=some (.cells (pcC ⟨0,0,x⟩).toArray E (0,0)):=(rfl)
structure RrG where
 a:Nat
 e:Int
 out:List PcL
 v:Value
 D:zc_
 DG:zc_
def RrJ (d:List UInt8) (a0:Nat) (e0:Int) (sz:Nat) (g:RrG):Prop:=
 New sz g.D∧New sz g.DG∧Gr g.D 311 2 g.v g.out.length (g.out.map pcC).flatten∧g.a≤d.length∧BndP g.out∧g.out.length≤g.a+1∧(g.e=0→g.out.length≤g.a)∧
  ((e0≠0∧g.e≠0)∨(e0=0∧((g.e=0∧pcs d a0=(g.out++ (pcs d g.a).1,(pcs d g.a).2))∨(g.e≠0∧pcs d a0=(g.out,g.a,g.e)))))
def afL_ (d:List UInt8) (v:Value) (D:zc_):Prop:=match Z3_ d with
 |some p=> ∃x,v= .tuple #[vi p.1,x, .bool true]∧BndP p.2∧p.2.length≤4099∧p.1≤4099∧GrI D 311 2 x p.2.length (p.2.map pcC).flatten
 |none=>v= .tuple #[vi 0, .slice none 0 0, .bool false]
theorem akF_ {out:List PcL} {p:PcL} (h:BndP out) (hp:PcB p∧p.x.length<9223372036854775808):BndP (out++ [p]):=by
 intro g hg
 by_cases hlt:g<out.length
 ·rw[Wg_ hlt];exact h g hlt
 ·rw[List.length_append] at hg
  rw[VZ_ (by omega),show g - out.length=0 by simp at hg;omega]
  exact hp
set_option linter.defProp false
def qb_:=And.intro (And.intro (And.intro (@zg_) (And.intro (@zf_) (@afe_))) (And.intro (And.intro (@afQ_) (@aeW_)) (And.intro (@xC_) (@xA_)))) (And.intro (And.intro (And.intro (@k5_) (@xg_)) (And.intro (@Sx.tup2_0) (@Sx.tup2_1))) (And.intro (And.intro (@Sx.tup3_0) (@Sx.tup3_1)) (And.intro (@Sx.tup3_2) (@km_))))
theorem ad6_ (d:List UInt8) (w:World) (hd:d.length<100000000):Rets Tryz.prog 234 #[vs d] w (XS w [] (afL_ d)):=by
 refine Rets.enterX Tryz.func234 rfl (rs:= [.tmp 2, .tmp 3, .tmp 4]) Tryz.results234 Tryz.ntmps234 (fun p hp=>by cases hp) (by simp[keys]) ?_
 refine kf ?_
 first|with_reducible refine ks [] @qb_ ?_|refine kp @qb_ ?_
 refine Ow.build (.agg #[vs d,vi 0,vi 0]) rfl (alt_ d) ?_
 refine ko @qb_ ?_
 refine Ow.box rfl rfl fun br hbr hwr=> ?_
 simp only[qv_,qu_,qA_,zj_,List.nil_append]
 refine Ow.permL (M:= [(br,rrO d 0 0)]) (List.Perm.refl _) ?_
 refine ko @qb_ ?_
 first|with_reducible refine ks [] @qb_ ?_|refine kp @qb_ ?_
 have l1:=jh_ (s:=d) (a:=0) (e:=0) (most:=4099) (Nat.zero_le _)
 have m1:=jB_ (s:=d) (a:=0) (e:=0) (most:=4099) (by omega)
 refine Ow.callM rfl rfl Tryz.call146 (by simp[keys]) (fun w' hw'=>qW_ br d 0 0 4099 w' (Nat.zero_le _) (by omega) (hw'.has _ _ List.mem_cons_self)) ?_
 refine kn ?_
 refine ko @qb_ ?_
 first|with_reducible refine ks [] @qb_ ?_|refine kp @qb_ ?_
 have l2:=jh_ (s:=d) (a:=(zD_ d 0 0 4099).2.1) (e:=(zD_ d 0 0 4099).2.2) (most:=4099) l1.2
 refine Ow.callM rfl rfl Tryz.call146 (by simp[keys]) (fun w' hw'=>qW_ br d (zD_ d 0 0 4099).2.1 (zD_ d 0 0 4099).2.2 4099 w' l1.2 (by omega) (hw'.has _ _ List.mem_cons_self)) ?_
 have hdR:=acf_ d
 rw[show zD_ d 0 0 4099=dB d from rfl] at l2 m1 ⊢
 rw[show zD_ d (dB d).2.1 (dB d).2.2 4099=dM d from rfl] at l2 ⊢
 refine kn ?_
 refine ko @qb_ ?_
 first|with_reducible refine ks [] @qb_ ?_|refine kp @qb_ ?_
 refine Cw.permL (M:=(br,rrO d (dM d).2.1 (dM d).2.2):: ([]++ [])) (List.Perm.refl _) ?_
 refine Cw.loopG (G:=RrG) [20,21,22,23,24,25,26,27,28,29,30,31,32,33,34,35,9,36,10,37,38,39,40,41,42,43,44,45,46,47,48,49,50,51,52,53,54,55,56,8] (fun g=> [(8,g.v)]) (fun g=>(br,rrO d g.a g.e):: (g.D++g.DG)) (fun g=>RrJ d (dM d).2.1 (dM d).2.2 w.heap.size g) (fun g=>(if g.e=0 then d.length - g.a+1 else 0)) ⟨(dM d).2.1,(dM d).2.2,[], .slice none 0 0,[],[]⟩ rfl rfl ?_ ?_
 ·refine⟨trivial,trivial,Gr.nl,l2.2,fun g hg=>by simp at hg,by simp,fun _=>Nat.zero_le _, ?_⟩
  by_cases he: (dM d).2.2=0
  ·exact .inr ⟨he, .inl ⟨he,rfl⟩⟩
  ·exact .inl ⟨he,he⟩
 intro g j hg
 refine kv ?_
 obtain⟨a,e,out,v,D,DG⟩:=g
 obtain⟨hN,hNG,hG,hal,hB,hol,hol0,hrel⟩:=hg
 simp only at hN hNG hG hal hB hol hol0 hrel ⊢
 by_cases hc:e=0∧a<d.length
 ·obtain⟨rfl,hlt⟩:=hc
  have e0: ((0:Int)==0)=true:=rfl
  have d1:decide ((a:Int)< (d.length:Int))=true:=decide_eq_true (by omega)
  have hle1:=jh_ (s:=d) (a:=a) (e:=0) (most:=8199) hal
  have hm1:=jB_ (s:=d) (a:=a) (e:=0) (most:=8199) (by omega)
  have hpR:pcR d a=pcR d a:=rfl
  conv at hpR=>rhs;unfold pcR
  first|with_reducible refine ks [1000008] (And.intro @qb_ (And.intro @e0 (@d1))) ?_|refine kp (And.intro @qb_ (And.intro @e0 (@d1))) ?_
  refine Ow.callM rfl rfl Tryz.call146 (by simp[keys]) (fun w' hw'=>qW_ br d a 0 8199 w' hal (by omega) (hw'.has _ _ List.mem_cons_self)) ?_
  generalize zD_ d a 0 8199=q at*
  obtain⟨q1,a1,e1⟩:=q
  simp only at hle1 hm1 hpR ⊢
  obtain⟨Q,rfl⟩: ∃Q:Nat,q1=(Q:Int):=⟨q1.toNat,by omega⟩
  have hQ:Q≤8199:=by omega
  refine kn ?_
  refine ko @qb_ ?_
  first|with_reducible refine ks [] @qb_ ?_|refine kp @qb_ ?_
  refine Ow.build (.agg (pcC pc0).toArray) rfl ajb_ ?_
  refine ko @qb_ ?_
  refine Ow.alloc rfl rfl zrPc fun b10 hb10 hw10=> ?_
  simp only[zj_,List.nil_append,List.cons_append]
  have h10:br<b10:=zv_ hb10 (by simp[keys])
  have hst:=alz_ pc0 pc0 311
  refine Ow.permL (M:=(b10, .cells (pcC pc0).toArray 311 (0,0)):: (br,rrO d a1 e1):: (D++DG)) (by classical exact List.perm_iff_count.2 fun a=>by simp only[List.count_append,List.count_cons,List.count_nil]<;>omega) ?_
  refine ko (And.intro @qb_ @hst) ?_
  refine Cw.cutO (G:=(PcL×Nat×Int)) [37,38,39,40,41,42,43,44,45,46,47,48,49,50,51,52] (fun g=> []) (fun g=>(b10, .cells (pcC g.1).toArray 311 (0,0)):: (br,rrO d g.2.1 g.2.2):: (D++DG)) (fun g=>pcR d a=g∧(PcB g.1∧g.1.x.length<9223372036854775808)) ?_ ?_
  ·by_cases hodd: (Q:Int)%2=1
   ·have d2: (((Q:Nat):Int)%2==1)=true:=by rw[beq_iff_eq];exact hodd
    rw[if_pos hodd] at hpR
    have hm2:=jB_ (s:=d) (a:=a1) (e:=e1) (most:=4099) (by omega)
    first|with_reducible refine ks [] (And.intro @qb_ @d2) ?_|refine kp (And.intro @qb_ @d2) ?_
    refine Ow.callM rfl rfl Tryz.call146 (by simp[keys]) (fun w' hw'=>qW_ br d a1 e1 4099 w' hle1.2 (by omega) (hw'.has _ _ (List.mem_cons_of_mem _ List.mem_cons_self))) ?_
    generalize zD_ d a1 e1 4099=x at*
    obtain⟨x1,a2,e2⟩:=x
    simp only at hm2 hpR ⊢
    obtain⟨X,rfl⟩: ∃X:Nat,x1=(X:Int):=⟨x1.toNat,by omega⟩
    rw[Int.toNat_natCast,show((Q:Int) / 2).toNat=Q / 2 by omega] at hpR
    refine kn ?_
    refine Ow.convIF rfl rfl cvIF Tryz.underlying3 Tryz.underlying312 rfl ?_
    refine ko @qb_ ?_
    rw[show(Q:Int) / 2=((Q / 2:Nat):Int) by omega]
    refine Ow.convIF rfl rfl cvIF Tryz.underlying3 Tryz.underlying312 rfl ?_
    refine Ow.complexB (a:=(X:Nat)) (b:=(Q / 2:Nat)) rfl rfl rfl ?_
    have hs2:=fun a=>aiI_ X (Q / 2) 311 a
    refine ko (And.intro @qb_ @hs2) ?_
    refine CutO.mk (⟨X,Q / 2,[]⟩,a2,e2) ⟨hpR,⟨by show X≤4099;omega,by show Q / 2≤4099;omega⟩,by show 0<9223372036854775808;omega⟩ rfl rfl
   ·have d2: (((Q:Nat):Int)%2==1)=false:=by rw[beq_eq_false_iff_ne];exact hodd
    rw[if_neg hodd] at hpR
    first|with_reducible refine ks [] (And.intro @qb_ @d2) ?_|refine kp (And.intro @qb_ @d2) ?_
    refine Ow.callM rfl rfl Tryz.call182 (by simp[keys]) (fun w' hw'=>aay_ br d a1 e1 ((Q:Int) / 2) w' hle1.2 (by omega) (hw'.has _ _ (List.mem_cons_of_mem _ List.mem_cons_self))) ?_
    have hxl: (jo_ d a1 e1 ((Q:Int) / 2)).1.length≤d.length:=by
     unfold jo_
     split
     ·simp
     ·split
      ·simp
      ·split
       ·simp
       ·simp only[List.length_take,List.length_drop];omega
    generalize jo_ d a1 e1 ((Q:Int) / 2)=x at*
    obtain⟨x1,a2,e2⟩:=x
    simp only at hxl hpR ⊢
    refine kn ?_
    have hs2:=fun a=>ajq_ x1 311 a
    refine ko (And.intro @qb_ @hs2) ?_
    refine CutO.mk (⟨0,0,x1⟩,a2,e2) ⟨hpR,⟨Nat.zero_le _,Nat.zero_le _⟩,by show x1.length<9223372036854775808;omega⟩ rfl rfl
  ·intro g j hg
   refine kv ?_
   obtain⟨p,a2,e2⟩:=g
   obtain⟨hpq,hpB⟩:=hg
   simp only at hpB ⊢
   have hle:=ajo_ hal
   have hup:=aiu_ hal
   have hok:=aqA_ hlt
   have her:=aok_ hlt
   rw[hpq] at hle hup hok her
   simp only at hle hup hok her
   first|with_reducible refine ks [] @qb_ ?_|refine kp @qb_ ?_
   refine Ow.buildSlice (e:=311) (pcC p).toArray rfl rfl (aom_ p) fun b11 hb11 hw11=> ?_
   refine ko @qb_ ?_
   refine Ow.permL (M:=D++ ((b10, .cells (pcC p).toArray 311 (0,0)):: (br,rrO d a2 e2):: (DG++ [(b11, .cells (pcC p).toArray 311 (0,0))]))) (by classical exact List.perm_iff_count.2 fun a=>by simp only[List.count_append,List.count_cons,List.count_nil]<;>omega) ?_
   refine Ow.appendXG (e:=311) (k:=1) (new:=pcC p) (X:=D) v rfl rfl rfl rfl Tryz.underlying297 (id (by kernel_rfl):zT_ Tryz.prog 311=some (true,2)) (by kernel_rfl) zrPc (by rw[xg_];rfl) Tryz.underlying297 (by intro k h;cases h) hG (fun w' hw'=>AppX.one1 (hw'.has b11 (.cells (pcC p).toArray 311 (0,0)) (by simp)) (ZC_ p) (ajX_ p)) (by omega) (fun B3 v3 D3 hA3 hB3 hG3 hk13 hk23 hlk3=> ?_)
   have hN3:New w.heap.size D3:=New.of_le fun q hq=>by
    rcases hk23 q hq with h|h
    ·exact hN.le q h
    ·omega
   refine Ow.permL (M:=(br,rrO d a2 e2):: (D3++ ((b10, .cells (pcC p).toArray 311 (0,0)):: (DG++ [(b11, .cells (pcC p).toArray 311 (0,0))])))) (by classical exact List.perm_iff_count.2 fun a=>by simp only[List.count_append,List.count_cons,List.count_nil]<;>omega) ?_
   refine ko @qb_ ?_
   refine Again.mk ⟨a2,e2,out++ [p],v3,D3,(b10, .cells (pcC p).toArray 311 (0,0)):: (DG++ [(b11, .cells (pcC p).toArray 311 (0,0))])⟩ ?_ ⟨hN3,⟨hw10,hNG.app ⟨hw11,trivial⟩⟩,by simpa using hG3,hle.2,akF_ hB hpB, ?_, ?_, ?_⟩ rfl rfl
   ·show(if e2=0 then d.length - a2+1 else 0)< (if(0:Int)=0 then d.length - a+1 else 0)
    rw[if_pos rfl]
    split
    ·rename_i he;have:=hup he;omega
    ·omega
   ·show(out++ [p]).length≤a2+1
    have:=hol0 rfl
    rw[List.length_append];simp;omega
   ·intro he
    show(out++ [p]).length≤a2
    have:=hol0 rfl
    have:=hup he
    rw[List.length_append];simp;omega
   ·rcases hrel with⟨h1,h2⟩ | ⟨h1,h2|h2⟩
    ·exact absurd rfl h2
    ·refine .inr ⟨h1, ?_⟩
     by_cases he:e2=0
     ·refine .inl ⟨he, ?_⟩
      rw[h2.2,hok he]
      simp
     ·refine .inr ⟨he, ?_⟩
      rw[h2.2,her he]
    ·exact absurd rfl h2.1
 ·have hdone: (e==0&&decide ((a:Int)< (d.length:Int)))=false:=by
   rw[Bool.and_eq_false_iff]
   by_cases he:e=0
   ·right;exact decide_eq_false (fun h=>hc ⟨he,by omega⟩)
   ·left;exact beq_eq_false_iff_ne.2 he
  have hNr:New w.heap.size ((br,rrO d a e):: (D++DG)):=⟨hwr,hN.app hNG⟩
  by_cases he:e=0
  ·subst he
   have hal2: ¬a<d.length:=fun h=>hc ⟨rfl,h⟩
   have e0: ((0:Int)==0)=true:=rfl
   have d1:decide ((a:Int)< (d.length:Int))=false:=decide_eq_false (by omega)
   have hE:vF_ d a 0=0:=by unfold vF_;rw[if_neg (by simp),if_neg (by omega)]
   have n0: ((0:Int) !=0)=false:=rfl
   obtain⟨h1,h2⟩: (dM d).2.2=0∧pcs d (dM d).2.1=(out,a,0):=by
    rcases hrel with⟨h1,h2⟩ | ⟨h1,h2|h2⟩
    ·exact absurd rfl h2
    ·rw[apI_ hal2] at h2
     exact⟨h1,by rw[h2.2,List.append_nil]⟩
    ·exact absurd rfl h2.1
   rw[h2] at hdR
   rw[if_neg (by rw[h1];simp),if_neg (by simp)] at hdR
   simp only at hdR
   first|with_reducible refine ks [] (And.intro @qb_ (And.intro @e0 (@d1))) ?_|refine kp (And.intro @qb_ (And.intro @e0 (@d1))) ?_
   refine Ow.callFV rfl Tryz.call145 (fun w' hw'=>Q7_ br d a 0 w' (hw'.has _ _ List.mem_cons_self)) ?_
   rw[hE]
   refine ko (And.intro @qb_ @n0) ?_
   first|with_reducible refine ks [] (And.intro @qb_ @n0) ?_|refine kp (And.intro @qb_ @n0) ?_
   refine Ow.callFV rfl Tryz.call246 (fun w' hw'=>XS_ (dB d).1 v out w' (hG.slM (fun b o hm=>hw'.has b o (by simp[hm])) rfl rfl ZC_) hB (by omega)) ?_
   unfold afL_
   by_cases hk:chkV (dB d).1 out=((dM d).1,0)
   ·rw[if_pos hk] at hdR
    rw[hdR,hk]
    obtain⟨-,-,-,-,-,hc4⟩:=adO_ hk
    have n1: ((dM d).1 !=(dM d).1)=false:=bne_self_eq_false _
    refine ko @qb_ ?_
    first|with_reducible refine ks [] (And.intro @qb_ (And.intro @n0 (@n1))) ?_|refine kp (And.intro @qb_ (And.intro @n0 (@n1))) ?_
    refine⟨_,(ke @qb_), ?_⟩
    refine⟨Ext.of_new hNr,v, ?_,hB,hc4,by show(dB d).1.toNat≤4099;omega,Gr.i hG fun q hq=>by simp[hq]⟩
    show Value.tuple #[vi (dB d).1,v, .bool true]= .tuple #[vi ((dB d).1.toNat:Nat),v, .bool true]
    rw[show(((dB d).1.toNat:Nat):Int)=(dB d).1 by omega]
   ·rw[if_neg hk] at hdR
    rw[hdR]
    obtain⟨N,E,hNE⟩: ∃N E,chkV (dB d).1 out=(N,E):=⟨_,_,rfl⟩
    rw[hNE] at hk ⊢
    by_cases hE0:E=0
    ·subst hE0
     have n1: (N !=(dM d).1)=true:=bne_iff_ne.2 (fun h=>hk (by rw[h]))
     refine ko @qb_ ?_
     first|with_reducible refine ks [] (And.intro @qb_ (And.intro @n0 (@n1))) ?_|refine kp (And.intro @qb_ (And.intro @n0 (@n1))) ?_
     refine⟨_,(ke @qb_), ?_⟩
     exact⟨Ext.of_new hNr,rfl⟩
    ·have n1: (E !=0)=true:=bne_iff_ne.2 hE0
     refine ko @qb_ ?_
     first|with_reducible refine ks [] (And.intro @qb_ @n1) ?_|refine kp (And.intro @qb_ @n1) ?_
     refine⟨_,(ke @qb_), ?_⟩
     exact⟨Ext.of_new hNr,rfl⟩
  ·have e0: (e==0)=false:=beq_eq_false_iff_ne.2 he
   have hE:vF_ d a e=e:=by unfold vF_;rw[if_pos he]
   have n0: (e !=0)=true:=bne_iff_ne.2 he
   have hno:Z3_ d=none:=by
    rw[hdR]
    rcases hrel with⟨h1,h2⟩ | ⟨h1,h2|h2⟩
    ·rw[if_pos h1]
    ·exact absurd h2.1 he
    ·rw[h2.2,if_neg (by rw[h1];simp),if_pos he]
   first|with_reducible refine ks [] (And.intro @qb_ @e0) ?_|refine kp (And.intro @qb_ @e0) ?_
   refine Ow.callFV rfl Tryz.call145 (fun w' hw'=>Q7_ br d a e w' (hw'.has _ _ List.mem_cons_self)) ?_
   rw[hE]
   refine ko (And.intro @qb_ @n0) ?_
   first|with_reducible refine ks [] (And.intro @qb_ @n0) ?_|refine kp (And.intro @qb_ @n0) ?_
   refine⟨_,(ke @qb_), ?_⟩
   refine⟨Ext.of_new hNr, ?_⟩
   unfold afL_
   rw[hno]
   rfl
end Go.Proofs
end
section
open Go Go.Proofs Go.Sx Go.StP Go.Flo
namespace Go.Proofs
set_option maxRecDepth 10000
set_option maxHeartbeats 400000
set_option linter.unusedSimpArgs false
set_option linter.defProp false
def wn_:=And.intro (And.intro (And.intro (@zg_) (@zf_)) (And.intro (@xC_) (And.intro (@xA_) (@k5_)))) (And.intro (And.intro (@xg_) (And.intro (@Sx.tup2_0) (@Sx.tup2_1))) (And.intro (@Sx.tup3_0) (And.intro (@Sx.tup3_1) (@Sx.tup3_2))))
theorem aew_ (base d:List UInt8) (w:World) (hd:d.length<100000000):
  Rets Tryz.prog 215 #[vs base,vs d] w (fun v D=>v= .tuple #[vs (xL_ base d).1,vi (xL_ base d).2]∧D= []):=by
 refine Rets.enterV Tryz.func215 rfl (rs:= [.tmp 4, .tmp 5]) Tryz.results215 Tryz.ntmps215 ?_
 refine kf ?_
 first|with_reducible refine ks [] @wn_ ?_|refine kp @wn_ ?_
 refine Ow.callC rfl rfl Tryz.call234 (fun w' hw'=>ad6_ d w' hd) (fun B1 v1 D1 hA1 hB1 hN1 hS1=> ?_)
 have hN1':=hN1.mono hB1
 unfold afL_ at hS1
 cases hr:Z3_ d with
 |none=>
  rw[hr] at hS1
  have hS1':v1= .tuple #[vi 0, .slice none 0 0, .bool false]:=hS1
  subst hS1'
  have hap:xL_ base d=([],2):=by unfold xL_;rw[hr]
  refine ko @wn_ ?_
  first|with_reducible refine ks [] @wn_ ?_|refine kp @wn_ ?_
  refine⟨_,(ke @wn_),hN1', ?_⟩
  rw[hap];rfl
 |some p=>
  rw[hr] at hS1
  obtain⟨x,rfl,hB,hl4,hp4,hg⟩:=hS1
  by_cases hb:p.1=base.length
  ·have e1: (((p.1:Nat):Int) !=((base.length:Nat):Int))=false:=by rw[hb];exact bne_self_eq_false _
   obtain⟨m,hm⟩:=Wh_ hr
   rw[hb] at hm
   have hap:xL_ base d=(txtP base p.2,0):=by unfold xL_;rw[hr];simp only;rw[if_neg (by simp[hb])]
   refine ko @wn_ ?_
   first|with_reducible refine ks [] (And.intro @wn_ @e1) ?_|refine kp (And.intro @wn_ @e1) ?_
   refine Ow.callFV rfl Tryz.call235 (fun w' hw'=>adX_ base x p.2 w' (GrI.slV (hg.mono fun q hq=>by simp[hq]) hw' rfl rfl ZC_) hB (by omega)) ?_
   rw[hm,if_pos rfl]
   refine ko @wn_ ?_
   first|with_reducible refine ks [] @wn_ ?_|refine kp @wn_ ?_
   refine⟨_,(ke @wn_),hN1', ?_⟩
   rw[hap];rfl
  ·have e1: (((p.1:Nat):Int) !=((base.length:Nat):Int))=true:=by rw[bne_iff_ne];omega
   have hap:xL_ base d=([],19):=by unfold xL_;rw[hr];simp only;rw[if_pos hb]
   refine ko @wn_ ?_
   first|with_reducible refine ks [] (And.intro @wn_ @e1) ?_|refine kp (And.intro @wn_ @e1) ?_
   refine⟨_,(ke @wn_),hN1', ?_⟩
   rw[hap];rfl
structure PrG where
 at_:Nat
 out:List Nat
 v:Value
 D:zc_
 DG:zc_
set_option linter.defProp false
def jm_:=And.intro (And.intro (And.intro (@zg_) (@zf_)) (And.intro (@jw_) (@js_))) (And.intro (And.intro (@jt_) (@qO_)) (And.intro (@Sx.tup2_0) (@Sx.tup2_1)))
theorem aha_ (v0:Value) (l:List PartL) (a0:Int) (w:World) (hv:anL_ w v0 l):
  Rets Tryz.prog 214 #[v0,vi a0] w (XS w [] (abo_ l a0)):=by
 obtain⟨bb,off,arr,E,fz,hr⟩:=hv.row
 have ln:=hv.len
 refine Rets.enterX Tryz.func214 rfl (rs:= [.tmp 4, .tmp 5]) Tryz.results214 Tryz.ntmps214 (fun p hp=>by cases hp) (by simp[keys]) ?_
 refine kf ?_
 by_cases hc:200<l.length∨a0<0∨(l.length:Int)≤a0
 ·have hpv:k8_ l a0= .error 1:=by unfold k8_;rw[if_pos hc]
  unfold abo_
  rw[hpv]
  by_cases h1:200<l.length
  ·have d1:decide ((200:Int)< (l.length:Int))=true:=decide_eq_true (by omega)
   first|with_reducible refine ks [] (And.intro @jm_ (And.intro @ln (@d1))) ?_|refine kp (And.intro @jm_ (And.intro @ln (@d1))) ?_
   refine⟨_,(ke @jm_), ?_⟩
   exact⟨Ext.refl _ _,rfl⟩
  ·have d1:decide ((200:Int)< (l.length:Int))=false:=decide_eq_false (by omega)
   by_cases h2:a0<0
   ·have d2:decide (a0<0)=true:=decide_eq_true h2
    first|with_reducible refine ks [] (And.intro @jm_ (And.intro @ln (And.intro @d1 (@d2)))) ?_|refine kp (And.intro @jm_ (And.intro @ln (And.intro @d1 (@d2)))) ?_
    refine⟨_,(ke @jm_), ?_⟩
    exact⟨Ext.refl _ _,rfl⟩
   ·have d2:decide (a0<0)=false:=decide_eq_false h2
    have d3:decide ((l.length:Int)≤a0)=true:=decide_eq_true (by omega)
    first|with_reducible refine ks [] (And.intro @jm_ (And.intro @ln (And.intro @d1 (And.intro @d2 (@d3))))) ?_|refine kp (And.intro @jm_ (And.intro @ln (And.intro @d1 (And.intro @d2 (@d3))))) ?_
    refine⟨_,(ke @jm_), ?_⟩
    exact⟨Ext.refl _ _,rfl⟩
 ·have d1:decide ((200:Int)< (l.length:Int))=false:=decide_eq_false (by omega)
  have d2:decide (a0<0)=false:=decide_eq_false (by omega)
  have d3:decide ((l.length:Int)≤a0)=false:=decide_eq_false (by omega)
  obtain⟨A,rfl⟩: ∃A:Nat,a0=(A:Int):=⟨a0.toNat,by omega⟩
  have hpv:k8_ l (A:Int)=(xK_ l 5 A).map ([]++ ·):=by
   unfold k8_
   rw[if_neg hc,Int.toNat_natCast]
   cases xK_ l 5 A<;>rfl
  first|with_reducible refine ks [] (And.intro @jm_ (And.intro @ln (And.intro @d1 (And.intro @d2 (@d3))))) ?_|refine kp (And.intro @jm_ (And.intro @ln (And.intro @d1 (And.intro @d2 (@d3))))) ?_
  refine Cw.loopG (G:=PrG) [21,22,25,26,4,5,27,28,29,30,6,31,32,33,34,35,36,37,38,39,40,41,42,43,44,45,46,47,48,49,50,51,52,53,54,55,56,57,58,59,60,61,62,63,1,23,24,7] (fun g=> [(1,vi g.at_),(6,g.v),(7,vi g.out.length)]) (fun g=>g.D++g.DG) (fun g=>New w.heap.size g.D∧New w.heap.size g.DG∧Gr g.D 3 1 g.v g.out.length (g.out.map natC).flatten∧g.at_<l.length∧g.out.length≤5∧k8_ l (A:Int)=(xK_ l (5 - g.out.length) g.at_).map (g.out++ ·)) (fun g=>6 - g.out.length) ⟨A,[], .slice none 0 0,[],[]⟩ rfl rfl ?_ ?_
  ·exact⟨trivial,trivial,Gr.nl,by show A<l.length;omega,by simp,hpv⟩
  intro g j hg
  refine kv ?_
  obtain⟨a,out,v,D,DG⟩:=g
  obtain⟨hN,hNG,hG,hal,hol,hrel⟩:=hg
  simp only at hN hNG hG hal hol hrel ⊢
  have d4:decide ((out.length:Int)<6)=true:=decide_eq_true (by omega)
  by_cases h5:out.length=5
  ·have d5: ((out.length:Int)==5)=true:=by rw[h5];rfl
   rw[h5] at hrel
   have hpe:k8_ l (A:Int)= .error 11:=hrel
   first|with_reducible refine ks [] (And.intro @jm_ (And.intro @d4 (@d5))) ?_|refine kp (And.intro @jm_ (And.intro @d4 (@d5))) ?_
   refine⟨_,(ke @jm_), ?_⟩
   refine⟨Ext.of_new (hN.app hNG), ?_⟩
   unfold abo_
   rw[hpe]
   rfl
  ·have d5: ((out.length:Int)==5)=false:=beq_eq_false_iff_ne.2 (by omega)
   have hk5:xK_ l (5 - out.length) a=xK_ l (4 - out.length+1) a:=by congr 1;omega
   rw[hk5,xK_] at hrel
   first|with_reducible refine ks [] (And.intro @jm_ (And.intro @d4 (@d5))) ?_|refine kp (And.intro @jm_ (And.intro @d4 (@d5))) ?_
   refine Ow.buildSlice (e:=3) #[vi a] rfl rfl (by kernel_rfl) fun b9 hb9 hw9=> ?_
   refine ko @jm_ ?_
   refine Ow.permL (M:=D++ (DG++ [(b9, .cells #[vi a] 3 (0,0))])) (by classical exact List.perm_iff_count.2 fun a=>by simp only[List.count_append,List.count_cons,List.count_nil]<;>omega) ?_
   refine Ow.appendXG (e:=3) (k:=1) (new:=natC a) (X:=D) v rfl rfl rfl rfl Tryz.underlying196 (id (by kernel_rfl):zT_ Tryz.prog 3=some (false,1)) (by kernel_rfl) (id (by kernel_rfl):zL_ Tryz.prog 3=some (vi 0)) rfl Tryz.underlying196 (by intro k h;cases h) hG (fun w' hw'=>AppX.one1 (hw'.has b9 (.cells #[vi a] 3 (0,0)) (by simp)) (afO_ a) rfl) (by omega) (fun B3 v3 D3 hA3 hB3 hG3 hk13 hk23 hlk3=> ?_)
   have hN3:New w.heap.size D3:=New.of_le fun c hc=>by
    rcases hk23 c hc with h|h
    ·exact hN.le c h
    ·omega
   have hG4:Gr D3 3 1 v3 (out++ [a]).length ((out++ [a]).map natC).flatten:=by simpa using hG3
   have hol2: (out++ [a]).length=out.length+1:=by simp
   have hNG9:New w.heap.size (DG++ [(b9, .cells #[vi a] 3 (0,0))]):=hNG.app ⟨hw9,trivial⟩
   generalize DG++ [(b9,Obj.cells #[vi a] 3 (0,0))]=DG' at*
   have hNr:New w.heap.size (D3++DG'):=hN3.app hNG9
   have hb0:0<l.length:=by omega
   have hbl:=hr.lt hb0
   have rd:zA_ w (D3++DG') bb=some (.cells arr E fz):=by rw[z2_ (hNr.not hbl)];exact hr.has hb0
   have i2:=hr.idx true a hal
   have ld0:zk_ (some (false,1)) (some (.cells arr E fz)) (off+a*3)=some (.bool (l.getD a j0_).d):=hr.cell (j:=0) (n:=1) hal (by omega)
   have ld1:zk_ (some (false,1)) (some (.cells arr E fz)) (off+a*3+1)=some (vi (l.getD a j0_).b):=hr.cell (j:=1) (n:=1) hal (by omega)
   generalize l.getD a j0_=p at*
   cases hd:p.d with
   |false=>
    rw[hd,if_neg (by simp)] at hrel
    rw[hd] at ld0
    by_cases hb:p.b=0
    ·have e1: (p.b !=0)=false:=by rw[hb];rfl
     rw[if_neg (by simp[hb])] at hrel
     refine ko (And.intro @jm_ (And.intro @i2 (And.intro @rd (And.intro @ld0 (And.intro @ld1 (@e1)))))) ?_
     first|with_reducible refine ks [] (And.intro @jm_ (And.intro @i2 (And.intro @rd (And.intro @ld0 (And.intro @ld1 (@e1)))))) ?_|refine kp (And.intro @jm_ (And.intro @i2 (And.intro @rd (And.intro @ld0 (And.intro @ld1 (@e1)))))) ?_
     refine⟨_,(ke @jm_), ?_⟩
     refine⟨Ext.of_new hNr, ?_⟩
     unfold abo_
     rw[hrel]
     exact⟨v3,rfl,by show(out++ [a]).length≤5;omega,Gr.i hG4 fun c hc=>by simp[hc]⟩
    ·have e1: (p.b !=0)=true:=by rw[bne_iff_ne];exact hb
     rw[if_pos hb] at hrel
     have hpe:k8_ l (A:Int)= .error 2:=hrel
     refine ko (And.intro @jm_ (And.intro @i2 (And.intro @rd (And.intro @ld0 (And.intro @ld1 (@e1)))))) ?_
     first|with_reducible refine ks [] (And.intro @jm_ (And.intro @i2 (And.intro @rd (And.intro @ld0 (And.intro @ld1 (@e1)))))) ?_|refine kp (And.intro @jm_ (And.intro @i2 (And.intro @rd (And.intro @ld0 (And.intro @ld1 (@e1)))))) ?_
     refine⟨_,(ke @jm_), ?_⟩
     refine⟨Ext.of_new hNr, ?_⟩
     unfold abo_
     rw[hpe];rfl
   |true=>
    rw[hd,if_pos rfl] at hrel
    rw[hd] at ld0
    by_cases hb:p.b<0
    ·have e1:decide (p.b<0)=true:=decide_eq_true hb
     rw[if_pos (.inl hb)] at hrel
     have hpe:k8_ l (A:Int)= .error 2:=hrel
     refine ko (And.intro @jm_ (And.intro @i2 (And.intro @rd (And.intro @ld0 (And.intro @ld1 (@e1)))))) ?_
     first|with_reducible refine ks [] (And.intro @jm_ (And.intro @i2 (And.intro @rd (And.intro @ld0 (And.intro @ld1 (@e1)))))) ?_|refine kp (And.intro @jm_ (And.intro @i2 (And.intro @rd (And.intro @ld0 (And.intro @ld1 (@e1)))))) ?_
     refine⟨_,(ke @jm_), ?_⟩
     refine⟨Ext.of_new hNr, ?_⟩
     unfold abo_
     rw[hpe];rfl
    ·have e1:decide (p.b<0)=false:=decide_eq_false hb
     by_cases hb2: (a:Int)≤p.b
     ·have e2:decide ((a:Int)≤p.b)=true:=decide_eq_true hb2
      rw[if_pos (.inr hb2)] at hrel
      have hpe:k8_ l (A:Int)= .error 2:=hrel
      refine ko (And.intro @jm_ (And.intro @i2 (And.intro @rd (And.intro @ld0 (And.intro @ld1 (And.intro @e1 (@e2))))))) ?_
      first|with_reducible refine ks [] (And.intro @jm_ (And.intro @i2 (And.intro @rd (And.intro @ld0 (And.intro @ld1 (And.intro @e1 (@e2))))))) ?_|refine kp (And.intro @jm_ (And.intro @i2 (And.intro @rd (And.intro @ld0 (And.intro @ld1 (And.intro @e1 (@e2))))))) ?_
      refine⟨_,(ke @jm_), ?_⟩
      refine⟨Ext.of_new hNr, ?_⟩
      unfold abo_
      rw[hpe];rfl
     ·have e2:decide ((a:Int)≤p.b)=false:=decide_eq_false hb2
      rw[if_neg (by omega)] at hrel
      obtain⟨Bn,hBn⟩: ∃Bn:Nat,p.b=(Bn:Int):=⟨p.b.toNat,by omega⟩
      rw[hBn] at ld1 e1 e2 hrel
      rw[Int.toNat_natCast] at hrel
      refine ko (And.intro @jm_ (And.intro @i2 (And.intro @rd (And.intro @ld0 (And.intro @ld1 (And.intro @e1 (@e2))))))) ?_
      first|with_reducible refine ks [] (And.intro @jm_ (And.intro @i2 (And.intro @rd (And.intro @ld0 (And.intro @ld1 (And.intro @e1 (@e2))))))) ?_|refine kp (And.intro @jm_ (And.intro @i2 (And.intro @rd (And.intro @ld0 (And.intro @ld1 (And.intro @e1 (@e2))))))) ?_
      refine Again.mk ⟨Bn,out++ [a],v3,D3,DG'⟩ (by show 6 - (out++ [a]).length<6 - out.length;omega) ⟨hN3,hNG9,hG4,by show Bn<l.length;omega,by show(out++ [a]).length≤5;omega, ?_⟩ rfl (by simp only[hol2];rfl)
      show k8_ l (A:Int)=(xK_ l (5 - (out++ [a]).length) Bn).map ((out++ [a])++ ·)
      rw[hrel,show 5 - (out++ [a]).length=4 - out.length by omega]
      split
      ·rename_i h4
       rw[h4];rfl
      ·cases xK_ l (4 - out.length) Bn with
       |error x=>rfl
       |ok x=>show Except.ok _=Except.ok _;simp
end Go.Proofs
end
section
open Go Go.Proofs Go.Sx Go.StP Go.Flo
namespace Go.Proofs
set_option maxRecDepth 10000
set_option maxHeartbeats 400000
set_option linter.unusedSimpArgs false
def BndD (l:List PartL):Prop:= ∀g,g<l.length→(l.getD g j0_).x.length<100000000
theorem Qs_ {α:Type} {enc:α→List Value} {m:Nat} {D:zc_} {E:TypeId} {v:Value} {l:List α} (h:GrI D E m v l.length (l.map enc).flatten) (hn: (keys D).Nodup):l.length=0∨ ∃b c rest,v=vsl b 0 l.length c∧b∈keys D∧Sx.look D b=some (j4_ enc E rest l):=by
 obtain⟨X,hX,h| ⟨h0,-⟩⟩:=h
 ·rcases h.inv with⟨-,h0,-⟩ | ⟨b,c,rest,rfl,hl,h1,h2,h3,h4⟩
  ·exact .inl h0
  ·exact .inr ⟨b,c,rest,rfl,List.mem_map_of_mem (f:=Prod.fst) (hX _ (zp_ hl)),jV_ hn (hX _ (zp_ hl))⟩
 ·exact .inl h0
structure TrG where
 n:Nat
 s:List UInt8
 DG:zc_
set_option linter.defProp false
def jW_:=And.intro (And.intro (And.intro (@zg_) (@zf_)) (And.intro (@jw_) (@js_))) (And.intro (And.intro (@jt_) (@qO_)) (And.intro (@Sx.tup2_0) (@Sx.tup2_1)))
theorem aeE_ (v0:Value) (l:List PartL) (a0:Int) (w:World) (hv:anL_ w v0 l) (hb:BndD l):
  Rets Tryz.prog 190 #[v0,vi a0] w (fun v D=>v=ahx_ (partV l a0)∧D= []):=by
 obtain⟨bb,off,arr,E,fz,hr⟩:=hv.row
 refine Rets.enterV Tryz.func190 rfl (rs:= [.tmp 4, .tmp 5]) Tryz.results190 Tryz.ntmps190 ?_
 refine kf ?_
 first|with_reducible refine ks [] @jW_ ?_|refine kp @jW_ ?_
 refine Ow.callC rfl rfl Tryz.call214 (fun w' hw'=>aha_ v0 l a0 w' (hv.oldN hw' trivial)) (fun B1 v1 D1 hA1 hB1 hN1 hS1=> ?_)
 have hN1':=hN1.mono hB1
 unfold abo_ at hS1
 unfold partV
 cases hp:k8_ l a0 with
 |error e=>
  rw[hp] at hS1
  have hS1':v1= .tuple #[.slice none 0 0,vi e]:=hS1
  subst hS1'
  have e0: (e !=0)=true:=by rw[bne_iff_ne];exact aaF_ hp
  refine ko @jW_ ?_
  first|with_reducible refine ks [] (And.intro @jW_ @e0) ?_|refine kp (And.intro @jW_ @e0) ?_
  refine⟨_,(ke @jW_),hN1', ?_⟩
  rfl
 |ok p=>
  rw[hp] at hS1
  obtain⟨x,rfl,hp5,hgp⟩:=hS1
  have hlt:=ama_ hp
  have e0: ((0:Int) !=0)=false:=rfl
  have hlen: ∀m,Jv_ (.sl m) x=some (vi p.length):=fun m=>wS_ hgp m
  rw[List.nil_append]
  refine ko (And.intro @jW_ (And.intro @e0 (@hlen))) ?_
  first|with_reducible refine ks [] @jW_ ?_|refine kp @jW_ ?_
  refine Cw.world fun wz hwz=> ?_
  have hnd:=hwz.nodup
  clear hwz wz
  refine Cw.permL (M:=D1++ []) (by rw[List.append_nil]) ?_
  refine Cw.loopG (G:=TrG) [25,26,29,30,31,32,33,34,35,10,36,37,38,39,40,41,42,4,5,43,44,8,46,47,48,49,45,50,51,11,12,52,53,54,55,27,28,9] (fun g=> [(8,vs g.s),(9,vi ((g.n:Int) - 1))]) (fun g=>D1++g.DG) (fun g=>g.n≤p.length∧vY_ l (p.drop g.n)= .ok g.s∧New w.heap.size g.DG) (fun g=>g.n) ⟨p.length,[],[]⟩ rfl rfl ?_ ?_
  ·exact⟨Nat.le_refl _,by rw[List.drop_length];rfl,trivial⟩
  intro g j hg
  refine kv ?_
  obtain⟨n,s,DG⟩:=g
  simp only at hg ⊢
  obtain⟨hn1,hfn,hNG⟩:=hg
  have hNr:New w.heap.size (D1++DG):=hN1'.app hNG
  cases n with
  |zero=>
   have d1:decide ((0:Int)≤ ((0:Nat):Int) - 1)=false:=rfl
   first|with_reducible refine ks [] (And.intro @jW_ @d1) ?_|refine kp (And.intro @jW_ @d1) ?_
   refine⟨_,(ke @jW_),hNr, ?_⟩
   rw[List.drop_zero] at hfn;show _=ahx_ ((Except.ok p).bind (vY_ l));rw[show(Except.ok p).bind (vY_ l)=vY_ l p from rfl,hfn];rfl
  |succ n=>
   have en: ((n+1:Nat):Int) - 1=(n:Int):=by omega
   rw[en]
   have d1:decide ((0:Int)≤ (n:Int))=true:=decide_eq_true (by omega)
   obtain h0| ⟨bp,cp,rp,rfl,hkp,hlk⟩:=Qs_ hgp hnd
   ·omega
   have hnl:n<p.length:=by omega
   have rdp:zA_ w (D1++DG) bp=some (j4_ natC 3 rp p):=za_ (zl_ hlk)
   have lp:=amy_ (E:=3) (rest:=rp) 1 n hnl
   have hmem:p.getD n 0<l.length:=hlt _ (xp_ hnl)
   have hdr:p.drop n=p.getD n 0::p.drop (n+1):=aiO_ (z:=0) hnl
   have hfo:vY_ l (p.drop n)=if(kq_ (l.getD (p.getD n 0) j0_) s).2=0 then .ok (kq_ (l.getD (p.getD n 0) j0_) s).1 else .error (kq_ (l.getD (p.getD n 0) j0_) s).2:=by
    rw[hdr,vY_,hfn];rfl
   generalize p.getD n 0=a at*
   have hb0:0<l.length:=by omega
   have hbl:=hr.lt hb0
   have rd:zA_ w (D1++DG) bb=some (.cells arr E fz):=by rw[z2_ (hNr.not hbl)];exact hr.has hb0
   have i2:=hr.idx true a hmem
   have ld:=hr.load X6_ (by omega) hmem
   have hpx:=hb a hmem
   generalize l.getD a j0_=pt at*
   have hst:=w0_ pt j0_ 279
   first|with_reducible refine ks [7] (And.intro @jW_ (And.intro @d1 (And.intro @lp (And.intro @rdp (And.intro @rd (And.intro @i2 (@ld))))))) ?_|refine kp (And.intro @jW_ (And.intro @d1 (And.intro @lp (And.intro @rdp (And.intro @rd (And.intro @i2 (@ld))))))) ?_
   refine Ow.alloc rfl rfl aa5_ fun b10 hb10 hw10=> ?_
   simp only[zj_,List.nil_append,List.cons_append]
   refine Ow.permL (M:=(b10, .cells (z3_ j0_).toArray 279 (0,0)):: (D1++DG)) (by classical exact List.perm_iff_count.2 fun a=>by simp only[List.count_append,List.count_cons,List.count_nil]<;>omega) ?_
   cases hd:pt.d with
   |false=>
    by_cases hl4:4099<pt.x.length
    ·have d2:decide ((4099:Int)< (pt.x.length:Int))=true:=decide_eq_true (by omega)
     have ht:kq_ pt s=([],19):=by unfold kq_;rw[if_neg (by rw[hd];decide),if_pos hl4]
     rw[ht,if_neg (by decide)] at hfo
     refine ko (And.intro @jW_ (And.intro @hst (And.intro @hd (@d2)))) ?_
     first|with_reducible refine ks [] (And.intro @jW_ (And.intro @hd (@d2))) ?_|refine kp (And.intro @jW_ (And.intro @hd (@d2))) ?_
     refine⟨_,(ke @jW_),(show New w.heap.size ((b10,_):: (D1++DG)) from⟨hw10,hNr⟩), ?_⟩
     show _=ahx_ (vY_ l p);rw[QL_ p n hfo];rfl
    ·have d2:decide ((4099:Int)< (pt.x.length:Int))=false:=decide_eq_false (by omega)
     have ht:kq_ pt s=(pt.x,0):=by unfold kq_;rw[if_neg (by rw[hd];decide),if_neg hl4]
     rw[ht,if_pos rfl] at hfo
     refine ko (And.intro @jW_ (And.intro @hst (And.intro @hd (@d2)))) ?_
     refine Cw.permL (M:=D1++ ((b10, .cells (z3_ pt).toArray 279 (0,0))::DG)) (by classical exact List.perm_iff_count.2 fun a=>by simp only[List.count_append,List.count_cons,List.count_nil]<;>omega) ?_
     first|with_reducible refine ks [] @jW_ ?_|refine kp @jW_ ?_
     exact Again.mk ⟨n,pt.x,(b10, .cells (z3_ pt).toArray 279 (0,0))::DG⟩ (by show n<n+1;omega) ⟨by show n≤p.length;omega,hfo,⟨hw10,hNG⟩⟩ rfl rfl
   |true=>
    have ht:kq_ pt s=xL_ s pt.x:=by unfold kq_;rw[if_pos hd]
    rw[ht] at hfo
    refine ko (And.intro @jW_ (And.intro @hst (@hd))) ?_
    first|with_reducible refine ks [] (And.intro @jW_ @hd) ?_|refine kp (And.intro @jW_ @hd) ?_
    refine Ow.callFV rfl Tryz.call215 (fun w' hw'=>aew_ s pt.x w' hpx) ?_
    by_cases he: (xL_ s pt.x).2=0
    ·have e1: ((xL_ s pt.x).2 !=0)=false:=by rw[he];rfl
     rw[if_pos he] at hfo
     refine ko (And.intro @jW_ @e1) ?_
     refine Cw.permL (M:=D1++ ((b10, .cells (z3_ pt).toArray 279 (0,0))::DG)) (by classical exact List.perm_iff_count.2 fun a=>by simp only[List.count_append,List.count_cons,List.count_nil]<;>omega) ?_
     first|with_reducible refine ks [] @jW_ ?_|refine kp @jW_ ?_
     exact Again.mk ⟨n,(xL_ s pt.x).1,(b10, .cells (z3_ pt).toArray 279 (0,0))::DG⟩ (by show n<n+1;omega) ⟨by show n≤p.length;omega,hfo,⟨hw10,hNG⟩⟩ rfl rfl
    ·have e1: ((xL_ s pt.x).2 !=0)=true:=by rw[bne_iff_ne];exact he
     rw[if_neg he] at hfo
     refine ko @jW_ ?_
     first|with_reducible refine ks [] (And.intro @jW_ @e1) ?_|refine kp (And.intro @jW_ @e1) ?_
     refine⟨_,(ke @jW_),(show New w.heap.size ((b10,_):: (D1++DG)) from⟨hw10,hNr⟩), ?_⟩
     show _=ahx_ (vY_ l p);rw[QL_ p n hfo];rfl
end Go.Proofs
end
section
open Go Go.Proofs Go.Sx Go.StP Go.Flo
namespace Go.Proofs
set_option maxRecDepth 10000
set_option maxHeartbeats 400000
set_option linter.unusedSimpArgs false
structure A9G where
 ts:List (List UInt8)
 v:Value
 D:zc_
 DG:zc_
set_option linter.defProp false
def aub_:=And.intro (And.intro (@zg_) (@zf_)) (And.intro (@Sx.tup2_0) (@Sx.tup2_1))
end Go.Proofs
end
section
open Go Go.Proofs Go.Sx Go.StP Go.Flo
namespace Go.Proofs
set_option maxRecDepth 10000
set_option maxHeartbeats 400000
set_option linter.unusedSimpArgs false
theorem adP_ (s:List UInt8) (a:Nat) (e most:Int):zD_ s (a+1) e most=((zD_ (s.drop 1) a e most).1,(zD_ (s.drop 1) a e most).2.1+1,(zD_ (s.drop 1) a e most).2.2):=by
 unfold zD_
 rw[List.drop_drop,Nat.add_comm 1 a]
 by_cases he:e≠0
 ·rw[if_pos he,if_pos he]
 ·rw[if_neg he,if_neg he]
  cases ja_ most (List.drop (a+1) s) 0 0 with
  |error x=>rfl
  |ok p=>simp only[Prod.mk.injEq,true_and];exact⟨by omega,trivial⟩
theorem aeu_ (s:List UInt8) (a:Nat) (e n:Int) (hs:1≤s.length):jo_ s (a+1) e n=((jo_ (s.drop 1) a e n).1,(jo_ (s.drop 1) a e n).2.1+1,(jo_ (s.drop 1) a e n).2.2):=by
 unfold jo_
 rw[List.length_drop,List.drop_drop,Nat.add_comm 1 a]
 have hq: ((s.length:Int) - ((a+1:Nat):Int)<n)=(((s.length - 1:Nat):Int) - (a:Int)<n):=by rw[eq_iff_iff];omega
 simp only[hq]
 by_cases he:e≠0
 ·simp only[if_pos he]
 ·simp only[if_neg he]
  by_cases hn:n<0
  ·simp only[if_pos hn]
  ·simp only[if_neg hn]
   by_cases hl: ((s.length - 1:Nat):Int) - (a:Int)<n
   ·simp only[if_pos hl]
   ·simp only[if_neg hl,Prod.mk.injEq,true_and]
    exact⟨by omega,trivial⟩
theorem abk_ (s:List UInt8) (a:Nat) (e most:Int) (hs:1≤s.length):zX_ s (a+1) e most=((zX_ (s.drop 1) a e most).1,(zX_ (s.drop 1) a e most).2.1+1,(zX_ (s.drop 1) a e most).2.2):=by
 unfold zX_
 simp only[adP_]
 rw[aeu_ _ _ _ _ hs]
 simp only
 split<;>rfl
theorem afg_ (c:UInt8) (r:List UInt8):frR (c::r)=([c],1,0):=by
 unfold frR jo_
 rw[if_neg (by simp),if_neg (by decide),if_neg (by simp only[List.length_cons];omega)]
 rfl
theorem ae0_ (c:UInt8) (r:List UInt8):frT (c::r)=((lfT r).1,(lfT r).2.1+1,(lfT r).2.2):=by
 unfold frT
 rw[afg_]
 exact abk_ (c::r) 0 0 4096 (by simp)
theorem aj9_ (c:UInt8) (r:List UInt8) (a:Nat) (e:Int):vF_ (c::r) (a+1) e=vF_ r a e:=by
 unfold vF_
 rw[List.length_cons]
 have: ((((a+1:Nat):Int)< ((r.length+1:Nat):Int))=((a:Int)< (r.length:Int))):=by rw[eq_iff_iff];omega
 simp only[this]
theorem ale_ (c:UInt8) (r:List UInt8): (fkC c=0∧ ¬ (1≤frK (c::r)∧frK (c::r)≤3))∨(fkC c≠0∧frK (c::r)=fkC c∧aqS_ (fkC c)= [c]):=by
 have e:frK (c::r)=Lib.indexByte letL c:=by unfold frK;rw[afg_];rfl
 rw[e]
 by_cases h1:c=98
 ·subst h1;exact .inr ⟨by decide,rfl,rfl⟩
 by_cases h2:c=116
 ·subst h2;exact .inr ⟨by decide,rfl,rfl⟩
 by_cases h3:c=99
 ·subst h3;exact .inr ⟨by decide,rfl,rfl⟩
 refine .inl ⟨by unfold fkC;rw[if_neg h1,if_neg h2,if_neg h3], ?_⟩
 have b1: ((98:UInt8)==c)=false:=beq_eq_false_iff_ne.2 (Ne.symm h1)
 have b2: ((116:UInt8)==c)=false:=beq_eq_false_iff_ne.2 (Ne.symm h2)
 have b3: ((99:UInt8)==c)=false:=beq_eq_false_iff_ne.2 (Ne.symm h3)
 simp only[Lib.indexByte,b1,b2,b3,Bool.false_eq_true, ↓reduceIte]
 split<;>simp
theorem aiV_ {k:Int} {t:List UInt8} (h: ¬ (1≤k∧k≤3)):RdOk k t=false:=by
 unfold RdOk;rw[if_neg (fun h'=>h ⟨h'.1,h'.2.1⟩)]
theorem anR_ (s:List UInt8):Wt_ s=lfOk s∧(Wt_ s=true→frK s=lfK s∧(frT s).1=(lfT (s.drop 1)).1):=by
 cases s with
 |nil=>
  have h:Wt_ []=false:=by
   unfold Wt_
   rw[aiV_ (k:=frK []) (by decide),Bool.and_false]
  exact⟨by rw[h];rfl,fun h'=>by rw[h] at h';cases h'⟩
 |cons c r=>
  have e1:Wt_ (c::r)=(vF_ r (lfT r).2.1 (lfT r).2.2==0&&RdOk (frK (c::r)) (lfT r).1):=by
   unfold Wt_;rw[ae0_,aj9_]
  have e2:lfOk (c::r)=(fkC c !=0&&vF_ r (lfT r).2.1 (lfT r).2.2==0&&ko_ (fkC c) (lfT r).1):=rfl
  rcases ale_ c r with⟨h1,h2⟩ | ⟨h1,h2,-⟩
  ·rw[e1,e2,aiV_ h2,h1,Bool.and_false]
   exact⟨rfl,fun h=>by cases h⟩
  ·have h3: (fkC c !=0)=true:=by simpa using h1
   rw[e1,e2,h2,h3,VT_,Bool.true_and]
   refine⟨rfl,fun _=>⟨rfl, ?_⟩⟩
   rw[ae0_];rfl
set_option linter.defProp false
def auZ_:=And.intro (And.intro (@zg_) (@zf_)) (And.intro (@xB_) (@aht_))
end Go.Proofs
end
section
open Go Go.Proofs Go.Sx Go.StP Go.Flo
namespace Go.Proofs
set_option maxRecDepth 10000
set_option maxHeartbeats 1000000
set_option linter.unusedSimpArgs false
def mkV (v0 v1 v2 v3:Value):Value:= .agg #[v0,v1,v2,v3]
abbrev OneC (q:Value):Prop:=Value.oneCell' q=true∧q.cells= #[q]
def OfS (l:List PartL) (v0:Value) (v:Value) (D:zc_):Prop:=match fillV l with
 |some p=> ∃x2 x3,v= .tuple #[mkV v0 (.slice none 0 0) x3 x2, .bool true]∧GrI D 84 32 x2 p.1.length (p.1.map JO_).flatten∧GrI D 82 2 x3 p.2.length (p.2.map obC).flatten
 |none=> ∃x2 x3,v= .tuple #[mkV v0 (.slice none 0 0) x3 x2, .bool false]∧OneC x2∧OneC x3
theorem JM_ (s:List UInt8):wh_ s=⟨if lfOk s then lfK s else 0,if lfOk s then(lfT (s.drop 1)).1 else []⟩:=by
 unfold wh_
 have h:=anR_ s
 rw[←h.1]
 cases hf:Wt_ s
 ·rfl
 ·rw[(h.2 hf).1,(h.2 hf).2]
theorem alv_ {k:Int} {t:List UInt8} (h:RdOk k t=true):t.length≤4096:=by
 unfold RdOk at h
 split at h
 ·rename_i h1;exact h1.2.2
 ·cases h
set_option linter.defProp false
def auw_:=And.intro (And.intro (And.intro (@zg_) (@zf_)) (And.intro (@Sx.tup2_0) (@Sx.tup2_1))) (And.intro (And.intro (@q6_) (@qt_)) (And.intro (@qq_) (And.intro (@qC_) (@xB_))))
end Go.Proofs
end
section
open Go Go.Proofs Go.Sx Go.StP Go.Flo
namespace Go.Proofs
set_option maxRecDepth 10000
set_option maxHeartbeats 400000
set_option linter.unusedSimpArgs false
structure SvG where
 k:Nat
 out:List ObL
 v6:Value
 D6:zc_
 DG:zc_
theorem QG_ (l:List PartL): ∀k,(vc_ l k).length≤k
 |0=>Nat.le_refl _
 |k+1=>by
  have:=QG_ l k
  unfold vc_
  split
  ·split
   ·simp;omega
   ·omega
  ·omega
set_option linter.defProp false
def auD_:=And.intro (And.intro (And.intro (@zg_) (@zf_)) (And.intro (@Sx.tup2_0) (@Sx.tup2_1))) (And.intro (And.intro (@q6_) (@qt_)) (And.intro (@qq_) (@qC_)))
end Go.Proofs
end
section
open Go Go.Proofs Go.Sx Go.StP Go.Flo
namespace Go.Proofs
set_option maxRecDepth 10000
set_option maxHeartbeats 400000
set_option linter.unusedSimpArgs false
def ap5_:Nat→List PartL→Nat→Nat
 |_,[],_=>0
 |i,p::r,j=>if(aeV_ i p).length≤j then ap5_ (i+1) r (j - (aeV_ i p).length)+1 else 0
def endG (a i:Nat) (l:List PartL) (k:Nat):Nat:=a+ (ain_ i (l.take (k+1))).length
end Go.Proofs
end
section
open Go Go.Proofs Go.Sx Go.StP Go.Flo
namespace Go.Proofs
set_option maxRecDepth 10000
set_option maxHeartbeats 400000
set_option linter.unusedSimpArgs false
def sumX (l:List PartL):Nat:=(l.map fun p=>p.x.length).sum
def sumW (l:List PartL):Nat→Int
 |0=>0
 |k+1=>IntKind.i64.wrap (sumW l k+ (l.getD k j0_).x.length)
def asM_ (l:List PartL):Bool:=decide (210<l.length) || (List.range l.length).any fun k=>decide (30000<sumW l (k+1))
set_option linter.defProp false
def au6_:=And.intro (And.intro (@zg_) (And.intro (@zf_) (@jw_))) (And.intro (And.intro (@js_) (@jt_)) (And.intro (@w7_) (@ao0_)))
end Go.Proofs
end
section
open Go Go.Proofs Go.Sx Go.StP Go.Flo
namespace Go.Proofs
set_option maxRecDepth 10000
set_option maxHeartbeats 400000
set_option linter.unusedSimpArgs false
def abS:List UInt8:= [98,2,97,98]
def abP:PartL:=⟨false,0,abS⟩
theorem apC_ (k k':Int) (t t':List UInt8):qE_ Tryz.prog .eql 82 (obV k t) (obV k' t')=some (.bool (decide ((⟨k,t⟩:ObL)=⟨k',t'⟩))):=aqB_ ⟨k,t⟩ ⟨k',t'⟩
set_option linter.defProp false
def atI_:=And.intro (And.intro (And.intro (@zg_) (@zf_)) (And.intro (@Sx.tup2_0) (And.intro (@Sx.tup2_1) (@q6_)))) (And.intro (And.intro (@qt_) (@qq_)) (And.intro (@qC_) (And.intro (@apC_) (@qO_))))
end Go.Proofs
end
section
open Go Go.Proofs Go.Sx Go.StP Go.Flo
namespace Go.Proofs
set_option maxRecDepth 10000
set_option maxHeartbeats 400000
set_option linter.unusedSimpArgs false
set_option linter.defProp false
def ats_:=And.intro (And.intro (@zg_) (@zf_)) (And.intro (@Sx.tup2_0) (@Sx.tup2_1))
end Go.Proofs
end
namespace Go.Sx
def kB (c:Bool):BitVec 32:=bif c then 3988292384#32 else 0#32
def stB (x:BitVec 32):BitVec 32:=(x>>>1)^^^kB (x.getLsbD 0)
theorem ap0_ (c:Bool) (j:Nat) (h:j<5): (kB c).getLsbD j=false:=by
 have:j=0∨j=1∨j=2∨j=3∨j=4:=by omega
 rcases this with rfl|rfl|rfl|rfl|rfl<;>cases c<;>decide
theorem Q2_ (x:BitVec 32) (j:Nat) (h:j<5): (stB x).getLsbD j=x.getLsbD (j+1):=by
 unfold stB
 rw[BitVec.getLsbD_xor,ap0_ _ _ h,BitVec.getLsbD_ushiftRight,Bool.xor_false,Nat.add_comm]
theorem stB4 (x:BitVec 32):stB (stB (stB (stB x)))=(x>>>4)^^^ (kB (x.getLsbD 0)>>>3^^^kB (x.getLsbD 1)>>>2^^^kB (x.getLsbD 2)>>>1^^^kB (x.getLsbD 3)):=by
 have h1: (stB x).getLsbD 0=x.getLsbD 1:=Q2_ x 0 (by omega)
 have h2: (stB (stB x)).getLsbD 0=x.getLsbD 2:=by rw[Q2_ _ 0 (by omega),Q2_ _ 1 (by omega)]
 have h3: (stB (stB (stB x))).getLsbD 0=x.getLsbD 3:=by rw[Q2_ _ 0 (by omega),Q2_ _ 1 (by omega),Q2_ _ 2 (by omega)]
 have e4:stB (stB (stB (stB x)))=(stB (stB (stB x))>>>1)^^^kB (x.getLsbD 3):=by rw[←h3];rfl
 have e3:stB (stB (stB x))=(stB (stB x)>>>1)^^^kB (x.getLsbD 2):=by rw[←h2];rfl
 have e2:stB (stB x)=(stB x>>>1)^^^kB (x.getLsbD 1):=by rw[←h1];rfl
 have e1:stB x=(x>>>1)^^^kB (x.getLsbD 0):=rfl
 rw[e4,e3,e2,e1]
 simp only[BitVec.ushiftRight_xor_distrib,←BitVec.shiftRight_add,BitVec.xor_assoc]
def hvB:List (BitVec 32):= [0x00000000,0x1db71064,0x3b6e20c8,0x26d930ac,0x76dc4190,0x6b6b51f4,0x4db26158,0x5005713c,0xedb88320,0xf00f9344,0xd6d6a3e8,0xcb61b38c,0x9b64c2b0,0x86d3d2d4,0xa00ae278,0xbdbdf21c]
theorem tabB: ∀a b c d:Bool,(kB a>>>3^^^kB b>>>2^^^kB c>>>1^^^kB d)=hvB.getD (a.toNat+2*b.toNat+4*c.toNat+8*d.toNat) 0:=by decide
theorem lowB (x:BitVec 32):x.toNat%16=(x.getLsbD 0).toNat+2* (x.getLsbD 1).toNat+4* (x.getLsbD 2).toNat+8* (x.getLsbD 3).toNat:=by
 have e: ∀i,(x.getLsbD i).toNat=x.toNat / 2^i%2:=by
  intro i
  rw[BitVec.getLsbD,Nat.testBit_eq_decide_div_mod_eq]
  have:=Nat.mod_lt (x.toNat / 2^i) (show 0<2 by omega)
  by_cases h:x.toNat / 2^i%2=1
  ·simp[h]
  ·have h0:x.toNat / 2^i%2=0:=by omega
   simp[h0]
 rw[e 0,e 1,e 2,e 3]
 omega
theorem arX_ (x:BitVec 32):stB (stB (stB (stB x)))=(x>>>4)^^^hvB.getD (x.toNat%16) 0:=by
 rw[stB4,tabB,lowB]
end Go.Sx
section
open Go Go.Proofs Go.Sx
namespace Go.Proofs
set_option maxRecDepth 10000
set_option maxHeartbeats 4000000
set_option linter.unusedSimpArgs false
def wv_ (n:UInt32):UInt32:=if n%2==1 then n / 2^^^3988292384 else n / 2
theorem WF_ (n:UInt32): (wv_ n).toBitVec=stB n.toBitVec:=by
 have hd: (n / 2).toBitVec=n.toBitVec>>>1:=by
  apply BitVec.eq_of_toNat_eq
  rw[UInt32.toBitVec_div,BitVec.toNat_udiv,BitVec.toNat_ushiftRight]
  rfl
 have hm: (n%2==1)=n.toBitVec.getLsbD 0:=by
  rw[BitVec.getLsbD,Nat.testBit_eq_decide_div_mod_eq,Nat.pow_zero,Nat.div_one,Bool.eq_iff_iff,beq_iff_eq,decide_eq_true_eq,←UInt32.toNat_inj,UInt32.toNat_mod]
  rfl
 unfold wv_ stB
 rw[hm]
 cases n.toBitVec.getLsbD 0
 ·rw[if_neg (by decide),hd];simp[kB]
 ·rw[if_pos rfl,UInt32.toBitVec_xor,hd];rfl
theorem aaR_ (n:UInt32):aaC_ n=wv_ (wv_ (wv_ (wv_ n))):=by
 apply UInt32.toBitVec_inj.1
 rw[WF_,WF_,WF_,WF_,arX_]
 unfold aaC_
 rw[UInt32.toBitVec_xor]
 congr 1
 ·apply BitVec.eq_of_toNat_eq
  unfold z8_
  rw[BitVec.toNat_ushiftRight,Nat.shiftRight_eq_div_pow]
  have:=n.toNat_lt
  simp only[UInt32.toNat_toBitVec,UInt32.toNat_ofNat']
  omega
 ·have e: (n&&&15).toNat=n.toBitVec.toNat%16:=by
   rw[UInt32.toNat_and,show(15:UInt32).toNat=2^4 - 1 from rfl,Nat.and_two_pow_sub_one_eq_mod]
   rfl
  rw[e]
  have hlt:n.toBitVec.toNat%16<16:=Nat.mod_lt _ (by omega)
  generalize n.toBitVec.toNat%16=m at hlt
  have: ∀m,m<16→(hvL.getD m 0).toBitVec=hvB.getD m 0:=by decide
  exact this m hlt
def amp_ (n:UInt32):Nat→UInt32
 |0=>n
 |k+1=>wv_ (amp_ n k)
theorem agI_ (n:UInt32):amp_ n 8=aot_ n 2:=by
 show wv_ (wv_ (wv_ (wv_ (wv_ (wv_ (wv_ (wv_ n)))))))=aaC_ (aaC_ n)
 rw[aaR_,aaR_]
set_option linter.defProp false
def qh_:=And.intro (And.intro (@zg_) (@kT_)) (And.intro (@vU_) (And.intro (@vE_) (@zf_)))
theorem aju_ (n:UInt32) (w:World):Rets Tryz.prog 213 #[v32 n] w (fun v D=>v=v32 (wv_ n)∧D= []):=by
 have hrem:zq_ .rem (v32 n) (v32 2)=some (v32 (n%2)):=kj_ _ _ (by decide)
 have hquo:zq_ .quo (v32 n) (v32 2)=some (v32 (n / 2)):=kv_ _ _ (by decide)
 refine Rets.enterV Tryz.func213 rfl (rs:= [.tmp 2]) Tryz.results213 Tryz.ntmps213 ?_
 refine kf ?_
 unfold wv_
 first|with_reducible refine ks [] (And.intro @qh_ (And.intro @hrem (@hquo))) ?_|refine kp (And.intro @qh_ (And.intro @hrem (@hquo))) ?_
 cases h: (n%2==1)
 ·first|with_reducible refine ks [] (And.intro @qh_ @hquo) ?_|refine kp (And.intro @qh_ @hquo) ?_
  refine⟨_,(ke @qh_),trivial, ?_⟩
  rfl
 ·first|with_reducible refine ks [] (And.intro @qh_ @hquo) ?_|refine kp (And.intro @qh_ @hquo) ?_
  refine⟨_,(ke @qh_),trivial, ?_⟩
  rfl
theorem aj0_ (n:UInt32) (b:UInt8) (w:World):Rets Tryz.prog 188 #[v32 n,v8 b] w (fun v D=>v=v32 (ak9_ n b)∧D= []):=by
 refine Rets.enterV Tryz.func188 rfl (rs:= [.tmp 4]) Tryz.results188 Tryz.ntmps188 ?_
 refine kf ?_
 first|with_reducible refine ks [] @qh_ ?_|refine kp @qh_ ?_
 unfold ak9_
 generalize n^^^UInt32.ofNat b.toNat=m
 rw[←agI_,show v32 m=v32 (amp_ m 0) from rfl]
 refine Cw.loopG (G:=Nat) [10,11,14,15,0,12,13,5] (fun g=> [(0,v32 (amp_ m g)),(5,vi g)]) (fun g=> []) (fun g=>g≤8) (fun g=>8 - g) 0 rfl rfl ?_ ?_
 ·omega
 intro g j hg
 refine kv ?_
 by_cases hlt:g<8
 ·first|with_reducible refine ks [] @qh_ ?_|refine kp @qh_ ?_
  refine Ow.callFV rfl Tryz.call213 (fun w' hw'=>aju_ _ w') ?_
  refine ko @qh_ ?_
  first|with_reducible refine ks [] @qh_ ?_|refine kp @qh_ ?_
  refine Again.mk (g+1) (by omega) (by omega) rfl rfl
 ·obtain rfl:g=8:=by omega
  first|with_reducible refine ks [] @qh_ ?_|refine kp @qh_ ?_
  refine⟨_,(ke @qh_),trivial, ?_⟩
  rfl
theorem aoO_ (n:UInt32):4294967295 - n= ~~~ n:=by
 apply UInt32.toBitVec_inj.1
 rw[UInt32.toBitVec_sub,UInt32.toBitVec_not,←BitVec.allOnes_sub_eq_not]
 rfl
theorem adB_ (s:List UInt8) (w:World) (hs:s.length<1099511627776):Rets Tryz.prog 155 #[vs s] w (fun v D=>v=v32 (crcV s)∧D= []):=by
 refine Rets.enterV Tryz.func155 rfl (rs:= [.tmp 2]) Tryz.results155 Tryz.ntmps155 ?_
 refine kf ?_
 first|with_reducible refine ks [] @qh_ ?_|refine kp @qh_ ?_
 rw[show v32 4294967295=v32 (ahp_ (~~~ (0:UInt32)) (s.take 0)) from rfl]
 refine Cw.loopG (G:=Nat) [5,6,7,8,11,12,13,14,15,3,9,10,4] (fun g=> [(3,v32 (ahp_ (~~~ (0:UInt32)) (s.take g))),(4,vi g)]) (fun g=> []) (fun g=>g≤s.length) (fun g=>s.length - g) 0 rfl rfl ?_ ?_
 ·omega
 intro g j hg
 refine kv ?_
 by_cases hlt:g<s.length
 ·first|with_reducible refine ks [] @qh_ ?_|refine kp @qh_ ?_
  refine Ow.callFV rfl Tryz.call188 (fun w' hw'=>aj0_ _ _ w') ?_
  refine ko @qh_ ?_
  first|with_reducible refine ks [] @qh_ ?_|refine kp @qh_ ?_
  refine Again.mk (g+1) (by omega) (by omega) rfl ?_
  rw[ag6_ _ _ _ hlt]
  rfl
 ·obtain rfl:g=s.length:=by omega
  first|with_reducible refine ks [] @qh_ ?_|refine kp @qh_ ?_
  rw[List.take_length]
  rw[aoO_]
  refine⟨_,(ke @qh_),trivial, ?_⟩
  rfl
theorem aoi_ (n:UInt32):sum4 n= [UInt8.ofNat (n%256).toNat,UInt8.ofNat (n / 256%256).toNat,UInt8.ofNat (n / 65536%256).toNat,UInt8.ofNat (n / 16777216).toNat]:=by
 show [UInt8.ofNat (z8_ n 0).toNat,UInt8.ofNat (z8_ n 8).toNat,UInt8.ofNat (z8_ n 16).toNat,UInt8.ofNat (z8_ n 24).toNat]=_
 have hn:=n.toNat_lt
 congr 1
 ·apply UInt8.toNat_inj.1
  simp[z8_]
 ·congr 1
  ·apply UInt8.toNat_inj.1
   simp[z8_]
  ·congr 1
   ·apply UInt8.toNat_inj.1
    simp[z8_]
   ·congr 1
    apply UInt8.toNat_inj.1
    simp[z8_]
theorem aax_ (s:List UInt8) (w:World) (hs:s.length<1099511627776):
  Rets Tryz.prog 112 #[vs s] w (fun v D=>v=vs (aaH_ s)∧D= []):=by
 refine Rets.enterV Tryz.func112 rfl (rs:= [.tmp 2]) Tryz.results112 Tryz.ntmps112 ?_
 refine kf ?_
 first|with_reducible refine ks [] @qh_ ?_|refine kp @qh_ ?_
 refine Ow.callFV rfl Tryz.call155 (fun w' hw'=>adB_ s w' hs) ?_
 refine ko @qh_ ?_
 unfold aaH_
 rw[aoi_]
 generalize crcV s=n
 have h1:zq_ .rem (v32 n) (v32 256)=some (v32 (n%256)):=kj_ _ _ (by decide)
 have h2:zq_ .quo (v32 n) (v32 256)=some (v32 (n / 256)):=kv_ _ _ (by decide)
 have h3:zq_ .rem (v32 (n / 256)) (v32 256)=some (v32 (n / 256%256)):=kj_ _ _ (by decide)
 have h4:zq_ .quo (v32 n) (v32 65536)=some (v32 (n / 65536)):=kv_ _ _ (by decide)
 have h5:zq_ .rem (v32 (n / 65536)) (v32 256)=some (v32 (n / 65536%256)):=kj_ _ _ (by decide)
 have h6:zq_ .quo (v32 n) (v32 16777216)=some (v32 (n / 16777216)):=kv_ _ _ (by decide)
 first|with_reducible refine ks [] (And.intro @qh_ (And.intro @h1 (And.intro @h2 (And.intro @h3 (And.intro @h4 (And.intro @h5 (@h6))))))) ?_|refine kp (And.intro @qh_ (And.intro @h1 (And.intro @h2 (And.intro @h3 (And.intro @h4 (And.intro @h5 (@h6))))))) ?_
 generalize UInt8.ofNat (n%256).toNat=q0
 generalize UInt8.ofNat (n / 256%256).toNat=q1
 generalize UInt8.ofNat (n / 65536%256).toNat=q2
 generalize UInt8.ofNat (n / 16777216).toNat=q3
 refine Ow.buildSlice (e:=5) #[v8 q0,v8 q1,v8 q2,v8 q3] rfl rfl (by kernel_rfl) fun b1 hb1 hw1=> ?_
 rw[show(#[v8 q0,v8 q1,v8 q2,v8 q3]:Array Value)=a8 [q0,q1,q2,q3] from rfl]
 have hl4: [q0,q1,q2,q3].length=4:=rfl
 have e4:List.take 4 (List.drop 0 [q0,q1,q2,q3])= [q0,q1,q2,q3]:=rfl
 generalize [q0,q1,q2,q3]=q at*
 refine ko (And.intro @qh_ @e4) ?_
 first|with_reducible refine ks [] @qh_ ?_|refine kp @qh_ ?_
 refine⟨_,(ke @qh_),⟨hw1,trivial⟩, ?_⟩
 rfl
theorem KO_ (s:List UInt8) (w:World) (hs:s.length<1099511627776):
  Rets Tryz.prog 105 #[vs s] w (fun v D=>v= .tuple #[vs (zF_ s).1, .bool (zF_ s).2]∧D= []):=by
 refine Rets.enterV Tryz.func105 rfl (rs:= [.tmp 2, .tmp 3]) Tryz.results105 Tryz.ntmps105 ?_
 refine kf ?_
 first|with_reducible refine ks [] @qh_ ?_|refine kp @qh_ ?_
 unfold zF_
 by_cases h4:s.length<4
 ·have e1:decide ((s.length:Int)<4)=true:=decide_eq_true (by omega)
  rw[if_pos h4]
  first|with_reducible refine ks [] (And.intro @qh_ @e1) ?_|refine kp (And.intro @qh_ @e1) ?_
  refine⟨_,(ke @qh_),trivial, ?_⟩
  rfl
 ·have e1:decide ((s.length:Int)<4)=false:=decide_eq_false (by omega)
  have e2: ((s.length:Int) - 4).toNat=s.length - 4:=by omega
  rw[if_neg h4]
  first|with_reducible refine ks [] (And.intro @qh_ (And.intro @e1 (@e2))) ?_|refine kp (And.intro @qh_ (And.intro @e1 (@e2))) ?_
  refine Ow.callFV rfl Tryz.call112 (fun w' hw'=>aax_ (s.take (s.length - 4)) w' (by rw[List.length_take];omega)) ?_
  refine ko @qh_ ?_
  cases hq: (aaH_ (s.take (s.length - 4)) !=s)
  ·rw[if_pos (by simpa using hq)]
   first|with_reducible refine ks [] (And.intro @qh_ (And.intro @hq (@e2))) ?_|refine kp (And.intro @qh_ (And.intro @hq (@e2))) ?_
   refine⟨_,(ke @qh_),trivial, ?_⟩
   rfl
  ·rw[if_neg (by simpa using hq)]
   first|with_reducible refine ks [] (And.intro @qh_ @hq) ?_|refine kp (And.intro @qh_ @hq) ?_
   refine⟨_,(ke @qh_),trivial, ?_⟩
   rfl
end Go.Proofs
end
section
open Go Go.Proofs Go.Sx Go.StP Go.Flo
namespace Go.Proofs
set_option maxRecDepth 10000
set_option maxHeartbeats 1000000
set_option linter.unusedSimpArgs false
set_option linter.defProp false
def auO_:=And.intro (And.intro (@zg_) (And.intro (@zf_) (@jw_))) (And.intro (@js_) (And.intro (@jt_) (@qO_)))
end Go.Proofs
end
section
open Go Go.Proofs Go.Sx Go.StP Go.Flo
namespace Go.Proofs
set_option maxRecDepth 10000
set_option maxHeartbeats 1000000
set_option linter.unusedSimpArgs false
theorem KF_ {s:List UInt8} (h:s.length<4∨s.take 4≠magB):kw_ s=(0,false,(jo_ s 0 0 4).2):=by
 unfold kw_
 rw[if_neg]
 unfold jo_
 rw[if_neg (by decide),if_neg (by decide)]
 split
 ·decide
 ·rename_i h1
  rcases h with h|h
  ·omega
  ·exact h
theorem akm_ {s:List UInt8} (h4:4≤s.length) (h:s.take 4=magB):kw_ s=((zD_ s 4 0 200).1,(zD_ s 4 0 200).2.2==0,(zD_ s 4 0 200).2):=by
 have e:jo_ s 0 0 4=(s.take 4,4,0):=by
  unfold jo_
  rw[if_neg (by decide),if_neg (by decide),if_neg (by omega)]
  rfl
 unfold kw_
 rw[e]
 simp only
 rw[if_pos h]
def Ki_ (s:List UInt8) (v:Value) (D:zc_):Prop:=
 if(kw_ s).2.1=true then∃x y n A,v= .tuple #[x,y,vi n,vi A, .bool true]∧n=(kw_ s).1∧0≤n∧n≤200∧GrI D 279 3 x (xT_ s).1.length ((xT_ s).1.map z3_).flatten∧GrI D 3 1 y (xT_ s).2.1.length ((xT_ s).2.1.map natC).flatten∧
  (((xT_ s).2.2.2=0∧A=(xT_ s).2.2.1∧((xT_ s).1.length:Int)=n)∨((xT_ s).2.2.2≠0∧((xT_ s).1.length:Int)<n))
 else v= .tuple #[.slice none 0 0, .slice none 0 0,vi 0,vi 0, .bool false]
structure RdDG where
 l:List PartL
 sp:List Nat
 a:Nat
 v1:Value
 v2:Value
 D1:zc_
 D2:zc_
 DG:zc_
theorem aie_ (s:List UInt8):jk_ (vw_ Tryz.prog 217) (zL_ Tryz.prog 217) [(0,vs s),(1,vi 4)]=some (.agg #[vs s,vi 4,vi 0]):=by
 rw[show vw_ Tryz.prog 217=some [(0,1),(1,1),(2,1)] from id (by kernel_rfl),zrRR];rfl
theorem W5_ (b:Nat) (s:List UInt8) (a:Nat) (e most:Int) (w:World) (ha:a≤s.length) (hs:s.length<1099511627776) (ho:w.heap[b]? =some (rrO s a e)):
  Rets Tryz.prog 144 #[vp b 0,vi most] w (fun v D=> ∃o,D= [(b,o)]∧v=vs (zX_ s a e most).1∧o=rrO s (zX_ s a e most).2.1 (zX_ s a e most).2.2):=kS_ b s a e most w ha hs ho
set_option linter.defProp false
def qi_:=And.intro (And.intro (@zg_) (And.intro (@zf_) (@afe_))) (And.intro (And.intro (@afQ_) (@aeW_)) (And.intro (@qO_) (@w7_)))
theorem aau_ (s:List UInt8) (w:World) (hs:s.length<1099511627776):Rets Tryz.prog 189 #[vs s] w (XS w [] (Ki_ s)):=by
 refine Rets.enterX Tryz.func189 rfl (rs:= [.tmp 2, .tmp 3, .tmp 4, .tmp 5, .tmp 6]) Tryz.results189 Tryz.ntmps189 (fun p hp=>by cases hp) (by simp[keys]) ?_
 refine kf ?_
 by_cases h4:s.length<4
 ·have d1:decide ((s.length:Int)<4)=true:=decide_eq_true (by omega)
  first|with_reducible refine ks [] (And.intro @qi_ @d1) ?_|refine kp (And.intro @qi_ @d1) ?_
  refine⟨_,(ke @qi_), ?_⟩
  refine⟨Ext.of_new trivial, ?_⟩
  unfold Ki_
  rw[KF_ (.inl h4)]
  rfl
 have d1:decide ((s.length:Int)<4)=false:=decide_eq_false (by omega)
 have d1':decide ((0:Int)≤4∧(4:Int)≤ (s.length:Int))=true:=decide_eq_true (by omega)
 by_cases hm:s.take 4=magB
 ·have d2: (s.take 4 != [83,80,75,49])=false:=bne_eq_false_iff_eq.2 hm
  have hhd:=akm_ (by omega) hm
  first|with_reducible refine ks [] (And.intro @qi_ (And.intro @d1 (@d2))) ?_|refine kp (And.intro @qi_ (And.intro @d1 (@d2))) ?_
  refine Ow.build (.agg #[vs s,vi 4,vi 0]) rfl (aie_ s) ?_
  refine ko @qi_ ?_
  refine Ow.box rfl rfl fun br hbr hwr=> ?_
  simp only[qv_,qu_,qA_,zj_,List.nil_append]
  refine Ow.permL (M:= [(br,rrO s 4 0)]) (List.Perm.refl _) ?_
  refine ko @qi_ ?_
  first|with_reducible refine ks [] @qi_ ?_|refine kp @qi_ ?_
  have l1:=jh_ (s:=s) (a:=4) (e:=0) (most:=200) (by omega)
  have m1:=jB_ (s:=s) (a:=4) (e:=0) (most:=200) (by omega)
  refine Ow.callM rfl rfl Tryz.call146 (by simp[keys]) (fun w' hw'=>qW_ br s 4 0 200 w' (by omega) (by omega) (hw'.has _ _ List.mem_cons_self)) ?_
  have hrp:xT_ s=qL_ s (kw_ s).1.toNat 0 (kw_ s).2.2.1 (kw_ s).2.2.2:=rfl
  rw[hhd] at hrp
  generalize zD_ s 4 0 200=q at*
  obtain⟨n0,a0,e0⟩:=q
  simp only at l1 m1 hhd hrp ⊢
  obtain⟨n,rfl⟩: ∃n:Nat,n0=(n:Int):=⟨n0.toNat,by omega⟩
  rw[Int.toNat_natCast] at hrp
  refine kn ?_
  refine ko @qi_ ?_
  by_cases he:e0=0
  ·subst he
   have hd0: ((0:Int) !=0)=false:=rfl
   have hE: (kw_ s).2.1=true:=by rw[hhd];rfl
   have hn1: (kw_ s).1=(n:Int):=by rw[hhd]
   clear hhd
   first|with_reducible refine ks [11] (And.intro @qi_ @hd0) ?_|refine kp (And.intro @qi_ @hd0) ?_
   refine Cw.permL (M:=(br,rrO s a0 0):: ([]++ ([]++ []))) (List.Perm.refl _) ?_
   refine Cw.loopG (G:=RdDG) [34,35,36,39,40,41,42,12,43,44,13,45,46,14,47,48,49,50,51,52,53,54,55,2,3,4,5,6,56,57,15,58,59,60,61,62,63,64,65,66,67,68,9,69,70,71,72,10,37,38,11] (fun g=> [(9,g.v1),(10,g.v2),(11,vi g.l.length)]) (fun g=>(br,rrO s g.a 0):: (g.D1++ (g.D2++g.DG))) (fun g=>g.l.length≤n∧g.sp.length=g.l.length∧g.a≤s.length∧New w.heap.size g.D1∧New w.heap.size g.D2∧New w.heap.size g.DG∧Gr g.D1 279 3 g.v1 g.l.length (g.l.map z3_).flatten∧Gr g.D2 3 1 g.v2 g.sp.length (g.sp.map natC).flatten∧xT_ s=(g.l++ (qL_ s (n - g.l.length) g.l.length g.a 0).1,g.sp++ (qL_ s (n - g.l.length) g.l.length g.a 0).2.1,(qL_ s (n - g.l.length) g.l.length g.a 0).2.2)) (fun g=>n - g.l.length) ⟨[],[],a0, .slice none 0 0, .slice none 0 0,[],[],[]⟩ rfl rfl ?_ ?_
   ·exact⟨Nat.zero_le _,rfl,l1.2,trivial,trivial,trivial,Gr.nl,Gr.nl,by rw[hrp];rfl⟩
   intro g j hg
   refine kv ?_
   obtain⟨l,sp,a,v1,v2,D1,D2,DG⟩:=g
   simp only at hg ⊢
   obtain⟨hln,hsl,hal,hN1,hN2,hNG,hG1,hG2,hpr⟩:=hg
   have hNr:New w.heap.size (D1++ (D2++DG)):=hN1.app (hN2.app hNG)
   by_cases hlt:l.length<n
   ·have d3:decide ((l.length:Int)< (n:Int))=true:=decide_eq_true (by omega)
    have hk:n - l.length=(n - (l.length+1))+1:=by omega
    rw[hk] at hpr
    have hle1:=jh_ (s:=s) (a:=a) (e:=0) (most:=200) hal
    have hm1:=jB_ (s:=s) (a:=a) (e:=0) (most:=200) (by omega)
    have hpc:Jl_ s l.length a 0=(⟨decide (0< (zD_ s a 0 200).1),if 0< (zD_ s a 0 200).1 then((l.length:Nat):Int) - (zD_ s a 0 200).1 else 0,(zX_ s (zD_ s a 0 200).2.1 (zD_ s a 0 200).2.2 65536).1⟩,(zX_ s (zD_ s a 0 200).2.1 (zD_ s a 0 200).2.2 65536).2):=rfl
    first|with_reducible refine ks [1000018] (And.intro @qi_ @d3) ?_|refine kp (And.intro @qi_ @d3) ?_
    refine Ow.callM rfl rfl Tryz.call146 (by simp[keys]) (fun w' hw'=>qW_ br s a 0 200 w' hal (by omega) (hw'.has _ _ List.mem_cons_self)) ?_
    generalize zD_ s a 0 200=x at*
    obtain⟨F,a1,e1⟩:=x
    simp only at hle1 hm1 hpc ⊢
    have hle2:=vO_ (s:=s) (a:=a1) (e:=e1) (most:=65536) hle1.2
    refine kn ?_
    refine ko @qi_ ?_
    first|with_reducible refine ks [] @qi_ ?_|refine kp @qi_ ?_
    refine Ow.callM rfl rfl Tryz.call144 (by simp[keys]) (fun w' hw'=>W5_ br s a1 e1 65536 w' hle1.2 hs (hw'.has _ _ List.mem_cons_self)) ?_
    generalize zX_ s a1 e1 65536=x at*
    obtain⟨t,a2,e2⟩:=x
    simp only at hle2 hpc ⊢
    refine kn ?_
    refine ko @qi_ ?_
    rw[qL_,hpc] at hpr
    simp only at hpr
    by_cases he2:e2=0
    ·subst he2
     rw[if_pos rfl] at hpr
     have d4: ((0:Int) !=0)=false:=rfl
     first|with_reducible refine ks [] (And.intro @qi_ @d4) ?_|refine kp (And.intro @qi_ @d4) ?_
     refine Ow.build (.agg (z3_ ⟨false,0,t⟩).toArray) rfl (adS_ t) ?_
     refine ko @qi_ ?_
     refine Ow.alloc rfl rfl aa5_ fun b15 hb15 hw15=> ?_
     simp only[zj_,List.nil_append,List.cons_append]
     have hb15r:br<b15:=zv_ hb15 (by simp[keys])
     have hst:=w0_ ⟨false,0,t⟩ j0_ 279
     refine Ow.permL (M:=(b15, .cells (z3_ j0_).toArray 279 (0,0)):: (br,rrO s a2 0):: (D1++ (D2++DG))) (by classical exact List.perm_iff_count.2 fun a=>by simp only[List.count_append,List.count_cons,List.count_nil]<;>omega) ?_
     refine ko (And.intro @qi_ @hst) ?_
     obtain⟨p,hp⟩: ∃p,p=(⟨decide (0<F),if 0<F then((l.length:Nat):Int) - F else 0,t⟩:PartL):=⟨_,rfl⟩
     rw[←hp] at hpr
     refine Cw.cutO (G:=PartL) [58,59,60,61,62,63,64] (fun g=> []) (fun g=>(b15, .cells (z3_ g).toArray 279 (0,0)):: (br,rrO s a2 0):: (D1++ (D2++DG))) (fun g=>g=p) ?_ ?_
     ·by_cases hF:0<F
      ·have d5:decide ((0:Int)<F)=true:=decide_eq_true hF
       have hs1:=Kt_ ⟨false,0,t⟩ 279
       have hs2:=Xf_ ⟨true,0,t⟩ 279
       first|with_reducible refine ks [] (And.intro @qi_ (And.intro @d5 (And.intro @hs1 (@hs2)))) ?_|refine kp (And.intro @qi_ (And.intro @d5 (And.intro @hs1 (@hs2)))) ?_
       refine CutO.mk _ ?_ rfl rfl
       rw[hp,decide_eq_true hF,if_pos hF]
      ·have d5:decide ((0:Int)<F)=false:=decide_eq_false hF
       first|with_reducible refine ks [] (And.intro @qi_ @d5) ?_|refine kp (And.intro @qi_ @d5) ?_
       refine CutO.mk _ ?_ rfl rfl
       rw[hp,decide_eq_false hF,if_neg hF]
     ·intro g j hg
      refine kv ?_
      obtain rfl:=hg
      clear hp
      first|with_reducible refine ks [] @qi_ ?_|refine kp @qi_ ?_
      refine Ow.buildSlice (e:=279) (z3_ g).toArray rfl rfl (zV_ (cs:=z3_ g) Tryz.underlying260 Tryz.ag279 aa5_ (by decide) rfl) fun ba hba hwa=> ?_
      refine ko @qi_ ?_
      refine Ow.permL (M:=D1++ ((b15, .cells (z3_ g).toArray 279 (0,0)):: (br,rrO s a2 0):: (D2++ (DG++ [(ba, .cells (z3_ g).toArray 279 (0,0))])))) (by classical exact List.perm_iff_count.2 fun a=>by simp only[List.count_append,List.count_cons,List.count_nil]<;>omega) ?_
      refine Ow.appendXG (e:=279) (k:=1) (new:=z3_ g) (X:=D1) v1 rfl rfl rfl rfl Tryz.underlying260 Tryz.ag279 (by kernel_rfl) aa5_ (by rw[qO_];rfl) Tryz.underlying260 (by intro k h;cases h) hG1 (fun w' hw'=>AppX.one1 (hw'.has ba (.cells (z3_ g).toArray 279 (0,0)) (by simp)) (X6_ _) (abc_ _)) (by omega) (fun B4 v4 D4 hA4 hB4 hG4 hk41 hk42 hlk4=> ?_)
      have hN4:New w.heap.size D4:=New.of_le fun q hq=>by
       rcases hk42 q hq with h|h
       ·exact hN1.le q h
       ·omega
      refine Ow.permL (M:=(br,rrO s a2 0):: (D4++ (D2++ ((b15, .cells (z3_ g).toArray 279 (0,0)):: (DG++ [(ba, .cells (z3_ g).toArray 279 (0,0))]))))) (by classical exact List.perm_iff_count.2 fun a=>by simp only[List.count_append,List.count_cons,List.count_nil]<;>omega) ?_
      refine ko @qi_ ?_
      first|with_reducible refine ks [] @qi_ ?_|refine kp @qi_ ?_
      refine Ow.buildSlice (e:=3) #[vi a] rfl rfl (by kernel_rfl) fun bc hbc hwc=> ?_
      refine ko @qi_ ?_
      refine Ow.permL (M:=D2++ ((br,rrO s a2 0):: (D4++ ((b15, .cells (z3_ g).toArray 279 (0,0)):: (DG++ [(ba, .cells (z3_ g).toArray 279 (0,0)),(bc, .cells #[vi a] 3 (0,0))]))))) (by classical exact List.perm_iff_count.2 fun a=>by simp only[List.count_append,List.count_cons,List.count_nil]<;>omega) ?_
      refine Ow.appendXG (e:=3) (k:=1) (new:=natC a) (X:=D2) v2 rfl rfl rfl rfl Tryz.underlying196 (id (by kernel_rfl):zT_ Tryz.prog 3=some (false,1)) (by kernel_rfl) (id (by kernel_rfl):zL_ Tryz.prog 3=some (vi 0)) rfl Tryz.underlying196 (by intro k h;cases h) hG2 (fun w' hw'=>AppX.one1 (hw'.has bc (.cells #[vi a] 3 (0,0)) (by simp)) (afO_ a) rfl) (by omega) (fun B5 v5 D5 hA5 hB5 hG5 hk51 hk52 hlk5=> ?_)
      have hN5:New w.heap.size D5:=New.of_le fun q hq=>by
       rcases hk52 q hq with h|h
       ·exact hN2.le q h
       ·omega
      refine Ow.permL (M:=(br,rrO s a2 0):: (D4++ (D5++ ((b15, .cells (z3_ g).toArray 279 (0,0)):: (DG++ [(ba, .cells (z3_ g).toArray 279 (0,0)),(bc, .cells #[vi a] 3 (0,0))]))))) (by classical exact List.perm_iff_count.2 fun a=>by simp only[List.count_append,List.count_cons,List.count_nil]<;>omega) ?_
      refine ko @qi_ ?_
      first|with_reducible refine ks [] @qi_ ?_|refine kp @qi_ ?_
      have hl1: (l++ [g]).length=l.length+1:=by simp
      have hl2: (sp++ [a]).length=sp.length+1:=by simp
      refine Again.mk ⟨l++ [g],sp++ [a],a2,v4,v5,D4,D5,(b15, .cells (z3_ g).toArray 279 (0,0)):: (DG++ [(ba, .cells (z3_ g).toArray 279 (0,0)),(bc, .cells #[vi a] 3 (0,0))])⟩ (by show n - (l++ [g]).length<n - l.length;omega) ⟨by show(l++ [g]).length≤n;omega,by show(sp++ [a]).length=(l++ [g]).length;omega,hle2.2,hN4,hN5,⟨hw15,hNG.app ⟨hwa,hwc,trivial⟩⟩,by simpa using hG4,by simpa using hG5, ?_⟩ rfl (by simp only[hl1];rfl)
      show xT_ s=_
      rw[hpr,hl1]
      simp
    ·have d4: (e2 !=0)=true:=bne_iff_ne.2 he2
     rw[if_neg he2] at hpr
     first|with_reducible refine ks [] (And.intro @qi_ @d4) ?_|refine kp (And.intro @qi_ @d4) ?_
     refine⟨_,(ke @qi_), ?_⟩
     refine⟨Ext.of_new ⟨hwr,hNr⟩, ?_⟩
     unfold Ki_
     rw[if_pos hE,hpr,hn1]
     simp only[List.append_nil]
     exact⟨v1,v2,_,_,rfl,rfl,by omega,by omega,Gr.i hG1 fun c hc=>by simp[hc],Gr.i hG2 fun c hc=>by simp[hc], .inr ⟨he2,by omega⟩⟩
   ·obtain hln':l.length=n:=by omega
    have d3:decide ((l.length:Int)< (n:Int))=false:=decide_eq_false (by omega)
    rw[hln',Nat.sub_self] at hpr
    first|with_reducible refine ks [] (And.intro @qi_ @d3) ?_|refine kp (And.intro @qi_ @d3) ?_
    refine Cw.regionS [br] [0,1,2,3,4,5,7,8,9,6,10,11] [] (by kernel_rfl) (by kernel_rfl) (by kernel_rfl) ?_
    simp only[zo_, ↓zi_, ↓zd_, ↓zz_, ↓zy_,ze_]
    refine kq @qi_ ?_
    first|with_reducible refine ks [] @qi_ ?_|refine kp @qi_ ?_
    refine⟨_,(ke @qi_), ?_⟩
    refine⟨Ext.of_new ⟨hwr,hNr⟩, ?_⟩
    unfold Ki_
    rw[if_pos hE,hpr,hn1]
    simp only[qL_,List.append_nil]
    exact⟨v1,v2,_,_,rfl,rfl,by omega,by omega,Gr.i hG1 fun c hc=>by simp[hc],Gr.i hG2 fun c hc=>by simp[hc], .inl ⟨trivial,rfl,by omega⟩⟩
  ·have hd0: (e0 !=0)=true:=bne_iff_ne.2 he
   have hE: (kw_ s).2.1=false:=by rw[hhd];exact beq_eq_false_iff_ne.2 he
   first|with_reducible refine ks [] (And.intro @qi_ @hd0) ?_|refine kp (And.intro @qi_ @hd0) ?_
   refine⟨_,(ke @qi_), ?_⟩
   refine⟨Ext.of_new ⟨hwr,trivial⟩, ?_⟩
   unfold Ki_
   rw[hE]
   rfl
 ·have d2: (s.take 4 != [83,80,75,49])=true:=bne_iff_ne.2 hm
  first|with_reducible refine ks [] (And.intro @qi_ (And.intro @d1 (@d2))) ?_|refine kp (And.intro @qi_ (And.intro @d1 (@d2))) ?_
  refine⟨_,(ke @qi_), ?_⟩
  refine⟨Ext.of_new trivial, ?_⟩
  unfold Ki_
  rw[KF_ (.inr hm)]
  rfl
end Go.Proofs
end
section
open Go Go.Proofs Go.Sx Go.StP Go.Flo
namespace Go.Proofs
set_option maxRecDepth 10000
set_option maxHeartbeats 1000000
set_option linter.unusedSimpArgs false
def MkD (D:zc_) (v:Value) (l:List PartL) (sp:List Nat) (ids:List IdL) (os:List ObL):Prop:=
 ∃v0 v1 v2 v3,v=mkV v0 v1 v3 v2∧GrI D 279 3 v0 l.length (l.map z3_).flatten∧GrI D 3 1 v1 sp.length (sp.map natC).flatten∧GrI D 84 32 v2 ids.length (ids.map JO_).flatten∧GrI D 82 2 v3 os.length (os.map obC).flatten
def asC_ (b:List UInt8) (v:Value) (D:zc_):Prop:=match asp_ b with
 |some q=> ∃x,v= .tuple #[x, .bool true]∧MkD D x q.1 q.2.1 q.2.2.1 q.2.2.2
 |none=> ∃c0 c1 c2 c3,v= .tuple #[mkV c0 c1 c2 c3, .bool false]∧OneC c0∧OneC c1∧OneC c2∧OneC c3
theorem BndD.ofSmall {l:List PartL} (h:anu_ l):BndD l:=fun g hg=>by have:=h g hg;omega
def asR_ (l:List PartL) (_x c2 c3:Value) (ok:Bool) (D:zc_):Prop:=match fillV l with
 |some p=>ok=true∧GrI D 84 32 c2 p.1.length (p.1.map JO_).flatten∧GrI D 82 2 c3 p.2.length (p.2.map obC).flatten
 |none=>ok=false
theorem anI_ (a b c d e:Value): #[a,b,c,d,e][0]? =some a:=rfl
theorem anr_ (a b c d e:Value): #[a,b,c,d,e][1]? =some b:=rfl
theorem any_ (a b c d e:Value): #[a,b,c,d,e][2]? =some c:=rfl
theorem anE_ (a b c d e:Value): #[a,b,c,d,e][3]? =some d:=rfl
theorem ans_ (a b c d e:Value): #[a,b,c,d,e][4]? =some e:=rfl
set_option linter.defProp false
def auI_:=And.intro (And.intro (And.intro (@zg_) (@zf_)) (And.intro (@Sx.tup2_0) (@Sx.tup2_1))) (And.intro (And.intro (@anI_) (@anr_)) (And.intro (@any_) (And.intro (@anE_) (@ans_))))
end Go.Proofs
end
section
open Go Go.Proofs Go.Sx Go.StP Go.Flo
namespace Go.Proofs
set_option maxRecDepth 10000
set_option maxHeartbeats 400000
set_option linter.unusedSimpArgs false
structure SaG where
 k:Nat
 out:List ObL
 v:Value
 D:zc_
 DG:zc_
theorem Z6_ {o:ObL} {l:List ObL} {j:Nat} (h:j<l.length):decide (o∈l.take (j+1))=(decide (o∈l.take j) ||decide (l.getD j ob0=o)):=by
 rw[StP.take_snoc (z:=ob0) h]
 by_cases h1:o∈l.take j
 ·rw[decide_eq_true h1,decide_eq_true (List.mem_append_left _ h1)];rfl
 ·by_cases h2:l.getD j ob0=o
  ·rw[decide_eq_true h2,Bool.or_true]
   exact decide_eq_true (List.mem_append_right _ (by rw[h2];exact List.mem_singleton.2 rfl))
  ·rw[decide_eq_false h1,decide_eq_false h2]
   exact decide_eq_false fun h=>by
    rcases List.mem_append.1 h with h|h
    ·exact h1 h
    ·exact h2 (List.mem_singleton.1 h).symm
set_option linter.defProp false
def qm_:=And.intro (And.intro (And.intro (@zg_) (And.intro (@zf_) (@Sx.tup2_0))) (And.intro (And.intro (@Sx.tup2_1) (@anI_)) (And.intro (@anr_) (@any_)))) (And.intro (And.intro (@anE_) (And.intro (@ans_) (@q6_))) (And.intro (And.intro (@qt_) (@qq_)) (And.intro (@qC_) (@apC_))))
theorem agc_ (b:List UInt8) (w:World) (hb:b.length<1099511627776):
  Rets Tryz.prog 156 #[vs b] w (XS w [] (fun v D=>GrI D 82 2 v (WP_ b).length ((WP_ b).map obC).flatten)):=by
 have hrl:=(abL_ b).1
 have hrs:=adz_ b
 refine Rets.enterX Tryz.func156 rfl (rs:= [.tmp 2]) Tryz.results156 Tryz.ntmps156 (fun p hp=>by cases hp) (by simp[keys]) ?_
 refine kf ?_
 first|with_reducible refine ks [] @qm_ ?_|refine kp @qm_ ?_
 refine Ow.callC rfl rfl Tryz.call189 (fun w' hw'=>aau_ b w' hb) (fun B1 v1 D1 hA1 hB1 hN1 hS1=> ?_)
 have hN1':New w.heap.size D1:=hN1.mono hB1
 unfold Ki_ at hS1
 unfold WP_
 rw[List.nil_append]
 cases hok: (kw_ b).2.1 with
 |false=>
  rw[hok,if_neg (by simp)] at hS1
  rw[if_neg (by simp)]
  subst hS1
  refine ko @qm_ ?_
  first|with_reducible refine ks [] @qm_ ?_|refine kp @qm_ ?_
  refine⟨_,(ke @qm_), ?_⟩
  exact⟨Ext.of_new hN1',Gr.i (X:= []) Gr.nl fun p hp=>by cases hp⟩
 |true=>
  rw[hok,if_pos rfl] at hS1
  rw[if_pos rfl]
  obtain⟨x,y,n,A,rfl,-,-,-,hg1,hg2,-⟩:=hS1
  generalize (xT_ b).1=l at*
  have ln:=wS_ hg1
  refine ko @qm_ ?_
  first|with_reducible refine ks [] (And.intro @qm_ @ln) ?_|refine kp (And.intro @qm_ @ln) ?_
  refine Cw.permL (M:=D1++ ([]++ [])) (by simp) ?_
  refine Cw.loopG (G:=SaG) [26,27,28,29,33,34,35,32,36,37,10,11,38,39,41,42,40,43,44,12,13,14,15,45,46,47,48,51,52,53,54,55,56,57,58,59,49,50,60,61,62,63,64,65,66,67,68,8,30,31,9] (fun g=> [(8,g.v),(9,vi g.k)]) (fun g=>D1++ (g.D++g.DG)) (fun g=>g.k≤l.length∧g.out=vc_ l g.k∧New w.heap.size g.D∧New w.heap.size g.DG∧Gr g.D 82 2 g.v g.out.length (g.out.map obC).flatten) (fun g=>l.length - g.k) ⟨0,[], .slice none 0 0,[],[]⟩ rfl rfl ?_ ?_
  ·exact⟨Nat.zero_le _,rfl,trivial,trivial,Gr.nl⟩
  intro g j hg
  refine kv ?_
  obtain⟨k,out,v6,D6,DG⟩:=g
  simp only at hg ⊢
  obtain⟨hk,hout,hN6,hNG,hG6⟩:=hg
  have hol:=QG_ l k
  rw[←hout] at hol
  have hNr:New w.heap.size (D1++ (D6++DG)):=hN1'.app (hN6.app hNG)
  by_cases hlt:k<l.length
  ·have d1:decide ((k:Int)< (l.length:Int))=true:=decide_eq_true (by omega)
   have hsv:vc_ l (k+1)=match partV l (k:Nat) with
    | .ok s=>if Wt_ s=true∧wh_ s∉vc_ l k then vc_ l k++ [wh_ s] else vc_ l k
    | .error _=>vc_ l k:=rfl
   first|with_reducible refine ks [7] (And.intro @qm_ (And.intro @d1 (@ln))) ?_|refine kp (And.intro @qm_ (And.intro @d1 (@ln))) ?_
   refine Ow.callFV rfl Tryz.call190 (fun w' hw'=>aeE_ x l (k:Int) w' ((hg1.mono (fun q hq=>by simp[hq])).slV hw' rfl rfl X6_) (BndD.ofSmall hrs)) ?_
   rw[←hout] at hsv
   cases hp:partV l (k:Nat) with
   |error e2=>
    rw[hp] at hsv
    simp only at hsv
    have e0: (e2 !=0)=true:=bne_iff_ne.2 (akT_ hp)
    unfold ahx_
    refine ko @qm_ ?_
    first|with_reducible refine ks [] (And.intro @qm_ @e0) ?_|refine kp (And.intro @qm_ @e0) ?_
    first|with_reducible refine ks [] @qm_ ?_|refine kp @qm_ ?_
    exact Again.mk ⟨k+1,out,v6,D6,DG⟩ (by show l.length - (k+1)<l.length - k;omega) ⟨hlt,by exact hsv.symm,hN6,hNG,hG6⟩ rfl rfl
   |ok s=>
    rw[hp] at hsv
    simp only at hsv
    have hsl:=ahF_ hp
    have e0: ((0:Int) !=0)=false:=rfl
    have hrd1: (if lfOk s then lfK s else 0)=(wh_ s).k:=by rw[JM_]
    have hrd2: (if lfOk s then(lfT (s.drop 1)).1 else [])=(wh_ s).t:=by rw[JM_]
    have hfl2:=(anR_ s).1
    unfold ahx_
    refine ko @qm_ ?_
    first|with_reducible refine ks [] (And.intro @qm_ @e0) ?_|refine kp (And.intro @qm_ @e0) ?_
    refine Ow.callFV rfl Tryz.call106 (fun w' hw'=>Wb_ s w' (by omega)) ?_
    rw[hrd1,hrd2,←hfl2]
    refine ko @qm_ ?_
    refine Ow.alloc rfl rfl zrOb fun b12 hb12 hw12=> ?_
    simp only[zj_,List.nil_append,List.cons_append]
    refine Ow.permL (M:=(b12, .cells #[vi 0,vs []] 82 (0,0)):: (D1++ (D6++DG))) (by classical exact List.perm_iff_count.2 fun a=>by simp only[List.count_append,List.count_cons,List.count_nil]<;>omega) ?_
    refine ko @qm_ ?_
    generalize hro:wh_ s=o at*
    obtain⟨ok,ot⟩:=o
    have hNr2:New w.heap.size ((b12,Obj.cells #[vi ok,vs ot] 82 (0,0)):: (D1++ (D6++DG))):=⟨hw12,hNr⟩
    refine Cw.world fun wz hwz=> ?_
    have hnd:=hwz.nodup
    clear hwz wz
    have lno: ∀m,Jv_ (.sl m) v6=some (vi out.length):=fun m=>wS_ (Gr.i hG6 (fun p hp=>hp)) m
    first|with_reducible refine ks [] (And.intro @qm_ @lno) ?_|refine kp (And.intro @qm_ @lno) ?_
    refine Cw.loopG (G:=Nat) [45,46,47,48,51,52,53,54,55,56,57,58,59,14,49,50,15] (fun g=> [(14, .bool (decide ((⟨ok,ot⟩:ObL)∈out.take g))),(15,vi g)]) (fun g=>(b12, .cells #[vi ok,vs ot] 82 (0,0)):: (D1++ (D6++DG))) (fun g=>g≤out.length) (fun g=>out.length - g) 0 rfl rfl ?_ ?_
    ·exact Nat.zero_le _
    ·intro j jj hj
     refine kv ?_
     by_cases hjt:j<out.length
     ·have d2:decide ((j:Int)< (out.length:Int))=true:=decide_eq_true (by omega)
      have hnx:=Z6_ (o:=⟨ok,ot⟩) hjt
      have hnd6: (keys D6).Nodup:=by
       simp only[keys,List.map_cons,List.map_append,List.nodup_cons,List.nodup_append] at hnd
       exact hnd.2.2.1.1
      obtain h0| ⟨rb,rc,rest,rfl,hbs,hlk⟩:=Qs_ (Gr.i hG6 (fun p hp=>hp)) hnd6
      ·omega
      have hb12':rb≠b12:=by
       rintro rfl
       simp only[keys,List.map_cons,List.map_append,List.nodup_cons,List.mem_append,not_or] at hnd
       exact hnd.1.2.1 hbs
      have rdb:zA_ w ((b12, .cells #[vi ok,vs ot] 82 (0,0)):: (D1++ (D6++DG))) rb=some (j4_ obC 82 rest out):=by
       have hn1:rb∉keys D1:=by
        simp only[keys,List.map_cons,List.map_append,List.nodup_cons,List.nodup_append,List.mem_append] at hnd
        intro hm
        exact hnd.2.2.2 rb hm rb (.inl hbs) rfl
       exact za_ (by rw[vi_ _ _ _ _ (Ne.symm hb12'),z5_ hn1];exact zl_ hlk)
      have ld:zk_ (some (true,2)) (some (j4_ obC 82 rest out)) (j*2)=some (obV (out.getD j ob0).k (out.getD j ob0).t):=Ze_ (E:=82) (rest:=rest) (z:=ob0) vP_ j hjt
      generalize out.getD j ob0=p at*
      first|with_reducible refine ks [] (And.intro @qm_ (And.intro @d2 (@lno))) ?_|refine kp (And.intro @qm_ (And.intro @d2 (@lno))) ?_
      cases hin:decide ((⟨ok,ot⟩:ObL)∈out.take j) with
      |true=>
       rw[hin,Bool.true_or] at hnx
       refine Cw.regionS [rb,b12] [0,1,2,3,4,5,6,7,8,9] [] (by kernel_rfl) (by kernel_rfl) (by kernel_rfl) ?_
       simp only[zo_, ↓zi_, ↓zd_, ↓zz_, ↓zy_,ze_]
       refine kq (And.intro @qm_ (And.intro @rdb (@ld))) ?_
       first|with_reducible refine ks [] @qm_ ?_|refine kp @qm_ ?_
       exact Again.mk (j+1) (by omega) (by omega) rfl (by rw[hnx];rfl)
      |false=>
       rw[hin,Bool.false_or] at hnx
       refine Cw.regionS [rb,b12] [0,1,2,3,4,5,6,7,8,9] [] (by kernel_rfl) (by kernel_rfl) (by kernel_rfl) ?_
       simp only[zo_, ↓zi_, ↓zd_, ↓zz_, ↓zy_,ze_]
       refine kq (And.intro @qm_ (And.intro @rdb (@ld))) ?_
       first|with_reducible refine ks [] @qm_ ?_|refine kp @qm_ ?_
       exact Again.mk (j+1) (by omega) (by omega) rfl (by rw[hnx];rfl)
     ·obtain rfl:j=out.length:=by omega
      have d2:decide ((out.length:Int)< (out.length:Int))=false:=decide_eq_false (by omega)
      rw[List.take_length]
      first|with_reducible refine ks [] (And.intro @qm_ (And.intro @d2 (@lno))) ?_|refine kp (And.intro @qm_ (And.intro @d2 (@lno))) ?_
      cases hfr:Wt_ s with
      |false=>
       rw[if_neg (fun h=>by rw[hfr] at h;cases h.1)] at hsv
       first|with_reducible refine ks [] (And.intro @qm_ @hfr) ?_|refine kp (And.intro @qm_ @hfr) ?_
       refine Cw.permL (M:=D1++ (D6++ ((b12, .cells #[vi ok,vs ot] 82 (0,0))::DG))) (by classical exact List.perm_iff_count.2 fun a=>by simp only[List.count_append,List.count_cons,List.count_nil]<;>omega) ?_
       first|with_reducible refine ks [] @qm_ ?_|refine kp @qm_ ?_
       exact Again.mk ⟨k+1,out,v6,D6,(b12, .cells #[vi ok,vs ot] 82 (0,0))::DG⟩ (by show l.length - (k+1)<l.length - k;omega) ⟨hlt,by exact hsv.symm,hN6,⟨hw12,hNG⟩,hG6⟩ rfl rfl
      |true=>
       cases hin:decide ((⟨ok,ot⟩:ObL)∈out) with
       |true=>
        rw[if_neg (fun h=>h.2 (of_decide_eq_true hin))] at hsv
        first|with_reducible refine ks [] (And.intro @qm_ (And.intro @hfr (@hin))) ?_|refine kp (And.intro @qm_ (And.intro @hfr (@hin))) ?_
        refine Cw.permL (M:=D1++ (D6++ ((b12, .cells #[vi ok,vs ot] 82 (0,0))::DG))) (by classical exact List.perm_iff_count.2 fun a=>by simp only[List.count_append,List.count_cons,List.count_nil]<;>omega) ?_
        first|with_reducible refine ks [] @qm_ ?_|refine kp @qm_ ?_
        exact Again.mk ⟨k+1,out,v6,D6,(b12, .cells #[vi ok,vs ot] 82 (0,0))::DG⟩ (by show l.length - (k+1)<l.length - k;omega) ⟨hlt,by exact hsv.symm,hN6,⟨hw12,hNG⟩,hG6⟩ rfl rfl
       |false=>
        rw[if_pos ⟨hfr,of_decide_eq_false hin⟩] at hsv
        first|with_reducible refine ks [] (And.intro @qm_ (And.intro @hfr (@hin))) ?_|refine kp (And.intro @qm_ (And.intro @hfr (@hin))) ?_
        refine Ow.buildSlice (e:=82) #[vi ok,vs ot] rfl rfl (zV_ (cs:=obC ⟨ok,ot⟩) Tryz.underlying94 Tryz.ag82 zrOb (by decide) rfl) fun bc hbc hwc=> ?_
        refine ko @qm_ ?_
        refine Ow.permL (M:=D6++ ((b12, .cells #[vi ok,vs ot] 82 (0,0)):: (D1++ (DG++ [(bc, .cells #[vi ok,vs ot] 82 (0,0))])))) (by classical exact List.perm_iff_count.2 fun a=>by simp only[List.count_append,List.count_cons,List.count_nil]<;>omega) ?_
        refine Ow.appendXG (e:=82) (k:=1) (new:=obC ⟨ok,ot⟩) (X:=D6) v6 rfl rfl rfl rfl Tryz.underlying94 Tryz.ag82 (by kernel_rfl) zrOb (by rw[obV,zj_];rfl) Tryz.underlying94 (by intro k h;cases h) hG6 (fun w' hw'=>AppX.one1 (hw'.has bc (.cells (obC ⟨ok,ot⟩).toArray 82 (0,0)) (by simp[obC])) (vP_ _) (Kn_ _)) (by omega) (fun B5 v5 D5 hA5 hB5 hG5 hk51 hk52 hlk5=> ?_)
        have hN5:New w.heap.size D5:=New.of_le fun q hq=>by
         rcases hk52 q hq with h|h
         ·exact hN6.le q h
         ·omega
        refine ko @qm_ ?_
        refine Cw.permL (M:=D1++ (D5++ ((b12, .cells #[vi ok,vs ot] 82 (0,0)):: (DG++ [(bc, .cells #[vi ok,vs ot] 82 (0,0))])))) (by classical exact List.perm_iff_count.2 fun a=>by simp only[List.count_append,List.count_cons,List.count_nil]<;>omega) ?_
        first|with_reducible refine ks [] @qm_ ?_|refine kp @qm_ ?_
        exact Again.mk ⟨k+1,out++ [⟨ok,ot⟩],v5,D5,(b12, .cells #[vi ok,vs ot] 82 (0,0)):: (DG++ [(bc, .cells #[vi ok,vs ot] 82 (0,0))])⟩ (by show l.length - (k+1)<l.length - k;omega) ⟨hlt,by exact hsv.symm,hN5,⟨hw12,hNG.app ⟨hwc,trivial⟩⟩,by simpa using hG5⟩ rfl rfl
  ·obtain rfl:k=l.length:=by omega
   have d1:decide ((l.length:Int)< (l.length:Int))=false:=decide_eq_false (by omega)
   first|with_reducible refine ks [] (And.intro @qm_ (And.intro @d1 (@ln))) ?_|refine kp (And.intro @qm_ (And.intro @d1 (@ln))) ?_
   refine⟨_,(ke @qm_), ?_⟩
   refine⟨Ext.of_new hNr, ?_⟩
   rw[←hout]
   exact Gr.i hG6 fun p hp=>by simp[hp]
end Go.Proofs
end
section
open Go Go.Proofs Go.Sx Go.StP Go.Flo
namespace Go.Proofs
set_option maxRecDepth 10000
set_option maxHeartbeats 400000
set_option linter.unusedSimpArgs false
def magO:List UInt8:= [83,76,79,49]
def aaQ_ (b:List UInt8):List ObL:=if(zF_ b).2=true∧4≤ (zF_ b).1.length∧(zF_ b).1.take 4=magO∧Wt_ ((zF_ b).1.drop 4)=true then [wh_ ((zF_ b).1.drop 4)] else []
def aif_ (b:List UInt8):List ObL:=aaQ_ b++WP_ b
def ZB_ (l:List FiL):List ObL:=(l.map fun f=>aif_ f.data).flatten
theorem aap_ (b:List UInt8): (WP_ b).length≤200:=by
 unfold WP_
 split
 ·exact Nat.le_trans (QG_ _ _) (abL_ b).1
 ·exact Nat.zero_le _
theorem XY_ (b:List UInt8): (aif_ b).length≤201:=by
 have:=aap_ b
 unfold aif_ aaQ_
 split
 ·simp;omega
 ·simp;omega
theorem V7_ (l:List FiL) {k:Nat} (h:k<l.length):ZB_ (l.take (k+1))=ZB_ (l.take k)++aif_ (l.getD k fi0).data:=by
 unfold ZB_
 rw[StP.take_snoc (z:=fi0) h,List.map_append,List.flatten_append]
 simp
theorem Kb_ (l:List FiL): ∀k,k≤l.length→(ZB_ (l.take k)).length≤k*201
 |0,_=>by simp[ZB_]
 |k+1,h=>by
  have h1:=Kb_ l k (by omega)
  have h2:=XY_ (l.getD k fi0).data
  rw[V7_ l (by omega),List.length_append]
  omega
theorem aly_ (s:List UInt8): (zF_ s).1.length≤s.length:=by
 unfold zF_
 split
 ·simp
 ·split
  ·simp only[List.length_take];omega
  ·simp
structure ObjC where
 os:List ObL
 v:Value
 D:zc_
 DG:zc_
structure ObjG where
 k:Nat
 v:Value
 D:zc_
 DG:zc_
set_option linter.defProp false
def jN_:=And.intro (And.intro (And.intro (@zg_) (@zf_)) (And.intro (@Sx.tup2_0) (@Sx.tup2_1))) (And.intro (And.intro (@q6_) (@qt_)) (And.intro (@qq_) (@qC_)))
theorem ab5_ (v:Value) (l:List FiL) (w:World) (hv:FiSl w v l) (hl:l.length≤1000) (hb:FiB l):
  Rets Tryz.prog 113 #[v] w (XS w [] (fun v D=> ∃D1 D2,D=D1++D2∧Gr D1 82 2 v (ZB_ l).length ((ZB_ l).map obC).flatten)):=by
 have ln:=hv.len
 obtain⟨rb,off,arr,E,fz,hr⟩:=hv.row
 refine Rets.enterX Tryz.func113 rfl (rs:= [.tmp 2]) Tryz.results113 Tryz.ntmps113 (fun p hp=>by cases hp) (by simp[keys]) ?_
 refine kf ?_
 first|with_reducible refine ks [] (And.intro @jN_ @ln) ?_|refine kp (And.intro @jN_ @ln) ?_
 refine Cw.permL (M:= []++ []) (List.Perm.refl _) ?_
 refine Cw.loopG (G:=ObjG) [9,10,11,12,16,17,18,19,20,21,15,22,23,5,6,24,25,26,27,28,29,30,31,32,33,34,36,37,38,35,39,40,7,8,41,42,43,44,45,3,46,47,48,49,50,51,52,53,13,14,4] (fun g=> [(3,g.v),(4,vi g.k)]) (fun g=>g.D++g.DG) (fun g=>g.k≤l.length∧New w.heap.size g.D∧New w.heap.size g.DG∧Gr g.D 82 2 g.v (ZB_ (l.take g.k)).length ((ZB_ (l.take g.k)).map obC).flatten) (fun g=>l.length - g.k) ⟨0, .slice none 0 0,[],[]⟩ rfl rfl ?_ ?_
 ·exact⟨Nat.zero_le _,trivial,trivial,Gr.nl⟩
 intro g j hg
 refine kv ?_
 obtain⟨k,v3,D,DG⟩:=g
 simp only at hg ⊢
 obtain⟨hk,hN,hNG,hG⟩:=hg
 have hol:=Kb_ l k hk
 by_cases hlt:k<l.length
 ·have d1:decide ((k:Int)< (l.length:Int))=true:=decide_eq_true (by omega)
  have hrl:=hr.lt (by omega)
  have ixl:=hr.idx true k hlt
  have ld2: ∀n,zk_ (some (false,n)) (some (.cells arr E fz)) (off+k*3+2)=some (vs (l.getD k fi0).data):=fun n=>acS_ hr hlt n
  have hhas:=hr.has (show 0<l.length by omega)
  have rdl: ∀L,New w.heap.size L→zA_ w L rb=some (.cells arr E fz):=fun L hL=>by rw[z2_ (hL.not hrl)];exact hhas
  have hfb:=(hb (l.getD k fi0) (by rw[List.getD_eq_getElem?_getD,List.getElem?_eq_getElem hlt];exact List.getElem_mem _)).2
  have hnx:=V7_ l hlt
  have hfl:=XY_ (l.getD k fi0).data
  generalize (l.getD k fi0).data=b at*
  generalize hosE:ZB_ (l.take k)=os at*
  have rd1:=rdl _ (hN.app hNG)
  have hun:=aly_ b
  have hfo:aif_ b=aaQ_ b++WP_ b:=rfl
  have hlo:aaQ_ b=if(zF_ b).2=true∧4≤ (zF_ b).1.length∧(zF_ b).1.take 4=magO∧Wt_ ((zF_ b).1.drop 4)=true then [wh_ ((zF_ b).1.drop 4)] else []:=rfl
  have hsl:=aap_ b
  first|with_reducible refine ks [8,1000006] (And.intro @jN_ (And.intro @d1 (And.intro @ln (And.intro @ixl (And.intro @rd1 (@ld2)))))) ?_|refine kp (And.intro @jN_ (And.intro @d1 (And.intro @ln (And.intro @ixl (And.intro @rd1 (@ld2)))))) ?_
  refine Ow.callFV rfl Tryz.call105 (fun w' hw'=>KO_ b w' hfb) ?_
  generalize zF_ b=u at*
  obtain⟨s,ok⟩:=u
  simp only at hun hlo ⊢
  refine ko @jN_ ?_
  refine Cw.cutO (G:=ObjC) [3,7,8,24,25,26,27,28,29,30,31,32,33,34,35,36,37,38,39,40,41,42,43,44,45] (fun g=> [(3,g.v)]) (fun g=>g.D++g.DG) (fun g=>New w.heap.size g.D∧New w.heap.size g.DG∧Gr g.D 82 2 g.v g.os.length (g.os.map obC).flatten∧g.os=os++aaQ_ b) ?_ ?_
  ·cases ok with
   |false=>
    rw[if_neg (by simp)] at hlo
    first|with_reducible refine ks [] @jN_ ?_|refine kp @jN_ ?_
    exact CutO.mk ⟨os,v3,D,DG⟩ ⟨hN,hNG,hG,by rw[hlo,List.append_nil]⟩ rfl rfl
   |true=>
    by_cases h4:4≤s.length
    ·have d4:decide ((4:Int)≤ (s.length:Int))=true:=decide_eq_true (by omega)
     have d4':decide ((0:Int)≤4∧(4:Int)≤ (s.length:Int))=true:=decide_eq_true (by omega)
     have d4'':decide ((4:Int)≤ (s.length:Int)∧(s.length:Int)≤ (s.length:Int))=true:=decide_eq_true (by omega)
     by_cases hm:s.take 4=magO
     ·have d5: (s.take 4== [83,76,79,49])=true:=beq_iff_eq.2 hm
      first|with_reducible refine ks [8] (And.intro @jN_ (And.intro @d4 (And.intro @d4' (@d5)))) ?_|refine kp (And.intro @jN_ (And.intro @d4 (And.intro @d4' (@d5)))) ?_
      refine Ow.callFV rfl Tryz.call106 (fun w' hw'=>Wb_ (s.drop 4) w' (by rw[List.length_drop];omega)) ?_
      have hrd1: (if lfOk (s.drop 4) then lfK (s.drop 4) else 0)=(wh_ (s.drop 4)).k:=by rw[JM_]
      have hrd2: (if lfOk (s.drop 4) then(lfT ((s.drop 4).drop 1)).1 else [])=(wh_ (s.drop 4)).t:=by rw[JM_]
      have hfl2:=(anR_ (s.drop 4)).1
      rw[hrd1,hrd2,←hfl2]
      refine ko @jN_ ?_
      refine Ow.alloc rfl rfl zrOb fun b7 hb7 hw7=> ?_
      simp only[zj_,List.nil_append,List.cons_append]
      refine Ow.permL (M:=(b7, .cells #[vi 0,vs []] 82 (0,0)):: (D++DG)) (by classical exact List.perm_iff_count.2 fun a=>by simp only[List.count_append,List.count_cons,List.count_nil]<;>omega) ?_
      refine ko @jN_ ?_
      generalize wh_ (s.drop 4)=o at*
      obtain⟨ok,ot⟩:=o
      cases hfr:Wt_ (s.drop 4) with
      |false=>
       rw[if_neg (fun h=>by rw[hfr] at h;cases h.2.2.2)] at hlo
       refine Cw.permL (M:=D++ ((b7, .cells #[vi ok,vs ot] 82 (0,0))::DG)) (by classical exact List.perm_iff_count.2 fun a=>by simp only[List.count_append,List.count_cons,List.count_nil]<;>omega) ?_
       first|with_reducible refine ks [] (And.intro @jN_ @hfr) ?_|refine kp (And.intro @jN_ @hfr) ?_
       exact CutO.mk ⟨os,v3,D,(b7, .cells #[vi ok,vs ot] 82 (0,0))::DG⟩ ⟨hN,⟨hw7,hNG⟩,hG,by rw[hlo,List.append_nil]⟩ rfl rfl
      |true=>
       rw[if_pos ⟨rfl,h4,hm,hfr⟩] at hlo
       first|with_reducible refine ks [] (And.intro @jN_ @hfr) ?_|refine kp (And.intro @jN_ @hfr) ?_
       refine Ow.buildSlice (e:=82) #[vi ok,vs ot] rfl rfl (zV_ (cs:=obC ⟨ok,ot⟩) Tryz.underlying94 Tryz.ag82 zrOb (by decide) rfl) fun bc hbc hwc=> ?_
       refine ko @jN_ ?_
       refine Ow.permL (M:=D++ ((b7, .cells #[vi ok,vs ot] 82 (0,0)):: (DG++ [(bc, .cells #[vi ok,vs ot] 82 (0,0))]))) (by classical exact List.perm_iff_count.2 fun a=>by simp only[List.count_append,List.count_cons,List.count_nil]<;>omega) ?_
       refine Ow.appendXG (e:=82) (k:=1) (new:=obC ⟨ok,ot⟩) (X:=D) v3 rfl rfl rfl rfl Tryz.underlying94 Tryz.ag82 (by kernel_rfl) zrOb (by rw[obV,zj_];rfl) Tryz.underlying94 (by intro k h;cases h) hG (fun w' hw'=>AppX.one1 (hw'.has bc (.cells (obC ⟨ok,ot⟩).toArray 82 (0,0)) (by simp[obC])) (vP_ _) (Kn_ _)) (by omega) (fun B5 v5 D5 hA5 hB5 hG5 hk51 hk52 hlk5=> ?_)
       have hN5:New w.heap.size D5:=New.of_le fun q hq=>by
        rcases hk52 q hq with h|h
        ·exact hN.le q h
        ·omega
       refine ko @jN_ ?_
       first|with_reducible refine ks [] @jN_ ?_|refine kp @jN_ ?_
       exact CutO.mk ⟨os++ [⟨ok,ot⟩],v5,D5,(b7, .cells #[vi ok,vs ot] 82 (0,0)):: (DG++ [(bc, .cells #[vi ok,vs ot] 82 (0,0))])⟩ ⟨hN5,⟨hw7,hNG.app ⟨hwc,trivial⟩⟩,by simpa using hG5,by rw[hlo]⟩ rfl rfl
     ·have d5: (s.take 4== [83,76,79,49])=false:=beq_eq_false_iff_ne.2 hm
      rw[if_neg (fun h=>hm h.2.2.1)] at hlo
      first|with_reducible refine ks [] (And.intro @jN_ (And.intro @d4 (And.intro @d4' (@d5)))) ?_|refine kp (And.intro @jN_ (And.intro @d4 (And.intro @d4' (@d5)))) ?_
      exact CutO.mk ⟨os,v3,D,DG⟩ ⟨hN,hNG,hG,by rw[hlo,List.append_nil]⟩ rfl rfl
    ·have d4:decide ((4:Int)≤ (s.length:Int))=false:=decide_eq_false (by omega)
     rw[if_neg (fun h=>h4 h.2.1)] at hlo
     first|with_reducible refine ks [] (And.intro @jN_ @d4) ?_|refine kp (And.intro @jN_ @d4) ?_
     exact CutO.mk ⟨os,v3,D,DG⟩ ⟨hN,hNG,hG,by rw[hlo,List.append_nil]⟩ rfl rfl
  ·intro g j hg
   refine kv ?_
   obtain⟨os2,v4,D4,DG4⟩:=g
   simp only at hg ⊢
   obtain⟨hN4,hNG4,hG4,hos4⟩:=hg
   have hol2:os2.length≤k*201+201:=by
    have:=XY_ b
    rw[hfo,List.length_append] at this
    rw[hos4,List.length_append]
    omega
   have rd2:=rdl _ (hN4.app hNG4)
   first|with_reducible refine ks [] (And.intro @jN_ (And.intro @ln (And.intro @ixl (And.intro @rd2 (@ld2))))) ?_|refine kp (And.intro @jN_ (And.intro @ln (And.intro @ixl (And.intro @rd2 (@ld2))))) ?_
   refine Ow.callC rfl rfl Tryz.call156 (fun w' hw'=>agc_ b w' hfb) (fun B9 v9 D9 hA9 hB9 hN9 hS9=> ?_)
   have hN9':New w.heap.size D9:=hN9.mono hB9
   refine ko @jN_ ?_
   refine Ow.permL (M:=D4++ (DG4++D9)) (by classical exact List.perm_iff_count.2 fun a=>by simp only[List.count_append,List.count_cons,List.count_nil]<;>omega) ?_
   refine Ow.appendXG (e:=82) (k:=(WP_ b).length) (new:=((WP_ b).map obC).flatten) (X:=D4) v4 rfl rfl rfl rfl Tryz.underlying94 Tryz.ag82 (by kernel_rfl) zrOb (by rw[obV,zj_];rfl) Tryz.underlying94 (by intro k h;cases h) hG4 (fun w' hw'=>((hS9.mono (fun q hq=>by simp[hq])).slV (z:=ob0) hw' rfl rfl vP_).appX vP_ Kn_) (by omega) (fun B5 v5 D5 hA5 hB5 hG5 hk51 hk52 hlk5=> ?_)
   have hN5:New w.heap.size D5:=New.of_le fun q hq=>by
    rcases hk52 q hq with h|h
    ·exact hN4.le q h
    ·omega
   refine ko @jN_ ?_
   first|with_reducible refine ks [] @jN_ ?_|refine kp @jN_ ?_
   exact Again.mk ⟨k+1,v5,D5,DG4++D9⟩ (by show l.length - (k+1)<l.length - k;omega) ⟨hlt,hN5,hNG4.app hN9',by rw[hnx,hfo,←List.append_assoc,←hos4,List.length_append,List.map_append,List.flatten_append];exact hG5⟩ rfl rfl
 ·obtain rfl:k=l.length:=by omega
  have d1:decide ((l.length:Int)< (l.length:Int))=false:=decide_eq_false (by omega)
  rw[List.take_length] at hG
  first|with_reducible refine ks [] (And.intro @jN_ (And.intro @d1 (@ln))) ?_|refine kp (And.intro @jN_ (And.intro @d1 (@ln))) ?_
  refine⟨_,(ke @jN_), ?_⟩
  exact⟨Ext.of_new (hN.app hNG),D,DG,rfl,hG⟩
end Go.Proofs
end
section
open Go Go.Proofs Go.Sx Go.StP Go.Flo
namespace Go.Proofs
set_option maxRecDepth 10000
set_option maxHeartbeats 400000
set_option linter.unusedSimpArgs false
def idQ (o:ObL):IdL:=⟨Dig.shaR (Ji_ o.k o.t),WH_ _⟩
def wp_ (all:List ObL):Nat→Option (List ObL)
 |0=>some []
 |i+1=>match wp_ all i with
  |none=>none
  |some had=>if ko_ (all.getD i ob0).k (all.getD i ob0).t=true∧all.getD i ob0∉had then(if had.any (fun h=>(idQ h).l==(idQ (all.getD i ob0)).l)=true then none else some (had++ [all.getD i ob0])) else some had
def aa0_ (all:List ObL):Bool:=(wp_ all all.length).isNone
theorem Ka_ {all:List ObL}: ∀ {j i:Nat},wp_ all i=none→i≤j→wp_ all j=none
 |0,i,h,hij=>by
  obtain rfl:i=0:=by omega
  exact h
 |j+1,i,h,hij=>by
  by_cases e:i=j+1
  ·subst e;exact h
  ·have:=Ka_ (j:=j) h (by omega)
   unfold wp_
   rw[this]
theorem VH_ {all:List ObL}: ∀ {i:Nat} {had:List ObL},wp_ all i=some had→had.length≤i
 |0,had,h=>by cases h;exact Nat.le_refl _
 |i+1,had,h=>by
  unfold wp_ at h
  cases hc:wp_ all i with
  |none=>rw[hc] at h;cases h
  |some had'=>
   have h1:=VH_ hc
   rw[hc] at h
   simp only at h
   split at h
   ·split at h
    ·cases h
    ·cases h;rw[List.length_append];simp;omega
   ·cases h;omega
structure ThG where
 j:Nat
 c:Bool
structure ClG where
 i:Nat
 had:List ObL
 v6:Value
 v7:Value
 D6:zc_
 D7:zc_
 DG:zc_
set_option linter.defProp false
def qg_:=And.intro (And.intro (And.intro (@zg_) (@zf_)) (And.intro (@Sx.tup2_0) (And.intro (@Sx.tup2_1) (@q6_)))) (And.intro (And.intro (@qt_) (And.intro (@qq_) (@qC_))) (And.intro (@apC_) (And.intro (@aht_) (@xB_))))
theorem agM_ (v1 v2:Value) (l:List FiL) (more:List ObL) (w:World) (hv:FiSl w v1 l) (hl:l.length≤1000) (hb:FiB l) (hm:ObSl w v2 more) (hml:more.length≤1000000):
  Rets Tryz.prog 57 #[v1,v2] w (fun v D=>v= .bool (aa0_ (ZB_ l++more))∧D= []):=by
 have ln2:=hm.len
 have hol:=Kb_ l l.length (Nat.le_refl _)
 rw[List.take_length] at hol
 refine Rets.enterV Tryz.func57 rfl (rs:= [.tmp 4]) Tryz.results57 Tryz.ntmps57 ?_
 refine kf ?_
 first|with_reducible refine ks [] @qg_ ?_|refine kp @qg_ ?_
 refine Ow.callC rfl rfl Tryz.call113 (fun w' hw'=>ab5_ v1 l w' (hv.oldN hw' trivial) hl hb) (fun B1 v4 D0 hA1 hB1 hN1 hS1=> ?_)
 obtain⟨D1,DG1,rfl,hG1⟩:=hS1
 have hN1':=hN1.mono hB1
 rw[List.nil_append]
 refine ko @qg_ ?_
 refine Ow.appendXG (e:=82) (k:=more.length) (new:=(more.map obC).flatten) (X:=D1) v4 rfl rfl rfl rfl Tryz.underlying94 Tryz.ag82 (by kernel_rfl) zrOb (by rw[obV,zj_];rfl) Tryz.underlying94 (by intro k h;cases h) hG1 (fun w' hw'=>(hm.oldN hw' hN1').appX vP_ Kn_) (by omega) (fun B5 v5 D5 hA5 hB5 hG5 hk51 hk52 hlk5=> ?_)
 have hN5:New w.heap.size D5:=New.of_le fun q hq=>by
  rcases hk52 q hq with h|h
  ·exact hN1'.le q (by rw[zt_];exact List.mem_append_left _ h)
  ·omega
 rw[←List.flatten_append,←List.map_append,←List.length_append] at hG5
 have hal: (ZB_ l++more).length≤1300000:=by rw[List.length_append];omega
 have hNG1:New w.heap.size DG1:=New.of_le fun q hq=>hN1'.le q (by rw[zt_];exact List.mem_append_right _ hq)
 generalize ZB_ l++more=all at*
 have hGi:=Gr.i hG5 (fun p hp=>hp)
 have lna: ∀m,Jv_ (.sl m) v5=some (vi all.length):=fun m=>wS_ hGi m
 refine ko @qg_ ?_
 first|with_reducible refine ks [] (And.intro @qg_ @lna) ?_|refine kp (And.intro @qg_ @lna) ?_
 refine Cw.permL (M:=D5++ ([]++ ([]++DG1))) (by classical exact List.perm_iff_count.2 fun a=>by simp only[List.count_append,List.count_cons,List.count_nil]<;>omega) ?_
 refine Cw.loopG (G:=ClG) [18,19,20,21,24,25,26,27,28,29,9,10,30,31,32,33,34,35,36,37,40,41,42,43,44,45,46,47,48,38,39,49,50,51,52,53,54,11,12,55,56,57,58,61,62,63,64,65,66,4,59,60,67,68,69,70,71,72,73,6,74,75,76,77,7,22,23,8] (fun g=> [(6,g.v6),(7,g.v7),(8,vi g.i)]) (fun g=>D5++ (g.D6++ (g.D7++g.DG))) (fun g=>g.i≤all.length∧wp_ all g.i=some g.had∧New w.heap.size g.D6∧New w.heap.size g.D7∧New w.heap.size g.DG∧Gr g.D6 82 2 g.v6 g.had.length (g.had.map obC).flatten∧Gr g.D7 84 32 g.v7 g.had.length ((g.had.map idQ).map JO_).flatten) (fun g=>all.length - g.i) ⟨0,[], .slice none 0 0, .slice none 0 0,[],[],DG1⟩ rfl rfl ?_ ?_
 ·exact⟨Nat.zero_le _,rfl,trivial,trivial,hNG1,Gr.nl,Gr.nl⟩
 intro g j hg
 refine kv ?_
 obtain⟨i,had,v6,v7,D6,D7,DG⟩:=g
 simp only at hg ⊢
 obtain⟨hi,hcl,hN6,hN7,hNG,hG6,hG7⟩:=hg
 have hhl:=VH_ hcl
 have hNr:New w.heap.size (D5++ (D6++ (D7++DG))):=hN5.app (hN6.app (hN7.app hNG))
 by_cases hlt:i<all.length
 ·have d1:decide ((i:Int)< (all.length:Int))=true:=decide_eq_true (by omega)
  have hcs:wp_ all (i+1)=if ko_ (all.getD i ob0).k (all.getD i ob0).t=true∧all.getD i ob0∉had then(if had.any (fun h=>(idQ h).l==(idQ (all.getD i ob0)).l)=true then none else some (had++ [all.getD i ob0])) else some had:=by
   show(match wp_ all i with|none=>none|some had=>_)=_
   rw[hcl]
  refine Cw.world fun wz hwz=> ?_
  have hnd:=hwz.nodup
  clear hwz wz
  simp only[zt_,List.nodup_append,List.mem_append] at hnd
  obtain h0| ⟨ra,ca,resta,rfl,hka,hlka⟩:=Qs_ hGi hnd.1
  ·omega
  have rda: ∀Y,zA_ w (D5++Y) ra=some (j4_ obC 82 resta all):=fun Y=>za_ (zl_ hlka)
  have lda:zk_ (some (true,2)) (some (j4_ obC 82 resta all)) (i*2)=some (obV (all.getD i ob0).k (all.getD i ob0).t):=Ze_ (E:=82) (rest:=resta) (z:=ob0) vP_ i hlt
  have lnh: ∀m,Jv_ (.sl m) v6=some (vi had.length):=fun m=>wS_ (Gr.i hG6 (fun p hp=>hp)) m
  have lni: ∀m,Jv_ (.sl m) v7=some (vi had.length):=fun m=>wS_ (Gr.i hG7 (fun p hp=>hp)) m
  generalize all.getD i ob0=o at*
  obtain⟨ok,ot⟩:=o
  simp only at lda hcs
  first|with_reducible refine ks [7] (And.intro @qg_ (And.intro @d1 (And.intro @lna (And.intro @lda (@rda))))) ?_|refine kp (And.intro @qg_ (And.intro @d1 (And.intro @lna (And.intro @lda (@rda))))) ?_
  refine Ow.callFV rfl Tryz.call54 (fun w' hw'=>Xr_ ok ot w') ?_
  refine ko @qg_ ?_
  first|with_reducible refine ks [] (And.intro @qg_ @lnh) ?_|refine kp (And.intro @qg_ @lnh) ?_
  refine Cw.loopG (G:=ThG) [30,31,32,33,34,35,36,37,40,41,42,43,44,45,46,47,48,9,38,39,10] (fun g=> [(9, .bool g.c),(10,vi g.j)]) (fun g=>D5++ (D6++ (D7++DG))) (fun g=>g.j≤had.length∧g.c=(!ko_ ok ot||decide ((⟨ok,ot⟩:ObL)∈had.take g.j))) (fun g=>had.length - g.j) ⟨0, !ko_ ok ot⟩ rfl rfl ?_ ?_
  ·exact⟨Nat.zero_le _,by simp⟩
  intro g j hg
  refine kv ?_
  obtain⟨j,c⟩:=g
  simp only at hg ⊢
  obtain⟨hj,hc⟩:=hg
  by_cases hjt:j<had.length
  ·have d2:decide ((j:Int)< (had.length:Int))=true:=decide_eq_true (by omega)
   cases c with
   |true=>
    have hno: ¬ (ko_ ok ot=true∧(⟨ok,ot⟩:ObL)∉had):=by
     rintro⟨h1,h2⟩
     rw[h1,decide_eq_false (fun h=>h2 (List.mem_of_mem_take h))] at hc
     cases hc
    first|with_reducible refine ks [] (And.intro @qg_ (And.intro @d2 (@lnh))) ?_|refine kp (And.intro @qg_ (And.intro @d2 (@lnh))) ?_
    rw[if_neg hno] at hcs
    first|with_reducible refine ks [] @qg_ ?_|refine kp @qg_ ?_
    exact Again.mk ⟨i+1,had,v6,v7,D6,D7,DG⟩ (by show all.length - (i+1)<all.length - i;omega) ⟨hlt,hcs,hN6,hN7,hNG,hG6,hG7⟩ rfl rfl
   |false=>
    have hc':=hc.symm
    rw[Bool.or_eq_false_iff] at hc'
    have hnx:=Z6_ (o:=⟨ok,ot⟩) hjt
    rw[hc'.2,Bool.false_or] at hnx
    obtain h0| ⟨rh,ch,resth,rfl,hkh,hlkh⟩:=Qs_ (Gr.i hG6 (fun p hp=>hp)) hnd.2.1.1
    ·omega
    have hn1:rh∉keys D5:=fun hm=>hnd.2.2 rh hm rh (.inl hkh) rfl
    have rdh:zA_ w (D5++ (D6++ (D7++DG))) rh=some (j4_ obC 82 resth had):=za_ (by rw[z5_ hn1];exact zl_ hlkh)
    have ldh:zk_ (some (true,2)) (some (j4_ obC 82 resth had)) (j*2)=some (obV (had.getD j ob0).k (had.getD j ob0).t):=Ze_ (E:=82) (rest:=resth) (z:=ob0) vP_ j hjt
    generalize had.getD j ob0=p at*
    first|with_reducible refine ks [] (And.intro @qg_ (And.intro @d2 (@lnh))) ?_|refine kp (And.intro @qg_ (And.intro @d2 (@lnh))) ?_
    refine Cw.regionS [rh,ra] [0,1,2,4,5,6,3,7,8,9] [] (by kernel_rfl) (by kernel_rfl) (by kernel_rfl) ?_
    simp only[zo_, ↓zi_, ↓zd_, ↓zz_, ↓zy_,ze_]
    refine kq (And.intro @qg_ (And.intro @rdh (And.intro @ldh (And.intro @rda (@lda))))) ?_
    first|with_reducible refine ks [] @qg_ ?_|refine kp @qg_ ?_
    exact Again.mk ⟨j+1,_⟩ (by show had.length - (j+1)<had.length - j;omega) ⟨hjt,by rw[hc'.1,Bool.false_or];exact hnx.symm⟩ rfl rfl
  ·obtain rfl:j=had.length:=by omega
   have d2:decide ((had.length:Int)< (had.length:Int))=false:=decide_eq_false (by omega)
   rw[List.take_length] at hc
   cases c with
   |true=>
    have hno: ¬ (ko_ ok ot=true∧(⟨ok,ot⟩:ObL)∉had):=by
     rintro⟨h1,h2⟩
     rw[h1,decide_eq_false h2] at hc
     cases hc
    first|with_reducible refine ks [] (And.intro @qg_ (And.intro @d2 (@lnh))) ?_|refine kp (And.intro @qg_ (And.intro @d2 (@lnh))) ?_
    rw[if_neg hno] at hcs
    first|with_reducible refine ks [] @qg_ ?_|refine kp @qg_ ?_
    exact Again.mk ⟨i+1,had,v6,v7,D6,D7,DG⟩ (by show all.length - (i+1)<all.length - i;omega) ⟨hlt,hcs,hN6,hN7,hNG,hG6,hG7⟩ rfl rfl
   |false=>
    have hc':=hc.symm
    rw[Bool.or_eq_false_iff] at hc'
    have hrt:ko_ ok ot=true:=by simpa using hc'.1
    have htl:ot.length<100000:=by have:=alv_ (k:=ok) (t:=ot) (by rw[VT_];exact hrt);omega
    rw[if_pos ⟨hrt,of_decide_eq_false hc'.2⟩] at hcs
    first|with_reducible refine ks [] (And.intro @qg_ (And.intro @d2 (And.intro @lnh (And.intro @rda (@lda))))) ?_|refine kp (And.intro @qg_ (And.intro @d2 (And.intro @lnh (And.intro @rda (@lda))))) ?_
    refine Ow.callFV rfl Tryz.call55 (fun w' hw'=>amM_ ok ot w' htl) ?_
    have hid:Dig.shaR (Ji_ ok ot)=(idQ ⟨ok,ot⟩).l:=rfl
    rw[hid] at*
    have hil:=(idQ ⟨ok,ot⟩).h
    have hi0:=id0.h
    generalize hx:idQ ⟨ok,ot⟩=x at*
    refine ko @qg_ ?_
    refine Ow.alloc rfl rfl agi_ fun b11 hb11 hw11=> ?_
    simp only[zj_,List.nil_append,List.cons_append]
    refine Ow.permL (M:=(b11, .cells (a8 id0.l) 84 (0,0)):: (D5++ (D6++ (D7++DG)))) (by classical exact List.perm_iff_count.2 fun a=>by simp only[List.count_append,List.count_cons,List.count_nil]<;>omega) ?_
    refine ko @qg_ ?_
    first|with_reducible refine ks [] (And.intro @qg_ @lni) ?_|refine kp (And.intro @qg_ @lni) ?_
    refine Cw.loopG (G:=Nat) [55,56,57,58,61,62,63,64,65,66,4,59,60,12] (fun g=> [(12,vi g)]) (fun g=>(b11, .cells (a8 x.l) 84 (0,0)):: (D5++ (D6++ (D7++DG)))) (fun g=>g≤had.length∧(had.take g).any (fun h=>(idQ h).l==x.l)=false) (fun g=>had.length - g) 0 rfl rfl ?_ ?_
    ·exact⟨Nat.zero_le _,rfl⟩
    intro m jm hm
    refine kv ?_
    obtain⟨hm1,hm2⟩:=hm
    by_cases hmt:m<had.length
    ·have d3:decide ((m:Int)< (had.length:Int))=true:=decide_eq_true (by omega)
     obtain h0| ⟨rq,cq,restq,rfl,hkq,hlkq⟩:=Qs_ (l:=had.map idQ) (enc:=JO_) (by rw[List.length_map];exact Gr.i hG7 (fun p hp=>hp)) hnd.2.1.2.1.1
     ·rw[List.length_map] at h0;omega
     rw[List.length_map] at*
     have hn1:rq∉keys D5:=fun hm=>hnd.2.2 rq hm rq (.inr (.inl hkq)) rfl
     have hn2:rq∉keys D6:=fun hm=>hnd.2.1.2.2 rq hm rq (.inl hkq) rfl
     have hq11:rq<b11:=zv_ hb11 (by simp only[zt_,List.mem_append];exact .inr (.inr (.inl hkq)))
     have rdq:zA_ w ((b11, .cells (a8 x.l) 84 (0,0)):: (D5++ (D6++ (D7++DG)))) rq=some (j4_ JO_ 84 restq (had.map idQ)):=za_ (by rw[vi_ _ _ _ _ (by omega),z5_ hn1,z5_ hn2];exact zl_ hlkq)
     have ldq:zk_ (some (true,32)) (some (j4_ JO_ 84 restq (had.map idQ))) (m*32)=some (.agg (a8 (idQ (had.getD m ob0)).l)):=by
      have:=Ze_ (E:=84) (rest:=restq) (z:=id0) wU_ m (show m< (had.map idQ).length by rw[List.length_map];exact hmt)
      rw[ahK_,show(had.map idQ).getD m id0=idQ (had.getD m ob0) from by rw[List.getD_eq_getElem?_getD,List.getD_eq_getElem?_getD,List.getElem?_map,List.getElem?_eq_getElem hmt];rfl] at this
      exact this
     have hpm:had.getD m ob0∈had:=xp_ hmt
     have hnx: (had.take (m+1)).any (fun h=>(idQ h).l==x.l)=((idQ (had.getD m ob0)).l==x.l):=by
      rw[StP.take_snoc (z:=ob0) hmt,List.any_append,hm2];simp
     generalize had.getD m ob0=p at*
     first|with_reducible refine ks [] (And.intro @qg_ (And.intro @d3 (@lni))) ?_|refine kp (And.intro @qg_ (And.intro @d3 (@lni))) ?_
     refine Cw.regionS [rq,b11] [0,1,2,3,4,5] [] (by kernel_rfl) (by kernel_rfl) (by kernel_rfl) ?_
     simp only[zo_, ↓zi_, ↓zd_, ↓zz_, ↓zy_,ze_]
     refine kq (And.intro @qg_ (And.intro @rdq (@ldq))) ?_
     cases hq: ((idQ p).l==x.l) with
     |true=>
      have hany:had.any (fun h=>(idQ h).l==x.l)=true:=List.any_eq_true.2 ⟨p,hpm,hq⟩
      rw[if_pos hany] at hcs
      have hnn:=Ka_ hcs (show i+1≤all.length by omega)
      first|with_reducible refine ks [] (And.intro @qg_ @hq) ?_|refine kp (And.intro @qg_ @hq) ?_
      refine⟨_,(ke @qg_),(show New w.heap.size ((b11,_):: (D5++ (D6++ (D7++DG)))) from⟨hw11,hNr⟩), ?_⟩
      (unfold aa0_;rw[hnn];rfl)
     |false=>
      rw[hq] at hnx
      first|with_reducible refine ks [] (And.intro @qg_ @hq) ?_|refine kp (And.intro @qg_ @hq) ?_
      exact Again.mk (m+1) (by omega) ⟨hmt,hnx⟩ rfl rfl
    ·obtain rfl:m=had.length:=by omega
     have d3:decide ((had.length:Int)< (had.length:Int))=false:=decide_eq_false (by omega)
     rw[List.take_length] at hm2
     rw[if_neg (by rw[hm2];simp)] at hcs
     have ha11:ra<b11:=zv_ hb11 (by simp only[zt_,List.mem_append];exact .inl hka)
     have rda2: ∀O Y,zA_ w ((b11,O):: (D5++Y)) ra=some (j4_ obC 82 resta all):=fun O Y=>za_ (by rw[vi_ _ _ _ _ (by omega)];exact zl_ hlka)
     first|with_reducible refine ks [] (And.intro @qg_ (And.intro @d3 (And.intro @lni (And.intro @rda2 (@lda))))) ?_|refine kp (And.intro @qg_ (And.intro @d3 (And.intro @lni (And.intro @rda2 (@lda))))) ?_
     refine Ow.buildSlice (e:=82) #[vi ok,vs ot] rfl rfl (zV_ (cs:=obC ⟨ok,ot⟩) Tryz.underlying94 Tryz.ag82 zrOb (by decide) rfl) fun bc hbc hwc=> ?_
     refine ko @qg_ ?_
     refine Ow.permL (M:=D6++ ((b11, .cells (a8 x.l) 84 (0,0)):: (D5++ (D7++ (DG++ [(bc, .cells #[vi ok,vs ot] 82 (0,0))]))))) (by classical exact List.perm_iff_count.2 fun a=>by simp only[List.count_append,List.count_cons,List.count_nil]<;>omega) ?_
     refine Ow.appendXG (e:=82) (k:=1) (new:=obC ⟨ok,ot⟩) (X:=D6) v6 rfl rfl rfl rfl Tryz.underlying94 Tryz.ag82 (by kernel_rfl) zrOb (by rw[obV,zj_];rfl) Tryz.underlying94 (by intro k h;cases h) hG6 (fun w' hw'=>AppX.one1 (hw'.has bc (.cells (obC ⟨ok,ot⟩).toArray 82 (0,0)) (by simp[obC])) (vP_ _) (Kn_ _)) (by omega) (fun B8 va8 D8 hA8 hB8 hG8 hk81 hk82 hlk8=> ?_)
     have hN8:New w.heap.size D8:=New.of_le fun q hq=>by
      rcases hk82 q hq with h|h
      ·exact hN6.le q h
      ·omega
     refine Ow.permL (M:=(b11, .cells (a8 x.l) 84 (0,0)):: (D5++ (D8++ (D7++ (DG++ [(bc, .cells #[vi ok,vs ot] 82 (0,0))]))))) (by classical exact List.perm_iff_count.2 fun a=>by simp only[List.count_append,List.count_cons,List.count_nil]<;>omega) ?_
     refine ko @qg_ ?_
     first|with_reducible refine ks [] @qg_ ?_|refine kp @qg_ ?_
     refine Ow.buildSlice (e:=84) (a8 x.l) rfl rfl (zV_ (cs:=x.l.map v8) Tryz.underlying106 afd_ agi_ (by decide) (by simp[x.h])) fun ba hba hwa=> ?_
     refine ko @qg_ ?_
     refine Ow.permL (M:=D7++ ((b11, .cells (a8 x.l) 84 (0,0)):: (D5++ (D8++ (DG++ [(bc, .cells #[vi ok,vs ot] 82 (0,0)),(ba, .cells (a8 x.l) 84 (0,0))]))))) (by classical exact List.perm_iff_count.2 fun a=>by simp only[List.count_append,List.count_cons,List.count_nil]<;>omega) ?_
     refine Ow.appendXG (e:=84) (k:=1) (new:=JO_ x) (X:=D7) v7 rfl rfl rfl rfl Tryz.underlying106 afd_ (by kernel_rfl) agi_ (by rw[zj_,QT_,id0.h]) Tryz.underlying106 (by intro k h;cases h) hG7 (fun w' hw'=>AppX.one1 (by rw[ahK_];exact hw'.has ba (.cells (a8 x.l) 84 (0,0)) (by simp)) (wU_ _) (aaw_ _)) (by omega) (fun B9 va9 D9 hA9 hB9 hG9 hk91 hk92 hlk9=> ?_)
     have hN9:New w.heap.size D9:=New.of_le fun q hq=>by
      rcases hk92 q hq with h|h
      ·exact hN7.le q h
      ·omega
     refine ko @qg_ ?_
     refine Cw.permL (M:=D5++ (D8++ (D9++ ((b11, .cells (a8 x.l) 84 (0,0)):: (DG++ [(bc, .cells #[vi ok,vs ot] 82 (0,0)),(ba, .cells (a8 x.l) 84 (0,0))]))))) (by classical exact List.perm_iff_count.2 fun a=>by simp only[List.count_append,List.count_cons,List.count_nil]<;>omega) ?_
     first|with_reducible refine ks [] @qg_ ?_|refine kp @qg_ ?_
     have hl1: (had++ [(⟨ok,ot⟩:ObL)]).length=had.length+1:=by simp
     exact Again.mk ⟨i+1,had++ [⟨ok,ot⟩],va8,va9,D8,D9,(b11, .cells (a8 x.l) 84 (0,0)):: (DG++ [(bc, .cells #[vi ok,vs ot] 82 (0,0)),(ba, .cells (a8 x.l) 84 (0,0))])⟩ (by show all.length - (i+1)<all.length - i;omega) ⟨hlt,hcs,hN8,hN9,⟨hw11,hNG.app ⟨hwc,hwa,trivial⟩⟩,by simpa using hG8,by rw[←hx] at hG9;simpa using hG9⟩ rfl rfl
 ·obtain rfl:i=all.length:=by omega
  have d1:decide ((all.length:Int)< (all.length:Int))=false:=decide_eq_false (by omega)
  first|with_reducible refine ks [] (And.intro @qg_ (And.intro @d1 (@lna))) ?_|refine kp (And.intro @qg_ (And.intro @d1 (@lna))) ?_
  refine⟨_,(ke @qg_),hNr, ?_⟩
  (unfold aa0_;rw[hcl];rfl)
end Go.Proofs
end
section
open Go Go.Proofs Go.Sx Go.StP Go.Flo
namespace Go.Proofs
set_option maxRecDepth 10000
set_option maxHeartbeats 400000
set_option linter.unusedSimpArgs false
def sumF (l:List FiL):Nat:=(l.map fun f=>f.data.length / 100+f.name.length).sum
def XK_ (l:List FiL) (more:List ObL):Bool:=decide (60<l.length) ||decide (1000<sumF l) ||aa0_ (ZB_ l++more)
theorem aiq_ (l:List FiL) {k:Nat} (h:k<l.length):sumF (l.take (k+1))=sumF (l.take k)+ (l.getD k fi0).data.length / 100+ (l.getD k fi0).name.length:=by
 unfold sumF
 rw[StP.take_snoc (z:=fi0) h,List.map_append,List.sum_append,List.map_singleton,List.sum_singleton,Nat.add_assoc]
theorem an9_ (l:List FiL) (k:Nat):sumF (l.take k)≤sumF l:=by
 have:sumF l=sumF (l.take k)+sumF (l.drop k):=by
  unfold sumF
  rw[←List.sum_append,←List.map_append,List.take_append_drop]
 omega
theorem alx_ {l:List FiL} {f:FiL} (h:f∈l):f.data.length / 100+f.name.length≤sumF l:=by
 unfold sumF
 induction l with
 |nil=>cases h
 |cons g l ih=>
  rw[List.map_cons,List.sum_cons]
  rcases List.mem_cons.1 h with rfl|h
  ·omega
  ·have:=ih h;omega
theorem akD_ {l:List FiL} {more:List ObL} (h:XK_ l more=false):l.length≤60∧aa0_ (ZB_ l++more)=false∧ ∀f,f∈l→f.name.length≤1000∧f.data.length<100100:=by
 unfold XK_ at h
 simp only[Bool.or_eq_false_iff,decide_eq_false_iff_not] at h
 refine⟨by omega,h.2,fun f hf=> ?_⟩
 have:=alx_ hf
 omega
structure GfG where
 n:Nat
 k:Nat
set_option linter.defProp false
def v4_:=And.intro (@zg_) (@zf_)
theorem abs_ (v1 v2:Value) (l:List FiL) (more:List ObL) (w:World) (hv:FiSl w v1 l) (hb:FiB l) (hm:ObSl w v2 more) (hml:more.length≤1000000):
  Rets Tryz.prog 15 #[v1,v2] w (fun v D=>v= .bool (XK_ l more)∧D= []):=by
 have ln:=hv.len
 obtain⟨rb,off,arr,E,fz,hr⟩:=hv.row
 refine Rets.enterV Tryz.func15 rfl (rs:= [.tmp 4]) Tryz.results15 Tryz.ntmps15 ?_
 refine kf ?_
 by_cases h60:60<l.length
 ·have d1:decide ((60:Int)< (l.length:Int))=true:=decide_eq_true (by omega)
  first|with_reducible refine ks [] (And.intro @v4_ (And.intro @ln (@d1))) ?_|refine kp (And.intro @v4_ (And.intro @ln (@d1))) ?_
  refine⟨_,(ke @v4_),trivial, ?_⟩
  (unfold XK_;rw[decide_eq_true h60];rfl)
 ·have d1:decide ((60:Int)< (l.length:Int))=false:=decide_eq_false (by omega)
  first|with_reducible refine ks [] (And.intro @v4_ (And.intro @ln (@d1))) ?_|refine kp (And.intro @v4_ (And.intro @ln (@d1))) ?_
  refine Cw.loopG (G:=GfG) [10,11,12,13,16,17,18,19,20,21,22,23,24,25,26,27,28,29,30,31,5,32,33,4,14,15,6] (fun g=> [(5,vi g.n),(6,vi g.k)]) (fun g=> []) (fun g=>g.k≤l.length∧g.n≤1000∧g.n=sumF (l.take g.k)) (fun g=>l.length - g.k) ⟨0,0⟩ rfl rfl ?_ ?_
  ·exact⟨Nat.zero_le _,Nat.zero_le _,rfl⟩
  intro g j hg
  refine kv ?_
  obtain⟨n,k⟩:=g
  simp only at hg ⊢
  obtain⟨hk,hn,hs⟩:=hg
  by_cases hlt:k<l.length
  ·have d2:decide ((k:Int)< (l.length:Int))=true:=decide_eq_true (by omega)
   have ix:=hr.idx true k hlt
   have hh:=hr.has (by omega)
   have ld1: ∀n,zk_ (some (false,n)) (some (.cells arr E fz)) (off+k*3+1)=some (vs (l.getD k fi0).name):=fun n=>aiE_ hr hlt n
   have ld2: ∀n,zk_ (some (false,n)) (some (.cells arr E fz)) (off+k*3+2)=some (vs (l.getD k fi0).data):=fun n=>acS_ hr hlt n
   have hbs:=hb (l.getD k fi0) (by rw[List.getD_eq_getElem?_getD,List.getElem?_eq_getElem hlt];exact List.getElem_mem _)
   have hsn:=aiq_ l hlt
   have hsl:=an9_ l (k+1)
   generalize l.getD k fi0=r at*
   have es: ((n:Int)+ (r.data.length:Int).tdiv 100)+ (r.name.length:Int)=((n+r.data.length / 100+r.name.length:Nat):Int):=by
    rw[Int.tdiv_eq_ediv_of_nonneg (by omega)];omega
   have es2: ((n:Int)+ (r.data.length:Int) / 100)+ (r.name.length:Int)=((n+r.data.length / 100+r.name.length:Nat):Int):=by omega
   first|with_reducible refine ks [] (And.intro @v4_ (And.intro @ln (@d2))) ?_|refine kp (And.intro @v4_ (And.intro @ln (@d2))) ?_
   refine Cw.regionS [rb] [0,1,2,3,4,9,10,11,12,5,6,7,8,13,14,15,16] [] (by kernel_rfl) (by kernel_rfl) (by kernel_rfl) ?_
   simp only[zo_, ↓zi_, ↓zd_, ↓zz_, ↓zy_,ze_]
   refine kq (And.intro @v4_ (And.intro @ln (And.intro @ix (And.intro @hh (And.intro @ld1 (And.intro @ld2 (And.intro @es (@es2)))))))) ?_
   by_cases hgt:1000<n+r.data.length / 100+r.name.length
   ·have d3:decide ((1000:Int)< ((n+r.data.length / 100+r.name.length:Nat):Int))=true:=decide_eq_true (by omega)
    first|with_reducible refine ks [] (And.intro @v4_ @d3) ?_|refine kp (And.intro @v4_ @d3) ?_
    refine⟨_,(ke @v4_),trivial, ?_⟩
    (unfold XK_;rw[decide_eq_true (show 1000<sumF l by omega),Bool.or_true];rfl)
   ·have d3:decide ((1000:Int)< ((n+r.data.length / 100+r.name.length:Nat):Int))=false:=decide_eq_false (by omega)
    first|with_reducible refine ks [] (And.intro @v4_ @d3) ?_|refine kp (And.intro @v4_ @d3) ?_
    exact Again.mk ⟨n+r.data.length / 100+r.name.length,k+1⟩ (by show l.length - (k+1)<l.length - k;omega) ⟨hlt,by show n+r.data.length / 100+r.name.length≤1000;omega,by show n+r.data.length / 100+r.name.length=sumF (l.take (k+1));omega⟩ rfl rfl
  ·have d2:decide ((k:Int)< (l.length:Int))=false:=decide_eq_false (by omega)
   rw[show l.take k=l from List.take_of_length_le (by omega)] at hs
   first|with_reducible refine ks [] (And.intro @v4_ (And.intro @ln (@d2))) ?_|refine kp (And.intro @v4_ (And.intro @ln (@d2))) ?_
   refine Ow.callFV rfl Tryz.call57 (fun w' hw'=>agM_ v1 v2 l more w' (hv.oldN hw' trivial) (by omega) hb (hm.oldN hw' trivial) hml) ?_
   refine ko @v4_ ?_
   first|with_reducible refine ks [] @v4_ ?_|refine kp @v4_ ?_
   refine⟨_,(ke @v4_),trivial, ?_⟩
   (unfold XK_;rw[decide_eq_false h60,decide_eq_false (show¬1000<sumF l by omega)];rfl)
instance:DecidableEq FiL:=fun a b=>if h:a.dir=b.dir∧a.name=b.name∧a.data=b.data then .isTrue (by cases a;cases b;simp only at h;obtain⟨rfl,rfl,rfl⟩:=h;rfl) else .isFalse (fun e=>h (by rw[e];exact⟨rfl,rfl,rfl⟩))
set_option linter.defProp false
def Zn_:=And.intro (And.intro (@zg_) (@zf_)) (And.intro (@acP_) (@neFi))
theorem KQ_ (v1 v2:Value) (a b:List FiL) (w:World) (ha:FiSl w v1 a) (hb:FiSl w v2 b) (hal:a.length<1000000000):
  Rets Tryz.prog 25 #[v1,v2] w (fun v D=>v= .bool (decide (a=b))∧D= []):=by
 have ln1:=ha.len
 have ln2:=hb.len
 obtain⟨ra,offa,arra,Ea,fza,hra⟩:=ha.row
 obtain⟨rb,offb,arrb,Eb,fzb,hrb⟩:=hb.row
 refine Rets.enterV Tryz.func25 rfl (rs:= [.tmp 4]) Tryz.results25 Tryz.ntmps25 ?_
 refine kf ?_
 by_cases hll:a.length=b.length
 ·have d1: ((a.length:Int) !=(b.length:Int))=false:=by rw[hll];exact bne_self_eq_false _
  first|with_reducible refine ks [] (And.intro @Zn_ (And.intro @ln1 (And.intro @ln2 (@d1)))) ?_|refine kp (And.intro @Zn_ (And.intro @ln1 (And.intro @ln2 (@d1)))) ?_
  refine Cw.loopG (G:=Nat) [11,12,13,14,17,18,19,20,21,22,23,24,25,4,15,16,5] (fun g=> [(5,vi g)]) (fun g=> []) (fun g=>g≤a.length∧a.take g=b.take g) (fun g=>a.length - g) 0 rfl rfl ?_ ?_
  ·exact⟨Nat.zero_le _,rfl⟩
  intro k jk hk
  refine kv ?_
  obtain⟨hk1,hk2⟩:=hk
  by_cases hlt:k<a.length
  ·have hltb:k<b.length:=by omega
   have d2:decide ((k:Int)< (a.length:Int))=true:=decide_eq_true (by omega)
   have ixa:=hra.idx true k hlt
   have ixb:=hrb.idx true k hltb
   have rda:=hra.has (show 0<a.length by omega)
   have rdb:=hrb.has (show 0<b.length by omega)
   have lda:=anA_ hra hlt
   have ldb:=anA_ hrb hltb
   have hnx:a.take (k+1)=b.take (k+1)↔a.getD k fi0=b.getD k fi0:=by
    rw[StP.take_snoc (z:=fi0) hlt,StP.take_snoc (z:=fi0) hltb,hk2]
    constructor
    ·intro h;simpa using h
    ·intro h;rw[h]
   have hgo:a=b→a.getD k fi0=b.getD k fi0:=fun h=>by rw[h]
   generalize a.getD k fi0=x at*
   generalize b.getD k fi0=y at*
   first|with_reducible refine ks [] (And.intro @Zn_ (And.intro @ln1 (@d2))) ?_|refine kp (And.intro @Zn_ (And.intro @ln1 (@d2))) ?_
   refine Cw.regionS [ra,rb] [0,1,2,4,5,6,3,7,8] [] (by kernel_rfl) (by kernel_rfl) (by kernel_rfl) ?_
   simp only[zo_, ↓zi_, ↓zd_, ↓zz_, ↓zy_,ze_]
   refine kq (And.intro @Zn_ (And.intro @ixa (And.intro @ixb (And.intro @rda (And.intro @rdb (And.intro @lda (@ldb))))))) ?_
   cases hq: (x.dir==y.dir&&x.name==y.name&&x.data==y.data) with
   |true=>
    have e:x=y:=by
     simp only[Bool.and_eq_true,beq_iff_eq] at hq
     cases x;cases y;simp only at hq;obtain⟨⟨rfl,rfl⟩,rfl⟩:=hq;rfl
    first|with_reducible refine ks [] (And.intro @Zn_ @hq) ?_|refine kp (And.intro @Zn_ @hq) ?_
    exact Again.mk (k+1) (by omega) ⟨hlt,hnx.2 e⟩ rfl rfl
   |false=>
    first|with_reducible refine ks [] (And.intro @Zn_ @hq) ?_|refine kp (And.intro @Zn_ @hq) ?_
    refine⟨_,(ke @Zn_),trivial, ?_⟩
    (rw[decide_eq_false (fun h=>by have e:=hgo h;rw[e] at hq;simp at hq)];rfl)
  ·obtain rfl:k=a.length:=by omega
   have d2:decide ((a.length:Int)< (a.length:Int))=false:=decide_eq_false (by omega)
   first|with_reducible refine ks [] (And.intro @Zn_ (And.intro @ln1 (@d2))) ?_|refine kp (And.intro @Zn_ (And.intro @ln1 (@d2))) ?_
   refine⟨_,(ke @Zn_),trivial, ?_⟩
   (rw[List.take_length,hll,List.take_length] at hk2;rw[decide_eq_true hk2];rfl)
 ·have d1: ((a.length:Int) !=(b.length:Int))=true:=bne_iff_ne.2 (by omega)
  first|with_reducible refine ks [] (And.intro @Zn_ (And.intro @ln1 (And.intro @ln2 (@d1)))) ?_|refine kp (And.intro @Zn_ (And.intro @ln1 (And.intro @ln2 (@d1)))) ?_
  refine⟨_,(ke @Zn_),trivial, ?_⟩
  (rw[decide_eq_false (fun h=>hll (by rw[h]))];rfl)
end Go.Proofs
end
section
open Go Go.Proofs Go.Sx Go.StP
namespace Go.Proofs
set_option maxRecDepth 10000
set_option maxHeartbeats 400000
set_option linter.unusedSimpArgs false
def al0:DiskL:=Zp_ 100
def al1:DiskL:=(jT_ al0 z9_ [97]).1
def al2:DiskL:=(jf_ al1 z9_ [97] [120,121,122]).1
def al3:DiskL:=(ZD_ al2 z9_ [97]).1
def al4:DiskL:=(q3_ al3 z9_).1
def al5:DiskL:=(jf_ al4 z9_ [97] [117,118]).1
def al6:DiskL:=xq_ al5 [0,0,0,1]
theorem asf_: (((jT_ al0 z9_ [97]).2:Nat):Int)=0:=by rfl
theorem asd_: (((jf_ al1 z9_ [97] [120,121,122]).2:Nat):Int)=0:=by rfl
theorem asx_: (((ZD_ al2 z9_ [97]).2:Nat):Int)=0:=by rfl
theorem asl_: (((q3_ al3 z9_).2:Nat):Int)=0:=by rfl
theorem ash_: (((jf_ al4 z9_ [97] [117,118]).2:Nat):Int)=0:=by rfl
theorem arN_: (Zl_ al6 z9_ [97]).1= [120,121,122,117]:=by rfl
theorem aqM_: (((Zl_ al6 z9_ [97]).2:Nat):Int)=0:=by rfl
theorem arI_: (((jf_ al6 vT_ [98] []).2:Nat):Int)=6:=by rfl
theorem W6_ {w:World} {L:zc_} (hg:Qg_ w) (hn:New w.heap.size L):0∉keys L:=by
 obtain⟨e,fz,hgl⟩:=hg
 exact hn.not (Array.getElem?_eq_some_iff.1 hgl).1
theorem qR_ {w w':World} {L:zc_} (hg:Qg_ w) (h:Hp w L w') (hn:New w.heap.size L):Qg_ w':=by
 have hno:=W6_ hg hn
 obtain⟨e,fz,hgl⟩:=hg
 exact⟨e,fz,(h.old _ (Array.getElem?_eq_some_iff.1 hgl).1 hno).trans hgl⟩
theorem arJ_ {w:World} {b:Nat} {x0 x1 x2 x3:UInt16} {E:TypeId} (h:w.heap[b]? =some (.cells #[v16 x0,v16 x1,v16 x2,v16 x3] E (0,0))):amN_ w (vsl b 0 4 4) [x0,x1,x2,x3]:=
 SlV.sl (l:= [x0,x1,x2,x3]) h (fun k hk j hj=>by
  obtain rfl:j=0:=by omega
  have hk':k<4:=hk
  have:k=0∨k=1∨k=2∨k=3:=by omega
  rcases this with rfl|rfl|rfl|rfl<;>rfl) (Nat.le_refl 4) (Nat.le_refl 4)
set_option linter.defProp false
def kf_:=And.intro (And.intro (@zg_) (@zf_)) (And.intro (@Sx.tup2_0) (@Sx.tup2_1))
theorem kN_ (w:World) (hG:Qg_ w):Rets Tryz.prog 14 #[] w (fun v D=>v= .bool true∧D= []):=by
 refine Rets.enterV Tryz.func14 rfl (rs:= [.tmp 0]) Tryz.results14 Tryz.ntmps14 ?_
 refine kf ?_
 first|with_reducible refine ks [] @kf_ ?_|refine kp @kf_ ?_
 refine Ow.callC rfl rfl Tryz.call28 (fun w' hw'=>Xk_ 100 w' (by decide) (qR_ hG hw' trivial)) (fun B0 v0 D0 hA0 hB0 hN0 hS0=> ?_)
 obtain⟨G0,rfl,hP0⟩:=hS0
 rw[List.nil_append]
 have hE0:Ext w [] D0:=Ext.of_new (hN0.mono hB0)
 have hA0:DkA D0 G0 al0 0:=⟨hP0,al2_ 100,adg_ 100⟩
 refine ko @kf_ ?_
 first|with_reducible refine ks [] @kf_ ?_|refine kp @kf_ ?_
 refine Ow.callX (X:=D0) (Y:= []) (List.append_nil _).symm rfl rfl Tryz.call72 (fun w' hw' hX' hn'=>Jh_ D0 G0 al0 z9_ [97] w' hX' hn' hP0 (by decide) (hA0.pend (by omega))) (fun v1 D1 hC1 hS1=> ?_)
 rw[List.append_nil]
 obtain⟨rfl,G1,hb1,hP1⟩:=hS1
 have hE1:=hE0.came0 hC1
 have hA1:DkA D1 G1 al1 1:=⟨hP1,adw_ hA0.H _ _,agT_ hA0.B _ (by decide)⟩
 rw[asf_,←hb1]
 refine ko @kf_ ?_
 refine Ow.callX (X:=D1) (Y:= []) (List.append_nil _).symm rfl rfl Tryz.call73 (fun w' hw' hX' hn'=>kH_ D1 G1 al1 z9_ [97] [120,121,122] w' hX' hn' hA1.P (by decide) (by decide) (hA1.used (by omega))) (fun v2 D2 hC2 hS2=> ?_)
 rw[List.append_nil]
 obtain⟨rfl,hP2⟩:=hS2
 have hE2:=hE1.came0 hC2
 have hA2:DkA D2 G1 al2 1:=⟨hP2,Xv_ hA1.H _ _ _,VV_ hA1.B _ _ _⟩
 rw[asd_]
 refine ko @kf_ ?_
 refine Ow.callX (X:=D2) (Y:= []) (List.append_nil _).symm rfl rfl Tryz.call20 (fun w' hw' hX' hn'=>VK_ D2 G1 al2 z9_ [97] w' hX' hn' hA2.P (by decide)) (fun v3 D3 hC3 hS3=> ?_)
 rw[List.append_nil]
 obtain⟨rfl,hP3⟩:=hS3
 have hE3:=hE2.came0 hC3
 have hA3:DkA D3 G1 al3 1:=⟨hP3,aiX_ hA2.H _ _,alu_ hA2.B _ _⟩
 rw[asx_]
 refine ko @kf_ ?_
 refine Ow.callX (X:=D3) (Y:= []) (List.append_nil _).symm rfl rfl Tryz.call21 (fun w' hw' hX' hn'=>Z2_ D3 G1 al3 z9_ w' hX' hn' hA3.P) (fun v4 D4 hC4 hS4=> ?_)
 rw[List.append_nil]
 obtain⟨rfl,G4,hb4,hP4⟩:=hS4
 have hE4:=hE3.came0 hC4
 have hA4:DkA D4 G4 al4 1:=⟨hP4,aaY_ hA3.H _,acK_ hA3.B _⟩
 rw[asl_,←hb4]
 refine ko @kf_ ?_
 first|with_reducible refine ks [] @kf_ ?_|refine kp @kf_ ?_
 refine Ow.callX (X:=D4) (Y:= []) (List.append_nil _).symm rfl rfl Tryz.call73 (fun w' hw' hX' hn'=>kH_ D4 G4 al4 z9_ [97] [117,118] w' hX' hn' hA4.P (by decide) (by decide) (hA4.used (by omega))) (fun v5 D5 hC5 hS5=> ?_)
 rw[List.append_nil]
 obtain⟨rfl,hP5⟩:=hS5
 have hE5:=hE4.came0 hC5
 have hA5:DkA D5 G4 al5 1:=⟨hP5,Xv_ hA4.H _ _ _,VV_ hA4.B _ _ _⟩
 rw[ash_]
 refine ko @kf_ ?_
 first|with_reducible refine ks [] @kf_ ?_|refine kp @kf_ ?_
 refine Ow.buildSlice (e:=119) #[v16 0,v16 0,v16 0,v16 1] rfl rfl (by kernel_rfl) fun bp hbp hwp=> ?_
 refine ko @kf_ ?_
 have hmb: (bp,Obj.cells #[v16 0,v16 0,v16 0,v16 1] 119 (0,0))∈D5++ [(bp,Obj.cells #[v16 0,v16 0,v16 0,v16 1] 119 (0,0))]:=by simp
 refine Ow.callX (X:=D5) (Y:= [(bp, .cells #[v16 0,v16 0,v16 0,v16 1] 119 (0,0))]) rfl rfl rfl Tryz.call22 (fun w' hw' hX' hn'=>Xi_ D5 G4 al5 (vsl bp 0 4 4) [0,0,0,1] w' hX' hn' hA5.P (qR_ hG hw' (hE5.new0.app (show New w.heap.size [(bp,Obj.cells #[v16 0,v16 0,v16 0,v16 1] 119 (0,0))] from⟨hwp,trivial⟩))) (W6_ hG hE5.new0) ((x6_ (q:=(al5,[0,0,0,1])) hA5.B 3).b (by omega)) (.inl (arJ_ (hw'.has bp _ hmb))) (fun _ b hb=>by have hb':bp=b:=Option.some.inj hb;rw[←hb'];exact⟨(Array.getElem?_eq_some_iff.1 (hw'.has bp _ hmb)).1,fun hm=>by have:=zv_ hbp hm;omega⟩) (by decide) (fun k hk=>⟨(hA5.H k).2,hA5.pend (by omega) k hk⟩)) (fun v6 D6 hC6 hS6=> ?_)
 obtain⟨G6,hb6,hP6⟩:=hS6
 have hE6:=hE5.came0 hC6
 have hA6:DkA D6 G6 al6 1:=⟨hP6,VP_ hA5.H _,aaA_ hA5.B _⟩
 rw[←hb6]
 have hP6':DkP (D6++ [(bp,Obj.cells #[v16 0,v16 0,v16 0,v16 1] 119 (0,0))]) G6 al6:=hP6.mono fun b o h=>zl_ h
 have hE6':=hE6.app (o:=Obj.cells #[v16 0,v16 0,v16 0,v16 1] 119 (0,0)) hwp
 generalize D6++ [(bp,Obj.cells #[v16 0,v16 0,v16 0,v16 1] 119 (0,0))]=L6 at*
 have hA7:DkA L6 G6 al6 1:=⟨hP6',hA6.H,hA6.B⟩
 refine ko @kf_ ?_
 first|with_reducible refine ks [] @kf_ ?_|refine kp @kf_ ?_
 refine Ow.callFV rfl Tryz.call23 (fun w' hw'=>VF_ w' G6 al6 z9_ [97] (hP6'.world hw') (by decide)) ?_
 rw[arN_,aqM_]
 have e0: ((0:Int)==0)=true:=rfl
 have e1: (([120,121,122,117]:List UInt8)== [120,121,122,117])=true:=rfl
 refine ko (And.intro @kf_ (And.intro @e0 (@e1))) ?_
 refine Ow.callX (X:=L6) (Y:= []) (List.append_nil _).symm rfl rfl Tryz.call73 (fun w' hw' hX' hn'=>kH_ L6 G6 al6 vT_ [98] [] w' hX' hn' hA7.P (by decide) (by decide) (hA7.used (by omega))) (fun v7 D7 hC7 hS7=> ?_)
 obtain⟨rfl,hP7⟩:=hS7
 have hE7:=hE6'.came0 hC7
 rw[List.append_nil,arI_]
 have e6: ((6:Int)==6)=true:=rfl
 refine ko (And.intro @kf_ @e6) ?_
 first|with_reducible refine ks [] @kf_ ?_|refine kp @kf_ ?_
 refine⟨_,(ke @kf_),hE7.new0, ?_⟩
 rfl
end Go.Proofs
end
section
open Go Go.Proofs Go.Sx Go.StP
namespace Go.Proofs
set_option maxRecDepth 10000
set_option maxHeartbeats 400000
set_option linter.unusedSimpArgs false
set_option linter.defProp false
def ws_:=And.intro (@zg_) (@zf_)
theorem Vg_ (v1 v2:Value) (l1 l2:List (List UInt8)) (w:World) (hv1:adK_ w v1 l1) (hv2:adK_ w v2 l2) (hl1:l1.length<1000000):
  Rets Tryz.prog 88 #[v1,v2] w (fun v' D=>v'= .bool (decide (l1=l2))∧D= []):=by
 obtain⟨b1,off1,arr1,E1,fz1,hr1⟩:=hv1.row
 obtain⟨b2,off2,arr2,E2,fz2,hr2⟩:=hv2.row
 have ln1:=hv1.len
 have ln2:=hv2.len
 refine Rets.enterV Tryz.func88 rfl (rs:= [.tmp 4]) Tryz.results88 Tryz.ntmps88 ?_
 refine kf ?_
 by_cases hl:l1.length=l2.length
 ·have d0: ((l1.length:Int) !=(l2.length:Int))=false:=bne_eq_false_iff_eq.2 (by rw[hl])
  first|with_reducible refine ks [] (And.intro @ws_ (And.intro @ln1 (And.intro @ln2 (@d0)))) ?_|refine kp (And.intro @ws_ (And.intro @ln1 (And.intro @ln2 (@d0)))) ?_
  refine Cw.loopG (G:=Nat) [11,12,13,14,17,18,19,20,21,22,23,24,25,4,15,16,5] (fun g=> [(5,vi g)]) (fun g=> []) (fun g=>g≤l1.length∧l1.take g=l2.take g) (fun g=>l1.length - g) 0 rfl rfl ?_ ?_
  ·exact⟨Nat.zero_le _,rfl⟩
  ·intro k jk hk
   refine kv ?_
   obtain⟨h1,h2⟩:=hk
   by_cases hk:k<l1.length
   ·have dk:decide ((k:Int)< (l1.length:Int))=true:=decide_eq_true (by omega)
    have ra:=hr1.has (by omega)
    have rb:=hr2.has (show 0<l2.length by omega)
    have ia:=hr1.idx false k hk
    have ib:=hr2.idx false k (show k<l2.length by omega)
    have la:=fun n=>Xo_ hr1 hk n
    have lb:=fun n=>Xo_ hr2 (show k<l2.length by omega) n
    first|with_reducible refine ks [] (And.intro @ws_ (And.intro @ln1 (@dk))) ?_|refine kp (And.intro @ws_ (And.intro @ln1 (@dk))) ?_
    refine Cw.regionS [b1,b2] [0,1,2,4,5,6,3,7,8] [] (by kernel_rfl) (by kernel_rfl) (by kernel_rfl) ?_
    simp only[zo_, ↓zi_, ↓zd_, ↓zz_, ↓zy_,ze_]
    by_cases hq:l1.getD k []=l2.getD k []
    ·have d1: (l1.getD k [] !=l2.getD k [])=false:=bne_eq_false_iff_eq.2 hq
     refine kq (And.intro @ws_ (And.intro @ra (And.intro @rb (And.intro @ia (And.intro @ib (And.intro @la (And.intro @lb (@d1)))))))) ?_
     try with_reducible refine Ow.nil ?_
     first|with_reducible refine ks [] @ws_ ?_|refine kp @ws_ ?_
     refine Again.mk (k+1) (by omega) ⟨hk, ?_⟩ rfl rfl
     rw[take_snoc (z:=([]:List UInt8)) hk,take_snoc (z:=([]:List UInt8)) (show k<l2.length by omega),h2,hq]
    ·have d1: (l1.getD k [] !=l2.getD k [])=true:=bne_iff_ne.2 hq
     have:decide (l1=l2)=false:=decide_eq_false (fun e=>by rw[e] at hq;exact hq rfl)
     rw[this]
     refine kq (And.intro @ws_ (And.intro @ra (And.intro @rb (And.intro @ia (And.intro @ib (And.intro @la (And.intro @lb (@d1)))))))) ?_
     try with_reducible refine Ow.nil ?_
     first|with_reducible refine ks [] @ws_ ?_|refine kp @ws_ ?_
     refine⟨_,(ke @ws_),trivial, ?_⟩
     rfl
   ·obtain rfl:k=l1.length:=by omega
    have dk:decide ((l1.length:Int)< (l1.length:Int))=false:=decide_eq_false (by omega)
    have:l1=l2:=by rw[List.take_length,hl,List.take_length] at h2;exact h2
    rw[decide_eq_true this]
    first|with_reducible refine ks [] (And.intro @ws_ (And.intro @ln1 (@dk))) ?_|refine kp (And.intro @ws_ (And.intro @ln1 (@dk))) ?_
    refine⟨_,(ke @ws_),trivial, ?_⟩
    rfl
 ·have d0: ((l1.length:Int) !=(l2.length:Int))=true:=bne_iff_ne.2 (by omega)
  have:decide (l1=l2)=false:=decide_eq_false (fun e=>hl (by rw[e]))
  rw[this]
  first|with_reducible refine ks [] (And.intro @ws_ (And.intro @ln1 (And.intro @ln2 (@d0)))) ?_|refine kp (And.intro @ws_ (And.intro @ln1 (And.intro @ln2 (@d0)))) ?_
  refine⟨_,(ke @ws_),trivial, ?_⟩
  rfl
end Go.Proofs
end
section
open Go Go.Proofs Go.Sx Go.StP Go.Flo
namespace Go.Proofs
set_option maxRecDepth 10000
set_option maxHeartbeats 1000000
set_option linter.unusedSimpArgs false
theorem aiw_ {S:DiskL} {N:Nat} (h:DkN N S) {k:Nat} (hk:k<3): (Z8_ S (jY_ k)).length≤N:=by
 rw[wl_ hk,List.length_map]
 split
 ·exact Nat.zero_le _
 ·exact(h k).seen
structure SmG where
 k:Nat
 DG:zc_
set_option linter.defProp false
def kh_:=And.intro (And.intro (@zg_) (And.intro (@zf_) (@kJ_))) (And.intro (@x2_) (And.intro (@kQ_) (@kX_)))
theorem ZG_ (w:World) (G:DkG) (G':DcG) (S:DiskL) (hD:DkW w G S) (hC:DcW w G' S) (hG:Qg_ w) (ok:DkOk S) {N:Nat} (hN:DkN N S) (hN9:N<900000) (hu:kn_ S<4611686018427387904):
  Rets Tryz.prog 27 #[vp G.bd 0,vp G'.bd 0] w (fun v D=>v= .bool true∧D= []):=by
 have hB:DkB S:=hN.b (by omega)
 refine Rets.enterV Tryz.func27 rfl (rs:= [.tmp 4]) Tryz.results27 Tryz.ntmps27 ?_
 refine kf ?_
 first|with_reducible refine ks [5,7] @kh_ ?_|refine kp @kh_ ?_
 refine Ow.callC rfl rfl Tryz.call87 (fun w' hw'=>X8_ w') (fun B1 v1 D1 hA1 hB1 hN1 hS1=> ?_)
 obtain⟨b5,rfl,rfl⟩:=hS1
 have hw5:w.heap.size≤b5:=(hN1.mono hB1).1
 rw[List.nil_append]
 refine ko @kh_ ?_
 first|with_reducible refine ks [5,7] @kh_ ?_|refine kp @kh_ ?_
 refine Cw.loopG (G:=SmG) [8,9,12,13,14,15,16,17,18,19,20,21,22,23,24,25,4,10,11,6] (fun g=> [(6,vi g.k)]) (fun g=>(b5,kB_)::g.DG) (fun g=>g.k≤3∧New w.heap.size g.DG) (fun g=>3 - g.k) ⟨0,[]⟩ rfl rfl ?_ ?_
 ·exact⟨Nat.zero_le _,trivial⟩
 intro g j hg
 refine kv ?_
 obtain⟨k,DG⟩:=g
 simp only at hg ⊢
 obtain⟨hk,hNG⟩:=hg
 have hN0:New w.heap.size ((b5,kB_)::DG):=⟨hw5,hNG⟩
 by_cases hlt:k<3
 ·have d1:decide ((k:Int)<3)=true:=decide_eq_true (by omega)
  have ix:=Wz_ b5 hlt true
  have ld:=fun n=>X5_ hlt n
  have hll:=aiw_ hN hlt
  first|with_reducible refine ks [5] (And.intro @kh_ @d1) ?_|refine kp (And.intro @kh_ @d1) ?_
  refine Cw.regionS [b5] [0,1,2,3,6,7,8,9,4,10,5,11,12,13] [] (by kernel_rfl) (by kernel_rfl) (by kernel_rfl) ?_
  simp only[zo_, ↓zi_, ↓zd_, ↓zz_, ↓zy_,ze_]
  refine kq (And.intro @kh_ (And.intro @ix (@ld))) ?_
  refine Ow.soft rfl rfl rfl ?_
  refine Ow.callC rfl rfl Tryz.call79 (fun w' hw'=>QP_ w' G S (jY_ k) (hD.old hw' hN0) hB) (fun B2 v2 D2 hA2 hB2 hN2 hS2=> ?_)
  have hN2':New w.heap.size ((b5,kB_):: (DG++D2)):=⟨hw5,hNG.app (hN2.mono hB2)⟩
  with_reducible refine Ow.nil ?_
  refine⟨xv_ (by simp[keys]), ?_⟩
  refine kq (And.intro @kh_ (And.intro @ix (@ld))) ?_
  refine Ow.soft rfl rfl rfl ?_
  refine Ow.callC rfl rfl Tryz.call89 (fun w' hw'=>agm_ w' G' S (jY_ k) (hC.old hw' hN2') hB) (fun B3 v3 D3 hA3 hB3 hN3 hS3=> ?_)
  have hN3':New w.heap.size ((b5,kB_):: (DG++D2++D3)):=⟨hw5,(hNG.app (hN2.mono hB2)).app (hN3.mono hB3)⟩
  with_reducible refine Ow.nil ?_
  refine⟨xv_ (by simp[keys]), ?_⟩
  rw[←Xl_] at hS2 hS3
  refine kq @kh_ ?_
  refine Ow.soft rfl rfl rfl ?_
  refine Ow.callFV rfl Tryz.call88 (fun w' hw'=>Vg_ v2 v3 (Z8_ S (jY_ k)) (Z8_ S (jY_ k)) w' ((hS2.mono (fun q hq=>by simp[hq])).slV (z:= []) hw' rfl rfl JS_) ((hS3.mono (fun q hq=>by simp[hq])).slV (z:= []) hw' rfl rfl JS_) (by omega)) ?_
  with_reducible refine Ow.nil ?_
  refine⟨by intro b hb;simp only[List.mem_cons,List.not_mem_nil,or_false] at hb;(try subst hb);rfl, ?_⟩
  refine kq (And.intro @kh_ @decide_true) ?_
  first|with_reducible refine ks [] @kh_ ?_|refine kp @kh_ ?_
  exact Again.mk ⟨k+1,DG++D2++D3⟩ (by show 3 - (k+1)<3 - k;omega) ⟨hlt,(hNG.app (hN2.mono hB2)).app (hN3.mono hB3)⟩ rfl rfl
 ·obtain rfl:k=3:=by omega
  have d1:decide (((3:Nat):Int)<3)=false:=rfl
  have hfl: (Qx_ S).length≤3000000:=Zg_ hB 3 (Nat.le_refl _)
  have hu1: ((kn_ S:Int)==(kn_ S:Int))=true:=beq_self_eq_true _
  have ho1: (S.off==S.off)=true:=beq_self_eq_true _
  first|with_reducible refine ks [7] (And.intro @kh_ @d1) ?_|refine kp (And.intro @kh_ @d1) ?_
  refine Cw.regionS [G'.bd] [0,2,1,3,4,5,6,8,7,9,10,11,12,13,15,16,17,18,14,19,20,21] [] (by kernel_rfl) (by kernel_rfl) (by kernel_rfl) ?_
  simp only[zo_, ↓zi_, ↓zd_, ↓zz_, ↓zy_,ze_]
  refine kq @kh_ ?_
  refine Ow.soft rfl rfl rfl ?_
  refine Ow.callC rfl rfl Tryz.call19 (fun w' hw'=>adZ_ w' G S (hD.old hw' hN0) (qR_ hG hw' hN0) hB) (fun B2 v2 D2 hA2 hB2 hN2 hS2=> ?_)
  have hN2':New w.heap.size ((b5,kB_):: (DG++D2)):=⟨hw5,hNG.app (hN2.mono hB2)⟩
  obtain⟨X,hX,hP⟩:=id hC
  have hd:=hX _ _ hP.disk
  have hR: ∀ {Y Z:zc_},New w.heap.size Y→New w.heap.size Z→ ∀r,r∈ [G'.bd]→zA_ w Y r=zA_ w Z r:=fun h1 h2 r hr=>by
   rw[List.mem_singleton] at hr
   subst hr
   exact(ku_ hd h1).trans (ku_ hd h2).symm
  with_reducible refine Ow.nil ?_
  refine⟨hR hN2' hN0, ?_⟩
  refine kq @kh_ ?_
  refine Ow.soft rfl rfl rfl ?_
  refine Ow.callC rfl rfl Tryz.call71 (fun w' hw'=>ajY_ w' G' S (hC.old hw' hN2') ok hB) (fun B3 v3 D3 hA3 hB3 hN3 hS3=> ?_)
  have hN3':New w.heap.size ((b5,kB_):: (DG++D2++D3)):=⟨hw5,(hNG.app (hN2.mono hB2)).app (hN3.mono hB3)⟩
  with_reducible refine Ow.nil ?_
  refine⟨hR hN3' hN2', ?_⟩
  refine kq @kh_ ?_
  refine Ow.soft rfl rfl rfl ?_
  refine Ow.callFV rfl Tryz.call25 (fun w' hw'=>KQ_ v2 v3 (Qx_ S) (Qx_ S) w' ((hS2.mono (fun q hq=>by simp[hq])).slV (z:=fi0) hw' rfl rfl xh_) ((hS3.mono (fun q hq=>by simp[hq])).slV (z:=fi0) hw' rfl rfl xh_) (by omega)) ?_
  with_reducible refine Ow.nil ?_
  refine⟨by intro b hb;simp only[List.mem_cons,List.not_mem_nil,or_false] at hb;(try subst hb);rfl, ?_⟩
  refine kq (And.intro @kh_ @decide_true) ?_
  refine Ow.soft rfl rfl rfl ?_
  refine Ow.callFV rfl Tryz.call24 (fun w' hw'=>QX_ w' G S (hD.old hw' hN3') hu) ?_
  with_reducible refine Ow.nil ?_
  refine⟨by intro b hb;simp only[List.mem_cons,List.not_mem_nil,or_false] at hb;(try subst hb);rfl, ?_⟩
  refine kq @kh_ ?_
  refine Ow.soft rfl rfl rfl ?_
  refine Ow.callFV rfl Tryz.call90 (fun w' hw'=>V2_ w' G' S (hC.old hw' hN3') ok hB hu) ?_
  with_reducible refine Ow.nil ?_
  refine⟨by intro b hb;simp only[List.mem_cons,List.not_mem_nil,or_false] at hb;(try subst hb);rfl, ?_⟩
  have rdf:=ku_ hd hN3'
  refine kq (And.intro @kh_ (And.intro @hu1 (@rdf))) ?_
  refine Ow.soft rfl rfl rfl ?_
  refine Ow.callFV rfl Tryz.call34 (fun w' hw'=>ai2_ w' G S (hD.old hw' hN3')) ?_
  with_reducible refine Ow.nil ?_
  refine⟨by intro b hb;simp only[List.mem_cons,List.not_mem_nil,or_false] at hb;(try subst hb);rfl, ?_⟩
  refine kq (And.intro @kh_ @ho1) ?_
  refine⟨_,(ke @kh_),hN3', ?_⟩
  rfl
end Go.Proofs
end
section
open Go Go.Proofs Go.Sx Go.StP Go.Flo
namespace Go.Proofs
set_option maxRecDepth 10000
set_option maxHeartbeats 1000000
set_option linter.unusedSimpArgs false
structure RfG where
 i:Nat
 S:DiskL
 G:DkG
 X:zc_
 DG:zc_
theorem ActOk.old {w w':World} {L:zc_} {a:ActL} (h:ActOk w a) (hw:Hp w L w') (hn:New w.heap.size L):ActOk w' a:=
 ⟨h.pk.old hw fun hl _b hb=>hn.not (h.pk.blk hl hb),h.n⟩
theorem ActOk.pkb {w w':World} {X:zc_} {a:ActL} (h:ActOk w a) (hs:w.heap.size≤w'.heap.size) (hn:New w.heap.size X):PkB w' X a.picks.l a.picks.v:=fun hl _b hb=>
 ⟨Nat.lt_of_lt_of_le (h.pk.blk hl hb) hs,hn.not (h.pk.blk hl hb)⟩
set_option linter.defProp false
def atZ_:=And.intro (And.intro (@zg_) (And.intro (@zf_) (@QB_))) (And.intro (@w1_) (And.intro (@Xw_) (@Zd_)))
end Go.Proofs
end
section
open Go Go.Proofs Go.Sx Go.StP Go.Flo
namespace Go.Proofs
set_option maxRecDepth 10000
set_option maxHeartbeats 1000000
set_option linter.unusedSimpArgs false
theorem aln_ {S S':DiskL} {kind:Int} {dir name s:List UInt8} {e:Nat} (h:StepD S kind dir name s S' e):S'.files.length≤S.files.length+1:=by
 obtain⟨-,hb2,-⟩:=jy_ S
 cases h with
 |same=>exact Nat.le_succ _
 |burn=>rw[hb2];exact Nat.le_succ _
 |create=>show((zm_ S).1.files++ [q2_]).length≤_;rw[hb2,List.length_append];exact Nat.le_refl _
 |append=>show((zm_ S).1.files.set _ _).length≤_;rw[List.length_set,hb2];exact Nat.le_succ _
 |sync=>show((zm_ S).1.files.set _ _).length≤_;rw[List.length_set,hb2];exact Nat.le_succ _
 |syncDir=>show(zm_ S).1.files.length≤_;rw[hb2];exact Nat.le_succ _
 |rename=>show(zm_ S).1.files.length≤_;rw[hb2];exact Nat.le_succ _
 |remove=>show(zm_ S).1.files.length≤_;rw[hb2];exact Nat.le_succ _
theorem ajK_ (S:DiskL) (pl:List UInt16): (xq_ S pl).files.length=S.files.length:=by
 have hf: ∀ (l:NmL) (q:DiskL×List UInt16),(l.foldl qM_ q).1.files.length=q.1.files.length:=fun l=>by
  induction l with
  |nil=>exact fun _=>rfl
  |cons a l ih=>
   intro q
   rw[List.foldl_cons,ih]
   show(q.1.files.set _ _).length=_
   rw[List.length_set]
 have hm: ∀ (q:DiskL×List UInt16) k,(qG_ q k).1.files.length=q.1.files.length:=fun q k=>by
  induction k with
  |zero=>rfl
  |succ k ih=>show(List.foldl qM_ _ _).1.files.length=_;rw[hf,ih]
 unfold xq_
 rw[hm]
 show(qa_ (S,pl) 3).1.files.length=_
 rw[wm_]
theorem aoQ_ (S:DiskL) (a:ActL): (doA S a).1.files.length≤S.files.length+1:=by
 unfold doA
 split
 ·exact Nat.le_succ _
 split
 ·rw[ajK_];exact Nat.le_succ _
 split
 ·exact Nat.le_succ _
 ·exact aln_ (ad9_ S _ _ _ _)
theorem ao9_ (q:Int) (l:List FiL): (ofD q l).files.length≤l.length:=by
 have: ∀i,i≤l.length→(ofN l q i).files.length≤i∧ ∀k,((ofN l q i).dir k).seen.length≤i:=fun i=>by
  induction i with
  |zero=>exact fun _=>⟨Nat.le_refl _,fun _=>Nat.le_refl _⟩
  |succ i ih=>exact fun h=>by rw[afE_ l q (by omega)];exact We_ _ _ (ih (by omega))
 have h:=(this l.length (Nat.le_refl _)).1
 unfold ofN at h
 rw[List.take_length] at h
 exact h
theorem aa7_ {b:Nat} {x:Obj}: ∀ {D L:zc_},b∈keys D→setB (D++L) b x=setB D b x++L
 | [],_,h=>by cases h
 | (c,o)::D,L,h=>by
  rw[List.cons_append]
  unfold setB
  by_cases e:c=b
  ·simp[e]
  ·have hm:b∈keys D:=by
    rcases List.mem_cons.1 h with h|h
    ·exact absurd h.symm e
    ·exact h
   simp only[e, ↓reduceIte]
   rw[aa7_ hm];rfl
theorem DkP.worldM {X L:zc_} {G:DkG} {S:DiskL} {w0 w:World} (h:DkP X G S) (hw:Hp w0 L w) (hm: ∀p,p∈X→p∈L):DkW w G S:=⟨X,fun b o hb=>hw.has b o (hm _ (zp_ hb)),h⟩
theorem DcP.worldM {X L:zc_} {G:DcG} {S:DiskL} {w0 w:World} (h:DcP X G S) (hw:Hp w0 L w) (hm: ∀p,p∈X→p∈L):DcW w G S:=⟨X,fun b o hb=>hw.has b o (hm _ (zp_ hb)),h⟩
theorem aeB_ (X:zc_) (G:DcG) (S:DiskL) (n:Int) (w:World) (hX: ∀p,p∈X→w.heap[p.1]? =some p.2) (hnd: (keys X).Nodup) (hP:DcP X G S) (hn: -9223372036854775808≤n∧n<9223372036854775808):
  Rets Tryz.prog 30 #[vp G.bd 0,vi n] w (XS w X (fun v D=>v=vj_ []∧ ∃G',G'.bd=G.bd∧DcP D G' {S with fuse:=n,fused:=decide (0≤n)})):=by
 refine Rets.mono (Rets.chunk hX hnd (zh_ hP.disk) (acZ_ G S n w hn (hX _ (zp_ hP.disk)))) ?_
 rintro v D ⟨hE,o,rfl,rfl,rfl⟩
 exact⟨hE,rfl,G,rfl,hP.setD {S with fuse:=n,fused:=decide (0≤n)} rfl rfl⟩
theorem Qw_ {w0:World} {L X D:zc_} {b:Nat} (hC:Came w0 L X D) (hX:b∉keys X) (hL:b∈keys L):b∉keys D:=fun hm=>by
 rcases hC.new b hm with h| ⟨h,-⟩
 ·exact hX h
 ·have:=zv_ h hL;omega
theorem afP_ (w:World) {X Y:zc_} {b:Nat} (o:Obj) (Z:zc_) (hX:b∉keys X) (hY:b∉keys Y):zA_ w (X++ (Y++ ((b,o)::Z))) b=some o:=za_ (by rw[z5_ hX,z5_ hY];simp[Sx.look])
structure DpG where
 i:Nat
 S:DiskL
 G:DkG
 X:zc_
 C:DcG
 Y:zc_
 DG:zc_
structure DqG where
 f:Nat
 C:DcG
 Y:zc_
set_option linter.defProp false
def zN_:=And.intro (And.intro (And.intro (@zg_) (And.intro (@zf_) (@Sx.tup2_0))) (And.intro (And.intro (@Sx.tup2_1) (@QB_)) (And.intro (@w1_) (@JD_)))) (And.intro (And.intro (And.intro (@J0_) (@JT_)) (And.intro (@JI_) (@WL_))) (And.intro (And.intro (@Xw_) (@Zd_)) (And.intro (@wP_) (@x2_))))
theorem K4_ (quota:Int) (v1 v2:Value) (l:List FiL) (acts:List ActL) (w:World) (hG:Qg_ w) (hq: -9223372036854775808≤quota∧quota<9223372036854775808) (hv:FiSl w v1 l) (hb:FiB l) (hva:AcSl w v2 acts) (hao: ∀a,a∈acts→ActOk w a):
  Rets Tryz.prog 5 #[vi quota,v1,v2] w (fun v D=>v= .bool true∧D= []):=by
 have ln:=hva.len
 obtain⟨rb,off,arr,E,fz,hr⟩:=hva.row
 refine Rets.enterV Tryz.func5 rfl (rs:= [.tmp 6]) Tryz.results5 Tryz.ntmps5 ?_
 refine kf ?_
 first|with_reducible refine ks [] @zN_ ?_|refine kp @zN_ ?_
 refine Ow.callFV rfl Tryz.call14 (fun w' hw'=>kN_ w' (qR_ hG hw' trivial)) ?_
 refine ko @zN_ ?_
 first|with_reducible refine ks [] @zN_ ?_|refine kp @zN_ ?_
 refine Ow.callFV rfl Tryz.call15 (fun w' hw'=>abs_ v1 (.slice none 0 0) l [] w' (hv.oldN hw' trivial) hb (SlV.nil w') (by simp)) ?_
 have hNn:New w.heap.size ([]:zc_):=trivial
 cases hgt:XK_ l [] with
 |true=>
  refine ko @zN_ ?_
  first|with_reducible refine ks [] @zN_ ?_|refine kp @zN_ ?_
  refine Ow.callFV rfl Tryz.call14 (fun w' hw'=>kN_ w' (qR_ hG hw' hNn)) ?_
  refine ko @zN_ ?_
  first|with_reducible refine ks [] @zN_ ?_|refine kp @zN_ ?_
  refine⟨_,(ke @zN_),hNn, ?_⟩
  rfl
 |false=>
  obtain⟨hll,-,hlb⟩:=akD_ hgt
  refine ko @zN_ ?_
  first|with_reducible refine ks [] @zN_ ?_|refine kp @zN_ ?_
  refine Ow.callC rfl rfl Tryz.call16 (fun w' hw'=>alA_ quota v1 l w' hq (qR_ hG hw' trivial) (hv.oldN hw' trivial) (by omega) hb) (fun B0 v0 D0 hA0 hB0 hN0 hS0=> ?_)
  obtain⟨G0,rfl,hP0⟩:=hS0
  rw[List.nil_append]
  have hN0':New w.heap.size D0:=hN0.mono hB0
  have hD0:DkA D0 G0 (ofD quota l) l.length:=⟨hP0,anS_ quota l,aqW_ quota l fun f hf=>by have:=(hlb f hf).1;omega⟩
  refine ko @zN_ ?_
  refine Ow.callC rfl rfl Tryz.call26 (fun w' hw'=>alo_ quota v1 l w' hq (hv.oldN hw' hN0') (by omega) hb) (fun B1 v1' E0 hA1 hB1 hN1 hS1=> ?_)
  obtain⟨C0,rfl,hC0⟩:=hS1
  have hN1':New w.heap.size E0:=hN1.mono hB1
  have hN01:=hN0'.app hN1'
  have hfl0:=ao9_ quota l
  refine ko @zN_ ?_
  first|with_reducible refine ks [] @zN_ ?_|refine kp @zN_ ?_
  refine Ow.callFV rfl Tryz.call27 (fun w' hw'=>ZG_ w' G0 C0 (ofD quota l) (hP0.worldM hw' (fun p hp=>by simp[hp])) (hC0.worldM hw' (fun p hp=>by simp[hp])) (qR_ hG hw' hN01) hP0.ok hD0.B (by omega) (hD0.used (by omega))) ?_
  refine ko @zN_ ?_
  refine Ow.callC rfl rfl Tryz.call28 (fun w' hw'=>Xk_ quota w' hq (qR_ hG hw' hN01)) (fun B2 v2' D2 hA2 hB2 hN2 hS2=> ?_)
  obtain⟨G2,rfl,hP2⟩:=hS2
  have hN012:=hN01.app (hN2.mono hB2)
  refine ko @zN_ ?_
  refine Ow.callC rfl rfl Tryz.call29 (fun w' hw'=>abw_ quota w') (fun B3 v3' D3 hA3 hB3 hN3 hS3=> ?_)
  obtain⟨C3,rfl,hC3⟩:=hS3
  have hN0123:=hN012.app (hN3.mono hB3)
  refine ko @zN_ ?_
  refine Ow.callFV rfl Tryz.call27 (fun w' hw'=>ZG_ w' G2 C3 (Zp_ quota) (hP2.worldM hw' (fun p hp=>by simp[hp])) (hC3.worldM hw' (fun p hp=>by simp[hp])) (qR_ hG hw' hN0123) hP2.ok (adg_ quota) (by decide) (by show 0<_;decide)) ?_
  refine ko @zN_ ?_
  first|with_reducible refine ks [] (And.intro @zN_ @ln) ?_|refine kp (And.intro @zN_ @ln) ?_
  refine Cw.permL (M:=D0++ (E0++ (D2++D3))) (by classical exact List.perm_iff_count.2 fun a=>by simp only[List.count_append,List.count_cons,List.count_nil]<;>omega) ?_
  refine Cw.loopG (G:=DpG) [41,42,43,44,45,46,47,48,51,52,53,54,10,55,56,57,58,59,11,12,60,61,62,13,64,65,63,66,67,68,69,71,72,70,73,74,75,76,78,79,77,80,81,82,83,84,86,87,85,88,89,90,91,92,93,94,95,96,98,99,100,101,102,103,97,104,105,14,15,107,108,109,110,111,112,106,113,114,16,17,115,116,117,118,119,120,121,122,123,124,125,126,127,128,129,130,131,132,133,6,49,50,9] (fun g=> [(9,vi g.i)]) (fun g=>g.X++ (g.Y++g.DG)) (fun g=>g.i≤acts.length∧g.i≤60∧DkA g.X g.G g.S (l.length+g.i)∧DcP g.Y g.C g.S∧g.S.files.length≤l.length+g.i∧g.G.bd=G0.bd∧g.C.bd=C0.bd∧New w.heap.size g.X∧New w.heap.size g.Y∧New w.heap.size g.DG) (fun g=>acts.length - g.i) ⟨0,ofD quota l,G0,D0,C0,E0,D2++D3⟩ rfl rfl ?_ ?_
  ·exact⟨Nat.zero_le _,Nat.zero_le _,hD0,hC0,hfl0,rfl,rfl,hN0',hN1',(hN2.mono hB2).app (hN3.mono hB3)⟩
  intro g j hg
  refine kv ?_
  clear hD0 hN0' hP0 hC0 hN1' hN01 hN012 hN0123 hP2 hC3 hfl0
  obtain⟨i,S,G,X,C,Y,DG⟩:=g
  simp only at hg ⊢
  obtain⟨hi,hi6,hA,hC,hfl,hbd,hcd,hN,hNY,hNG⟩:=hg
  rw[←hbd,←hcd]
  have hNr:New w.heap.size (X++ (Y++DG)):=hN.app (hNY.app hNG)
  by_cases hlt:i<acts.length∧i<60
  ·have d1:decide ((i:Int)< (acts.length:Int))=true:=decide_eq_true (by omega)
   have d2:decide ((i:Int)<60)=true:=decide_eq_true (by omega)
   have ix:=hr.idx true i hlt.1
   have rda:zA_ w (X++ (Y++DG)) rb=some (.cells arr E fz):=by rw[z2_ (hNr.not (hr.lt (by omega)))];exact hr.has (by omega)
   have lda:=aqJ_ hr hlt.1
   have hok:=hao (acts.getD i ac0) (xp_ hlt.1)
   generalize acts.getD i ac0=a at*
   first|with_reducible refine ks [10,13,1000016] (And.intro @zN_ (And.intro @ln (And.intro @d1 (And.intro @d2 (And.intro @ix (And.intro @rda (@lda))))))) ?_|refine kp (And.intro @zN_ (And.intro @ln (And.intro @d1 (And.intro @d2 (And.intro @ix (And.intro @rda (@lda))))))) ?_
   refine Ow.alloc rfl rfl zrAc fun b9 hb9 hw9=> ?_
   simp only[zj_,List.nil_append,List.cons_append]
   refine Ow.permL (M:=(b9, .cells (acC ac0).toArray 31 (0,0)):: (X++ (Y++DG))) (by classical exact List.perm_iff_count.2 fun a=>by simp only[List.count_append,List.count_cons,List.count_nil]<;>omega) ?_
   have hN9:New w.heap.size ((b9,Obj.cells (acC a).toArray 31 (0,0)):: (X++ (Y++DG))):=⟨hw9,hNr⟩
   refine ko @zN_ ?_
   first|with_reducible refine ks [10,13,1000016] @zN_ ?_|refine kp @zN_ ?_
   refine Ow.callFV rfl Tryz.call17 (fun w' hw'=>adj_ a w' (hok.old hw' hN9)) ?_
   have hup:DkA X G S (l.length+ (i+1)):=⟨hA.P,hA.H,hA.B.mono (by omega)⟩
   cases hga:Wc_ a with
   |true=>
    refine ko @zN_ ?_
    refine Cw.permL (M:=X++ (Y++ ((b9, .cells (acC a).toArray 31 (0,0))::DG))) (by classical exact List.perm_iff_count.2 fun a=>by simp only[List.count_append,List.count_cons,List.count_nil]<;>omega) ?_
    first|with_reducible refine ks [] @zN_ ?_|refine kp @zN_ ?_
    exact Again.mk ⟨i+1,S,G,X,C,Y,(b9, .cells (acC a).toArray 31 (0,0))::DG⟩ (by show acts.length - (i+1)<acts.length - i;omega) ⟨hlt.1,hlt.2,hup,hC,by show S.files.length≤l.length+ (i+1);omega,rfl,rfl,hN,hNY,⟨hw9,hNG⟩⟩ rfl rfl
   |false=>
    obtain⟨g1,g2,g3,g4⟩:=Z1_ hga
    have h9X:b9∉keys X:=fun hm=>by have:=zv_ hb9 (b:=b9) (by rw[zt_];exact List.mem_append_left _ hm);omega
    have h9Y:b9∉keys Y:=fun hm=>by have:=zv_ hb9 (b:=b9) (by rw[zt_,zt_];exact List.mem_append_right _ (List.mem_append_left _ hm));omega
    have hrem:=rem9 a.kind
    refine ko @zN_ ?_
    refine Cw.permL (M:=X++ (Y++ ((b9, .cells (acC a).toArray 31 (0,0))::DG))) (by classical exact List.perm_iff_count.2 fun a=>by simp only[List.count_append,List.count_cons,List.count_nil]<;>omega) ?_
    have rd9:=afP_ w (.cells (acC a).toArray 31 (0,0)) DG h9X h9Y
    have hNz:New w.heap.size (X++ (Y++ ((b9,Obj.cells (acC a).toArray 31 (0,0))::DG))):=hN.app (hNY.app (show New w.heap.size ((b9,_)::DG) from⟨hw9,hNG⟩))
    first|with_reducible refine ks [10,1000016] (And.intro @zN_ @rd9) ?_|refine kp (And.intro @zN_ @rd9) ?_
    refine Ow.callX (X:=X) (Y:=Y++ ((b9, .cells (acC a).toArray 31 (0,0))::DG)) rfl rfl rfl Tryz.call18 (fun w' hw' hX' hn'=>aiB_ X G S (l.length+i) a w' hX' hn' hA (by omega) (qR_ hG hw' hNz) (W6_ hG hN) (hok.old hw' hNz) hga (hok.pkb hw'.size hN)) (fun v2' X2 hC2 hS2=> ?_)
    obtain⟨rfl,G2,hbd2,hA2⟩:=hS2
    have hN2:New w.heap.size X2:=wK_ hC2 hN
    have hA2':DkA X2 G2 (doA S a).1 (l.length+ (i+1)):=hA2
    have hfl2:=aoQ_ S a
    have h9X2:b9∉keys X2:=Qw_ hC2 h9X (by simp[keys])
    clear hA2
    rw[←hbd2]
    have rd92:=afP_ w (.cells (acC a).toArray 31 (0,0)) DG h9X2 h9Y
    refine ko (And.intro @zN_ (And.intro @rd92 (@hrem))) ?_
    refine Cw.permL (M:=Y++ (X2++ ((b9, .cells (acC a).toArray 31 (0,0))::DG))) (by classical exact List.perm_iff_count.2 fun a=>by simp only[List.count_append,List.count_cons,List.count_nil]<;>omega) ?_
    have rdY:=afP_ w (.cells (acC a).toArray 31 (0,0)) DG h9Y h9X2
    have hNz2:New w.heap.size (Y++ (X2++ ((b9,Obj.cells (acC a).toArray 31 (0,0))::DG))):=hNY.app (hN2.app (show New w.heap.size ((b9,_)::DG) from⟨hw9,hNG⟩))
    have hlt9:a.kind.tmod 9<9:=Int.tmod_lt_of_pos _ (by decide)
    refine Cw.cutO (G:=DqG) [12,63,64,65,66,67,68,69,70,71,72,73,74,75,76,77,78,79,80,81,82,83,84,85,86,87,88,89,90,91,92,93,94,95,96] (fun g=> [(12,vi (g.f:Nat))]) (fun g=>g.Y++ (X2++ ((b9, .cells (acC a).toArray 31 (0,0))::DG))) (fun g=>DcP g.Y g.C (doA S a).1∧g.f=(doA S a).2∧g.C.bd=C.bd∧New w.heap.size g.Y∧b9∉keys g.Y) ?_ ?_
    ·by_cases k6:a.kind.tmod 9=6
     ·have e6: (a.kind.tmod 9==6)=true:=beq_iff_eq.2 k6
      have hd:doA S a=({S with fuse:=a.n,fused:=decide (0≤a.n)},0):=by unfold doA;rw[if_pos k6]
      first|with_reducible refine ks [] (And.intro @zN_ (And.intro @e6 (@rdY))) ?_|refine kp (And.intro @zN_ (And.intro @e6 (@rdY))) ?_
      refine Ow.callX (X:=Y) (Y:=X2++ ((b9, .cells (acC a).toArray 31 (0,0))::DG)) rfl rfl rfl Tryz.call30 (fun w' hw' hX' hn'=>aeB_ Y C S a.n w' hX' hn' hC hok.n) (fun v4 Y4 hC4 hS4=> ?_)
      obtain⟨rfl,C4,hcd4,hP4⟩:=hS4
      refine ko @zN_ ?_
      exact CutO.mk ⟨0,C4,Y4⟩ ⟨by rw[hd];exact hP4,by rw[hd],hcd4,wK_ hC4 hNY,Qw_ hC4 h9Y (by simp[keys])⟩ rfl rfl
     ·have e6: (a.kind.tmod 9==6)=false:=beq_eq_false_iff_ne.2 k6
      by_cases k7:a.kind.tmod 9=7
      ·have e7: (a.kind.tmod 9==7)=true:=beq_iff_eq.2 k7
       have hd:doA S a=(xq_ S a.picks.l,0):=by unfold doA;rw[if_neg k6,if_pos k7]
       have okc:DkOk (xq_ S a.picks.l):=by have:=hA2'.P.ok;rw[hd] at this;exact this
       first|with_reducible refine ks [] (And.intro @zN_ (And.intro @e6 (And.intro @e7 (@rdY)))) ?_|refine kp (And.intro @zN_ (And.intro @e6 (And.intro @e7 (@rdY)))) ?_
       refine Ow.callX (X:=Y) (Y:=X2++ ((b9, .cells (acC a).toArray 31 (0,0))::DG)) rfl rfl rfl Tryz.call31 (fun w' hw' hX' hn'=>adp_ Y C S (l.length+i) a.picks.v a.picks.l w' hX' hn' hC hA.P.ok okc hA.H hA.B (by omega) (hok.pk.old hw' fun hl b hb=>hNz2.not (hok.pk.blk hl hb)) (hok.pkb hw'.size hNY) (by omega)) (fun v4 Y4 hC4 hS4=> ?_)
       obtain⟨C4,hcd4,hP4⟩:=hS4
       refine ko @zN_ ?_
       exact CutO.mk ⟨0,C4,Y4⟩ ⟨by rw[hd];exact hP4,by rw[hd],hcd4,wK_ hC4 hNY,Qw_ hC4 h9Y (by simp[keys])⟩ rfl rfl
      ·have e7: (a.kind.tmod 9==7)=false:=beq_eq_false_iff_ne.2 k7
       by_cases k8:a.kind.tmod 9=8
       ·have e8: (a.kind.tmod 9==8)=true:=beq_iff_eq.2 k8
        have hd:doA S a=({S with max:=a.n},0):=by unfold doA;rw[if_neg k6,if_neg k7,if_pos k8]
        have hlk8:Sx.look (Y++ (X2++ ((b9,Obj.cells (acC a).toArray 31 (0,0))::DG))) C.bd=some (dcO C S):=zl_ hC.disk
        have st8:=fun x=>wP_ C S a.n x
        first|with_reducible refine ks [] (And.intro @zN_ (And.intro @e6 (And.intro @e7 (And.intro @e8 (And.intro @rdY (And.intro @hlk8 (And.intro @st8 (@jE_)))))))) ?_|refine kp (And.intro @zN_ (And.intro @e6 (And.intro @e7 (And.intro @e8 (And.intro @rdY (And.intro @hlk8 (And.intro @st8 (@jE_)))))))) ?_
        exact CutO.mk ⟨0,C,setB Y C.bd (dcO C {S with max:=a.n})⟩ ⟨by rw[hd];exact hC.setD {S with max:=a.n} rfl rfl,by rw[hd],rfl,New.of_le (fun c hc=>hNY.le c (by rwa [zQ_] at hc)),by rw[zQ_];exact h9Y⟩ (aa7_ (zh_ hC.disk)) rfl
       ·have e8: (a.kind.tmod 9==8)=false:=beq_eq_false_iff_ne.2 k8
        have hd:doA S a=doV S (a.kind.tmod 9) a.dir a.name a.s:=by unfold doA;rw[if_neg k6,if_neg k7,if_neg k8]
        by_cases k0:0≤a.kind.tmod 9
        ·have e0:decide ((0:Int)≤a.kind.tmod 9)=true:=decide_eq_true k0
         first|with_reducible refine ks [] (And.intro @zN_ (And.intro @e6 (And.intro @e7 (And.intro @e8 (And.intro @e0 (@rdY)))))) ?_|refine kp (And.intro @zN_ (And.intro @e6 (And.intro @e7 (And.intro @e8 (And.intro @e0 (@rdY)))))) ?_
         refine Ow.callX (X:=Y) (Y:=X2++ ((b9, .cells (acC a).toArray 31 (0,0))::DG)) rfl rfl rfl Tryz.call32 (fun w' hw' hX' hn'=>alM_ Y C S (a.kind.tmod 9) a.dir a.name a.s w' hX' hn' hC hA.P.ok (hA.b (by omega)) ⟨k0,by omega⟩ (by omega) (by omega) (hA.pend (by omega)) (by omega) (hA.used (by omega))) (fun v4 Y4 hC4 hS4=> ?_)
         obtain⟨rfl,C4,hcd4,hP4⟩:=hS4
         refine ko @zN_ ?_
         exact CutO.mk ⟨(doV S (a.kind.tmod 9) a.dir a.name a.s).2,C4,Y4⟩ ⟨by rw[hd];exact hP4,by rw[hd],hcd4,wK_ hC4 hNY,Qw_ hC4 h9Y (by simp[keys])⟩ rfl rfl
        ·have e0:decide ((0:Int)≤a.kind.tmod 9)=false:=decide_eq_false k0
         have hd0:doV S (a.kind.tmod 9) a.dir a.name a.s=(S,0):=by
          unfold doV
          rw[if_neg (by omega),if_neg (by omega),if_neg (by omega),if_neg (by omega),if_neg (by omega),if_neg (by omega)]
         first|with_reducible refine ks [] (And.intro @zN_ (And.intro @e6 (And.intro @e7 (And.intro @e8 (@e0))))) ?_|refine kp (And.intro @zN_ (And.intro @e6 (And.intro @e7 (And.intro @e8 (@e0))))) ?_
         exact CutO.mk ⟨0,C,Y⟩ ⟨by rw[hd,hd0];exact hC,by rw[hd,hd0],rfl,hNY,h9Y⟩ rfl rfl
    ·intro g j hg
     refine kv ?_
     clear hC hA rdY hNz2 hNz rd9 rd92 h9Y hNY hcd
     obtain⟨f,C4,Y4⟩:=g
     simp only at hg ⊢
     obtain⟨hC,rfl,hcd,hNY,h9Y⟩:=hg
     rw[←hcd]
     generalize doA S a=q at*
     obtain⟨S',e⟩:=q
     simp only at hA2' hfl2 hC ⊢
     have rdY:=afP_ w (.cells (acC a).toArray 31 (0,0)) DG h9Y h9X2
     have hNz:New w.heap.size (Y4++ (X2++ ((b9,Obj.cells (acC a).toArray 31 (0,0))::DG))):=hNY.app (hN2.app (show New w.heap.size ((b9,_)::DG) from⟨hw9,hNG⟩))
     have z1: ((e:Int) !=(e:Int))=false:=bne_self_eq_false _
     have z2: ((Zl_ S' a.dir a.name).1 !=(Zl_ S' a.dir a.name).1)=false:=bne_self_eq_false _
     have z3: (((Zl_ S' a.dir a.name).2:Int) !=((Zl_ S' a.dir a.name).2:Int))=false:=bne_self_eq_false _
     first|with_reducible refine ks [10] (And.intro @zN_ @rdY) ?_|refine kp (And.intro @zN_ @rdY) ?_
     refine Ow.callFV rfl Tryz.call23 (fun w' hw'=>VF_ w' G2 S' a.dir a.name (hA2'.P.worldM hw' (fun p hp=>by simp[hp])) (by omega)) ?_
     refine ko (And.intro @zN_ @rdY) ?_
     refine Ow.callFV rfl Tryz.call33 (fun w' hw'=>agY_ w' C4 S' a.dir a.name (hC.worldM hw' (fun p hp=>by simp[hp])) hA2'.P.ok (hA2'.b (by omega)) (by omega)) ?_
     refine ko (And.intro @zN_ (And.intro @z1 (And.intro @z2 (@z3)))) ?_
     refine Ow.callFV rfl Tryz.call27 (fun w' hw'=>ZG_ w' G2 C4 S' (hA2'.P.worldM hw' (fun p hp=>by simp[hp])) (hC.worldM hw' (fun p hp=>by simp[hp])) (qR_ hG hw' hNz) hA2'.P.ok hA2'.B (by omega) (hA2'.used (by omega))) ?_
     refine ko @zN_ ?_
     refine Cw.permL (M:=X2++ (Y4++ ((b9, .cells (acC a).toArray 31 (0,0))::DG))) (by classical exact List.perm_iff_count.2 fun a=>by simp only[List.count_append,List.count_cons,List.count_nil]<;>omega) ?_
     first|with_reducible refine ks [] @zN_ ?_|refine kp @zN_ ?_
     exact Again.mk ⟨i+1,S',G2,X2,C4,Y4,(b9, .cells (acC a).toArray 31 (0,0))::DG⟩ (by show acts.length - (i+1)<acts.length - i;omega) ⟨hlt.1,hlt.2,hA2',hC,by show S'.files.length≤l.length+ (i+1);omega,rfl,rfl,hN2,hNY,⟨hw9,hNG⟩⟩ rfl rfl
  ·have d1: (decide ((i:Int)< (acts.length:Int))=true∧decide ((i:Int)<60)=false)∨decide ((i:Int)< (acts.length:Int))=false:=by
    by_cases h1:i<acts.length
    ·exact .inl ⟨decide_eq_true (by omega),decide_eq_false (by omega)⟩
    ·exact .inr (decide_eq_false (by omega))
   rcases d1 with⟨d1,d2⟩ |d1
   ·first|with_reducible refine ks [] (And.intro @zN_ (And.intro @ln (And.intro @d1 (@d2)))) ?_|refine kp (And.intro @zN_ (And.intro @ln (And.intro @d1 (@d2)))) ?_
    refine Ow.callFV rfl Tryz.call14 (fun w' hw'=>kN_ w' (qR_ hG hw' hNr)) ?_
    refine ko @zN_ ?_
    first|with_reducible refine ks [] @zN_ ?_|refine kp @zN_ ?_
    refine⟨_,(ke @zN_),hNr, ?_⟩
    rfl
   ·first|with_reducible refine ks [] (And.intro @zN_ (And.intro @ln (@d1))) ?_|refine kp (And.intro @zN_ (And.intro @ln (@d1))) ?_
    refine Ow.callFV rfl Tryz.call14 (fun w' hw'=>kN_ w' (qR_ hG hw' hNr)) ?_
    refine ko @zN_ ?_
    first|with_reducible refine ks [] @zN_ ?_|refine kp @zN_ ?_
    refine⟨_,(ke @zN_),hNr, ?_⟩
    rfl
end Go.Proofs
end
section
open Go Go.Proofs Go.Sx Go.StP Go.Flo
namespace Go.Proofs
set_option maxRecDepth 10000
set_option maxHeartbeats 1000000
set_option linter.unusedSimpArgs false
def HadL (n i:Nat):Prop:=n≤3000000* (i+1)
structure BgG where
 i:Nat
 S:DiskL
 G:DkG
 X:zc_
 had:List FiL
 v:Value
 D:zc_
 DG:zc_
def inF (had:List FiL) (f:FiL):Bool:=had.any fun h=>h.dir==f.dir&& (decide (f.data.length≤h.data.length)&&h.data.take f.data.length==f.data)
structure InG where
 k:Nat
 c:Bool
set_option linter.defProp false
def atF_:=And.intro (And.intro (@zg_) (And.intro (@zf_) (@QB_))) (And.intro (@w1_) (And.intro (@Zd_) (@vS_)))
end Go.Proofs
end
section
open Go Go.Proofs Go.Sx Go.StP Go.Flo
namespace Go.Proofs
set_option maxRecDepth 10000
set_option maxHeartbeats 1000000
set_option linter.unusedSimpArgs false
def as0_ (f:FiL) (a:ActL):Bool:=a.dir==f.dir&& (a.name==f.name|| (a.kind.tmod 9==4&&a.s==f.name))
structure SeG where
 i:Nat
 S:DiskL
 G:DkG
 X:zc_
 DG:zc_
set_option linter.defProp false
def auv_:=And.intro (And.intro (And.intro (And.intro (@zg_) (@zf_)) (And.intro (@QB_) (@w1_))) (And.intro (And.intro (@JD_) (@J0_)) (And.intro (@JT_) (And.intro (@JI_) (@Xw_))))) (And.intro (And.intro (And.intro (@Zd_) (@acP_)) (And.intro (@afy_) (@afm_))) (And.intro (And.intro (@afR_) (@abP_)) (And.intro (@vS_) (And.intro (@Sx.tup2_0) (@Sx.tup2_1)))))
end Go.Proofs
end
namespace Go.Sx
open Go Go.ChangeShapes Go.WideShapes Go.RowKit
theorem Hp.same0 {W W':World} (h:Hp W [] W') {b:Nat} (hb:b<W.heap.size):W'.heap[b]? =W.heap[b]? :=h.old b hb (fun hm=>by cases hm)
theorem Hp.kept {W W':World} (h:Hp W [] W') (may:MemPlace→Prop):W.keptBut W' may:=by
 refine⟨h.os,h.output,fun i hi=> ?_⟩
 rw[h.same0 hi]
 cases ho:W.heap[i]? with
 |none=>rfl
 |some o=>
  cases o<;>first
   |exact⟨rfl,rfl,rfl,fun _ _=>rfl⟩
   |exact .inr ⟨rfl,rfl⟩
   |rfl
theorem Hp.sameAt {W W':World} (h:Hp W [] W') {p:MemPlace} (hp:p.block<W.heap.size):W.sameAt W' p:=by
 cases p with
 |cell b off=>
  have:=h.same0 (b:=b) hp
  simp only[World.sameAt,World.cell?,this]
 |map b=>exact h.same0 hp
theorem Hp.frozen {W W':World} (h:Hp W [] W') {a:Addr} (ha:a.block<W.heap.size):W'.frozen? a=W.frozen? a:=by
 simp only[World.frozen?,h.same0 ha]
section
variable {H:Type} {enc:TypeId×Value→H} {P:Program}
theorem Qr_ (hl:laidOutB P=true) {W W':World} {sp:Nat→Bool} (hp:Hp W [] W'): ∀ {ts:List TypeId} {vs:List Value} {ds:List (DataW H)} {ps:List MemPlace},
  (∀t∈ts,P.readableRec t=true∧t<P.types.size)→(∀p∈ps,p.block<W.heap.size)→(∀p∈ps,sp p.block=true)→
  DataW.TrodAll enc P W 0 (fun _=>true) true ts vs ds ps→DataW.TrodAll enc P W' 0 sp true ts vs ds ps
 | [],_,_,_,_,_,_,h=>by
  obtain⟨rfl,rfl,rfl⟩:=trodAll_nil h
  exact trodAll_mk0
 |t::ts,_,_,_,ht,hlt,hs,h=>by
  obtain⟨v,vs,d,ds,p,q,rfl,rfl,rfl,h1,h2⟩:=trodAll_cons h
  have hlt1: ∀x∈p,x.block<W.heap.size:=fun x hx=>hlt x (List.mem_append_left _ hx)
  exact trodAll_cons_mk (WideElems.Trod_stays hl (ht t List.mem_cons_self).1 (ht t List.mem_cons_self).2 h1 (fun x hx=>hp.sameAt (hlt1 x hx)) (fun x hx=>hs x (List.mem_append_left _ hx)))
   (Qr_ hl hp (fun u hu=>ht u (List.mem_cons_of_mem _ hu)) (fun x hx=>hlt x (List.mem_append_right _ hx)) (fun x hx=>hs x (List.mem_append_right _ hx)) h2)
theorem ajy_ {f:Func} {s:ChangeSpec} {W W':World} {args:Array Value} {ds gs:List (DataW H)} {before:List MemPlace} {tb:TypeId} (hl:laidOutB P=true)
  (hW:DataW.Whole enc P f.params.toList s.vars false W args.toList ds gs before) (hv:s.vars= []) (hpar: ∀t∈f.params.toList,P.readableRec t=true∧t<P.types.size)
  (hr:f.resultTypes= #[tb]) (htb:P.underlying tb=some .bool) (hfn:s.fn H ds={results:= [.lit (.bool true)],args:=ds}) (hp:Hp W [] W'):
  s.post enc P f false true false false W args (.bool true) W':=by
 have hlt:=hW.lt
 have hW0:=hW
 obtain⟨p,q,hA,hV,rfl,hz,hn⟩:=hW
 rw[hv] at hV
 obtain⟨rfl,rfl⟩:=trodVars_none hV
 rw[List.append_nil] at hW0 hlt hz
 have hargs: ∀sp:Nat→Bool,(∀x∈p,sp x.block=true)→DataW.TrodAll enc P W' 0 sp true f.params.toList args.toList (s.fn H (ds++ [])).args p:=fun sp hs=>by
  rw[List.append_nil,hfn]
  exact Qr_ hl hp hpar hlt hs hA
 have hvars: ∀sp:Nat→Bool,DataW.TrodVars enc P W' sp s.vars (s.fn H (ds++ [])).vars []:=fun sp=>by
  rw[List.append_nil,hfn,hv];rfl
 have hres: ∀ (b:Nat) (sp:Nat→Bool) (hd:Bool),DataW.TrodAll enc P W' b sp hd f.resultTypes.toList ((Value.bool true).resultList f.resultTypes.size) (s.fn H (ds++ [])).results []:=fun b sp hd=>by
  rw[List.append_nil,hfn,hr]
  exact trodAll_cons_mk (shut_bool htb true) trodAll_mk0
 have hold: ∀x∈p,(fun b=>decide (b<W.heap.size)) x.block=true:=fun x hx=>by simpa using hlt x hx
 refine⟨ds,[],p,[],p,[],hW0,hres _ _ _,hargs _ hold,hvars _,hp.kept _,fun _=> ?_⟩
 refine⟨ok_one hr rfl (okWide_bool_mk htb true),_,_,([]++p)++ [],⟨[]++p,[],trodAll_append (hargs _ (fun _ _=>rfl)) (hres _ _ _),hvars _,rfl, ?_,fun h=>by cases h⟩, ?_⟩
 ·intro b off hx
  have hx':MemPlace.cell b off∈p:=by simpa using hx
  rw[hp.frozen (hlt _ hx')]
  exact hz b off hx'
 ·intro x hx _
  simpa using hx
end
section
variable {P:Program} {W:World} {name:String} {k:IntKind} {zs:List Int}
end
section
variable {H:Type} {enc:TypeId×Value→H} {P:Program}
end
end Go.Sx
namespace Go.Sx
open Go
section
variable {P:Program}
theorem als_ {fits:TypeId→Bool} {d:Nat} {e:TypeId} {count off n:Nat} (h:rowAt P fits d e count off n=true):off≤count*P.cellsOf e:=by
 cases d with
 |zero=>simp[rowAt] at h
 |succ d=>
  unfold rowAt at h
  simp only at h
  split at h
  ·cases h
  ·rename_i hs
   have hs':0<P.cellsOf e:=Nat.pos_of_ne_zero hs
   have hd:=Nat.div_add_mod off (P.cellsOf e)
   have hm:=Nat.mod_lt off hs'
   rw[Bool.or_eq_true] at h
   rcases h with h|h
   ·simp only[Bool.and_eq_true,beq_iff_eq,decide_eq_true_eq] at h
    have:off / P.cellsOf e*P.cellsOf e≤count*P.cellsOf e:=Nat.mul_le_mul_right _ (by omega)
    rw[Nat.mul_comm (P.cellsOf e)] at hd
    omega
   ·simp only[Bool.and_eq_true,decide_eq_true_eq] at h
    have: (off / P.cellsOf e+1)*P.cellsOf e≤count*P.cellsOf e:=Nat.mul_le_mul_right _ (by omega)
    rw[Nat.add_mul,Nat.one_mul] at this
    rw[Nat.mul_comm (P.cellsOf e)] at hd
    omega
theorem abV_ {e:TypeId} {count off:Nat}: ∀ {d:Nat} {u:TypeId} {n:Nat},liesAt P d e count off u n=true→off≤count*P.cellsOf e
 |0,u,n,h=>by simp[liesAt] at h
 |d+1,u,n,h=>by
  unfold liesAt at h
  rw[Bool.or_eq_true] at h
  rcases h with h|h
  ·exact als_ h
  ·split at h
   ·exact abV_ h
   ·cases h
theorem aqn_ {W:World} {r:Reach} {base:Nat} {a:Addr} {e:TypeId} {n:Nat} (h:W.has P r base a e n):a.spot=none∧ ∃arr E fz,W.heap[a.block]? =some (.cells arr E fz)∧a.off≤arr.size:=by
 obtain⟨-,hs,row,cells,hsh,hl⟩:=h
 refine⟨hs, ?_⟩
 unfold World.shape? at hsh
 split at hsh
 ·rename_i c el fz hh
  cases hsh
  refine⟨c,_,fz,hh,Nat.le_trans (abV_ hl) ?_⟩
  exact Nat.div_mul_le_self _ _
 ·cases hsh
theorem ai7_ {W:World} {r:Reach} {base:Nat} {t e:TypeId} {v:Value} (ht:P.underlying t=some (.slice e)) (h:Value.okWide P W r base t v):
  v= .slice none 0 0∨ ∃b off len cap arr E fz,v=vsl b off len cap∧len≤cap∧W.heap[b]? =some (.cells arr E fz)∧off≤arr.size:=by
 obtain⟨a,len,cap,rfl⟩:=Go.WideShapes.okWide_slice ht h
 unfold Value.okWide at h
 rw[ht] at h
 unfold Cell.okWide at h
 rw[ht] at h
 simp only at h
 unfold Cell.ok at h
 rw[ht] at h
 cases a with
 |none=>
  left
  simp only at h
  split at h
  all_goals first| (cases h;done) |simp_all
 |some a=>
  right
  simp only at h
  obtain⟨hle,-,hh⟩:=h
  obtain⟨hs,arr,E,fz,hb,ho⟩:=aqn_ hh
  obtain⟨b,off,sp⟩:=a
  simp only at hs
  subst hs
  exact⟨b,off,len,cap,arr,E,fz,rfl,hle,hb,ho⟩
theorem anN_ {α:Type} {enc:α→List Value} {z:α} {m:Nat} {W:World} {base b off c:Nat} {l:List α} {arr:Array Value} {E:TypeId} {fz:Nat×Nat} (hm0:0<m) (hm: ∀x,(enc x).length=m)
  (hcells: ∀i,i<l.length→W.cells? base ((Addr.mk b off none).add (i*m)) m=some (enc (l.getD i z))) (hheap:W.heap[b]? =some (.cells arr E fz)) (hoff:off≤arr.size) (hc:l.length≤c):SlV m enc z W (vsl b off l.length c) l:=by
 have get: ∀k,k<l.length→ ∀j,j<m→arr[off+k*m+j]? =(enc (l.getD k z))[j]? :=by
  intro k hk j hj
  obtain⟨-,hl,hg⟩:=World.cells?_some (hcells k hk)
  have:=hg j (by omega)
  rw[jA_,jA_] at this
  simp only[World.cell?,hheap,Option.isSome_none,Bool.false_eq_true,if_false] at this
  exact this
 refine SlV.sl hheap get hc ?_
 by_cases h0:l.length=0
 ·rw[h0];omega
 ·have h1:=get (l.length - 1) (by omega) (m - 1) (by omega)
  rw[List.getElem?_eq_getElem (by rw[hm];omega)] at h1
  have h2:=(Array.getElem?_eq_some_iff.1 h1).1
  have h3: (l.length - 1)*m+m=l.length*m:=by
   rw[←Nat.succ_mul];congr 1;omega
  omega
end
end Go.Sx
section
open Go Go.Proofs Go.Sx Go.StP Go.Flo
open Go.ChangeShapes Go.WideShapes Go.ChangeAt Go.RowKit Go.ChangeMaps
namespace Go.Proofs
set_option maxRecDepth 10000
set_option maxHeartbeats 1000000
set_option linter.unusedSimpArgs false
theorem afH_ {H:Type} {tell:TypeId×Value→H} {α:Type} {enc:α→List Value} {z:α} {m:Nat} {W:World} {r:Reach} {base b0:Nat} {sp:Nat→Bool} {held:Bool} {fuel:Nat} {t e:TypeId} {v:Value} {x:DataW H×List MemPlace} {R:α→DataW H→Prop}
  (ht: (Tryz.prog).underlying t=some (.slice e)) (he: (Tryz.prog).cellsOf e=m) (hm0:0<m) (hm: ∀x,(enc x).length=m) (hval:Value.okWide Tryz.prog W r b0 t v)
  (hdec: ∀n cs y,DataW.trod tell Tryz.prog W base sp held n e cs=some y→ ∃a,cs=enc a∧R a y.1) (hd:DataW.trod tell Tryz.prog W base sp held fuel t [v]=some x):
  ∃l,SlV m enc z W v l∧(l= []∨ ∃es sp',x.1= .slice es sp'∧ ∀i,i<l.length→ ∃d,d∈es∧R (l.getD i z) d):=by
 rcases DataW.trod_slice ht hd with⟨hcs,-⟩ | ⟨a,len,cap,elems,rest,n,-,hcs,hx,-,hl,-,hlen,hel,-,-⟩
 ·simp only[List.cons.injEq,and_true] at hcs
  subst hcs
  exact⟨[],SlV.nil W, .inl rfl⟩
 ·simp only[List.cons.injEq,and_true] at hcs
  subst hcs
  rcases ai7_ ht hval with h0| ⟨b,off,len',cap',arr,E,fz,h1,-,hb,ho⟩
  ·cases h0
  ·unfold vsl at h1
   cases h1
   rw[he] at hel
   have hex: ∀i,i<len→ ∃q,W.cells? base ((Addr.mk b off none).add (i*m)) m=some (enc q)∧ ∃d,d∈elems.map (·.1)∧R q d:=by
    intro i hi
    have h2:=hel i hi
    rw[List.getElem?_eq_getElem (by omega)] at h2
    cases hc:W.cells? base ((Addr.mk b off none).add (i*m)) m with
    |none=>rw[hc] at h2;cases h2
    |some cs=>
     rw[hc] at h2
     obtain⟨q,rfl,hR⟩:=hdec _ _ _ h2
     exact⟨q,rfl,_,List.mem_map_of_mem (List.getElem_mem (by omega)),hR⟩
   obtain⟨f,hf⟩: ∃f:Nat→α,∀i,i<len→W.cells? base ((Addr.mk b off none).add (i*m)) m=some (enc (f i))∧ ∃d,d∈elems.map (·.1)∧R (f i) d:=by
    classical
    refine⟨fun i=>if h:i<len then Classical.choose (hex i h) else z,fun i hi=> ?_⟩
    simp only[dif_pos hi]
    exact Classical.choose_spec (hex i hi)
   have hll: ((List.range len).map f).length=len:=by simp
   have hgd: ∀i,i<len→((List.range len).map f).getD i z=f i:=fun i hi=>by
    rw[List.getD_eq_getElem?_getD,List.getElem?_map,List.getElem?_range hi];rfl
   refine⟨(List.range len).map f, ?_, .inr ⟨_,_,by rw[hx],fun i hi=> ?_⟩⟩
   ·have:=anN_ (W:=W) (base:=base) (b:=b) (off:=off) (c:=cap) (l:=(List.range len).map f) (z:=z) hm0 hm (fun i hi=>by
     rw[hll] at hi
     rw[(hf i hi).1,hgd i hi]) hb ho (by rw[hll];exact hl)
    rw[hll] at this
    exact this
   ·rw[hll] at hi
    rw[hgd i hi]
    exact(hf i hi).2
theorem apt_ {H:Type} {tell:TypeId×Value→H} {W:World} {base:Nat} {sp:Nat→Bool} {held:Bool} (n:Nat) (cs:List Value) (y:DataW H×List MemPlace)
  (h:DataW.trod tell Tryz.prog W base sp held n 36 cs=some y): ∃a:FiL,cs=fiC a∧y.1= .agg [.lit (.string a.dir), .lit (.string a.name), .lit (.string a.data)]:=by
 obtain⟨y0,y1,y2,n',hy,hlen,h0,h1,h2⟩:=Deep.trod_struct3 Tryz.underlying36 h
 have hc: (Tryz.prog).cellsOf 36=3:=by kernel_rfl
 have hc0: (Tryz.prog).cellsOf 9=1:=by kernel_rfl
 simp only at h0 h1 h2
 rw[hc0,List.drop_zero] at h0
 rw[hc0] at h1 h2
 rw[hc] at hlen
 obtain⟨s,hs,hys,-⟩:=DataW.trod_string Tryz.underlying9 h0
 obtain⟨u,hu,hyu,-⟩:=DataW.trod_string Tryz.underlying9 h1
 obtain⟨x,hx,hyx,-⟩:=DataW.trod_string Tryz.underlying9 h2
 refine⟨⟨s.data.toList,u.data.toList,x.data.toList⟩, ?_,by rw[hy,hys,hyu,hyx]⟩
 have hd:cs=cs.take 1++ ((cs.drop 1).take 1++ (cs.drop 2).take 1):=by
  rw[show(cs.drop 2).take 1=cs.drop 2 from List.take_of_length_le (by rw[List.length_drop];omega),show cs.drop 2=(cs.drop 1).drop 1 by rw[List.drop_drop],List.take_append_drop,List.take_append_drop]
 rw[hd,hs,hu,hx]
 rfl
theorem ady_ {H:Type} {enc:TypeId×Value→H} {W:World} {r:Reach} {b0 base:Nat} {sp:Nat→Bool} {held:Bool} {v:Value} {d:DataW H} {p:List MemPlace}
  (hval:Value.okWide Tryz.prog W r b0 22 v) (hd:DataW.Trod enc Tryz.prog W base sp held 22 v d p):
  ∃l,FiSl W v l∧(l= []∨ ∃es sp',d= .slice es sp'∧ ∀i,i<l.length→ ∃e,e∈es∧e= .agg [.lit (.string (l.getD i fi0).dir), .lit (.string (l.getD i fi0).name), .lit (.string (l.getD i fi0).data)]):=by
 obtain⟨a0,len,cap,rfl⟩:=WideShapes.okWide_slice Tryz.underlying22 hval
 obtain⟨fu,hf⟩:=hd
 exact afH_ (z:=fi0) (R:=fun a e=>e= .agg [.lit (.string a.dir), .lit (.string a.name), .lit (.string a.data)]) Tryz.underlying22 (by kernel_rfl) (by decide) xh_ hval apt_ hf
theorem api_ {n:Int} (h: (Lit.int .u16 n).wf=true): ∃x:UInt16,Value.int .u16 n=v16 x:=by
 simp only[Lit.wf,Bool.and_eq_true,decide_eq_true_eq] at h
 have h1: (0:Int)≤n:=h.1
 have h2:n≤65535:=h.2
 refine⟨UInt16.ofNat n.toNat, ?_⟩
 unfold v16
 rw[UInt16.toNat_ofNat',Nat.mod_eq_of_lt (by omega),Int.toNat_of_nonneg h1]
theorem ari_ {H:Type} {tell:TypeId×Value→H} {W:World} {base:Nat} {sp:Nat→Bool} {held:Bool} {n:Nat} {cs:List Value} {y:DataW H×List MemPlace}
  (h:DataW.trod tell Tryz.prog W base sp held n 24 cs=some y): ∃p:PkL,cs= [p.v]∧PkS W p.v p.l:=by
 have h1: (Tryz.prog).cellsOf 119=1:=by kernel_rfl
 rcases DataW.trod_slice Tryz.underlying24 h with⟨rfl,-⟩ | ⟨a,len,cap,elems,rest,m,-,rfl,-,-,hl,-,hlen,hel,-,-⟩
 ·exact⟨pk0,rfl, .inl (SlV.nil W)⟩
 ·rw[h1] at hel
  by_cases h0:len=0
  ·subst h0
   exact⟨⟨.slice (some a) 0 cap,[],rfl,rfl⟩,rfl, .inr ⟨rfl,a,cap,rfl⟩⟩
  ·have hex: ∀i,i<len→ ∃q:UInt16,W.cells? base (a.add (i*1)) 1=some (u16C q):=by
    intro i hi
    have h2:=hel i hi
    rw[List.getElem?_eq_getElem (by omega)] at h2
    cases hc:W.cells? base (a.add (i*1)) 1 with
    |none=>rw[hc] at h2;cases h2
    |some cs=>
     rw[hc] at h2
     obtain⟨z,hz,-,hw⟩:=DataW.trod_int Tryz.underlying119 h2
     obtain⟨q,hq⟩:=api_ hw
     exact⟨q,by rw[hz,hq];rfl⟩
   obtain⟨f,hf⟩: ∃f:Nat→UInt16,∀i,i<len→W.cells? base (a.add (i*1)) 1=some (u16C (f i)):=by
    classical
    refine⟨fun i=>if h:i<len then Classical.choose (hex i h) else 0,fun i hi=> ?_⟩
    simp only[dif_pos hi]
    exact Classical.choose_spec (hex i hi)
   obtain⟨-,-,hg⟩:=World.cells?_some (hf 0 (by omega))
   have hg0:=hg 0 (by omega)
   obtain⟨blk,off,spt⟩:=a
   have hcell:W.cell? ((Addr.mk blk off spt).add (0*1) |>.add 0)=some (v16 (f 0)):=hg0
   unfold World.cell? at hcell
   have hb: ((Addr.mk blk off spt).add (0*1) |>.add 0).block=blk:=rfl
   rw[hb] at hcell
   split at hcell
   ·rename_i arr E fz hh
    split at hcell
    ·cases hcell
    ·rename_i hsp
     have hspt:spt=none:=by
      cases spt with
      |none=>rfl
      |some q=>exact absurd rfl hsp
     subst hspt
     have hoff:off<arr.size:=(Array.getElem?_eq_some_iff.1 hcell).1
     have hll: ((List.range len).map f).length=len:=by simp
     have hgd: ∀i,i<len→((List.range len).map f).getD i 0=f i:=fun i hi=>by
      rw[List.getD_eq_getElem?_getD,List.getElem?_map,List.getElem?_range hi];rfl
     have hs:=anN_ (W:=W) (base:=base) (b:=blk) (off:=off) (c:=cap) (l:=(List.range len).map f) (enc:=u16C) (z:=0) (by decide) amj_ (fun i hi=>by
      rw[hll] at hi
      rw[hf i hi,hgd i hi]) hh (by omega) (by rw[hll];exact hl)
     rw[hll] at hs
     exact⟨⟨.slice (some ⟨blk,off,none⟩) len cap,(List.range len).map f,rfl,rfl⟩,rfl, .inl hs⟩
   ·cases hcell
theorem ard_ {H:Type} {tell:TypeId×Value→H} {W:World} {base:Nat} {sp:Nat→Bool} {held:Bool} (n:Nat) (cs:List Value) (y:DataW H×List MemPlace)
  (h:DataW.trod tell Tryz.prog W base sp held n 31 cs=some y): ∃a:ActL,cs=acC a∧ActOk W a:=by
 obtain⟨xs,m,-,-,hlen,hxl,hel⟩:=DataW.trod_struct Tryz.underlying31 h
 have hc: (Tryz.prog).cellsOf 31=6:=by kernel_rfl
 have hci: (Tryz.prog).cellsOf 3=1:=by kernel_rfl
 have hcs: (Tryz.prog).cellsOf 9=1:=by kernel_rfl
 have hcp: (Tryz.prog).cellsOf 24=1:=by kernel_rfl
 rw[hc] at hlen
 have hxl:xs.length=6:=hxl
 have h0:DataW.trod tell Tryz.prog W base sp held m 3 ((cs.drop 0).take ((Tryz.prog).cellsOf 3))=xs[0]? :=hel 0 _ rfl
 rw[hci,List.getElem?_eq_getElem (by omega)] at h0
 have h1:DataW.trod tell Tryz.prog W base sp held m 3 ((cs.drop 1).take ((Tryz.prog).cellsOf 3))=xs[1]? :=hel 1 _ rfl
 rw[hci,List.getElem?_eq_getElem (by omega)] at h1
 have h2:DataW.trod tell Tryz.prog W base sp held m 9 ((cs.drop 2).take ((Tryz.prog).cellsOf 9))=xs[2]? :=hel 2 _ rfl
 rw[hcs,List.getElem?_eq_getElem (by omega)] at h2
 have h3:DataW.trod tell Tryz.prog W base sp held m 9 ((cs.drop 3).take ((Tryz.prog).cellsOf 9))=xs[3]? :=hel 3 _ rfl
 rw[hcs,List.getElem?_eq_getElem (by omega)] at h3
 have h4:DataW.trod tell Tryz.prog W base sp held m 9 ((cs.drop 4).take ((Tryz.prog).cellsOf 9))=xs[4]? :=hel 4 _ rfl
 rw[hcs,List.getElem?_eq_getElem (by omega)] at h4
 have h5:DataW.trod tell Tryz.prog W base sp held m 24 ((cs.drop 5).take ((Tryz.prog).cellsOf 24))=xs[5]? :=hel 5 _ rfl
 rw[hcp,List.getElem?_eq_getElem (by omega)] at h5
 obtain⟨k,hk,-,-⟩:=DataW.trod_int Tryz.underlying3 h0
 obtain⟨i,hi,-,hiw⟩:=DataW.trod_int Tryz.underlying3 h1
 obtain⟨d,hd,-,-⟩:=DataW.trod_string Tryz.underlying9 h2
 obtain⟨u,hu,-,-⟩:=DataW.trod_string Tryz.underlying9 h3
 obtain⟨s,hs,-,-⟩:=DataW.trod_string Tryz.underlying9 h4
 obtain⟨p,hp,hpk⟩:=ari_ h5
 refine⟨⟨k,i,d.data.toList,u.data.toList,s.data.toList,p⟩, ?_,hpk, ?_⟩
 ·have hd6:cs=(cs.drop 0).take 1++ ((cs.drop 1).take 1++ ((cs.drop 2).take 1++ ((cs.drop 3).take 1++ ((cs.drop 4).take 1++ (cs.drop 5).take 1)))):=by
   match cs,hlen with
   | [c0,c1,c2,c3,c4,c5],_=>rfl
  rw[hd6,hk,hi,hd,hu,hs,hp]
  rfl
 ·simp only[Lit.wf,Bool.and_eq_true,decide_eq_true_eq] at hiw
  have g1: (-9223372036854775808:Int)≤i:=by simpa [IntKind.min,IntKind.bits,IntKind.signed] using hiw.1
  have g2:i≤9223372036854775807:=by simpa [IntKind.max,IntKind.bits,IntKind.signed] using hiw.2
  exact⟨g1,by show i<9223372036854775808;omega⟩
theorem ajg_ {H:Type} {enc:TypeId×Value→H} {W:World} {r:Reach} {b0 base:Nat} {sp:Nat→Bool} {held:Bool} {v:Value} {d:DataW H} {p:List MemPlace}
  (hval:Value.okWide Tryz.prog W r b0 23 v) (hd:DataW.Trod enc Tryz.prog W base sp held 23 v d p):
  ∃l,AcSl W v l∧ ∀a,a∈l→ActOk W a:=by
 obtain⟨a0,len,cap,rfl⟩:=WideShapes.okWide_slice Tryz.underlying23 hval
 obtain⟨fu,hf⟩:=hd
 obtain⟨l,h1,h2⟩:=afH_ (z:=ac0) (R:=fun a _=>ActOk W a) Tryz.underlying23 (by kernel_rfl) (by decide) J8_ hval (fun n cs y h=>ard_ n cs y h) hf
 refine⟨l,h1,fun a ha=> ?_⟩
 rcases h2 with rfl| ⟨es,sp',-,h3⟩
 ·cases ha
 ·obtain⟨i,hi,rfl⟩:=List.getElem_of_mem ha
  obtain⟨-,-,h4⟩:=h3 i hi
  rw[List.getD_eq_getElem?_getD,List.getElem?_eq_getElem hi] at h4
  exact h4
end Go.Proofs
end
section
open Go Go.Proofs Go.Sx Go.StP Go.Flo
namespace Go.Proofs
set_option maxRecDepth 10000
set_option maxHeartbeats 1000000
set_option linter.unusedSimpArgs false
def Wv_:DataW Unit:= .agg [.lit (.string z9_), .lit (.string vT_), .lit (.string refD)]
theorem Ve_ {W:World} {base:Nat} {sp:Nat→Bool} {held:Bool} {fuel:Nat} {cs:List Value} {p:List MemPlace}
  (hd:DataW.trod (fun _=>()) Tryz.prog W base sp held fuel 131 cs=some (Wv_,p)):cs= [vs z9_,vs vT_,vs refD]:=by
 obtain⟨xs,m,-,hx,hlen,hxl,hel⟩:=DataW.trod_array Tryz.underlying131 hd
 have hc: (Tryz.prog).cellsOf 131=3:=by kernel_rfl
 have h1: (Tryz.prog).cellsOf 9=1:=by kernel_rfl
 rw[hc] at hlen
 rw[h1] at hel
 have hm:xs.map (·.1)= [.lit (.string z9_), .lit (.string vT_), .lit (.string refD)]:=by
  have:=congrArg Prod.fst hx
  unfold Wv_ at this
  simp only[DataW.agg.injEq] at this
  exact this.symm
 have h0:=hel 0 (by omega)
 have h2:=hel 1 (by omega)
 have h3:=hel 2 (by omega)
 rw[List.getElem?_eq_getElem (by omega)] at h0 h2 h3
 obtain⟨s0,hs0,hy0,-⟩:=DataW.trod_string Tryz.underlying9 h0
 obtain⟨s1,hs1,hy1,-⟩:=DataW.trod_string Tryz.underlying9 h2
 obtain⟨s2,hs2,hy2,-⟩:=DataW.trod_string Tryz.underlying9 h3
 match xs,hxl,hm,hy0,hy1,hy2 with
 | [x0,x1,x2],_,hm,hy0,hy1,hy2=>
  simp only[List.map_cons,List.map_nil,List.cons.injEq,and_true] at hm
  simp only[List.getElem_cons_zero,List.getElem_cons_succ] at hy0 hy1 hy2
  obtain⟨m0,m1,m2⟩:=hm
  rw[hy0] at m0
  rw[hy1] at m1
  rw[hy2] at m2
  simp only[DataW.lit.injEq,Lit.string.injEq] at m0 m1 m2
  match cs,hlen with
  | [c0,c1,c2],_=>
   simp only[Nat.zero_mul,List.drop_zero,List.take_succ_cons,List.take_zero,List.cons.injEq,and_true,Nat.one_mul,List.drop_succ_cons,Nat.reduceMul] at hs0 hs1 hs2
   rw[hs0,hs1,hs2,←m0,←m1,←m2]
   rfl
theorem ZZ_ {W:World}: ∀ {laid:List (String×DataW Unit)} {ps:List MemPlace},DataW.LaidVars Tryz.prog W laid ps→("sediment/disk.order",Wv_)∈laid→Qg_ W
 | [],_,_,hm=>by cases hm
 | (n',d')::rest,ps,h,hm=>by
  obtain⟨g',t',cs,fuel,p,q,hg',ht',hvar,hd,hr,-⟩:=h
  rcases List.mem_cons.1 hm with hm|hm
  ·cases hm
   have hg: (Tryz.prog).globalNamed "sediment/disk.order" =some 0:=by kernel_rfl
   have hty: ((Tryz.prog).globals[(0:Nat)]?).map (·.type)=some 131:=by kernel_rfl
   obtain rfl:=Option.some.inj (hg.symm.trans hg')
   obtain rfl:=Option.some.inj (hty.symm.trans ht')
   have hcs:=Ve_ hd
   simp only[World.var?,hg,Option.bind_some] at hvar
   split at hvar
   ·rename_i cs' e f hb
    cases hvar
    refine⟨e,f, ?_⟩
    rw[hb]
    congr 2
    apply Array.ext'
    rw[hcs]
   ·cases hvar
  ·exact ZZ_ hr hm
end Go.Proofs
end
section
open Go Go.Proofs Go.Sx Go.StP Go.Flo
open Go.ChangeShapes Go.WideShapes Go.ChangeAt Go.RowKit Go.ChangeMaps
namespace Go.Proofs
set_option maxRecDepth 10000
set_option maxHeartbeats 1000000
set_option linter.unusedSimpArgs false
end Go.Proofs
end
namespace Go.Proofs
end Go.Proofs
namespace Go.Sx
open Go
theorem akV_ {P:Program} {f:FuncId} {fn:Func} {s:ChangeSpec} {c:OpenClaim}
  (h1: (c.wf (OpenSpec.ofChange s))=true)
  (h2: (laidOutB P)=true)
  (h3: (mapsRowed P)=true)
  (h4: (fn.params.all (P.readableRec ·))=true)
  (h5: (namedTie P c.named s.vars)=true)
  (h6: ((c.stops== []))=true)
  (h7: ((P.stops== []))=true)
  (h8: ((c.knobs== []))=true)
  (h9: ((P.stopKnobs== []))=true)
  (h10: ((c.inPlace==P.inPlace f))=true)
  (h11: ((c.unfollowed==P.unfollowed f))=true)
  (h12: ((c.recurses==P.recurses f))=true)
  (h13: ((c.named==P.varsNamed f))=true)
  (h14: ((c.maps==(fn.params.toList++s.plain.varTypes P).any (P.mapsRec ·)))=true)
  (h15: ((c.ifaces==(fn.params.toList++s.plain.varTypes P).any (P.ifacesRec ·)))=true)
  (h16: ((c.mapsOut==P.mapsAmong fn.resultTypes.toList))=true)
  (h17: ((c.loops==(fn.params.toList++s.plain.varTypes P).any (P.loopsFrom ·)))=true)
  (h18: ((c.wideKeys==(fn.params.toList++s.plain.varTypes P++fn.resultTypes.toList).any (P.wideKeysFrom ·)))=true)
  (h19: (s.vars.all (P.varReadable ·))=true)
  (h20: (fn.resultTypes.all (fun t=>P.readableRec t&&decide (t<P.types.size)))=true)
  (h21: ((c.ifacesOut==fn.resultTypes.toList.any (P.ifacesRec ·)))=true)
  (h22: ((c.loopsOut==fn.resultTypes.toList.any (P.loopsFrom ·)))=true)
  (h23: ((c.plainKeys==P.plainKeys))=true)
  (h24: (c.shortTexts.isNone)=true)
  (h25: (P.stopsHeard)=true)
  (h26: (P.mayEnter)=true)
  (h27: ((c.lifted==P.liftsFinal))=true)
  (h28: ((P.make==some c.make))=true)
  (h29: ((c.kinds==(if c.domain.isEmpty then [] else fn.params.toList.map fun t=>match P.underlying t with|some (.int k)=>some k|_=>none)))=true)
  (h30: ((c.pinned==c.pinnedBy))=true)
  (h31: ((c.veiled==(fn.params.toList++s.plain.varTypes P++fn.resultTypes.toList).any (P.veiledRec ·)))=true)
  (h32: (c.veiledFits P fn.params.toList (fn.params.toList++s.plain.varTypes P++fn.resultTypes.toList))=true):
  joinedFacts P f fn s c=true:=by
 unfold joinedFacts
 exact(Bool.and_eq_true_iff.2 ⟨(Bool.and_eq_true_iff.2 ⟨(Bool.and_eq_true_iff.2 ⟨(Bool.and_eq_true_iff.2 ⟨(Bool.and_eq_true_iff.2 ⟨(Bool.and_eq_true_iff.2 ⟨(Bool.and_eq_true_iff.2 ⟨(Bool.and_eq_true_iff.2 ⟨(Bool.and_eq_true_iff.2 ⟨(Bool.and_eq_true_iff.2 ⟨(Bool.and_eq_true_iff.2 ⟨(Bool.and_eq_true_iff.2 ⟨(Bool.and_eq_true_iff.2 ⟨(Bool.and_eq_true_iff.2 ⟨(Bool.and_eq_true_iff.2 ⟨(Bool.and_eq_true_iff.2 ⟨(Bool.and_eq_true_iff.2 ⟨(Bool.and_eq_true_iff.2 ⟨(Bool.and_eq_true_iff.2 ⟨(Bool.and_eq_true_iff.2 ⟨(Bool.and_eq_true_iff.2 ⟨(Bool.and_eq_true_iff.2 ⟨(Bool.and_eq_true_iff.2 ⟨(Bool.and_eq_true_iff.2 ⟨(Bool.and_eq_true_iff.2 ⟨(Bool.and_eq_true_iff.2 ⟨(Bool.and_eq_true_iff.2 ⟨(Bool.and_eq_true_iff.2 ⟨(Bool.and_eq_true_iff.2 ⟨(Bool.and_eq_true_iff.2 ⟨(Bool.and_eq_true_iff.2 ⟨h1,h2⟩),h3⟩),h4⟩),h5⟩),h6⟩),h7⟩),h8⟩),h9⟩),h10⟩),h11⟩),h12⟩),h13⟩),h14⟩),h15⟩),h16⟩),h17⟩),h18⟩),h19⟩),h20⟩),h21⟩),h22⟩),h23⟩),h24⟩),h25⟩),h26⟩),h27⟩),h28⟩),h29⟩),h30⟩),h31⟩),h32⟩)
end Go.Sx
