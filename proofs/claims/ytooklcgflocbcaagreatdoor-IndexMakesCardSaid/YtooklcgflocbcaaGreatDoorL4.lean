/-
  Part 4 of the walk: contracts of the functions that the law reaches, and the calculus they stand on.
  No conditions.
-/
import Derived.Test.YtooklcgflocbcaaGreatDoorL3
import Derived.ProofKit
import Derived.OpenShut
import Derived.WideKeyArgs
import Derived.ChangeSame
import Derived.ChangeMaps5
import Derived.Lib.LaidTab
import Derived.SliceStrings
import Derived.DataReads
import Derived.Deep.Strs
section
open Go Go.Proofs Go.Sx Go.StP Go.Flo
namespace Go.Proofs
set_option maxRecDepth 10000
set_option maxHeartbeats 400000
set_option linter.unusedSimpArgs false
theorem qh_ {w0:World} {L X D:ze_} (hC:Came w0 L X D) (hX:New w0.heap.size X):New w0.heap.size D:=New.of_le fun c hc=>by
 rcases hC.new c hc with h| ⟨-,h⟩
 ·exact hX.le c h
 ·exact h
theorem GlobC.newP {w0 w:World} {L:ze_} (hg:GlobC w0) (h:Hp w0 L w) (hn:New w0.heap.size L):GlobC w:=
 hg.of h (hn.not (by obtain⟨e,f,h⟩:=hg;exact(Array.getElem?_eq_some_iff.1 h).1))
theorem zrPk:zE_ Tryz.prog 117=some (.agg #[.slice none 0 0, .slice none 0 0, .slice none 0 0, .slice none 0 0]):=id (by kernel_rfl)
theorem aid_ {w:World} {v0:Value} {l:List PartL} (hv:k3_ w v0 l):qp_ (x3_ Tryz.prog 117) (zE_ Tryz.prog 117) [(0,v0)]=some (.agg #[v0, .slice none 0 0, .slice none 0 0, .slice none 0 0]):=by
 rw[show x3_ Tryz.prog 117=some [(0,1),(1,1),(2,1),(3,1)] from id (by kernel_rfl),zrPk]
 obtain⟨b,off,c,arr,E,fz,hr,hc,⟨rfl,rfl,rfl⟩ | ⟨rfl,hb,hsz⟩⟩:=hv<;>rfl
theorem ap1_ {α:Type} {m:Nat} {enc:α→List Value} {z:α} {w:World} {v:Value} {l:List α} (hv:SlV m enc z w v l) {b:Nat} (hb:slB v=some b):b<w.heap.size:=by
 obtain⟨bb,off,c,arr,E,fz,hr,hc,⟨rfl,-,-⟩ | ⟨rfl,h,-⟩⟩:=hv
 ·cases hb
 ·cases hb;exact(Array.getElem?_eq_some_iff.1 h).1
theorem Z3_: ∀ (l:List PartL) (i g:Nat),g<l.length→ji_ i (l.take (g+1))=ji_ i (l.take g)++vx_ (i+g) (l.getD g z5_)
 | [],_,_,h=>absurd h (Nat.not_lt_zero _)
 |p::r,i,0,_=>by simp[ji_]
 |p::r,i,g+1,h=>by
  have:=Z3_ r (i+1) g (by simpa using h)
  rw[List.take_succ_cons,ji_,this,List.take_succ_cons,ji_,List.getD_cons_succ,List.append_assoc,show i+1+g=i+ (g+1) by omega]
def SmallP (l:List PartL):Prop:= ∀g,g<l.length→(l.getD g z5_).x.length≤17000000
theorem agp_ {l:List PartL} {q:List IdL×List ObL} (h:fillV l=some q):SmallP l:=by
 unfold fillV at h
 cases ha:ZC_ l with
 |error e=>rw[ha] at h;cases h
 |ok ts=>
  unfold ZC_ at ha
  split at ha
  ·cases ha
  ·intro k hk
   have hp:=vQ_ _ _ ha k hk
   unfold partV at hp
   cases hq:q0_ l (k:Nat) with
   |error e=>rw[hq] at hp;cases hp
   |ok p=>
    rw[hq] at hp
    change xZ_ l p= .ok _ at hp
    have hpk: ∃r,p=k::r:=by
     rcases xx_ hk hq with⟨rfl,-⟩ | ⟨b,q,rfl,-⟩
     ·exact⟨[],rfl⟩
     ·exact⟨q,rfl⟩
    obtain⟨r,rfl⟩:=hpk
    unfold xZ_ at hp
    cases hf:xZ_ l r with
    |error e=>rw[hf] at hp;cases hp
    |ok t=>
     rw[hf] at hp
     change(if(q2_ (l.getD k z5_) t).2=0 then _ else _)=_ at hp
     split at hp
     ·rename_i h0
      unfold q2_ at h0
      split at h0
      ·unfold qN_ at h0
       split at h0
       ·exact absurd (show(2:Int)=0 from h0) (by decide)
       ·rename_i p' hd;exact af4_ hd
      ·split at h0
       ·exact absurd (show(19:Int)=0 from h0) (by decide)
       ·omega
     ·cases hp
theorem SmallP.bnd {l:List PartL} (h:SmallP l):BndL l:=fun g hg=>Nat.lt_of_le_of_lt (h g hg) (by omega)
theorem ahn_ {i:Nat} {p:PartL} (h:p.x.length≤17000000): (vx_ i p).length≤17000012:=by
 have h1:=zm_ (JK_ i p)
 have h2:=zm_ (p.x.length:Int)
 unfold vx_ xi_
 rw[List.length_append,List.length_append]
 omega
theorem QT_ {l:List PartL} (h:SmallP l): ∀g,g≤l.length→(ji_ 0 (l.take g)).length≤g*17000012
 |0,_=>by simp[ji_]
 |g+1,hg=>by
  rw[Z3_ l 0 g hg,List.length_append]
  have:=QT_ h g (by omega)
  have:=ahn_ (i:=0+g) (h g hg)
  omega
theorem akR_ {l:List PartL} {q:List IdL×List ObL} (h:fillV l=some q) {k:Nat} (hk:k<l.length) (hd: (l.getD k z5_).d=true):0≤ (l.getD k z5_).b∧(l.getD k z5_).b<k:=by
 unfold fillV at h
 cases ha:ZC_ l with
 |error e=>rw[ha] at h;cases h
 |ok ts=>
  unfold ZC_ at ha
  split at ha
  ·cases ha
  ·have hp:=vQ_ _ _ ha k hk
   unfold partV at hp
   cases hq:q0_ l (k:Nat) with
   |error e=>rw[hq] at hp;cases hp
   |ok p=>
    rcases xx_ hk hq with⟨-,hd',-⟩ | ⟨b,q,-,-,hb,hlt,-⟩
    ·rw[hd] at hd';cases hd'
    ·rw[hb];omega
structure PwG where
 k:Nat
 D:ze_
set_option linter.defProp false
def qF_:=And.intro (And.intro (And.intro (@zi_) (@zh_)) (And.intro (@Wh_) (And.intro (@jJ_) (@jF_)))) (And.intro (And.intro (@jB_) (And.intro (@Ze_) (@qf_))) (And.intro (@xz_) (And.intro (@Sx.tup2_0) (@Sx.tup2_1))))
theorem aes_ (v0:Value) (l:List PartL) (w:World) (hv:k3_ w v0 l) (hG:GlobE w) (hC:GlobC w) (hb:BndL l) (hl:l.length<1000000):
  Rets Tryz.prog 14 #[v0] w (fun v D=>v= .tuple #[vs (aa4_ l).1,vi (aa4_ l).2]∧D= []):=by
 have hgr:3<w.heap.size:=by obtain⟨e0,e1,f0,f1,h0,h1⟩:=hG;exact(Array.getElem?_eq_some_iff.1 h1).1
 obtain⟨b1,off,arr,E,fz,hr⟩:=hv.row
 have ln:=hv.len
 refine Rets.enterV Tryz.func14 rfl (rs:= [.tmp 2, .tmp 3]) Tryz.results14 Tryz.ntmps14 ?_
 refine kf ?_
 first|with_reducible refine ks [4,1000011] @qF_ ?_|refine kp @qF_ ?_
 refine Ow.build (.agg #[v0, .slice none 0 0, .slice none 0 0, .slice none 0 0]) rfl (aid_ hv) ?_
 refine ko @qF_ ?_
 refine Ow.box rfl rfl fun b4 hb4 hw4=> ?_
 simp only[z8_,z3_,z4_,zc_,List.nil_append]
 refine Ow.permL (M:= [(b4,pkO v0 (.slice none 0 0) (.slice none 0 0) (.slice none 0 0))]) (List.Perm.refl _) ?_
 refine ko @qF_ ?_
 first|with_reducible refine ks [] @qF_ ?_|refine kp @qF_ ?_
 refine Ow.callX (Y:= []) (by simp) rfl rfl Tryz.call59 (fun w' hw' hX hn=>acb_ b4 v0 (.slice none 0 0) l w' (hv.oldN hw' ⟨hw4,trivial⟩) (hG.new hw' ⟨hw4,trivial⟩) hb hl (hX _ List.mem_cons_self) (fun h=>by have:=ap1_ hv h;omega) (by omega)) (fun v13 D13 hC13 hS13=> ?_)
 have hN13:New w.heap.size D13:=qh_ hC13 ⟨hw4,trivial⟩
 rw[List.append_nil]
 unfold acG_ at hS13
 unfold aa4_
 cases hf:fillV l with
 |none=>
  rw[hf] at hS13
  have hS13':v13= .bool false:=hS13
  subst hS13'
  refine ko @qF_ ?_
  first|with_reducible refine ks [] @qF_ ?_|refine kp @qF_ ?_
  refine⟨_,(ke @qF_),hN13, ?_⟩
  rfl
 |some q=>
  rw[hf] at hS13
  obtain⟨rfl,-⟩:=hS13
  have hx:=agp_ hf
  have hll:l.length≤200:=by
   unfold fillV at hf
   cases ha:ZC_ l with
   |error e=>rw[ha] at hf;cases hf
   |ok ts=>exact(Wn_ ha).2.1
  refine ko @qF_ ?_
  refine Cw.forgetN [] (by exact hN13) (by intro p hp;simp only[List.mem_cons,List.not_mem_nil,or_false] at hp ⊢;all_goals (first| (rcases hp with rfl|hp<;>simp_all) | (subst hp;simp) |simp_all)) (by simp[keys]<;>omega) ?_
  first|with_reducible refine ks [] @qF_ ?_|refine kp @qF_ ?_
  refine Ow.alloc rfl rfl Tryz.zr123 fun b5 hb5 hw5=> ?_
  refine ko @qF_ ?_
  have hZ:BldAt b5 [] [(b5, .cells #[.pointer none, .slice none 0 0] 123 (0,0))]:=BldAt.zeroK b5 (zT_ _ _ _)
  refine Ow.buildSlice (e:=9) #[vs [83,80,75,49]] rfl rfl (by kernel_rfl) fun b15 hb15 hw15=> ?_
  have h515:b5<b15:=zf_ hb15 (by simp[keys])
  refine ko @qF_ ?_
  refine Ow.callX (Y:= [(b15, .cells #[vs [83,80,75,49]] 9 (0,0))]) (by simp) rfl rfl Tryz.call60 (fun w' hw' hX hn=>vk_ b5 [(b5, .cells #[.pointer none, .slice none 0 0] 123 (0,0))] [] _ b15 0 [[83,80,75,49]] _ _ _ w' hZ hX hn (StrS.lit [[83,80,75,49]] rfl rfl (hw'.has _ _ (List.mem_cons_of_mem _ List.mem_cons_self))) (fun _ hm=>by simp[keys] at hm;omega) (by simp) (by simp)) (fun v16 D16 hC16 hS16=> ?_)
  obtain⟨rfl,hB16⟩:=hS16
  have hN16:New w.heap.size D16:=qh_ hC16 ⟨hw5,trivial⟩
  refine ko @qF_ ?_
  first|with_reducible refine ks [] (And.intro @qF_ @ln) ?_|refine kp (And.intro @qF_ @ln) ?_
  refine Ow.buildSlice (e:=3) #[vi l.length] rfl rfl (by kernel_rfl) fun b19 hb19 hw19=> ?_
  refine ko @qF_ ?_
  rw[List.append_assoc]
  refine Ow.callX (Y:= [(b15, .cells #[vs [83,80,75,49]] 9 (0,0)),(b19, .cells #[vi l.length] 3 (0,0))]) (by simp) rfl rfl Tryz.call61 (fun w' hw' hX hn=>xf_ b5 D16 _ _ b19 0 [(l.length:Int)] _ _ _ w' hB16 hX hn (OneS.lit [(l.length:Int)] rfl rfl (hw'.has b19 (.cells #[vi l.length] 3 (0,0)) (by simp))) (fun _ hm=>Nat.lt_irrefl _ (zf_ hb19 (by rw[zk_];exact List.mem_append_left _ hm))) (by simp)) (fun v20 D20 hC20 hS20=> ?_)
  obtain⟨rfl,hB20⟩:=hS20
  rw[Qc_] at hB20
  have hN20:New w.heap.size D20:=qh_ hC20 hN16
  have hB0:BldAt b5 (magB++ (qP_ (zz_ (l.length:Int))++ji_ 0 (l.take 0))) (D20++ [(b15, .cells #[vs [83,80,75,49]] 9 (0,0)),(b19, .cells #[vi l.length] 3 (0,0))]):=by
   have:=hB20.app (Y:= [(b15,Obj.cells #[vs [83,80,75,49]] 9 (0,0)),(b19, .cells #[vi l.length] 3 (0,0))])
   simpa [magB,ji_] using this
  refine ko @qF_ ?_
  first|with_reducible refine ks [] (And.intro @qF_ @ln) ?_|refine kp (And.intro @qF_ @ln) ?_
  have hnl:=zm_ (l.length:Int)
  refine Cw.loopG (G:=PwG) [24,25,26,27,7,6,8,28,29,30,31,32,33,34,35,36,37,38,39,40,41,23] (fun g=> [(23,vi g.k)]) (fun g=>g.D) (fun g=>g.k≤l.length∧New w.heap.size g.D∧BldAt b5 (magB++ (qP_ (zz_ (l.length:Int))++ji_ 0 (l.take g.k))) g.D) (fun g=>l.length - g.k) ⟨0,D20++ [(b15, .cells #[vs [83,80,75,49]] 9 (0,0)),(b19, .cells #[vi l.length] 3 (0,0))]⟩ rfl rfl ?_ ?_
  ·exact⟨Nat.zero_le _,hN20.app ⟨hw15,hw19,trivial⟩,hB0⟩
  intro g j hg
  refine kv ?_
  obtain⟨k,D⟩:=g
  simp only at hg ⊢
  obtain⟨hk,hN,hB⟩:=hg
  by_cases hlt:k<l.length
  ·have d1:decide ((k:Int)< (l.length:Int))=true:=decide_eq_true (by omega)
   have hb1:=hr.has (by omega)
   have hb1l:=hr.lt (by omega)
   have ix:=hr.idx true k hlt
   have ld:=hr.load jv_ (by omega) hlt
   have rd:zA_ w D b1=some (.cells arr E fz):=by rw[jh_ (hN.not hb1l)];exact hb1
   have hpl:=hx k hlt
   have hpt:=QT_ hx k hk
   have hsn:=Z3_ l 0 k hlt
   have hpb:=akR_ hf hlt
   generalize hp:l.getD k z5_=p at*
   have hst:=xz_ p z5_ 114
   first|with_reducible refine ks [1000011] (And.intro @qF_ (And.intro @d1 (And.intro @ix (And.intro @rd (@ld))))) ?_|refine kp (And.intro @qF_ (And.intro @d1 (And.intro @ix (And.intro @rd (@ld))))) ?_
   refine Ow.alloc rfl rfl vq_ fun b7 hb7 hw7=> ?_
   simp only[zc_,List.nil_append,List.cons_append]
   refine Ow.permL (M:=(b7, .cells (zv_ z5_).toArray 114 (0,0))::D) (by classical exact List.perm_iff_count.2 fun a=>by simp only[List.count_append,List.count_cons,List.count_nil]<;>omega) ?_
   refine ko (And.intro @qF_ @hst) ?_
   have hN7:New w.heap.size ((b7,Obj.cells (zv_ p).toArray 114 (0,0))::D):=⟨hw7,hN⟩
   refine Cw.cutO (G:=Unit) [8,28,29,30,31,32,33] (fun g=> [(8,vi (JK_ k p))]) (fun g=>(b7, .cells (zv_ p).toArray 114 (0,0))::D) (fun g=>True) ?_ ?_
   ·cases hd:p.d with
    |true=>
     have hf:JK_ k p=(k:Int) - p.b:=by unfold JK_;rw[if_pos hd]
     have hb2:=hpb hd
     first|with_reducible refine ks [] (And.intro @qF_ @hd) ?_|refine kp (And.intro @qF_ @hd) ?_
     refine CutO.mk () trivial rfl ?_
     rw[hf];rfl
    |false=>
     have hf:JK_ k p=0:=by unfold JK_;rw[if_neg (by rw[hd];decide)]
     first|with_reducible refine ks [] (And.intro @qF_ @hd) ?_|refine kp (And.intro @qF_ @hd) ?_
     refine CutO.mk () trivial rfl ?_
     rw[hf];rfl
   ·intro u ju hu
    refine kv ?_
    first|with_reducible refine ks [] @qF_ ?_|refine kp @qF_ ?_
    have hfl:=zm_ (JK_ k p)
    have hxl:=zm_ (p.x.length:Int)
    have htx:ko_ [p.x]=xi_ p.x:=by simp[ko_]
    have htl: (xi_ p.x).length=(qP_ (zz_ p.x.length)).length+p.x.length:=by unfold xi_;rw[List.length_append]
    have hml: (magB++ (qP_ (zz_ (l.length:Int))++ji_ 0 (l.take k))).length=4+ ((qP_ (zz_ (l.length:Int))).length+ (ji_ 0 (l.take k)).length):=by rw[List.length_append,List.length_append];rfl
    refine Ow.buildSlice (e:=3) #[vi (JK_ k p)] rfl rfl (by kernel_rfl) fun b35 hb35 hw35=> ?_
    refine ko @qF_ ?_
    refine Ow.permL (M:=D++ [(b7,Obj.cells (zv_ p).toArray 114 (0,0)),(b35, .cells #[vi (JK_ k p)] 3 (0,0))]) (by classical exact List.perm_iff_count.2 fun a=>by simp only[List.count_append,List.count_cons,List.count_nil]<;>omega) ?_
    refine Ow.callX (Y:= [(b7,Obj.cells (zv_ p).toArray 114 (0,0)),(b35, .cells #[vi (JK_ k p)] 3 (0,0))]) (by simp) rfl rfl Tryz.call61 (fun w' hw' hX hn=>xf_ b5 D _ _ b35 0 [JK_ k p] _ _ _ w' hB hX hn (OneS.lit [JK_ k p] rfl rfl (hw'.has b35 (.cells #[vi (JK_ k p)] 3 (0,0)) (by simp))) (fun _ hm=>Nat.lt_irrefl _ (zf_ hb35 (by simp[keys] at hm ⊢;exact .inr hm))) (by rw[hml];simp;omega)) (fun v36 D36 hC36 hS36=> ?_)
    obtain⟨rfl,hB36⟩:=hS36
    rw[Qc_] at hB36
    have hN36:New w.heap.size D36:=qh_ hC36 hN
    refine Ow.permL (M:=(b7,Obj.cells (zv_ p).toArray 114 (0,0)):: (D36++ [(b35, .cells #[vi (JK_ k p)] 3 (0,0))])) (by classical exact List.perm_iff_count.2 fun a=>by simp only[List.count_append,List.count_cons,List.count_nil]<;>omega) ?_
    refine ko @qF_ ?_
    first|with_reducible refine ks [] @qF_ ?_|refine kp @qF_ ?_
    refine Ow.buildSlice (e:=9) #[vs p.x] rfl rfl (by kernel_rfl) fun b39 hb39 hw39=> ?_
    refine ko @qF_ ?_
    refine Ow.permL (M:=D36++ [(b7,Obj.cells (zv_ p).toArray 114 (0,0)),(b35, .cells #[vi (JK_ k p)] 3 (0,0)),(b39, .cells #[vs p.x] 9 (0,0))]) (by classical exact List.perm_iff_count.2 fun a=>by simp only[List.count_append,List.count_cons,List.count_nil]<;>omega) ?_
    refine Ow.callX (Y:= [(b7,Obj.cells (zv_ p).toArray 114 (0,0)),(b35, .cells #[vi (JK_ k p)] 3 (0,0)),(b39, .cells #[vs p.x] 9 (0,0))]) (by simp) rfl rfl Tryz.call62 (fun w' hw' hX hn=>VZ_ b5 D36 _ _ b39 0 [p.x] _ _ _ w' hB36 hX hn (StrS.lit [p.x] rfl rfl (hw'.has b39 (.cells #[vs p.x] 9 (0,0)) (by simp))) (fun _ hm=>Nat.lt_irrefl _ (zf_ hb39 (by simp[keys] at hm ⊢;exact .inr (.inl hm)))) (by rw[htx,List.length_append,hml,htl];omega) (by simp)) (fun v40 D40 hC40 hS40=> ?_)
    obtain⟨rfl,hB40⟩:=hS40
    rw[htx] at hB40
    have hN40:New w.heap.size D40:=qh_ hC40 hN36
    refine ko @qF_ ?_
    first|with_reducible refine ks [] @qF_ ?_|refine kp @qF_ ?_
    refine Again.mk ⟨k+1,D40++ [(b7,Obj.cells (zv_ p).toArray 114 (0,0)),(b35, .cells #[vi (JK_ k p)] 3 (0,0)),(b39, .cells #[vs p.x] 9 (0,0))]⟩ (by show l.length - (k+1)<l.length - k;omega) ⟨hlt,hN40.app ⟨hw7,hw35,hw39,trivial⟩, ?_⟩ rfl rfl
    show BldAt b5 (magB++ (qP_ (zz_ (l.length:Int))++ji_ 0 (l.take (k+1)))) _
    rw[hsn]
    have:=hB40.app (Y:= [(b7,Obj.cells (zv_ p).toArray 114 (0,0)),(b35, .cells #[vi (JK_ k p)] 3 (0,0)),(b39, .cells #[vs p.x] 9 (0,0))])
    rw[Nat.zero_add]
    simpa [vx_] using this
  ·obtain rfl:k=l.length:=by omega
   have d1:decide ((l.length:Int)< (l.length:Int))=false:=decide_eq_false (by omega)
   have hpt:=QT_ hx l.length (Nat.le_refl _)
   rw[List.take_length] at hpt hB
   have hpl: (w0_ l).length<34359738368:=by
    unfold w0_
    rw[List.length_append,List.length_append,show magB.length=4 from rfl]
    omega
   first|with_reducible refine ks [] (And.intro @qF_ @d1) ?_|refine kp (And.intro @qF_ @d1) ?_
   refine Ow.callX (Y:= []) (by simp) rfl rfl Tryz.call64 (fun w' hw' hX hn=>kZ_ b5 D (w0_ l) w' hB hX hn hpl) (fun v42 D42 hC42 hS42=> ?_)
   subst hS42
   have hN42:New w.heap.size D42:=qh_ hC42 hN
   rw[List.append_nil]
   refine ko @qF_ ?_
   refine Ow.callFV rfl Tryz.call63 (fun w' hw'=>Jc_ (w0_ l) w' (hC.newP hw' hN42) (by omega)) ?_
   refine ko @qF_ ?_
   first|with_reducible refine ks [] @qF_ ?_|refine kp @qF_ ?_
   refine⟨_,(ke @qF_),hN42, ?_⟩
   rfl
end Go.Proofs
end
namespace Go.Sx
open Go
def tmpR:ResultVar→Bool
 | .tmp _=>true
 | .cell _ _=>false
theorem Xq_ {P:Program} {w0 w1:World} {L M:ze_} {f:Fr}: ∀ {rs:List ResultVar},rs.all tmpR=true→vz_ P w0 L f rs=vz_ P w1 M f rs
 | [],_=>rfl
 | .tmp t::r,h=>by
  simp only[List.all_cons,Bool.and_eq_true] at h
  rw[Zl_,Zl_,Xq_ (w1:=w1) (M:=M) h.2];rfl
 | .cell a t::r,h=>by simp[tmpR] at h
theorem Hp.later {w0 w1 w2:World} {L D:ze_} (h:Hp w0 L w1) (k:Hp w1 D w2) (hD:New w1.heap.size D):Hp w0 (L++D) w2:=
 Mrg.fresh hD.le w1 w2 rfl h k
theorem Cw.rebase {P:Program} {w0:World} {c:Code} {f:Fr} {L:ze_} {K:x2_} {K1:World→x2_} (h: ∀w1,Hp w0 L w1→Cw P w1 c f [] (K1 w1)) (hK: ∀w1 e f D,Hp w0 L w1→K1 w1 e f D→New w1.heap.size D∧K e f (L++D)):Cw P w0 c f L K:=by
 intro w hw
 refine wp_mono (h w hw w (Hp.refl w)) ?_
 rintro e a w' ⟨hd,D,hp,hk⟩
 obtain⟨h1,h2⟩:=hK w e _ D hw hk
 exact⟨hd,L++D,hw.later hp h1,h2⟩
theorem Cw.rebaseV {P:Program} {w0:World} {c:Code} {f:Fr} {L:ze_} {rs:List ResultVar} {S:Value→Prop} (hN:New w0.heap.size L) (ht:rs.all tmpR=true)
  (h: ∀w1,Hp w0 L w1→Cw P w1 c f [] (retV P w1 rs S)):Cw P w0 c f L (retV P w0 rs S):=by
 refine Cw.rebase (K1:=fun w1=>retV P w1 rs S) h ?_
 intro w1 e f D hw hk
 have key: (∃vs,vz_ P w1 D f rs=some vs∧New w1.heap.size D∧S (vi_ vs))→New w1.heap.size D∧ ∃vs,vz_ P w0 (L++D) f rs=some vs∧New w0.heap.size (L++D)∧S (vi_ vs):=by
  rintro⟨vs,h1,h2,h3⟩
  exact⟨h2,vs,by rw[Xq_ (w1:=w1) (M:=D) ht];exact h1,hN.app (h2.mono hw.size),h3⟩
 cases e<;>first
  |exact key hk
  |exact hk.elim
theorem Cw.rebaseX {P:Program} {w0:World} {c:Code} {f:Fr} {L X:ze_} {rs:List ResultVar} {S S1:Value→ze_→Prop} (ht:rs.all tmpR=true)
  (h: ∀w1,Hp w0 L w1→Cw P w1 c f [] (retK P w1 rs (XS w1 [] S1))) (hS: ∀v D,New w0.heap.size D→S1 v D→XS w0 X S v (L++D)):Cw P w0 c f L (retK P w0 rs (XS w0 X S)):=by
 refine Cw.rebase (K1:=fun w1=>retK P w1 rs (XS w1 [] S1)) h ?_
 intro w1 e f D hw hk
 have key: (∃vs,vz_ P w1 D f rs=some vs∧XS w1 [] S1 (vi_ vs) D)→New w1.heap.size D∧ ∃vs,vz_ P w0 (L++D) f rs=some vs∧XS w0 X S (vi_ vs) (L++D):=by
  rintro⟨vs,h1,h2,h3⟩
  exact⟨h2.new0,vs,by rw[Xq_ (w1:=w1) (M:=D) ht];exact h1,hS _ D (h2.new0.mono hw.size) h3⟩
 cases e<;>first
  |exact key hk
  |exact hk.elim
theorem Ow.world {P:Program} {w0:World} {ops:Array Oper} {l:List Oper} {f:Fr} {L:ze_} {N:Fr→ze_→Prop} (h: ∀w,Hp w0 L w→Ow P w0 ops .seq l f L N):Ow P w0 ops .seq l f L N:=fun w hw=>h w hw w hw
theorem Rets.chunk {P:Program} {k:FuncId} {args:Array Value} {w:World} {S:Value→Obj→Prop} {X:ze_} {b:Nat} (hX: ∀p,p∈X→w.heap[p.1]? =some p.2) (hn: (keys X).Nodup) (hb:b∈keys X)
  (h:Rets P k args w (fun v D=> ∃o,D= [(b,o)]∧S v o)):Rets P k args w (XS w X (fun v D=> ∃o,D=setB X b o∧S v o)):=
 Calls.mono h fun e w' ⟨v,D,he,hp,o,hD,hS⟩=>⟨v,setB X b o,he,by subst hD;exact Mrg.set hb w w' rfl ((Hp.refl w).ownX hX hn) hp,(Ext.refl w X).setB,o,rfl,hS⟩
theorem Rets.chunkV {P:Program} {k:FuncId} {args:Array Value} {w:World} {S:Value→Prop} {X:ze_} (hX: ∀p,p∈X→w.heap[p.1]? =some p.2) (hn: (keys X).Nodup)
  (h:Rets P k args w (fun v D=>S v∧D= [])):Rets P k args w (XS w X (fun v D=>D=X∧S v)):=
 Calls.mono h fun e w' ⟨v,D,he,hp,hS,hD⟩=>⟨v,X,he,by subst hD;exact((Hp.refl w).ownX hX hn).trans_nil hp,Ext.refl w X,rfl,hS⟩
theorem Rets.toX {P:Program} {k:FuncId} {a:Array Value} {w:World} {S:Value→Prop} (h:Rets P k a w (fun v D=>S v∧D= [])):Rets P k a w (XS w [] (fun v D=>D= []∧S v)):=
 h.mono fun v D ⟨h1,h2⟩=>⟨by subst h2;exact Ext.refl w [],h2,h1⟩
theorem Gr.rowL {α:Type} {m:Nat} {enc:α→List Value} {z:α} {w0 w:World} {v:Value} {l:List α} {L:ze_} {E:TypeId} {n:Nat} (h:Gr L E m v n (l.map enc).flatten) (hn:l.length=n) (hw:Hp w0 L w) (hm: ∀x,(enc x).length=m):
  ∃b off arr F fz,RowS m enc z w v l b off arr F fz∧(0<l.length→look L b=some (.cells arr F fz)):=by
 obtain⟨b,off,c,arr,F,fz,hr,hc,⟨rfl,rfl,rfl⟩ | ⟨rfl,hb,hsz⟩⟩:=h.slV (z:=z) hw hn rfl hm
 ·exact⟨b,off,arr,F,fz,hr,fun h0=>absurd h0 (by simp)⟩
 ·refine⟨b,off,arr,F,fz,hr,fun _=> ?_⟩
  obtain⟨o,ho⟩:=aaj_ (h.key (b:=b) rfl)
  have:=hw.has _ _ (zJ_ ho)
  rw[hb] at this
  rw[ho,this]
theorem GrI.rowL {α:Type} {m:Nat} {enc:α→List Value} {z:α} {w0 w:World} {v:Value} {l:List α} {D:ze_} {E:TypeId} {n:Nat} (h:GrI D E m v n (l.map enc).flatten) (hn:l.length=n) (hw:Hp w0 D w) (hm: ∀x,(enc x).length=m):
  ∃b off arr F fz,RowS m enc z w v l b off arr F fz∧(0<l.length→look D b=some (.cells arr F fz)):=by
 obtain⟨X,hX,h⟩:=h
 obtain⟨b,off,c,arr,F,fz,hr,hc,⟨rfl,rfl,rfl⟩ | ⟨rfl,hb,hsz⟩⟩:=h.slM (z:=z) (fun b o hm=>hw.has b o (hX _ hm)) hn rfl hm
 ·exact⟨b,off,arr,F,fz,hr,fun h0=>absurd h0 (by simp)⟩
 ·refine⟨b,off,arr,F,fz,hr,fun _=> ?_⟩
  obtain⟨o,ho⟩:=aaj_ (h.key (b:=b) rfl)
  have hm:=hX _ (zJ_ ho)
  have:=hw.has _ _ hm
  rw[hb] at this
  rw[xA_ hw.nodup hm,this]
end Go.Sx
section
open Go Go.Proofs Go.Sx Go.StP Go.Flo
namespace Go.Proofs
set_option maxRecDepth 10000
set_option maxHeartbeats 400000
set_option linter.unusedSimpArgs false
set_option linter.defProp false
def Vw_:=And.intro (@zi_) (@zh_)
theorem afs_ (b o n c:Nat):qO_ Tryz.prog .eql 81 (vsl b o n c) (.slice none 0 0)=some (.bool false):=by
 simp[qO_,eqX,qH_,qI_,Tryz.underlying81,vsl]
theorem Ws_:qO_ Tryz.prog .eql 81 (.slice none 0 0) (.slice none 0 0)=some (.bool true):=by
 simp[qO_,eqX,qH_,qI_,Tryz.underlying81]
theorem Jx_ (v:Value) (ls:List RwL) (w:World) (hv:RwSl w v ls) (hl:ls.length<1000000):
  Rets Tryz.prog 107 #[v] w (XS w [] (fun v D=>Gr D 104 34 v ls.length (ls.map rwC).flatten)):=by
 obtain⟨b,off,c,arr,E,fz,hr,hc,⟨rfl,rfl,rfl⟩ | ⟨rfl,hb,hsz⟩⟩:=hv
 ·refine Rets.enterX Tryz.func107 rfl (rs:= [.tmp 2]) Tryz.results107 Tryz.ntmps107 (fun p hp=>by cases hp) (by simp[keys]) ?_
  refine kf ?_
  first|with_reducible refine ks [] (And.intro @Vw_ (And.intro @afs_ (@Ws_))) ?_|refine kp (And.intro @Vw_ (And.intro @afs_ (@Ws_))) ?_
  refine⟨_,(ke @Vw_), ?_⟩
  exact⟨Ext.refl _ _,Gr.nl⟩
 ·have hbl:=(Array.getElem?_eq_some_iff.1 hb).1
  have hv:RwSl w (vsl b off ls.length c) ls:=⟨b,off,c,arr,E,fz,hr,hc, .inr ⟨rfl,hb,hsz⟩⟩
  refine Rets.enterX Tryz.func107 rfl (rs:= [.tmp 2]) Tryz.results107 Tryz.ntmps107 (fun p hp=>by cases hp) (by simp[keys]) ?_
  refine kf ?_
  first|with_reducible refine ks [] (And.intro @Vw_ (And.intro @afs_ (@Ws_))) ?_|refine kp (And.intro @Vw_ (And.intro @afs_ (@Ws_))) ?_
  refine Ow.buildSlice (e:=104) #[] rfl rfl (by kernel_rfl) fun b1 hb1 hw1=> ?_
  refine ko @Vw_ ?_
  refine Ow.appendG (e:=104) (k:=ls.length) (new:=(ls.map rwC).flatten) (vsl b1 0 0 0) rfl rfl rfl Tryz.underlying81 Tryz.ag104 (by kernel_rfl) zrRw (by rw[z7_,List.size_toArray,zw_]) Tryz.underlying81 (by intro k h;cases h) (.inr ⟨rfl,rfl,b1,rfl,JV_ hb1⟩) (fun w' hw'=>(hv.oldN hw' ⟨hw1,trivial⟩).appX zw_ kL_) (WX_ zw_ ls) (by omega) (fun v2 L2 hB hB2 hG hS=> ?_)
  rw[Nat.zero_add,List.nil_append] at hB
  refine ko @Vw_ ?_
  first|with_reducible refine ks [] @Vw_ ?_|refine kp @Vw_ ?_
  refine⟨_,(ke @Vw_), ?_⟩
  exact⟨((Ext.refl w []).app (o:=Obj.cells #[] 104 (0,0)) hw1).grew hG,hB⟩
theorem ah3_ (v:Value) (X:ze_) (l:List RwL) (w:World) (hG:Gr X 104 34 v l.length (l.map rwC).flatten) (hX: ∀p,p∈X→w.heap[p.1]? =some p.2) (hn: (keys X).Nodup) (hl:l.length<1000000):
  Rets Tryz.prog 108 #[v,qU_] w (XS w X (fun v' D=>v'= .tuple #[]∧ ∃Z,rws_SortOf l Z∧Gr D 104 34 v l.length (Z.map rwC).flatten)):=by
 rcases hG with hS| ⟨h0,h1,rb,rfl,hlk⟩
 ·rcases hS.inv with⟨rfl,h0,h1⟩ | ⟨rb,c,rest,rfl,hlk,-,hc,hc0,hr⟩
  ·obtain rfl:l= []:=List.eq_nil_of_length_eq_zero h0
   refine(Rets.chunkV hX hn (QI_ w)).mono ?_
   rintro v' D ⟨hE,rfl,hv⟩
   exact⟨hE,hv,[],⟨rfl,List.Pairwise.nil,StP.St.refl _ _⟩,Gr.nl⟩
  ·refine(Rets.chunk hX hn (zx_ hlk) (kn_ rb l.length c l rest w rfl hl (hX _ (zJ_ hlk)))).mono ?_
   rintro v' D ⟨hE,o,rfl,hv,Z,rfl,z1,z2,z3⟩
   refine⟨hE,hv,Z,⟨z1,z2,z3⟩, .inl ?_⟩
   rw[←z1]
   exact Buf.at_ (kA_ hlk) (by rw[WX_ zw_]) (by rw[z1];exact hr) (by omega) hc0
 ·obtain rfl:l= []:=List.eq_nil_of_length_eq_zero h0
  refine(Rets.chunk hX hn (zx_ hlk) (kn_ rb 0 0 [] [] w rfl (by omega) (hX _ (zJ_ hlk)))).mono ?_
  rintro v' D ⟨hE,o,rfl,hv,Z,rfl,z1,z2,z3⟩
  obtain rfl:Z= []:=List.eq_nil_of_length_eq_zero z1
  exact⟨hE,hv,[],⟨rfl,List.Pairwise.nil,StP.St.refl _ _⟩, .inr ⟨rfl,rfl,rb,rfl,kA_ hlk⟩⟩
theorem Jb_ (l:List RwL) {g:Nat} (h:g<l.length):xQ_ (l.take (g+1))=xQ_ (l.take g)++rowB (l.getD g rw0):=by
 rw[StP.take_snoc (z:=rw0) h];simp[xQ_]
theorem afg_ (r:RwL): (rowB r).length≤44:=by
 have h1:=zm_ r.place
 have h2:=zm_ r.spot
 have h3:=r.id.h
 unfold rowB
 rw[List.length_append,List.length_append];omega
theorem Qa_ (l:List RwL): ∀g,g≤l.length→(xQ_ (l.take g)).length≤g*44
 |0,_=>by simp[xQ_]
 |g+1,h=>by
  rw[Jb_ l h,List.length_append]
  have:=Qa_ l g (by omega)
  have:=afg_ (l.getD g rw0)
  omega
theorem Qt_: ∀ (l:List Int),(xX_ l).length≤l.length*6
 | []=>by simp[xX_]
 |n::l=>by
  have h1:=Qt_ l
  have h2:=zm_ n
  have e:xX_ (n::l)=qP_ (zz_ n)++xX_ l:=by simp[xX_]
  rw[e,List.length_append,List.length_cons];omega
theorem vF_ (F:List Nat): (Jg_ F).length=F.length:=by simp[Jg_]
theorem an5_ {w:World} {b:Nat} {s:List UInt8} {v1:Value} {F:List Nat} (h:w.heap[b]? =some (ixO s v1 F)) (c:Nat):OneS vi 0 w (vsl b 2 F.length c) (Jg_ F) b 2 ([vs s,v1]++ (F.map fun(n:Nat)=>vi (n:Int))).toArray 178 (0,0):=by
 refine OneS.sl (by rw[vF_]) h fun k hk=> ?_
 rw[vF_] at hk
 rw[List.getElem?_toArray,List.getElem?_append_right (by simp),show 2+k - [vs s,v1].length=k from by simp,List.getElem?_map,List.getElem?_eq_getElem hk]
 unfold Jg_
 rw[List.getD_eq_getElem?_getD,List.getElem?_map,List.getElem?_eq_getElem hk];rfl
structure IwG where
 k:Nat
 D:ze_
set_option linter.defProp false
def qi_:=And.intro (And.intro (And.intro (@zi_) (@zh_)) (And.intro (@z7_) (And.intro (@vb_) (@Zg_)))) (And.intro (And.intro (@Qj_) (@Qp_)) (And.intro (@jY_) (And.intro (@Sx.tup2_0) (@Sx.tup2_1))))
theorem XS_ (s:List UInt8) (v:Value) (l:List RwL) (w:World) (hC:GlobC w) (hv:RwSl w v l) (hl:l.length<1000000) (hs:s.length<1099511627776):
  Rets Tryz.prog 42 #[vs s,v] w (fun v' D=>(∃Z,rws_SortOf l Z∧v'= .tuple #[vs (wd_ s Z).1,vi (wd_ s Z).2])∧D= []):=by
 refine Rets.enterV Tryz.func42 rfl (rs:= [.tmp 4, .tmp 5]) Tryz.results42 Tryz.ntmps42 ?_
 refine kf ?_
 first|with_reducible refine ks [1000006] @qi_ ?_|refine kp @qi_ ?_
 refine Ow.callX (Y:= []) (by simp) rfl rfl Tryz.call107 (fun w' hw' hX hn=>Jx_ v l w' (hv.oldN hw' trivial) hl) (fun v12 D12 hC12 hS12=> ?_)
 have hN12:New w.heap.size D12:=qh_ hC12 trivial
 rw[List.append_nil]
 refine ko @qi_ ?_
 first|with_reducible refine ks [] @qi_ ?_|refine kp @qi_ ?_
 refine Ow.callX (Y:= []) (by simp) rfl rfl Tryz.call108 (fun w' hw' hX hn=>ah3_ v12 D12 l w' hS12 hX hn hl) (fun v14 D14 hC14 hS14=> ?_)
 obtain⟨rfl,Z,hZ,hG⟩:=hS14
 have hN14:New w.heap.size D14:=qh_ hC14 hN12
 have hZl:=hZ.1
 rw[List.append_nil]
 refine ko @qi_ ?_
 first|with_reducible refine ks [] @qi_ ?_|refine kp @qi_ ?_
 refine Ow.callC rfl rfl Tryz.call110 (fun w' hw'=>afu_ s v12 Z w' (hG.slV hw' hZl rfl zw_) (by omega)) (fun B1 v18 D18 hA18 hB18 hN18 hS18=> ?_)
 have hN:New w.heap.size (D14++D18):=hN14.app (hN18.mono hB18)
 unfold OfIS at hS18
 by_cases hok:JZ_ Z Z.length=true
 ·rw[if_pos hok] at hS18
  obtain⟨bi,rfl,hbi⟩:=hS18
  have hri: (decide (s.length=4)&&decide (Z.length≤200))=jP_ s Z:=by unfold jP_;rw[hok,Bool.true_and]
  rw[hri]
  cases hr:jP_ s Z with
  |false=>
   refine ko @qi_ ?_
   first|with_reducible refine ks [] @qi_ ?_|refine kp @qi_ ?_
   refine⟨_,(ke @qi_),hN, ?_⟩
   exact⟨Z,hZ,by unfold wd_;rw[hr];rfl⟩
  |true=>
   obtain⟨-,hs4,hl2⟩:=vD_ hr
   refine ko @qi_ ?_
   refine Cw.rebaseV hN (by rfl) fun w1 hw1=> ?_
   have hC1:=hC.newP hw1 hN
   have hb1:w1.heap[bi]? =some (ixO s v12 (vg_ Z)):=hw1.has _ _ (List.mem_append_right _ hbi)
   have hv1:RwSl w1 v12 Z:=(hG.app (M:=D18)).slV hw1 hZl rfl zw_
   clear hw1 hG hbi hN hN18 hA18 hS12 hC14 hC12
   obtain⟨rb,off,arr,E,fz,hro⟩:=hv1.row
   have ln:=hv1.len
   first|with_reducible refine ks [] @qi_ ?_|refine kp @qi_ ?_
   refine Ow.alloc rfl rfl Tryz.zr123 fun b5 hb5 hw5=> ?_
   refine ko @qi_ ?_
   first|with_reducible refine ks [] @qi_ ?_|refine kp @qi_ ?_
   have hZ5:BldAt b5 [] [(b5, .cells #[.pointer none, .slice none 0 0] 123 (0,0))]:=BldAt.zeroK b5 (zT_ _ _ _)
   refine Ow.buildSlice (e:=9) #[vs [83,73,88,49],vs s] rfl rfl (by kernel_rfl) fun b15 hb15 hw15=> ?_
   have h515:b5<b15:=zf_ hb15 (by simp[keys])
   refine ko @qi_ ?_
   refine Ow.callX (Y:= [(b15, .cells #[vs [83,73,88,49],vs s] 9 (0,0))]) (by simp) rfl rfl Tryz.call60 (fun w' hw' hX hn=>vk_ b5 [(b5, .cells #[.pointer none, .slice none 0 0] 123 (0,0))] [] _ b15 0 [[83,73,88,49],s] _ _ _ w' hZ5 hX hn (StrS.lit [[83,73,88,49],s] rfl rfl (hw'.has _ _ (List.mem_cons_of_mem _ List.mem_cons_self))) (fun _ hm=>by simp[keys] at hm;omega) (by simp;omega) (by simp)) (fun v16 D16 hC16 hS16=> ?_)
   obtain⟨rfl,hB16⟩:=hS16
   have hN16:New w1.heap.size D16:=qh_ hC16 ⟨hw5,trivial⟩
   refine ko @qi_ ?_
   first|with_reducible refine ks [] (And.intro @qi_ @ln) ?_|refine kp (And.intro @qi_ @ln) ?_
   refine Ow.buildSlice (e:=3) #[vi Z.length] rfl rfl (by kernel_rfl) fun b19 hb19 hw19=> ?_
   refine ko @qi_ ?_
   rw[List.append_assoc]
   refine Ow.callX (Y:= [(b15, .cells #[vs [83,73,88,49],vs s] 9 (0,0)),(b19, .cells #[vi Z.length] 3 (0,0))]) (by simp) rfl rfl Tryz.call61 (fun w' hw' hX hn=>xf_ b5 D16 _ _ b19 0 [(Z.length:Int)] _ _ _ w' hB16 hX hn (OneS.lit [(Z.length:Int)] rfl rfl (hw'.has b19 (.cells #[vi Z.length] 3 (0,0)) (by simp))) (fun _ hm=>Nat.lt_irrefl _ (zf_ hb19 (by rw[zk_];exact List.mem_append_left _ hm))) (by simp;omega)) (fun v20 D20 hC20 hS20=> ?_)
   obtain⟨rfl,hB20⟩:=hS20
   rw[Qc_] at hB20
   have hN20:New w1.heap.size D20:=qh_ hC20 hN16
   have hbil:=(Array.getElem?_eq_some_iff.1 hb1).1
   refine ko @qi_ ?_
   first|with_reducible refine ks [] @qi_ ?_|refine kp @qi_ ?_
   have hN20':New w1.heap.size (D20++ [(b15,Obj.cells #[vs [83,73,88,49],vs s] 9 (0,0)),(b19,Obj.cells #[vi Z.length] 3 (0,0))]):=hN20.app ⟨hw15,hw19,trivial⟩
   have hnl:=zm_ (Z.length:Int)
   have hfl: (vg_ Z).length=16:=J2_ Z
   have hfb:=Qt_ (Jg_ (vg_ Z))
   rw[vF_,hfl] at hfb
   refine Ow.callX (Y:= [(b15, .cells #[vs [83,73,88,49],vs s] 9 (0,0)),(b19, .cells #[vi Z.length] 3 (0,0))]) (by simp) rfl rfl Tryz.call61 (fun w' hw' hX hn=>xf_ b5 D20 _ (vsl bi 2 16 16) bi 2 (Jg_ (vg_ Z)) _ _ _ w' hB20 hX hn (hfl▸an5_ (by rw[hw'.old bi hbil (hN20'.not hbil)];exact hb1) 16) (fun _ hm=>by have:=hN20.le _ hm;omega) (by rw[vF_,hfl];simp;omega)) (fun v34 D34 hC34 hS34=> ?_)
   obtain⟨rfl,hB34⟩:=hS34
   have hN34:New w1.heap.size D34:=qh_ hC34 hN20
   obtain⟨Pre,hPre⟩: ∃Pre,Pre=magI++ (s++ (qP_ (zz_ (Z.length:Int))++xY_ (vg_ Z))):=⟨_,rfl⟩
   have hidx:Zu_ s Z=Pre++xQ_ Z:=by rw[hPre];unfold Zu_;simp only[List.append_assoc]
   have hPl:Pre.length≤200:=by rw[hPre];simp only[List.length_append];unfold xY_;rw[show magI.length=4 from rfl];omega
   have hB0:BldAt b5 (Pre++xQ_ (Z.take 0)) (D34++ [(b15,Obj.cells #[vs [83,73,88,49],vs s] 9 (0,0)),(b19, .cells #[vi Z.length] 3 (0,0))]):=by
    have:=hB34.app (Y:= [(b15,Obj.cells #[vs [83,73,88,49],vs s] 9 (0,0)),(b19, .cells #[vi Z.length] 3 (0,0))])
    rw[hPre]
    simpa [magI,xQ_,xY_] using this
   clear hPre
   refine ko @qi_ ?_
   first|with_reducible refine ks [] (And.intro @qi_ @ln) ?_|refine kp (And.intro @qi_ @ln) ?_
   refine Cw.loopG (G:=IwG) [38,39,40,10,41,42,43,44,45,46,47,48,49,50,51,37] (fun g=> [(37,vi g.k)]) (fun g=>g.D) (fun g=>g.k≤Z.length∧New w1.heap.size g.D∧BldAt b5 (Pre++xQ_ (Z.take g.k)) g.D) (fun g=>Z.length - g.k) ⟨0,D34++ [(b15,Obj.cells #[vs [83,73,88,49],vs s] 9 (0,0)),(b19, .cells #[vi Z.length] 3 (0,0))]⟩ rfl rfl ?_ ?_
   ·exact⟨Nat.zero_le _,hN34.app ⟨hw15,hw19,trivial⟩,hB0⟩
   intro g j hg
   refine kv ?_
   obtain⟨k,D⟩:=g
   simp only at hg ⊢
   obtain⟨hk,hN,hB⟩:=hg
   have hrl:=Qa_ Z k hk
   by_cases hlt:k<Z.length
   ·have d1:decide ((k:Int)< (Z.length:Int))=true:=decide_eq_true (by omega)
    have hb1:=hro.has (by omega)
    have hb1l:=hro.lt (by omega)
    have ix:=hro.idx true k hlt
    have ld:=hro.load zw_ (by omega) hlt
    have rd:zA_ w1 D rb=some (.cells arr E fz):=by rw[jh_ (hN.not hb1l)];exact hb1
    have hsn:=Jb_ Z hlt
    generalize hp:Z.getD k rw0=r at*
    first|with_reducible refine ks [1000013] (And.intro @qi_ (And.intro @d1 (And.intro @ix (And.intro @rd (@ld))))) ?_|refine kp (And.intro @qi_ (And.intro @d1 (And.intro @ix (And.intro @rd (@ld))))) ?_
    refine Ow.alloc rfl rfl zrRw fun b7 hb7 hw7=> ?_
    simp only[zc_,List.nil_append,List.cons_append]
    refine Ow.permL (M:=(b7, .cells (rwC rw0).toArray 104 (0,0))::D) (by classical exact List.perm_iff_count.2 fun a=>by simp only[List.count_append,List.count_cons,List.count_nil]<;>omega) ?_
    refine ko @qi_ ?_
    first|with_reducible refine ks [] @qi_ ?_|refine kp @qi_ ?_
    have hrb:=afg_ r
    have hru:rowB r=r.id.l++ (qP_ (zz_ r.place)++qP_ (zz_ r.spot)):=rfl
    have hru2: (rowB r).length=32+ ((qP_ (zz_ r.place)).length+ (qP_ (zz_ r.spot)).length):=by rw[hru];simp only[List.length_append,r.id.h]
    refine Ow.buildSlice (e:=37) (a8 r.id.l) rfl rfl (aiD_ r.id) fun b35 hb35 hw35=> ?_
    refine ko @qi_ ?_
    refine Ow.permL (M:=D++ [(b7,Obj.cells (rwC r).toArray 104 (0,0)),(b35, .cells (a8 r.id.l) 37 (0,0))]) (by classical exact List.perm_iff_count.2 fun a=>by simp only[List.count_append,List.count_cons,List.count_nil]<;>omega) ?_
    refine Ow.callX (Y:= [(b7,Obj.cells (rwC r).toArray 104 (0,0)),(b35, .cells (a8 r.id.l) 37 (0,0))]) (by simp) rfl rfl Tryz.call111 (fun w' hw' hX hn=>alZ_ b5 D _ _ b35 0 [r.id] _ _ _ w' hB hX hn (akA_ r.id (hw'.has b35 (.cells (a8 r.id.l) 37 (0,0)) (by simp))) (fun _ hm=>Nat.lt_irrefl _ (zf_ hb35 (by simp[keys] at hm ⊢;exact .inr hm))) (by rw[List.length_append];simp;omega)) (fun v36 D36 hC36 hS36=> ?_)
    obtain⟨rfl,hB36⟩:=hS36
    have hN36:New w1.heap.size D36:=qh_ hC36 hN
    refine Ow.permL (M:=(b7,Obj.cells (rwC r).toArray 104 (0,0)):: (D36++ [(b35, .cells (a8 r.id.l) 37 (0,0))])) (by classical exact List.perm_iff_count.2 fun a=>by simp only[List.count_append,List.count_cons,List.count_nil]<;>omega) ?_
    refine ko @qi_ ?_
    first|with_reducible refine ks [] @qi_ ?_|refine kp @qi_ ?_
    refine Ow.buildSlice (e:=3) #[vi r.place,vi r.spot] rfl rfl (by kernel_rfl) fun b39 hb39 hw39=> ?_
    refine ko @qi_ ?_
    refine Ow.permL (M:=D36++ [(b7,Obj.cells (rwC r).toArray 104 (0,0)),(b35, .cells (a8 r.id.l) 37 (0,0)),(b39, .cells #[vi r.place,vi r.spot] 3 (0,0))]) (by classical exact List.perm_iff_count.2 fun a=>by simp only[List.count_append,List.count_cons,List.count_nil]<;>omega) ?_
    refine Ow.callX (Y:= [(b7,Obj.cells (rwC r).toArray 104 (0,0)),(b35, .cells (a8 r.id.l) 37 (0,0)),(b39, .cells #[vi r.place,vi r.spot] 3 (0,0))]) (by simp) rfl rfl Tryz.call61 (fun w' hw' hX hn=>xf_ b5 D36 _ _ b39 0 [r.place,r.spot] _ _ _ w' hB36 hX hn (OneS.lit [r.place,r.spot] rfl rfl (hw'.has b39 (.cells #[vi r.place,vi r.spot] 3 (0,0)) (by simp))) (fun _ hm=>Nat.lt_irrefl _ (zf_ hb39 (by simp[keys] at hm ⊢;exact .inr (.inl hm)))) (by simp[idsL,r.id.h];omega)) (fun v40 D40 hC40 hS40=> ?_)
    obtain⟨rfl,hB40⟩:=hS40
    have hN40:New w1.heap.size D40:=qh_ hC40 hN36
    refine ko @qi_ ?_
    first|with_reducible refine ks [] @qi_ ?_|refine kp @qi_ ?_
    refine Again.mk ⟨k+1,D40++ [(b7,Obj.cells (rwC r).toArray 104 (0,0)),(b35, .cells (a8 r.id.l) 37 (0,0)),(b39, .cells #[vi r.place,vi r.spot] 3 (0,0))]⟩ (by show Z.length - (k+1)<Z.length - k;omega) ⟨hlt,hN40.app ⟨hw7,hw35,hw39,trivial⟩, ?_⟩ rfl rfl
    show BldAt b5 (Pre++xQ_ (Z.take (k+1))) _
    rw[hsn]
    have:=hB40.app (Y:= [(b7,Obj.cells (rwC r).toArray 104 (0,0)),(b35, .cells (a8 r.id.l) 37 (0,0)),(b39, .cells #[vi r.place,vi r.spot] 3 (0,0))])
    simpa [rowB,idsL,xX_] using this
   ·obtain rfl:k=Z.length:=by omega
    have d1:decide ((Z.length:Int)< (Z.length:Int))=false:=decide_eq_false (by omega)
    rw[List.take_length] at hrl hB
    rw[←hidx] at hB
    have hpl: (Zu_ s Z).length<34359738368:=by rw[hidx,List.length_append];omega
    first|with_reducible refine ks [] (And.intro @qi_ @d1) ?_|refine kp (And.intro @qi_ @d1) ?_
    refine Ow.callX (Y:= []) (by simp) rfl rfl Tryz.call64 (fun w' hw' hX hn=>kZ_ b5 D (Zu_ s Z) w' hB hX hn hpl) (fun v42 D42 hC42 hS42=> ?_)
    subst hS42
    have hN42:New w1.heap.size D42:=qh_ hC42 hN
    rw[List.append_nil]
    refine ko @qi_ ?_
    refine Ow.callFV rfl Tryz.call63 (fun w' hw'=>Jc_ (Zu_ s Z) w' (hC1.newP hw' hN42) (by omega)) ?_
    refine ko @qi_ ?_
    first|with_reducible refine ks [] @qi_ ?_|refine kp @qi_ ?_
    refine⟨_,(ke @qi_),hN42, ?_⟩
    exact⟨Z,hZ,by unfold wd_;rw[hr];rfl⟩
 ·rw[if_neg hok] at hS18
  subst hS18
  refine ko @qi_ ?_
  first|with_reducible refine ks [] @qi_ ?_|refine kp @qi_ ?_
  refine⟨_,(ke @qi_),hN, ?_⟩
  exact⟨Z,hZ,by unfold wd_ jP_;rw[Bool.eq_false_iff.2 hok];rfl⟩
end Go.Proofs
end
section
open Go Go.Proofs Go.Sx Go.StP Go.Flo
namespace Go.Proofs
set_option maxRecDepth 10000
set_option maxHeartbeats 400000
set_option linter.unusedSimpArgs false
theorem eqDi (a b:Int):eqD Tryz.prog 7 3 (vi a) (vi b)=some (a==b):=by unfold eqD;rw[Tryz.underlying3];rfl
theorem eqDs (a b:List UInt8):eqD Tryz.prog 7 9 (vs a) (vs b)=some (a==b):=by unfold eqD;rw[Tryz.underlying9];simp only[vs,ae5_]
theorem eqDb (a b:Bool):eqD Tryz.prog 7 4 (.bool a) (.bool b)=some (a==b):=by unfold eqD;rw[Tryz.underlying4];rfl
theorem agI:z2_ Tryz.prog 3=some (false,1):=id (by kernel_rfl)
theorem agS:z2_ Tryz.prog 9=some (false,1):=id (by kernel_rfl)
theorem agB:z2_ Tryz.prog 4=some (false,1):=id (by kernel_rfl)
theorem apR_ (a b:ObL):eqD Tryz.prog 8 43 (obV a.k a.t) (obV b.k b.t)=some (decide (a=b)):=by
 have p0: ∀o:ObL,Sx.partV (false,1) #[vi o.k,vs o.t] 0=some (vi o.k):=fun _=>rfl
 have p1: ∀o:ObL,Sx.partV (false,1) #[vi o.k,vs o.t] 1=some (vs o.t):=fun _=>rfl
 unfold eqD obV
 rw[Tryz.underlying43]
 simp only
 rw[show Tryz.prog.stoodInHeld 43=false by kernel_rfl]
 simp only[Bool.false_eq_true, ↓reduceIte,kz_,va_,agI,agS,p0,p1,eqDi,eqDs]
 obtain⟨k,t⟩:=a
 obtain⟨k',t'⟩:=b
 have e:decide ((⟨k,t⟩:ObL)=⟨k',t'⟩)=((k==k')&& (t==t')):=by rw[Bool.eq_iff_iff];simp
 rw[e]
 cases(k==k')<;>cases(t==t')<;>rfl
theorem apW_ (a b:ObL):qO_ Tryz.prog .eql 43 (obV a.k a.t) (obV b.k b.t)=some (.bool (decide (a=b))):=by
 have h:=apR_ a b
 unfold qO_ eqX obV at*;rw[show Tryz.prog.eqGuardType Tryz.prog.depth 43=false by kernel_rfl];simp[qH_,h]
theorem arz_ (a b:ObL):qO_ Tryz.prog .neq 43 (obV a.k a.t) (obV b.k b.t)=some (.bool (!decide (a=b))):=by
 have h:=apR_ a b
 unfold qO_ eqX obV at*;rw[show Tryz.prog.eqGuardType Tryz.prog.depth 43=false by kernel_rfl];simp[qH_,h]
instance:DecidableEq PartL:=fun a b=>if h:a.d=b.d∧a.b=b.b∧a.x=b.x then .isTrue (by cases a;cases b;simp only at h;obtain⟨rfl,rfl,rfl⟩:=h;rfl) else .isFalse (fun e=>h (by rw[e];exact⟨rfl,rfl,rfl⟩))
theorem aoR_ (a b:PartL):eqD Tryz.prog 8 114 (.agg (zv_ a).toArray) (.agg (zv_ b).toArray)=some (decide (a=b)):=by
 have p0: ∀o:PartL,Sx.partV (false,1) (zv_ o).toArray 0=some (.bool o.d):=fun _=>rfl
 have p1: ∀o:PartL,Sx.partV (false,1) (zv_ o).toArray 1=some (vi o.b):=fun _=>rfl
 have p2: ∀o:PartL,Sx.partV (false,1) (zv_ o).toArray 2=some (vs o.x):=fun _=>rfl
 unfold eqD
 rw[Tryz.underlying114]
 simp only
 rw[show Tryz.prog.stoodInHeld 114=false by kernel_rfl]
 simp only[Bool.false_eq_true, ↓reduceIte,kz_,va_,agI,agS,agB,p0,p1,p2,eqDi,eqDs,eqDb]
 obtain⟨d,k,t⟩:=a
 obtain⟨d',k',t'⟩:=b
 have e:decide ((⟨d,k,t⟩:PartL)=⟨d',k',t'⟩)=((d==d')&& ((k==k')&& (t==t'))):=by rw[Bool.eq_iff_iff];simp
 rw[e]
 simp only[ne_eq,String.reduceEq,not_false_eq_true, ↓reduceIte]
 cases(d==d')<;>cases(k==k')<;>cases(t==t')<;>rfl
theorem aou_ (a b:PartL):qO_ Tryz.prog .neq 114 (.agg (zv_ a).toArray) (.agg (zv_ b).toArray)=some (.bool (!decide (a=b))):=by
 have h:=aoR_ a b
 unfold qO_ eqX;rw[show Tryz.prog.eqGuardType Tryz.prog.depth 114=false by kernel_rfl];simp[qH_,h]
def idxO (x:ObL):List ObL→Nat→Int
 | [],_=> -1
 |y::r,i=>if x=y then(i:Int) else idxO x r (i+1)
set_option linter.defProp false
def as0_:=And.intro (And.intro (@apW_) (And.intro (@ja_) (@qs_))) (And.intro (@qt_) (And.intro (@zi_) (@zh_)))
end Go.Proofs
end
section
open Go Go.Proofs Go.Sx Go.StP Go.Flo
namespace Go.Proofs
set_option maxRecDepth 10000
set_option maxHeartbeats 400000
set_option linter.unusedSimpArgs false
theorem akb_ (s:List UInt8): ∃n:Nat,(jg_ s).1=n∧n≤200:=by
 unfold jg_
 split
 ·have:=z9_ (s:=s) (a:=(qD_ s 0 0 4).2.1) (e:=(qD_ s 0 0 4).2.2) (most:=200) (by omega)
  exact⟨(zr_ s (qD_ s 0 0 4).2.1 (qD_ s 0 0 4).2.2 200).1.toNat,by simp only;omega,by omega⟩
 ·exact⟨0,rfl,by omega⟩
theorem Wy_ (s:List UInt8): (jg_ s).2.2.1≤s.length:=by
 have h1:=kG_ (s:=s) (a:=0) (e:=0) (n:=4) (Nat.zero_le _)
 unfold jg_
 split
 ·exact(zO_ (e:=(qD_ s 0 0 4).2.2) (most:=200) h1.2).2
 ·exact h1.2
theorem agT_ (s:List UInt8) (a:Nat) (e most:Int) (hm:0≤most): ((zI_ s a e most).1.length:Int)≤most:=by
 have h1:=z9_ (s:=s) (a:=a) (e:=e) (most:=most) hm
 have h2: ∀ (b:Nat) (e n:Int),0≤n→((qD_ s b e n).1.length:Int)≤n:=by
  intro b e n hn
  unfold qD_
  split
  ·simpa using hn
  ·split
   ·simpa using hn
   ·split
    ·simpa using hn
    ·simp only[List.length_take,List.length_drop];omega
 unfold zI_
 simp only
 split
 ·simpa using hm
 ·have:=h2 (zr_ s a e most).2.1 (zr_ s a e most).2.2 (zr_ s a e most).1 h1.1
  omega
theorem abz_ {s:List UInt8}: ∀ (k i a:Nat) (e:Int) (p:PartL),p∈ (zN_ s k i a e).1→p.x.length≤65536
 |0,i,a,e,p,h=>by cases h
 |k+1,i,a,e,p,h=>by
  unfold zN_ at h
  split at h
  ·rcases List.mem_cons.1 h with rfl|h
   ·have:=agT_ s (zr_ s a e 200).2.1 (zr_ s a e 200).2.2 65536 (by omega)
    show(zI_ s (zr_ s a e 200).2.1 (zr_ s a e 200).2.2 65536).1.length≤65536
    omega
   ·exact abz_ k _ _ _ p h
  ·cases h
theorem ZT_ (s:List UInt8):SmallP (jI_ s).1:=fun g hg=>Nat.le_trans (abz_ _ _ _ _ _ (Ql_ hg)) (by omega)
theorem XP_ (s:List UInt8): (jI_ s).1.length≤200∧(jI_ s).2.1.length=(jI_ s).1.length:=by
 obtain⟨n,hn,hle⟩:=akb_ s
 have:=XF_ (s:=s) (jg_ s).1.toNat 0 (jg_ s).2.2.1 (jg_ s).2.2.2
 unfold jI_
 rw[hn,Int.toNat_natCast] at this ⊢
 omega
theorem aoi_ {D:ze_} {E:TypeId} {m n:Nat} {v:Value} {cs:List Value} (h:GrI D E m v n cs) {b:Nat} (hb:slB v=some b):b∈keys D:=by
 obtain⟨X,hX,h⟩:=h
 obtain⟨p,hp,rfl⟩:=List.mem_map.1 (h.key hb)
 exact List.mem_map.2 ⟨p,hX p hp,rfl⟩
theorem xN_ {D:ze_} {E:TypeId} {m n:Nat} {v:Value} {cs:List Value} (h:GrI D E m v n cs):Value.oneCell' v=true∧v.cells= #[v]:=by
 obtain⟨X,hX,h⟩:=h;exact h.cell
theorem akn_ {v0 v1:Value} (h0:Value.oneCell' v0=true∧v0.cells= #[v0]) (h1:Value.oneCell' v1=true∧v1.cells= #[v1]):qp_ (x3_ Tryz.prog 117) (zE_ Tryz.prog 117) [(0,v0),(1,v1)]=some (.agg #[v0,v1, .slice none 0 0, .slice none 0 0]):=by
 rw[show x3_ Tryz.prog 117=some [(0,1),(1,1),(2,1),(3,1)] from id (by kernel_rfl),zrPk]
 simp[qp_,Sx.fillV,h0.2,h1.2,wg_]
theorem zrPr:zE_ Tryz.prog 137=some (.agg #[.pointer none, .slice none 0 0, .slice none 0 0]):=id (by kernel_rfl)
theorem alG_ (b:Nat):qp_ (x3_ Tryz.prog 137) (zE_ Tryz.prog 137) [(0,vp b 0)]=some (.agg #[vp b 0, .slice none 0 0, .slice none 0 0]):=by
 rw[show x3_ Tryz.prog 137=some [(0,1),(1,1),(2,1)] from id (by kernel_rfl),zrPr];rfl
def apD_ (b:List UInt8) (v:Value) (D:ze_):Prop:=match vP_ b with
 |some q=> ∃bp,v= .tuple #[vp bp 0,vi 0]∧PackD D bp q.1 q.2.1 q.2.2.1 q.2.2.2
 |none=>v= .tuple #[.pointer none,vi 2]
set_option linter.defProp false
def qV_:=And.intro (And.intro (@zi_) (And.intro (@zh_) (@aai_))) (And.intro (And.intro (@aap_) (@W9_)) (And.intro (@Sx.tup2_0) (@Sx.tup2_1)))
theorem agc_ (b:List UInt8) (w:World) (hG:GlobE w) (hC:GlobC w) (hb:b.length<1099511627776):
  Rets Tryz.prog 17 #[vs b] w (XS w [] (apD_ b)):=by
 have hgr:3<w.heap.size:=by obtain⟨e0,e1,f0,f1,h0,h1⟩:=hG;exact(Array.getElem?_eq_some_iff.1 h1).1
 refine Rets.enterX Tryz.func17 rfl (rs:= [.tmp 2, .tmp 3]) Tryz.results17 Tryz.ntmps17 (fun p hp=>by cases hp) (by simp[keys]) ?_
 refine kf ?_
 first|with_reducible refine ks [8] @qV_ ?_|refine kp @qV_ ?_
 refine Ow.callFV rfl Tryz.call70 (fun w' hw'=>JG_ b w' (hC.newP hw' trivial) (by omega)) ?_
 have hun: (zu_ b).1.length≤b.length:=by
  unfold zu_
  split
  ·simp
  ·split
   ·simp only[List.length_take];omega
   ·simp
 unfold apD_ vP_
 generalize zu_ b=u at*
 obtain⟨s,ok⟩:=u
 simp only at hun ⊢
 cases ok with
 |false=>
  rw[if_neg (by simp)]
  refine ko @qV_ ?_
  first|with_reducible refine ks [] @qV_ ?_|refine kp @qV_ ?_
  refine⟨_,(ke @qV_), ?_⟩
  exact⟨Ext.refl _ _,rfl⟩
 |true=>
  refine ko @qV_ ?_
  first|with_reducible refine ks [] @qV_ ?_|refine kp @qV_ ?_
  refine Ow.callF rfl rfl Tryz.call71 (S:=fun B v D=> ∃b',B≤b'∧v=vp b' 0∧D= [(b',wrO s 0 0)]) (fun w' hw'=>wL_ s w') ?_
  rintro B v D hab hB ⟨bw,hbw,rfl,rfl⟩
  have hww:w.heap.size≤bw:=by omega
  refine⟨_,Mrg.fresh (by intro q hq;simp only[keys,List.map_cons,List.map_nil,List.mem_singleton] at hq;omega), ?_⟩
  rw[List.nil_append]
  refine ko @qV_ ?_
  refine Ow.build (.agg #[vp bw 0, .slice none 0 0, .slice none 0 0]) rfl (alG_ bw) ?_
  refine ko @qV_ ?_
  refine Ow.box rfl rfl fun br hbr hwr=> ?_
  simp only[z8_,z3_,z4_,zc_]
  have hwbr:bw<br:=zf_ hbr (by simp[keys])
  refine Ow.permL (M:= [(br,prO (vp bw 0) (.slice none 0 0) (.slice none 0 0)),(bw,wrO s 0 0)]) (List.Perm.swap _ _ _) ?_
  refine ko @qV_ ?_
  first|with_reducible refine ks [] @qV_ ?_|refine kp @qV_ ?_
  refine Ow.callX (Y:= []) (by simp) rfl rfl Tryz.call72 (fun w' hw' hX hn=>aiM_ br bw s (.slice none 0 0) (.slice none 0 0) w' (by omega) (by omega) (hX _ List.mem_cons_self) (hX _ (List.mem_cons_of_mem _ List.mem_cons_self))) (fun v22 D22 hC22 hS22=> ?_)
  obtain⟨rfl,rfl⟩:=hS22
  clear hC22
  obtain⟨n,hn,hn2⟩:=akb_ s
  have hle:=Wy_ s
  have hrp:jI_ s=zN_ s n 0 (jg_ s).2.2.1 (jg_ s).2.2.2:=by unfold jI_;rw[hn,Int.toNat_natCast]
  have hrl:=XP_ s
  have hrs:=ZT_ s
  rw[hn,List.append_nil]
  refine ko @qV_ ?_
  first|with_reducible refine ks [] @qV_ ?_|refine kp @qV_ ?_
  refine Ow.callX (Y:= []) (by simp) rfl rfl Tryz.call73 (fun w' hw' hX hn=>akd_ br bw s n (jg_ s).2.2.1 (jg_ s).2.2.2 w' (by omega) (by omega) hle (by omega) (hX _ List.mem_cons_self) (hX _ (List.mem_cons_of_mem _ List.mem_cons_self))) (fun v27 D27 hC27 hS27=> ?_)
  obtain⟨rfl,v1,v2,D',rfl,hg1,hg2⟩:=hS27
  rw[←hrp] at hg1 hg2
  rw[←hrp]
  generalize (jg_ s).2.1=okh
  generalize jI_ s=r at*
  obtain⟨l,sp,a,e⟩:=r
  simp only at hg1 hg2 hrl hrs ⊢
  have hN:New w.heap.size D':=New.of_le fun c hc=>by
   rcases hC27.new c (by simp only[keys,List.map_cons,List.mem_cons];exact .inr (.inr hc)) with h|h
   ·simp[keys] at h;omega
   ·exact h.2
  rw[List.append_nil]
  refine ko @qV_ ?_
  first|with_reducible refine ks [] @qV_ ?_|refine kp @qV_ ?_
  refine Cw.regionS [br] [0,1,2,4,5,6,3,7,8,9,10] [] (by kernel_rfl) (by kernel_rfl) (by kernel_rfl) ?_
  simp only[zg_, ↓zd_, ↓zb_, ↓zp_, ↓zq_,za_]
  refine kq @qV_ ?_
  refine Ow.build (.agg #[v1,v2, .slice none 0 0, .slice none 0 0]) rfl (akn_ (xN_ hg1) (xN_ hg2)) ?_
  refine kq @qV_ ?_
  refine Ow.soft rfl rfl rfl ?_
  refine Ow.box rfl rfl fun bk hbk hwk=> ?_
  simp only[z8_,z3_,z4_,zc_]
  have hbrk:br<bk:=zf_ hbk (by simp[keys])
  have hDk: ∀c,c∈keys D'→c<bk:=fun c hc=>zf_ hbk (by simp only[keys,List.map_cons,List.mem_cons];exact .inr (.inr hc))
  refine Ow.permL (M:=(bk, .cells #[v1,v2, .slice none 0 0, .slice none 0 0] 117 (0,0)):: ((br,prO (vp bw 0) v1 v2):: (bw,wrO s a e)::D')) (by classical exact List.perm_iff_count.2 fun a=>by simp only[List.count_append,List.count_cons,List.count_nil]<;>omega) ?_
  refine Ow.permL (M:=(bk,pkO v1 v2 (.slice none 0 0) (.slice none 0 0)):: ((br,prO (vp bw 0) v1 v2):: (bw,wrO s a e)::D')) (List.Perm.refl _) ?_
  with_reducible refine Ow.nil ?_
  refine⟨(fun r hr=>by rw[List.mem_singleton] at hr;subst hr;simp(disch:=omega) only[zH_,zG_]), ?_⟩
  refine kq @qV_ ?_
  have hN2:New w.heap.size ((br,prO (vp bw 0) v1 v2):: (bw,wrO s a e)::D'):=⟨hwr,hww,hN⟩
  have hN3:New w.heap.size ((bk,pkO v1 v2 (.slice none 0 0) (.slice none 0 0)):: (br,prO (vp bw 0) v1 v2):: (bw,wrO s a e)::D'):=⟨hwk,hN2⟩
  obtain hok|hok:okh=false∨okh=true:=by cases okh<;>simp
  ·subst hok
   rw[if_neg (by simp)]
   first|with_reducible refine ks [] @qV_ ?_|refine kp @qV_ ?_
   refine⟨_,(ke @qV_), ?_⟩
   exact⟨Ext.of_new hN3,rfl⟩
  ·subst hok
   first|with_reducible refine ks [] @qV_ ?_|refine kp @qV_ ?_
   refine Ow.callFV rfl Tryz.call74 (fun w' hw'=>ki_ bw s a e w' (hw'.has _ _ (List.mem_cons_of_mem _ (List.mem_cons_of_mem _ List.mem_cons_self)))) ?_
   by_cases he:jq_ s a e=0
   ·have e1: (jq_ s a e !=0)=false:=by simp[he]
    rw[if_pos ⟨rfl,rfl,he⟩]
    refine ko (And.intro @qV_ @e1) ?_
    refine Ow.callX (Y:=(br,prO (vp bw 0) v1 v2):: (bw,wrO s a e)::D') (by simp) rfl rfl Tryz.call59 (fun w' hw' hX hn=>acb_ bk v1 v2 l w' ((hg1.mono (fun q hq=>by simp[hq])).slV hw' rfl rfl jv_) (hG.new hw' hN3) hrs.bnd (by omega) (hX _ List.mem_cons_self) (fun h=>by have:=hDk _ (aoi_ hg1 h);omega) (by omega)) (fun v50 D50 hC50 hS50=> ?_)
    have hN50:New w.heap.size D50:=qh_ hC50 ⟨hwk,trivial⟩
    unfold acG_ at hS50
    cases hf:fillV l with
    |none=>
     rw[hf] at hS50
     have hS50':v50= .bool false:=hS50
     subst hS50'
     refine ko @qV_ ?_
     first|with_reducible refine ks [] @qV_ ?_|refine kp @qV_ ?_
     refine⟨_,(ke @qV_), ?_⟩
     exact⟨Ext.of_new (hN50.app hN2),rfl⟩
    |some q=>
     rw[hf] at hS50
     obtain⟨rfl,x2,x3,D'',rfl,hg3,hg4⟩:=hS50
     refine ko @qV_ ?_
     first|with_reducible refine ks [] @qV_ ?_|refine kp @qV_ ?_
     refine⟨_,(ke @qV_), ?_⟩
     refine⟨Ext.of_new (hN50.app hN2),bk,rfl,v1,v2,x2,x3, ?_, ?_, ?_, ?_, ?_⟩
     ·simp
     ·exact hg1.mono fun p hp=>by simp[hp]
     ·exact hg2.mono fun p hp=>by simp[hp]
     ·exact hg3.mono fun p hp=>by simp[hp]
     ·exact hg4.mono fun p hp=>by simp[hp]
   ·have e1: (jq_ s a e !=0)=true:=bne_iff_ne.2 he
    rw[if_neg (fun h=>he h.2.2)]
    refine ko (And.intro @qV_ @e1) ?_
    first|with_reducible refine ks [] @qV_ ?_|refine kp @qV_ ?_
    refine⟨_,(ke @qV_), ?_⟩
    exact⟨Ext.of_new hN3,rfl⟩
end Go.Proofs
end
section
open Go Go.Proofs Go.Sx Go.StP Go.Flo
namespace Go.Proofs
set_option maxRecDepth 10000
set_option maxHeartbeats 400000
set_option linter.unusedSimpArgs false
theorem aeU_ (r:RwL):qp_ (x3_ Tryz.prog 104) (zE_ Tryz.prog 104) [(0,Value.agg (a8 r.id.l))]=some (.agg (rwC ⟨r.id,0,0⟩).toArray):=by
 have hp:x3_ Tryz.prog 104=some [(0,32),(32,1),(33,1)]:=id (by kernel_rfl)
 rw[hp,zrRw]
 have e0: (rwC rw0).toArray=(([]:List Value)++ ((rw0.id.l.map v8)++ ([vi rw0.place]++ ([vi rw0.spot])))).toArray:=by congr 1<;>simp only[rwC,List.append_assoc,List.nil_append,List.append_nil]
 have q0:wg_ (([]:List Value)++ ((rw0.id.l.map v8)++ ([vi rw0.place]++ ([vi rw0.spot])))).toArray 0 (r.id.l.map v8)=(([]:List Value)++ ((r.id.l.map v8)++ ([vi rw0.place]++ ([vi rw0.spot])))).toArray:=ZR_ _ _ _ _ (by simp) (by simp[rw0.id.h,r.id.h])
 have s0: (([]:List Value)++ ((rw0.id.l.map v8)++ ([vi rw0.place]++ ([vi rw0.spot])))).toArray.size=34:=by simp[r.id.h,rw0.id.h]
 have z0: (Value.cells (Value.agg (a8 r.id.l))).toList=r.id.l.map v8:=by rw[zc_];rfl
 have y0: (Value.cells (Value.agg (a8 r.id.l))).size=32:=by rw[←Array.length_toList,z0];simp[r.id.h]
 have eZ: (([]:List Value)++ ((r.id.l.map v8)++ ([vi rw0.place]++ ([vi rw0.spot])))).toArray=(rwC ⟨r.id,0,0⟩).toArray:=by congr 1
 simp only[qp_]
 rw[e0]
 unfold Sx.fillV
 simp only[List.getElem?_cons_zero,List.getElem?_cons_succ,z0,y0]
 rw[if_pos ⟨trivial,by rw[s0];decide⟩,q0]
 rw[eZ];rfl
def IxD (D:ze_) (bi:Nat) (s:List UInt8) (l:List RwL):Prop:= ∃x,(bi,ixO s x (vg_ l))∈D∧GrI D 104 34 x l.length (l.map rwC).flatten
def IxIn (w:World) (bi:Nat) (s:List UInt8) (l:List RwL):Prop:= ∃x,w.heap[bi]? =some (ixO s x (vg_ l))∧RwSl w x l
theorem IxD.mono {D D':ze_} {bi:Nat} {s:List UInt8} {l:List RwL} (h:IxD D bi s l) (hD: ∀p,p∈D→p∈D'):IxD D' bi s l:=by
 obtain⟨x,h1,h2⟩:=h;exact⟨x,hD _ h1,h2.mono hD⟩
theorem IxD.inW {w0 w:World} {D:ze_} {bi:Nat} {s:List UInt8} {l:List RwL} (h:IxD D bi s l) (hw:Hp w0 D w):IxIn w bi s l:=by
 obtain⟨x,h1,h2⟩:=h;exact⟨x,hw.has _ _ h1,h2.slV hw rfl rfl zw_⟩
theorem IxIn.old {w w':World} {L:ze_} {bi:Nat} {s:List UInt8} {l:List RwL} (h:IxIn w bi s l) (hw:Hp w L w') (hn:New w.heap.size L):IxIn w' bi s l:=by
 obtain⟨x,h1,h2⟩:=h
 exact⟨x,by rw[hw.old bi (Array.getElem?_eq_some_iff.1 h1).1 (hn.not (Array.getElem?_eq_some_iff.1 h1).1)];exact h1,h2.oldN hw hn⟩
theorem afi_ (s:List UInt8) (v1:Value) (F:List Nat) (n:Nat):zs_ (some (false,n)) (some (ixO s v1 F)) 0=some (vs s):=by
 rfl
theorem alg_ (s:List UInt8) (v1:Value) (F:List Nat) (n:Nat):zs_ (some (false,n)) (some (ixO s v1 F)) 1=some v1:=by
 rfl
theorem ajW_ (b:Nat) (s:List UInt8) (a:Nat) (e:Int) (w:World) (ha:a≤s.length) (hs:s.length<9223372036854775808) (ho:w.heap[b]? =some (wrO s a e)):
  Rets Tryz.prog 97 #[vp b 0] w (fun v D=> ∃o,D= [(b,o)]∧v= .agg (a8 (idR s a e).1)∧o=wrO s (idR s a e).2.1 (idR s a e).2.2):=J3_ b s a e w ha hs ho
def ajH_ (b:List UInt8) (v:Value) (D:ze_):Prop:=match agj_ b with
 |some q=> ∃bi,v= .tuple #[vp bi 0,vi 0]∧IxD D bi q.1 q.2
 |none=>v= .tuple #[.pointer none,vi 2]
theorem X5_ (b:List UInt8): (zu_ b).1.length≤b.length:=by
 unfold zu_
 split
 ·simp
 ·split
  ·simp only[List.length_take];omega
  ·simp
theorem ao7_ {s:List UInt8} {a:Nat} {e:Int} (ha:a≤s.length): (idR s a e).2.1≤s.length:=(kG_ ha).2
theorem ans_ {s:List UInt8} {l Z:List RwL} (h:jP_ s l=true) (hZ:rws_SortOf l Z):wd_ s Z=(q9_ (Zu_ s l),0):=by
 have e:Z=l:=hZ.eq (abQ_ (vD_ h).1)
 subst e
 unfold wd_;rw[if_pos h]
theorem amt_ {b s:List UInt8} {l:List RwL} {a:Nat} {e:Int} (h:v4_ (zu_ b).1 id=(s,l,a,e)):agj_ b=if jq_ (zu_ b).1 a e=0∧jP_ s l=true∧q9_ (Zu_ s l)=b then some (s,l) else none:=by
 unfold agj_;rw[h]
theorem abo_ {s:List UInt8} {m:Int}: ∀ (k:Nat) (q:Nat×Int),q.2≠0→Qe_ s m k q=q
 |0,_,_=>rfl
 |k+1,q,h=>by
  unfold Qe_
  rw[ZD_ h]
  exact abo_ k (q.1,q.2) h
theorem ams_ {s:List UInt8} {a:Nat} {e:Int} (h:e≠0): (Wb_ s a e).2=(a,e):=by
 unfold Wb_ numP
 simp only[agA_ h,ZD_ h]
structure OiG where
 k:Nat
 q:Nat×Int
structure OrG where
 l:List RwL
 q:Nat×Int
 v:Value
 D1:ze_
 DG:ze_
set_option linter.defProp false
def zX_:=And.intro (And.intro (And.intro (@zi_) (And.intro (@zh_) (@z7_))) (And.intro (@vb_) (And.intro (@Zg_) (@Qj_)))) (And.intro (And.intro (@Qp_) (And.intro (@jY_) (@aie_))) (And.intro (And.intro (@ajo_) (@Sx.tup2_0)) (And.intro (@Sx.tup2_1) (@afi_))))
theorem ahy_ (b:List UInt8) (w:World) (hC:GlobC w) (hb:b.length<1099511627776):
  Rets Tryz.prog 49 #[vs b] w (XS w [] (ajH_ b)):=by
 refine Rets.enterX Tryz.func49 rfl (rs:= [.tmp 2, .tmp 3]) Tryz.results49 Tryz.ntmps49 (fun p hp=>by cases hp) (by simp[keys]) ?_
 refine kf ?_
 first|with_reducible refine ks [1000021] @zX_ ?_|refine kp @zX_ ?_
 refine Ow.callFV rfl Tryz.call70 (fun w' hw'=>JG_ b w' (hC.newP hw' trivial) (by omega)) ?_
 have hun: (zu_ b).1.length≤b.length:=X5_ b
 unfold ajH_
 obtain⟨r,hr⟩: ∃r,r=v4_ (zu_ b).1 id:=⟨_,rfl⟩
 obtain⟨rs,rl,ra,re⟩:=r
 rw[amt_ hr.symm]
 generalize zu_ b=u at*
 obtain⟨s,ok⟩:=u
 simp only at hun hr ⊢
 refine ko @zX_ ?_
 first|with_reducible refine ks [] @zX_ ?_|refine kp @zX_ ?_
 refine Ow.callF rfl rfl Tryz.call71 (S:=fun B v D=> ∃b',B≤b'∧v=vp b' 0∧D= [(b',wrO s 0 0)]) (fun w' hw'=>wL_ s w') ?_
 rintro B v D hab hB ⟨bw,hbw,rfl,rfl⟩
 have hww:w.heap.size≤bw:=by omega
 refine⟨_,Mrg.fresh (by intro q hq;simp only[keys,List.map_cons,List.map_nil,List.mem_singleton] at hq;omega), ?_⟩
 rw[List.nil_append]
 refine ko @zX_ ?_
 first|with_reducible refine ks [] @zX_ ?_|refine kp @zX_ ?_
 refine Ow.callM rfl rfl Tryz.call94 (by simp[keys]) (fun w' hw'=>V6_ bw s 0 0 8 w' (Nat.zero_le _) (by omega) (hw'.has _ _ List.mem_cons_self)) ?_
 have r1:=kG_ (s:=s) (a:=0) (e:=0) (n:=8) (Nat.zero_le _)
 unfold v4_ at hr
 have hr8: (qD_ s 0 0 8).2.2=0→(qD_ s 0 0 8).1.length=8:=fun h=>(QZ_ (Nat.zero_le _) h).2.1
 generalize qD_ s 0 0 8=p at*
 obtain⟨hd,a1,e1⟩:=p
 simp only at r1 hr hr8 ⊢
 refine kn ?_
 refine ko @zX_ ?_
 first|with_reducible refine ks [] @zX_ ?_|refine kp @zX_ ?_
 refine Ow.callM rfl rfl Tryz.call95 (by simp[keys]) (fun w' hw'=>jG_ bw s a1 e1 200 w' r1.2 (by omega) (hw'.has _ _ List.mem_cons_self)) ?_
 have r2:=zO_ (s:=s) (a:=a1) (e:=e1) (most:=200) r1.2
 have m2:=z9_ (s:=s) (a:=a1) (e:=e1) (most:=200) (by omega)
 have f2:e1≠0→(zr_ s a1 e1 200).2.2≠0:=fun h=>by rw[ZD_ h];exact h
 generalize zr_ s a1 e1 200=p at*
 obtain⟨n0,a2,e2⟩:=p
 simp only at r2 m2 hr f2 ⊢
 obtain⟨n,rfl⟩: ∃n:Nat,n0=(n:Int):=⟨n0.toNat,by omega⟩
 rw[Int.toNat_natCast] at hr
 refine kn ?_
 refine ko @zX_ ?_
 first|with_reducible refine ks [] @zX_ ?_|refine kp @zX_ ?_
 have hrq: (rs,rl,ra,re)=(hd.drop 4,wo_ s n (Qe_ s (n:Int) 16 (a2,e2))):=hr
 clear hr
 refine Cw.loopG (G:=OiG) [27,28,29,30,31,26] (fun g=> [(26,vi g.k)]) (fun g=> [(bw,wrO s g.q.1 g.q.2)]) (fun g=>g.k≤16∧g.q.1≤s.length∧Qe_ s (n:Int) 16 (a2,e2)=Qe_ s (n:Int) (16 - g.k) g.q) (fun g=>16 - g.k) ⟨0,(a2,e2)⟩ rfl rfl ?_ ?_
 ·exact⟨Nat.zero_le _,r2.2,rfl⟩
 intro g j hg
 refine kv ?_
 obtain⟨k,q⟩:=g
 simp only at hg ⊢
 obtain⟨hk,hq,hf⟩:=hg
 by_cases hlt:k<16
 ·have d1:decide ((k:Int)<16)=true:=decide_eq_true (by omega)
  have hf2:Qe_ s (n:Int) (16 - k) q=Qe_ s (n:Int) (16 - (k+1)) (zr_ s q.1 q.2 n).2:=by
   rw[show 16 - k=(16 - (k+1))+1 by omega];rfl
  first|with_reducible refine ks [] (And.intro @zX_ @d1) ?_|refine kp (And.intro @zX_ @d1) ?_
  refine Ow.callM rfl rfl Tryz.call95 (by simp[keys]) (fun w' hw'=>jG_ bw s q.1 q.2 n w' hq (by omega) (hw'.has _ _ List.mem_cons_self)) ?_
  refine kn ?_
  refine ko @zX_ ?_
  first|with_reducible refine ks [] @zX_ ?_|refine kp @zX_ ?_
  exact Again.mk ⟨k+1,(zr_ s q.1 q.2 n).2⟩ (by show 16 - (k+1)<16 - k;omega) ⟨hlt,(zO_ hq).2,hf.trans hf2⟩ rfl rfl
 obtain rfl:k=16:=by omega
 have d1:decide (((16:Nat):Int)<16)=false:=rfl
 have hf3:Qe_ s (n:Int) 16 (a2,e2)=q:=hf
 have g2:q.2=0→e1=0:=fun h=>Decidable.byContradiction fun hh=>by
  have:=abo_ (s:=s) (m:=n) 16 (a2,e2) (f2 hh)
  rw[hf3] at this
  rw[this] at h
  exact f2 hh h
 rw[hf3] at hrq
 clear hf hf3 r2 f2
 obtain⟨q0,hq0⟩: ∃q0,q0=q:=⟨q,rfl⟩
 rw[←hq0] at hrq
 first|with_reducible refine ks [] (And.intro @zX_ @d1) ?_|refine kp (And.intro @zX_ @d1) ?_
 refine Cw.permL (M:=(bw,wrO s q.1 q.2):: ([]++ [])) (List.Perm.refl _) ?_
 refine Cw.loopG (G:=OrG) [34,35,36,37,10,38,39,40,41,42,43,44,45,46,47,9,48,33] (fun g=> [(9,g.v),(33,vi g.l.length)]) (fun g=>(bw,wrO s g.q.1 g.q.2):: (g.D1++g.DG)) (fun g=>g.l.length≤n∧g.q.1≤s.length∧New w.heap.size g.D1∧New w.heap.size g.DG∧Gr g.D1 104 34 g.v g.l.length (g.l.map rwC).flatten∧(g.q.2=0→q.2=0)∧wo_ s n q0=(g.l++ (wo_ s (n - g.l.length) g.q).1,(wo_ s (n - g.l.length) g.q).2)) (fun g=>n - g.l.length) ⟨[],q, .slice none 0 0,[],[]⟩ rfl rfl ?_ ?_
 ·exact⟨Nat.zero_le _,hq,trivial,trivial,Gr.nl,id,by rw[hq0];rfl⟩
 intro g j hg
 refine kv ?_
 obtain⟨l,qq,v,D1,DG⟩:=g
 simp only at hg ⊢
 obtain⟨hln,hqq,hN1,hNG,hG1,hez,hrr⟩:=hg
 by_cases hlt:l.length<n
 ·have d1:decide ((l.length:Int)< (n:Int))=true:=decide_eq_true (by omega)
  obtain⟨a,e⟩:=qq
  have hpr:wo_ s n q0=(l++ [(Wb_ s a e).1]++ (wo_ s (n - (l++ [(Wb_ s a e).1]).length) (Wb_ s a e).2).1,(wo_ s (n - (l++ [(Wb_ s a e).1]).length) (Wb_ s a e).2).2):=by
   rw[hrr,show n - l.length=(n - (l++ [(Wb_ s a e).1]).length)+1 by simp;omega]
   generalize n - (l++ [(Wb_ s a e).1]).length=m
   show(l++ ((Wb_ s a e).1:: (wo_ s m (Wb_ s a e).2).1),(wo_ s m (Wb_ s a e).2).2)=_
   rw[List.append_assoc];rfl
  have herr: (Wb_ s a e).2.2=0→e=0:=fun h=>Decidable.byContradiction fun hh=>by
   rw[ams_ hh] at h;exact hh h
  have hrow:Wb_ s a e=(⟨vc_ (idR s a e).1,(zr_ s (idR s a e).2.1 (idR s a e).2.2 1099511627775).1,(numP s (zr_ s (idR s a e).2.1 (idR s a e).2.2 1099511627775).2).1⟩,(numP s (zr_ s (idR s a e).2.1 (idR s a e).2.2 1099511627775).2).2):=rfl
  have hNr:New w.heap.size ((bw,wrO s a e):: (D1++DG)):=⟨hww,hN1.app hNG⟩
  first|with_reducible refine ks [] (And.intro @zX_ @d1) ?_|refine kp (And.intro @zX_ @d1) ?_
  refine Ow.callM rfl rfl Tryz.call97 (by simp[keys]) (fun w' hw'=>ajW_ bw s a e w' hqq (by omega) (hw'.has _ _ List.mem_cons_self)) ?_
  obtain⟨i,hi⟩: ∃i,i=vc_ (idR s a e).1:=⟨_,rfl⟩
  have hil: (idR s a e).1=i.l:=by rw[hi];exact(kS_ (wK_ s a e)).symm
  have hle1:=ao7_ (e:=e) hqq
  rw[←hi] at hrow
  generalize idR s a e=p at*
  obtain⟨p1,a3,e3⟩:=p
  simp only at hil hrow hle1 ⊢
  subst hil
  clear hi
  refine kn ?_
  refine ko @zX_ ?_
  refine Ow.build (.agg (rwC ⟨i,0,0⟩).toArray) rfl (aeU_ ⟨i,0,0⟩) ?_
  refine ko @zX_ ?_
  refine Ow.alloc rfl rfl zrRw fun b10 hb10 hw10=> ?_
  simp only[zc_,List.nil_append,List.cons_append]
  have h10:bw<b10:=zf_ hb10 (by simp[keys])
  refine Ow.permL (M:=(b10, .cells (rwC rw0).toArray 104 (0,0)):: (bw,wrO s a3 e3):: (D1++DG)) (by classical exact List.perm_iff_count.2 fun a=>by simp only[List.count_append,List.count_cons,List.count_nil]<;>omega) ?_
  refine ko @zX_ ?_
  first|with_reducible refine ks [] @zX_ ?_|refine kp @zX_ ?_
  refine Ow.callM rfl rfl Tryz.call95 (by simp[keys]) (fun w' hw'=>jG_ bw s a3 e3 1099511627775 w' hle1 (by omega) (hw'.has _ _ (List.mem_cons_of_mem _ List.mem_cons_self))) ?_
  have hle2:=(zO_ (e:=e3) (most:=1099511627775) hle1).2
  generalize zr_ s a3 e3 1099511627775=p at*
  obtain⟨x1,a4,e4⟩:=p
  simp only at hrow hle2 ⊢
  refine kn ?_
  refine ko @zX_ ?_
  refine Ow.callM rfl rfl Tryz.call95 (by simp[keys]) (fun w' hw'=>jG_ bw s a4 e4 1099511627775 w' hle2 (by omega) (hw'.has _ _ (List.mem_cons_of_mem _ List.mem_cons_self))) ?_
  have hle3:=(zO_ (e:=e4) (most:=1099511627775) hle2).2
  have hrow2:Wb_ s a e=(⟨i,x1,(zr_ s a4 e4 1099511627775).1⟩,(zr_ s a4 e4 1099511627775).2):=hrow
  clear hrow
  generalize zr_ s a4 e4 1099511627775=p at*
  obtain⟨x2,a5,e5⟩:=p
  simp only at hrow2 hle3 ⊢
  rw[hrow2] at hpr herr
  simp only at hpr herr
  refine kn ?_
  refine ko @zX_ ?_
  first|with_reducible refine ks [] @zX_ ?_|refine kp @zX_ ?_
  generalize (RwL.mk i x1 x2)=r at*
  refine Ow.buildSlice (e:=104) (rwC r).toArray rfl rfl (zR_ Tryz.underlying81 ag6_ zrRw (by decide) (zw_ _)) fun ba hba hwa=> ?_
  refine ko @zX_ ?_
  refine Ow.permL (M:=D1++ ((b10, .cells (rwC r).toArray 104 (0,0)):: (bw,wrO s a5 e5):: (DG++ [(ba, .cells (rwC r).toArray 104 (0,0))]))) (by classical exact List.perm_iff_count.2 fun a=>by simp only[List.count_append,List.count_cons,List.count_nil]<;>omega) ?_
  refine Ow.appendXG (e:=104) (k:=1) (new:=rwC r) (X:=D1) v rfl rfl rfl rfl Tryz.underlying81 ag6_ (by kernel_rfl) zrRw (by rw[z7_,List.size_toArray,zw_]) Tryz.underlying81 (by intro k h;cases h) hG1 (fun w' hw'=>AppX.one1 (hw'.has ba (.cells (rwC r).toArray 104 (0,0)) (by simp)) (zw_ _) (kL_ _)) (by omega) (fun B4 v4 D4 hA4 hB4 hG4 hk41 hk42 hlk4=> ?_)
  have hN4:New w.heap.size D4:=New.of_le fun q hq=>by
   rcases hk42 q hq with h|h
   ·exact hN1.le q h
   ·omega
  refine Ow.permL (M:=(bw,wrO s a5 e5):: (D4++ ((b10, .cells (rwC r).toArray 104 (0,0)):: (DG++ [(ba, .cells (rwC r).toArray 104 (0,0))])))) (by classical exact List.perm_iff_count.2 fun a=>by simp only[List.count_append,List.count_cons,List.count_nil]<;>omega) ?_
  refine ko @zX_ ?_
  first|with_reducible refine ks [] @zX_ ?_|refine kp @zX_ ?_
  have hl1: (l++ [r]).length=l.length+1:=by simp
  refine Again.mk ⟨l++ [r],(a5,e5),v4,D4,(b10, .cells (rwC r).toArray 104 (0,0)):: (DG++ [(ba, .cells (rwC r).toArray 104 (0,0))])⟩ (by show n - (l++ [r]).length<n - l.length;omega) ⟨by show(l++ [r]).length≤n;omega,hle3,hN4,⟨hw10,hNG.app ⟨hwa,trivial⟩⟩,by simpa using hG4,fun h=>hez (herr h),hpr⟩ rfl (by simp only[hl1];rfl)
 ·obtain rfl:n=l.length:=by omega
  have d1:decide ((l.length:Int)< (l.length:Int))=false:=decide_eq_false (by omega)
  rw[Nat.sub_self] at hrr
  rw[hrr] at hrq
  simp only[wo_,List.append_nil,Prod.mk.injEq] at hrq
  obtain⟨hrs,hrl,hq5⟩:=hrq
  have hqa:ra=qq.1:=congrArg Prod.fst hq5
  have hqe:re=qq.2:=congrArg Prod.snd hq5
  rw[hrs,hrl,hqa,hqe]
  clear hrs hrl hqa hqe hq5 hrr
  have hNr:New w.heap.size ((bw,wrO s qq.1 qq.2):: (D1++DG)):=⟨hww,hN1.app hNG⟩
  first|with_reducible refine ks [] (And.intro @zX_ @d1) ?_|refine kp (And.intro @zX_ @d1) ?_
  refine Ow.callFV rfl Tryz.call74 (fun w' hw'=>ki_ bw s qq.1 qq.2 w' (hw'.has _ _ List.mem_cons_self)) ?_
  by_cases he:jq_ s qq.1 qq.2=0
  ·have e1': (jq_ s qq.1 qq.2 !=0)=false:=by rw[he];rfl
   have h8:hd.length=8:=hr8 (g2 (hez (ahF_ he).1))
   have h8':decide ((0:Int)≤4∧(4:Int)≤ (hd.length:Int))=true:=decide_eq_true (by omega)
   refine ko (And.intro @zX_ @e1') ?_
   first|with_reducible refine ks [] @zX_ ?_|refine kp @zX_ ?_
   refine Ow.callC rfl rfl Tryz.call110 (fun w' hw'=>afu_ (hd.drop 4) v l w' ((Gr.i hG1 (fun c hc=>by simp[hc])).slV hw' rfl rfl zw_) (by omega)) (fun B1 v18 D18 hA18 hB18 hN18 hS18=> ?_)
   have hN:New w.heap.size ((bw,wrO s qq.1 qq.2):: (D1++DG)++D18):=New.app (L:=(bw,wrO s qq.1 qq.2):: (D1++DG)) hNr (hN18.mono hB18)
   unfold OfIS at hS18
   by_cases hok:JZ_ l l.length=true
   ·rw[if_pos hok] at hS18
    obtain⟨bi,rfl,hbi⟩:=hS18
    have hri: (decide ((hd.drop 4).length=4)&&decide (l.length≤200))=jP_ (hd.drop 4) l:=by unfold jP_;rw[hok,Bool.true_and]
    rw[hri]
    cases hr:jP_ (hd.drop 4) l with
    |false=>
     rw[if_neg (by simp)]
     refine ko @zX_ ?_
     first|with_reducible refine ks [] @zX_ ?_|refine kp @zX_ ?_
     refine⟨_,(ke @zX_), ?_⟩
     exact⟨Ext.of_new hN,rfl⟩
    |true=>
     refine ko @zX_ ?_
     refine Cw.rebaseX (S1:=fun v D=>v=if q9_ (Zu_ (hd.drop 4) l)=b then .tuple #[vp bi 0,vi 0] else .tuple #[.pointer none,vi 2]) (by rfl) (fun w1 hw1=> ?_) (fun v' D' hD' hv'=> ?_)
     ·have hC1:=hC.newP hw1 hN
      have hb1:w1.heap[bi]? =some (ixO (hd.drop 4) v (vg_ l)):=hw1.has _ _ (by simp[hbi])
      have hv1:RwSl w1 v l:=(Gr.i hG1 (fun c hc=>by simp[hc])).slV hw1 rfl rfl zw_
      obtain⟨-,h4,-⟩:=vD_ hr
      clear hw1
      first|with_reducible refine ks [] (And.intro @zX_ @hb1) ?_|refine kp (And.intro @zX_ @hb1) ?_
      refine Ow.callC rfl rfl Tryz.call42 (fun w' hw'=>Rets.toX (XS_ (hd.drop 4) v l w' (hC1.newP hw' trivial) (hv1.oldN hw' trivial) (by omega) (by omega))) (fun B2 v2 D2 hA2 hB2 hN2 hS2=> ?_)
      obtain⟨rfl,Z,hZ,rfl⟩:=hS2
      rw[ans_ hr hZ,List.append_nil]
      refine ko @zX_ ?_
      by_cases hbb:q9_ (Zu_ (hd.drop 4) l)=b
      ·have d5: (q9_ (Zu_ (hd.drop 4) l) !=b)=false:=bne_eq_false_iff_eq.2 hbb
       rw[if_pos hbb]
       first|with_reducible refine ks [] (And.intro @zX_ @d5) ?_|refine kp (And.intro @zX_ @d5) ?_
       refine⟨_,(ke @zX_), ?_⟩
       exact⟨Ext.refl w1 [],rfl⟩
      ·have d5: (q9_ (Zu_ (hd.drop 4) l) !=b)=true:=bne_iff_ne.2 hbb
       rw[if_neg hbb]
       first|with_reducible refine ks [] (And.intro @zX_ @d5) ?_|refine kp (And.intro @zX_ @d5) ?_
       refine⟨_,(ke @zX_), ?_⟩
       exact⟨Ext.refl w1 [],rfl⟩
     ·refine⟨Ext.of_new (hN.app hD'), ?_⟩
      by_cases hbb:q9_ (Zu_ (hd.drop 4) l)=b
      ·rw[if_pos hbb] at hv'
       rw[if_pos ⟨he,rfl,hbb⟩]
       exact⟨bi,hv',v,(by simp[hbi]),Gr.i hG1 (fun c hc=>by simp[hc])⟩
      ·rw[if_neg hbb] at hv'
       rw[if_neg (fun h=>hbb h.2.2)]
       exact hv'
   ·rw[if_neg hok] at hS18
    subst hS18
    rw[if_neg (fun h=>hok (vD_ h.2.1).1)]
    refine ko @zX_ ?_
    first|with_reducible refine ks [] @zX_ ?_|refine kp @zX_ ?_
    refine⟨_,(ke @zX_), ?_⟩
    exact⟨Ext.of_new hN,rfl⟩
  ·have e1': (jq_ s qq.1 qq.2 !=0)=true:=bne_iff_ne.2 he
   rw[if_neg (fun h=>he h.1)]
   refine ko (And.intro @zX_ @e1') ?_
   first|with_reducible refine ks [] @zX_ ?_|refine kp @zX_ ?_
   refine⟨_,(ke @zX_), ?_⟩
   exact⟨Ext.of_new hNr,rfl⟩
end Go.Proofs
end
section
open Go Go.Proofs Go.Sx Go.Dig
namespace Go.Proofs
set_option maxRecDepth 10000
set_option maxHeartbeats 1000000
set_option linter.unusedSimpArgs false
set_option linter.defProp false
def xE_:=And.intro (@zi_) (@zh_)
theorem amg_ (id:List UInt8) (hid:id.length=32) (w:World):Rets Tryz.prog 114 #[.agg (a8 id)] w (fun v D=>v=vs (hexV id)∧D= []):=by
 refine Rets.enterV Tryz.func114 rfl (rs:= [.tmp 2]) Tryz.results114 Tryz.ntmps114 ?_
 refine kf ?_
 first|with_reducible refine ks [] @xE_ ?_|refine kp @xE_ ?_
 refine Ow.box rfl rfl fun b1 hb1 hw1=> ?_
 refine ko @xE_ ?_
 first|with_reducible refine ks [] @xE_ ?_|refine kp @xE_ ?_
 refine Ow.alloc rfl rfl Tryz.zr223 fun b2 hb2 hw2=> ?_
 refine ko @xE_ ?_
 first|with_reducible refine ks [] @xE_ ?_|refine kp @xE_ ?_
 obtain⟨h12,-⟩:=hb2
 refine Cw.loopG (G:=Nat) [8,9,10,4,5,11,12,13,14,15,16,17,18,19,20,21,22,23,24,7] (fun g=> [(7,vi g)]) (fun g=> [(b1, .cells (a8 id) 37),(b2, .cells (a8 (Jl_ id g)) 223)]) (fun g=>g≤32) (fun g=>32 - g) 0 rfl rfl ?_ ?_
 ·omega
 intro g j hg
 refine kv ?_
 by_cases hlt:g<32
 ·have hl:=QG_ id g hid hg
  first|with_reducible refine ks [] @xE_ ?_|refine kp @xE_ ?_
  have h4:=aor_ (id.getD g 0)
  have h15:=alJ_ (id.getD g 0)
  refine Cw.regionO [0,1,2,3,4,5,6,7,8,9,10,11,12,13,14] [12,14] rfl (by kernel_rfl) (by kernel_rfl) ?_
  simp only[zg_, ↓zd_, ↓zb_, ↓zp_, ↓zq_,za_]
  refine kq @xE_ ?_
  refine Ow.store rfl rfl rfl (ke @xE_) ?_
  refine ko @xE_ ?_
  first|with_reducible refine ks [] @xE_ ?_|refine kp @xE_ ?_
  refine Again.mk (g+1) (by omega) (by omega) ?_ rfl
  exact congrArg (fun l=> [(b1,Obj.cells (a8 id) 37),(b2,Obj.cells (a8 l) 223)]) (ad2_ id g hid hlt _ _ (apy_ _) (anh_ _))
 ·have hg32:g=32:=by omega
  subst hg32
  have hl:=QG_ id 32 hid (by omega)
  first|with_reducible refine ks [] @xE_ ?_|refine kp @xE_ ?_
  exact⟨_,rfl,⟨hw1,hw2,trivial⟩,by show vs _=_;rw[List.drop_zero,List.take_of_length_le (by omega),af8_ id hid]⟩
theorem aak_ (s p:List UInt8) (w:World) (hs:s.length<1099511627776):Rets Tryz.prog 151 #[vs s,vs p] w (fun v D=>v= .bool (decide (p.length≤s.length)&& (s.take p.length==p))∧D= []):=by
 refine Rets.enterV Tryz.func151 rfl (rs:= [.tmp 4]) Tryz.results151 Tryz.ntmps151 ?_
 refine kf ?_
 by_cases h:p.length≤s.length
 ·have e1:decide ((p.length:Int)≤ (s.length:Int))=true:=decide_eq_true (by omega)
  first|with_reducible refine ks [] (And.intro @xE_ @e1) ?_|refine kp (And.intro @xE_ @e1) ?_
  refine⟨_,(ke @xE_),trivial, ?_⟩
  simp[vi_,h]
 ·have e1:decide ((p.length:Int)≤ (s.length:Int))=false:=decide_eq_false (by omega)
  first|with_reducible refine ks [] (And.intro @xE_ @e1) ?_|refine kp (And.intro @xE_ @e1) ?_
  refine⟨_,(ke @xE_),trivial, ?_⟩
  simp[vi_,h]
theorem acf_ (s p:List UInt8) (w:World) (hs:s.length<1099511627776):Rets Tryz.prog 113 #[vs s,vs p] w (fun v D=>v= .bool (decide (p.length≤s.length)&& (s.take p.length==p))∧D= []):=by
 refine Rets.enterV Tryz.func113 rfl (rs:= [.tmp 4]) Tryz.results113 Tryz.ntmps113 ?_
 refine kf ?_
 first|with_reducible refine ks [] @xE_ ?_|refine kp @xE_ ?_
 refine Ow.callFV rfl Tryz.call151 (fun w' hw'=>aak_ s p w' hs) ?_
 refine ko @xE_ ?_
 refine⟨_,(ke @xE_),trivial, ?_⟩
 rfl
end Go.Proofs
end
section
open Go Go.Proofs Go.Sx Go.StP Go.Flo Go.Dig
namespace Go.Proofs
set_option maxRecDepth 10000
set_option maxHeartbeats 400000
set_option linter.unusedSimpArgs false
theorem arD_ (b o:Nat):qO_ Tryz.prog .eql 93 (vp b o) (.pointer none)=some (.bool false):=by
 simp[qO_,eqX,qH_,qI_,Tryz.underlying93,vp]
theorem apZ_:qO_ Tryz.prog .eql 93 (.pointer none) (.pointer none)=some (.bool true):=by
 simp[qO_,eqX,qH_,qI_,Tryz.underlying93]
theorem ap3_ (v:Value) (n:Nat) (E:TypeId) (fz:Nat×Nat):zs_ (some (false,n)) (some (.cells #[v] E fz)) 0=some v:=(rfl)
theorem am2_:Value.cells (.pointer none)= #[.pointer none]:=(rfl)
theorem ak7_ (b o:Nat):Value.cells (vp b o)= #[vp b o]:=(rfl)
theorem apn_ (l:List RwL) {d:Nat} (h:d<16): (vg_ l).getD d 0=Q3_ l d:=by
 unfold vg_
 rw[List.getD_eq_getElem?_getD,List.getElem?_map,List.getElem?_range h];rfl
def bsGo (p:Nat→Bool) (i j:Nat):Nat:=if i<j then(if p ((i+j) / 2)=true then bsGo p i ((i+j) / 2) else bsGo p ((i+j) / 2+1) j) else i
termination_by j - i
decreasing_by all_goals omega
section
variable {P:Program} {w0:World} {f:Fr} {L:ze_} {N:Fr→ze_→Prop} {ops:Array Oper} {rest:List Oper} {md:Md} {d:Option Tmp} {ty:TypeId} {ps:String} {af:Array Edge} {g:Option (Nat×Bool)}
end
structure SrG where
 i:Nat
 j:Nat
set_option linter.defProp false
def asB_:=And.intro (@zi_) (And.intro (@zh_) (@aa6_))
set_option linter.defProp false
def xu_:=And.intro (And.intro (And.intro (And.intro (@zi_) (@zh_)) (And.intro (@ap3_) (@am2_))) (And.intro (And.intro (@ak7_) (@j4_)) (And.intro (@afi_) (And.intro (@alg_) (@arD_))))) (And.intro (And.intro (And.intro (@apZ_) (@vb_)) (And.intro (@Zg_) (@Qj_))) (And.intro (And.intro (@Qp_) (@z7_)) (And.intro (@jY_) (And.intro (@Sx.tup2_0) (@Sx.tup2_1)))))
theorem VN_ (bi:Nat) (s:List UInt8) (l:List RwL) (w:World) (h:IxIn w bi s l) (hl:l.length<1000000):
  Rets Tryz.prog 51 #[vp bi 0] w (XS w [] (fun v D=>GrI D 104 34 v l.length (l.map rwC).flatten)):=by
 obtain⟨x,h1,h2⟩:=id h
 refine Rets.enterX Tryz.func51 rfl (rs:= [.tmp 2]) Tryz.results51 Tryz.ntmps51 (fun p hp=>by cases hp) (by simp[keys]) ?_
 refine kf ?_
 first|with_reducible refine ks [] (And.intro @xu_ @h1) ?_|refine kp (And.intro @xu_ @h1) ?_
 refine Ow.callX (Y:= []) (by simp) rfl rfl Tryz.call107 (fun w' hw' hX hn=>Jx_ x l w' (h2.oldN hw' trivial) hl) (fun v2 D2 hC2 hS2=> ?_)
 rw[List.append_nil]
 refine ko @xu_ ?_
 first|with_reducible refine ks [] @xu_ ?_|refine kp @xu_ ?_
 refine⟨_,(ke @xu_), ?_⟩
 exact⟨Ext.of_new (New.of_le fun c hc=>(hC2.new c hc).elim (fun h=>by cases h) fun h=>h.2),Gr.i hS2 fun p hp=>hp⟩
def askP (l:List RwL) (x:IdL) (from_:Nat) (k:Nat):Bool:=decide (0≤cmpI (l.getD (from_+k) rw0).id x)
theorem ajL_ {w:World} {v:Value} {l:List RwL} {b off:Nat} {arr:Array Value} {E:TypeId} {fz:Nat×Nat} (h:RowS 34 rwC rw0 w v l b off arr E fz) {k:Nat} (hk:k<l.length):v8_ arr (off+k*34) (l.getD k rw0).id.l:=by
 intro j hj
 have hil:=(l.getD k rw0).id.h
 have hj2:j<34:=by rw[hil] at hj;omega
 rw[h.get k hk j hj2]
 generalize l.getD k rw0=r at*
 unfold rwC
 rw[List.getElem?_append_left (by simp only[List.length_map];exact hj),List.getElem?_map,List.getElem?_eq_getElem hj,List.getD_eq_getElem?_getD,List.getElem?_eq_getElem hj]
 rfl
def ab5_ (pre:List UInt8) (r:RwL):Bool:=decide (pre.length≤ (hexV r.id.l).length)&& ((hexV r.id.l).take pre.length==pre)
def kX_ (l:List RwL) (pre:List UInt8):List RwL:=l.filter (ab5_ pre)
structure UnG where
 k:Nat
 v:Value
 D1:ze_
 DG:ze_
theorem ac9_ (bi:Nat) (s:List UInt8) (l:List RwL) (pre:List UInt8) (w:World) (h:IxIn w bi s l) (hl:l.length<1000000):
  Rets Tryz.prog 53 #[vp bi 0,vs pre] w (XS w [] (fun v D=>GrI D 104 34 v (kX_ l pre).length ((kX_ l pre).map rwC).flatten)):=by
 refine Rets.enterX Tryz.func53 rfl (rs:= [.tmp 4]) Tryz.results53 Tryz.ntmps53 (fun p hp=>by cases hp) (by simp[keys]) ?_
 refine kf ?_
 first|with_reducible refine ks [] @xu_ ?_|refine kp @xu_ ?_
 refine Ow.callC rfl rfl Tryz.call51 (fun w' hw'=>VN_ bi s l w' (h.old hw' trivial) hl) (fun B1 v9 D9 hA9 hB9 hN9 hS9=> ?_)
 have hN:New w.heap.size D9:=hN9.mono hB9
 have ln:=ZH_ hS9
 rw[List.nil_append]
 refine ko (And.intro @xu_ @ln) ?_
 refine Cw.world fun w1 hw1=> ?_
 obtain⟨rb,off,arr,E,fz,hr,hlk⟩:=hS9.rowL (z:=rw0) rfl hw1 zw_
 clear hw1 hS9 hN9 hA9 h hB9
 refine Cw.permL (M:=D9++ ([]++ [])) (by simp) ?_
 refine Cw.loopG (G:=UnG) [12,13,14,7,15,16,17,18,19,20,21,22,23,5,24,11] (fun g=> [(5,g.v),(11,vi g.k)]) (fun g=>D9++ (g.D1++g.DG)) (fun g=>g.k≤l.length∧New w.heap.size g.D1∧New w.heap.size g.DG∧Gr g.D1 104 34 g.v (kX_ (l.take g.k) pre).length ((kX_ (l.take g.k) pre).map rwC).flatten) (fun g=>l.length - g.k) ⟨0, .slice none 0 0,[],[]⟩ rfl rfl ?_ ?_
 ·exact⟨Nat.zero_le _,trivial,trivial,Gr.nl⟩
 intro g j hg
 refine kv ?_
 obtain⟨k,v,D1,DG⟩:=g
 simp only at hg ⊢
 obtain⟨hk,hN1,hNG,hG1⟩:=hg
 by_cases hlt:k<l.length
 ·have d1:decide ((k:Int)< (l.length:Int))=true:=decide_eq_true (by omega)
  have ix:=hr.idx true k hlt
  have ld:=hr.load zw_ (by omega) hlt
  have rd:zA_ w (D9++ (D1++DG)) rb=some (.cells arr E fz):=z6_ (qR_ (hlk (by omega)))
  have hus:kX_ (l.take (k+1)) pre=kX_ (l.take k) pre++ (if ab5_ pre (l.getD k rw0)=true then [l.getD k rw0] else []):=by
   unfold kX_
   rw[StP.take_snoc (z:=rw0) hlt,List.filter_append,List.filter_cons,List.filter_nil]
  have hml: (kX_ (l.take k) pre).length≤k:=Nat.le_trans (List.length_filter_le _ _) (by rw[List.length_take];omega)
  generalize l.getD k rw0=r at*
  first|with_reducible refine ks [7] (And.intro @xu_ (And.intro @d1 (And.intro @ix (And.intro @rd (@ld))))) ?_|refine kp (And.intro @xu_ (And.intro @d1 (And.intro @ix (And.intro @rd (@ld))))) ?_
  refine Ow.alloc rfl rfl zrRw fun b7 hb7 hw7=> ?_
  simp only[zc_,List.nil_append,List.cons_append]
  refine Ow.permL (M:=(b7, .cells (rwC rw0).toArray 104 (0,0)):: (D9++ (D1++DG))) (by classical exact List.perm_iff_count.2 fun a=>by simp only[List.count_append,List.count_cons,List.count_nil]<;>omega) ?_
  refine ko @xu_ ?_
  first|with_reducible refine ks [] @xu_ ?_|refine kp @xu_ ?_
  refine Ow.callFV rfl Tryz.call114 (fun w' hw'=>amg_ r.id.l r.id.h w') ?_
  refine ko @xu_ ?_
  refine Ow.callFV rfl Tryz.call113 (fun w' hw'=>acf_ (hexV r.id.l) pre w' (by rw[ZZ_,r.id.h];omega)) ?_
  have hub: (decide (pre.length≤ (hexV r.id.l).length)&& ((hexV r.id.l).take pre.length==pre))=ab5_ pre r:=rfl
  rw[hub]
  cases hc:ab5_ pre r with
  |true=>
   rw[hc,if_pos rfl] at hus
   refine ko @xu_ ?_
   first|with_reducible refine ks [] @xu_ ?_|refine kp @xu_ ?_
   refine Ow.buildSlice (e:=104) (rwC r).toArray rfl rfl (zR_ Tryz.underlying81 ag6_ zrRw (by decide) (zw_ _)) fun ba hba hwa=> ?_
   refine ko @xu_ ?_
   refine Ow.permL (M:=D1++ ((b7, .cells (rwC r).toArray 104 (0,0)):: (DG++ ((ba, .cells (rwC r).toArray 104 (0,0))::D9)))) (by classical exact List.perm_iff_count.2 fun a=>by simp only[List.count_append,List.count_cons,List.count_nil]<;>omega) ?_
   refine Ow.appendXG (e:=104) (k:=1) (new:=rwC r) (X:=D1) v rfl rfl rfl rfl Tryz.underlying81 ag6_ (by kernel_rfl) zrRw (by rw[z7_,List.size_toArray,zw_]) Tryz.underlying81 (by intro k h;cases h) hG1 (fun w' hw'=>AppX.one1 (hw'.has ba (.cells (rwC r).toArray 104 (0,0)) (by simp)) (zw_ _) (kL_ _)) (by omega) (fun B4 v4 D4 hA4 hB4 hG4 hk41 hk42 hlk4=> ?_)
   have hN4:New w.heap.size D4:=New.of_le fun q hq=>by
    rcases hk42 q hq with h|h
    ·exact hN1.le q h
    ·omega
   refine ko @xu_ ?_
   refine Cw.permL (M:=D9++ (D4++ ((b7, .cells (rwC r).toArray 104 (0,0)):: (DG++ [(ba, .cells (rwC r).toArray 104 (0,0))])))) (by classical exact List.perm_iff_count.2 fun a=>by simp only[List.count_append,List.count_cons,List.count_nil]<;>omega) ?_
   first|with_reducible refine ks [] @xu_ ?_|refine kp @xu_ ?_
   refine Again.mk ⟨k+1,v4,D4,(b7, .cells (rwC r).toArray 104 (0,0)):: (DG++ [(ba, .cells (rwC r).toArray 104 (0,0))])⟩ (by show l.length - (k+1)<l.length - k;omega) ⟨hlt,hN4,⟨hw7,hNG.app ⟨hwa,trivial⟩⟩, ?_⟩ rfl rfl
   show Gr D4 104 34 v4 (kX_ (l.take (k+1)) pre).length ((kX_ (l.take (k+1)) pre).map rwC).flatten
   rw[hus,List.length_append,show [r].length=1 from rfl]
   simpa only[List.map_append,List.map_cons,List.map_nil,List.flatten_append,List.flatten_cons,List.flatten_nil,List.append_nil] using hG4
  |false=>
   rw[hc,if_neg (by simp),List.append_nil] at hus
   refine ko @xu_ ?_
   refine Cw.permL (M:=D9++ (D1++ ((b7, .cells (rwC r).toArray 104 (0,0))::DG))) (by classical exact List.perm_iff_count.2 fun a=>by simp only[List.count_append,List.count_cons,List.count_nil]<;>omega) ?_
   first|with_reducible refine ks [] @xu_ ?_|refine kp @xu_ ?_
   refine Again.mk ⟨k+1,v,D1,(b7, .cells (rwC r).toArray 104 (0,0))::DG⟩ (by show l.length - (k+1)<l.length - k;omega) ⟨hlt,hN1,⟨hw7,hNG⟩, ?_⟩ rfl rfl
   show Gr D1 104 34 v (kX_ (l.take (k+1)) pre).length ((kX_ (l.take (k+1)) pre).map rwC).flatten
   rw[hus];exact hG1
 ·obtain rfl:k=l.length:=by omega
  have d1:decide ((l.length:Int)< (l.length:Int))=false:=decide_eq_false (by omega)
  rw[List.take_length] at hG1
  first|with_reducible refine ks [] (And.intro @xu_ @d1) ?_|refine kp (And.intro @xu_ @d1) ?_
  refine⟨_,(ke @xu_), ?_⟩
  exact⟨Ext.of_new (hN.app (hN1.app hNG)),Gr.i hG1 fun p hp=>by simp[hp]⟩
end Go.Proofs
end
section
open Go Go.Proofs Go.Sx Go.StP Go.Flo
namespace Go.Proofs
set_option maxRecDepth 10000
set_option maxHeartbeats 400000
set_option linter.unusedSimpArgs false
structure SvG where
 k:Nat
 out:List ObL
 v6:Value
 D6:ze_
 DG:ze_
set_option linter.defProp false
def atd_:=And.intro (And.intro (And.intro (@zi_) (@zh_)) (And.intro (@aai_) (And.intro (@aap_) (@W9_)))) (And.intro (And.intro (@Sx.tup2_0) (And.intro (@Sx.tup2_1) (@ja_))) (And.intro (@qs_) (And.intro (@qt_) (@qB_))))
end Go.Proofs
end
section
open Go Go.Proofs Go.Sx Go.StP Go.Flo
namespace Go.Proofs
set_option maxRecDepth 10000
set_option maxHeartbeats 400000
set_option linter.unusedSimpArgs false
def aqz_:Nat→List PartL→Nat→Nat
 |_,[],_=>0
 |i,p::r,j=>if(vx_ i p).length≤j then aqz_ (i+1) r (j - (vx_ i p).length)+1 else 0
def endG (a i:Nat) (l:List PartL) (k:Nat):Nat:=a+ (ji_ i (l.take (k+1))).length
theorem abs_: ∀ (ts:List (List UInt8)) (ids:List IdL) (os:List ObL) (q:List IdL×List ObL),qM_ ts ids os=some q→q=(ids++ts.map je_,os++ts.map zt_)∧ ∀k,k<ts.length→Jt_ (ts.getD k [])=true∧ ∀y,y∈ids++ (ts.take k).map je_→(je_ (ts.getD k [])).l≠y.l
 | [],ids,os,q,h=>by cases h;exact⟨by simp,fun k hk=>absurd hk (Nat.not_lt_zero _)⟩
 |s::r,ids,os,q,h=>by
  rw[qM_] at h
  split at h
  ·rename_i hc
   obtain⟨h1,h2⟩:=abs_ r _ _ q h
   refine⟨by rw[h1];simp, ?_⟩
   intro k hk
   cases k with
   |zero=>
    refine⟨hc.1,fun y hy=> ?_⟩
    simp only[List.take_zero,List.map_nil,List.append_nil] at hy
    have:=(List.any_eq_false.1 hc.2) y hy
    simpa using this
   |succ k=>
    have:=h2 k (by simpa using hk)
    refine⟨this.1,fun y hy=>this.2 y ?_⟩
    simpa using hy
  ·cases h
theorem ago_ {l:List PartL} {q:List IdL×List ObL} (h:fillV l=some q):q.2.length=l.length∧q.1.length=l.length∧ ∀k,k≤l.length→Xo_ l k=q.2.take k:=by
 unfold fillV at h
 cases ha:ZC_ l with
 |error e=>rw[ha] at h;cases h
 |ok ts=>
  rw[ha] at h
  change qM_ ts [] []=some q at h
  obtain⟨h1,h2⟩:=abs_ _ _ _ _ h
  simp only[List.nil_append] at h1 h2
  subst h1
  unfold ZC_ at ha
  split at ha
  ·cases ha
  ·have hlen:=wp_ _ _ ha
   refine⟨by simp[hlen],by simp[hlen], ?_⟩
   intro k
   induction k with
   |zero=>intro _;rfl
   |succ k ih=>
    intro hk
    have hp:=vQ_ _ _ ha k (by omega)
    obtain⟨hf,hn⟩:=h2 k (by omega)
    unfold Xo_
    rw[hp]
    simp only
    rw[ih (by omega)]
    have hno:zt_ (ts.getD k [])∉ (ts.map zt_).take k:=by
     intro hm
     rw[←List.map_take] at hm
     obtain⟨s,hs,he⟩:=List.mem_map.1 hm
     refine hn (je_ s) (List.mem_map.2 ⟨s,hs,rfl⟩) ?_
     unfold je_
     rw[he]
    rw[if_pos ⟨hf,hno⟩]
    have hk':k< (ts.map zt_).length:=by rw[List.length_map];omega
    rw[take_snoc (z:=ob0) hk']
    congr 2
    rw[List.getD_eq_getElem?_getD,List.getD_eq_getElem?_getD,List.getElem?_map,List.getElem?_eq_getElem (by omega)]
    rfl
end Go.Proofs
end
section
open Go Go.Proofs Go.Sx Go.StP Go.Flo
namespace Go.Proofs
set_option maxRecDepth 10000
set_option maxHeartbeats 400000
set_option linter.unusedSimpArgs false
def sumX (l:List PartL):Nat:=(l.map fun p=>p.x.length).sum
def sumW (l:List PartL):Nat→Int
 |0=>0
 |k+1=>IntKind.i64.wrap (sumW l k+ (l.getD k z5_).x.length)
def asa_ (l:List PartL):Bool:=decide (210<l.length) || (List.range l.length).any fun k=>decide (30000<sumW l (k+1))
set_option linter.defProp false
def as8_:=And.intro (And.intro (@zi_) (And.intro (@zh_) (@jJ_))) (And.intro (And.intro (@jF_) (@jB_)) (And.intro (@Ze_) (@aou_)))
end Go.Proofs
end
section
open Go Go.Proofs Go.Sx Go.StP Go.Flo
namespace Go.Proofs
set_option maxRecDepth 10000
set_option maxHeartbeats 400000
set_option linter.unusedSimpArgs false
def abS:List UInt8:= [98,2,97,98]
def abP:PartL:=⟨false,0,abS⟩
theorem ab_read:Jt_ abS=true∧zt_ abS=⟨1,[97,98]⟩:=by
 have h:Jt_ abS=true:=by decide
 refine⟨h, ?_⟩
 unfold zt_
 rw[if_pos h,if_pos h]
 decide
theorem ahZ_:fillV [abP]=some ([je_ abS],[⟨1,[97,98]⟩]):=by
 unfold fillV
 rw[show ZC_ [abP]= .ok [abS] from rfl]
 show qM_ [abS] [] []=_
 rw[qM_,if_pos ⟨ab_read.1,rfl⟩,qM_,ab_read.2]
 rfl
theorem ana_: ∀p,p∈ [abP]→p.x.length≤65536:=by
 intro p hp;rw[List.mem_singleton] at hp;subst hp;decide
theorem aqF_: (q9_ (w0_ [abP])).length=15:=by
 have h1:qP_ (zz_ (([abP].length:Nat):Int))= [1]:=by rw[show zz_ (([abP].length:Nat):Int)=1 from rfl,qK_ (by decide)];rfl
 have h2:qP_ (zz_ (JK_ 0 abP))= [0]:=by rw[show zz_ (JK_ 0 abP)=0 from rfl,qK_ (by decide)];rfl
 have h3:qP_ (zz_ ((abS.length:Nat):Int))= [4]:=by rw[show zz_ ((abS.length:Nat):Int)=4 from rfl,qK_ (by decide)];rfl
 have h4:xi_ abP.x= [4]++abS:=by show qP_ (zz_ ((abS.length:Nat):Int))++abS=_;rw[h3]
 rw[QE_]
 unfold w0_ ji_ ji_ vx_
 rw[h1,h2,h4]
 rfl
theorem art_ (k k':Int) (t t':List UInt8):qO_ Tryz.prog .eql 43 (obV k t) (obV k' t')=some (.bool (decide ((⟨k,t⟩:ObL)=⟨k',t'⟩))):=apW_ ⟨k,t⟩ ⟨k',t'⟩
theorem ak9_ {w:World} {b:Nat} {p:PartL} (h:w.heap[b]? =some (.cells (zv_ p).toArray 114 (0,0))):k3_ w (vsl b 0 1 1) [p]:=
 SlV.sl (l:= [p]) h (fun k hk j hj=>by
  obtain rfl:k=0:=by simpa using hk
  rw[Nat.zero_mul,Nat.zero_add,List.getElem?_toArray];rfl) (Nat.le_refl 1) (Nat.le_refl 3)
set_option linter.defProp false
def asN_:=And.intro (And.intro (And.intro (@zi_) (@zh_)) (And.intro (@Sx.tup2_0) (And.intro (@Sx.tup2_1) (@ja_)))) (And.intro (And.intro (@qs_) (@qt_)) (And.intro (@qB_) (And.intro (@art_) (@qf_))))
end Go.Proofs
end
section
open Go Go.Proofs Go.Sx Go.StP Go.Flo
namespace Go.Proofs
set_option maxRecDepth 10000
set_option maxHeartbeats 400000
set_option linter.unusedSimpArgs false
theorem ZY_ {b:List UInt8} {l:List PartL} {sp:List Nat} {q:List IdL×List ObL} (h:vP_ b=some (l,sp,q)):SmallP l∧l.length≤200∧sp.length=l.length∧q.1.length=l.length∧q.2.length=l.length:=by
 unfold vP_ at h
 split at h
 ·rename_i hc
  have h1:=ZT_ (zu_ b).1
  have h2:=XP_ (zu_ b).1
  cases hf:fillV (jI_ (zu_ b).1).1 with
  |none=>rw[hf] at h;cases h
  |some q'=>
   rw[hf] at h
   cases h
   obtain⟨h3,h4,-⟩:=ago_ hf
   exact⟨h1,h2.1,h2.2,h4,h3⟩
 ·cases h
set_option linter.defProp false
def asX_:=And.intro (And.intro (@zi_) (@zh_)) (And.intro (@Sx.tup2_0) (@Sx.tup2_1))
end Go.Proofs
end
section
open Go Go.Proofs Go.Sx Go.StP Go.Flo
namespace Go.Proofs
set_option maxRecDepth 10000
set_option maxHeartbeats 400000
set_option linter.unusedSimpArgs false
def x9_ (sp:List Nat) (ids:List IdL):List RwL:=(List.range ids.length).map fun i=>⟨ids.getD i id0,(i:Int),(sp.getD i 0:Nat)⟩
theorem ws_ (sp:List Nat) (ids:List IdL): (x9_ sp ids).length=ids.length:=by simp[x9_]
theorem Z4_ (sp:List Nat) (ids:List IdL) {k:Nat} (h:k<ids.length): (x9_ sp ids).getD k rw0=⟨ids.getD k id0,(k:Int),(sp.getD k 0:Nat)⟩:=by
 unfold x9_
 rw[List.getD_eq_getElem?_getD,List.getElem?_map,List.getElem?_range h];rfl
def ahI_ (b:List UInt8) (v:Value):Prop:=match vP_ b with
 |none=>v= .tuple #[vs [],vi 2]
 |some q=> ∃Z,rws_SortOf (x9_ q.2.1 q.2.2.1) Z∧v= .tuple #[vs (wd_ (b.drop (b.length - 4)) Z).1,vi (wd_ (b.drop (b.length - 4)) Z).2]
theorem XQ_ {b:List UInt8} {q:List PartL×List Nat×List IdL×List ObL} (h:vP_ b=some q):4≤b.length:=by
 unfold vP_ at h
 split at h
 ·rename_i hc
  have:=WQ_ hc.1
  rw[←this,QE_];omega
 ·cases h
structure MkG where
 k:Nat
 v:Value
 D:ze_
set_option linter.defProp false
def x1_:=And.intro (And.intro (@zi_) (@zh_)) (And.intro (@Sx.tup2_0) (@Sx.tup2_1))
theorem VR_ (b:List UInt8) (w:World) (hG:GlobE w) (hC:GlobC w) (hb:b.length<1099511627776):
  Rets Tryz.prog 47 #[vs b] w (fun v D=>ahI_ b v∧D= []):=by
 refine Rets.enterV Tryz.func47 rfl (rs:= [.tmp 2, .tmp 3]) Tryz.results47 Tryz.ntmps47 ?_
 refine kf ?_
 first|with_reducible refine ks [1000004] @x1_ ?_|refine kp @x1_ ?_
 refine Ow.callC rfl rfl Tryz.call17 (fun w' hw'=>agc_ b w' (hG.new hw' trivial) (hC.newP hw' trivial) hb) (fun B1 v1 D1 hA1 hB1 hN1 hS1=> ?_)
 have hD1:New w.heap.size D1:=hN1.mono hB1
 rw[List.nil_append]
 unfold apD_ at hS1
 unfold ahI_
 cases hop:vP_ b with
 |none=>
  rw[hop] at hS1
  have hS1':v1= .tuple #[.pointer none,vi 2]:=hS1
  subst hS1'
  refine ko @x1_ ?_
  first|with_reducible refine ks [] @x1_ ?_|refine kp @x1_ ?_
  refine⟨_,(ke @x1_),hD1, ?_⟩
  rfl
 |some q=>
  obtain⟨l,sp,q⟩:=q
  rw[hop] at hS1
  obtain⟨bp,rfl,hP⟩:=hS1
  simp only at hP
  obtain⟨hs1,hs2,hs3,hs4,hs5⟩:=ZY_ hop
  have hb4:=XQ_ hop
  obtain⟨ids,os⟩:=q
  simp only at hP hs3 hs4 hs5 ⊢
  have hrl:=ws_ sp ids
  refine ko @x1_ ?_
  refine Cw.rebaseV hD1 (by rfl) fun w1 hw1=> ?_
  have hP1:=hP.inW (fun q hq=>hq) hw1
  have hC1:=hC.newP hw1 hD1
  clear hw1 hP hD1 hN1
  first|with_reducible refine ks [] @x1_ ?_|refine kp @x1_ ?_
  refine Ow.callFV rfl Tryz.call20 (fun w' hw'=>acn_ bp l sp ids os w' (hP1.old hw' trivial)) ?_
  refine ko @x1_ ?_
  refine Cw.loopG (G:=MkG) [19,20,7,21,22,23,24,25,26,27,28,29,30,31,6,32,18] (fun g=> [(6,g.v),(18,vi g.k)]) (fun g=>g.D) (fun g=>g.k≤l.length∧Ext w1 [] g.D∧Gr g.D 104 34 g.v g.k (((x9_ sp ids).take g.k).map rwC).flatten) (fun g=>l.length - g.k) ⟨0, .slice none 0 0,[]⟩ rfl rfl ?_ ?_
  ·exact⟨Nat.zero_le _,Ext.refl w1 [],Gr.nl⟩
  intro g j hg
  refine kv ?_
  obtain⟨k,v,D⟩:=g
  simp only at hg ⊢
  obtain⟨hk,hE,hGr⟩:=hg
  have hN:=hE.new0
  by_cases hlt:k<l.length
  ·have d1:decide ((k:Int)< (l.length:Int))=true:=decide_eq_true (by omega)
   have hh:hasV l (k:Int)=true:=by unfold hasV;rw[d1,Bool.and_true];exact decide_eq_true (by omega)
   have hra:=Z4_ sp ids (show k<ids.length by omega)
   first|with_reducible refine ks [] (And.intro @x1_ @d1) ?_|refine kp (And.intro @x1_ @d1) ?_
   refine Ow.callFV rfl Tryz.call22 (fun w' hw'=>amT_ bp (k:Int) l sp ids os w' (hP1.old hw' hN) (by omega)) ?_
   rw[hh,if_pos rfl,Int.toNat_natCast]
   refine ko @x1_ ?_
   refine Ow.callFV rfl Tryz.call23 (fun w' hw'=>ahw_ bp (k:Int) l sp ids os w' (hP1.old hw' hN) hs3) ?_
   rw[hh,if_pos rfl,Int.toNat_natCast]
   refine ko @x1_ ?_
   refine Ow.build (.agg (rwC ((x9_ sp ids).getD k rw0)).toArray) rfl (by rw[hra];exact anr_ ⟨ids.getD k id0,(k:Int),(sp.getD k 0:Nat)⟩) ?_
   refine ko @x1_ ?_
   refine Ow.buildSlice (e:=104) (rwC ((x9_ sp ids).getD k rw0)).toArray rfl rfl (zR_ Tryz.underlying81 ag6_ zrRw (by decide) (zw_ _)) fun b6 hb6 hw6=> ?_
   refine ko @x1_ ?_
   refine Ow.appendG (e:=104) (k:=1) (new:=rwC ((x9_ sp ids).getD k rw0)) v rfl rfl rfl Tryz.underlying81 ag6_ (by kernel_rfl) zrRw (by rw[z7_,List.size_toArray,zw_]) Tryz.underlying81 (by intro k h;cases h) hGr.app (fun w' hw'=>AppX.one1 (hw'.has _ _ (List.mem_append_right _ List.mem_cons_self)) (zw_ _) (kL_ _)) (by show(rwC _).length=1*34;rw[zw_]) (by omega) (fun v3 L3 hB3 _ hg3 hs3=> ?_)
   have hE3:=(hE.app (o:= .cells (rwC ((x9_ sp ids).getD k rw0)).toArray 104 (0,0)) hw6).grew hg3
   refine ko @x1_ ?_
   first|with_reducible refine ks [] @x1_ ?_|refine kp @x1_ ?_
   refine Again.mk ⟨k+1,v3,L3⟩ (by show l.length - (k+1)<l.length - k;omega) ⟨hlt,hE3, ?_⟩ rfl rfl
   show Gr L3 104 34 v3 (k+1) (((x9_ sp ids).take (k+1)).map rwC).flatten
   rw[StP.take_snoc (z:=rw0) (by omega)]
   simpa only[List.map_append,List.map_cons,List.map_nil,List.flatten_append,List.flatten_cons,List.flatten_nil,List.append_nil] using hB3
  ·obtain rfl:k=l.length:=by omega
   have d1:decide ((l.length:Int)< (l.length:Int))=false:=decide_eq_false (by omega)
   rw[List.take_of_length_le (by omega)] at hGr
   have e4: (b.length:Int) - 4=((b.length - 4:Nat):Int):=by omega
   first|with_reducible refine ks [] (And.intro @x1_ (And.intro @d1 (@e4))) ?_|refine kp (And.intro @x1_ (And.intro @d1 (@e4))) ?_
   have hdl: (b.drop (b.length - 4)).length<1099511627776:=by rw[List.length_drop];omega
   refine Ow.callC rfl rfl Tryz.call42 (fun w' hw'=>Rets.toX (XS_ (b.drop (b.length - 4)) v (x9_ sp ids) w' (hC1.newP hw' hN) (hGr.slV hw' (by omega) rfl zw_) (by omega) hdl)) (fun B2 v2 D2 hA2 hB2 hN2 hS2=> ?_)
   obtain⟨rfl,Z,hZ,rfl⟩:=hS2
   rw[List.append_nil]
   refine ko @x1_ ?_
   first|with_reducible refine ks [] @x1_ ?_|refine kp @x1_ ?_
   refine⟨_,(ke @x1_),hN, ?_⟩
   exact⟨Z,hZ,rfl⟩
end Go.Proofs
end
section
open Go Go.Proofs Go.Sx Go.StP Go.Flo Go.Dig
namespace Go.Proofs
set_option maxRecDepth 10000
set_option maxHeartbeats 400000
set_option linter.unusedSimpArgs false
def aiR:RwL:=⟨je_ abS,0,5⟩
theorem apN_ (s:List UInt8) (h:s.length=4):jP_ s [aiR]=true:=by
 unfold jP_
 rw[h]
 rfl
theorem amc_ {r:RwL} {Z:List RwL} (h:rws_SortOf [r] Z):Z= [r]:=h.eq ⟨rfl,List.pairwise_singleton _ _,StP.St.refl _ _⟩
theorem alk_: (kX_ [aiR] [])= [aiR]:=by
 unfold kX_
 rw[List.filter_cons,List.filter_nil,if_pos]
 unfold ab5_
 rw[List.length_nil,List.take_zero]
 simp
set_option linter.defProp false
def wi_:=And.intro (And.intro (@zi_) (@zh_)) (And.intro (@Sx.tup2_0) (And.intro (@Sx.tup2_1) (@qf_)))
theorem v3_ (w:World) (hG:GlobE w) (hC:GlobC w):Rets Tryz.prog 41 #[] w (fun v D=>v= .bool true∧D= []):=by
 have hop:vP_ (q9_ (w0_ [abP]))=some ([abP],_,_):=agy_ ahZ_ ana_
 have hal:=aqF_
 have hwv:aa4_ [abP]=(q9_ (w0_ [abP]),0):=by unfold aa4_;rw[ahZ_]
 generalize q9_ (w0_ [abP])=b at*
 have hsp:x9_ (Xg_ 0 (4+ (qP_ [abP].length).length) [abP]) [je_ abS]= [aiR]:=by
  show [RwL.mk (je_ abS) 0 _]=_
  rw[show qP_ [abP].length= [1] from by rw[show [abP].length=1 from rfl,qK_ (by decide)];rfl]
  rfl
 have hdl: (b.drop (b.length - 4)).length=4:=by rw[List.length_drop];omega
 have hri:=apN_ (b.drop (b.length - 4)) hdl
 have hoi:=adl_ hri
 have hwi:wd_ (b.drop (b.length - 4)) [aiR]=(q9_ (Zu_ (b.drop (b.length - 4)) [aiR]),0):=by unfold wd_;rw[if_pos hri]
 have hil: (q9_ (Zu_ (b.drop (b.length - 4)) [aiR])).length<1000000:=by
  have h1:=Qa_ [aiR] 1 (by decide)
  have h2:=zm_ (([aiR].length:Nat):Int)
  have h3:=Qt_ (Jg_ (vg_ [aiR]))
  rw[vF_,J2_] at h3
  rw[List.take_of_length_le (by decide)] at h1
  rw[QE_]
  unfold Zu_ xY_
  rw[List.length_append,List.length_append,List.length_append,List.length_append,hdl,show magI.length=4 from rfl]
  omega
 refine Rets.enterV Tryz.func41 rfl (rs:= [.tmp 0]) Tryz.results41 Tryz.ntmps41 ?_
 refine kf ?_
 first|with_reducible refine ks [] @wi_ ?_|refine kp @wi_ ?_
 refine Ow.build (.agg (zv_ abP).toArray) rfl (ZG_ abS) ?_
 refine ko @wi_ ?_
 refine Ow.buildSlice (e:=114) (zv_ abP).toArray rfl rfl (by kernel_rfl) fun b10 hb10 hw10=> ?_
 refine ko @wi_ ?_
 have hN10:New w.heap.size [(b10,Obj.cells (zv_ abP).toArray 114 (0,0))]:=⟨hw10,trivial⟩
 refine Ow.callFV rfl Tryz.call14 (fun w' hw'=>aes_ (vsl b10 0 1 1) [abP] w' (ak9_ (hw'.has b10 _ List.mem_cons_self)) (hG.new hw' hN10) (hC.newP hw' hN10) (fun g hg=>by obtain rfl:g=0:=(by simpa using hg);decide) (by decide)) ?_
 rw[hwv]
 refine ko @wi_ ?_
 first|with_reducible refine ks [] @wi_ ?_|refine kp @wi_ ?_
 refine Ow.callC rfl rfl Tryz.call47 (fun w' hw'=>Rets.toX (VR_ b w' (hG.new hw' hN10) (hC.newP hw' hN10) (by omega))) (fun B1 v1 D1 hA1 hB1 hN1 hS1=> ?_)
 obtain⟨rfl,hS1⟩:=hS1
 unfold ahI_ at hS1
 rw[hop] at hS1
 obtain⟨Z,hZ,rfl⟩:=hS1
 simp only at hZ
 rw[hsp] at hZ
 obtain rfl:=amc_ hZ
 rw[hwi,List.append_nil]
 generalize q9_ (Zu_ (b.drop (b.length - 4)) [aiR])=s at*
 refine ko @wi_ ?_
 first|with_reducible refine ks [] @wi_ ?_|refine kp @wi_ ?_
 refine Ow.callC rfl rfl Tryz.call49 (fun w' hw'=>ahy_ s w' (hC.newP hw' hN10) (by omega)) (fun B2 v2 D2 hA2 hB2 hN2 hS2=> ?_)
 unfold ajH_ at hS2
 rw[hoi] at hS2
 obtain⟨bi,rfl,hI⟩:=hS2
 simp only at hI
 have hN:=hN10.app (hN2.mono hB2)
 refine ko @wi_ ?_
 first|with_reducible refine ks [] @wi_ ?_|refine kp @wi_ ?_
 refine Ow.callC rfl rfl Tryz.call51 (fun w' hw'=>VN_ bi _ [aiR] w' ((hI.mono (fun q hq=>by simp[hq])).inW hw') (by decide)) (fun B3 v3 D3 hA3 hB3 hN3 hS3=> ?_)
 have hN':=hN.app (hN3.mono hB3)
 refine Ow.world fun w1 hw1=> ?_
 obtain⟨rb,off,arr,E,fz,hr,hlk⟩:=(hS3.mono (D':=(b10,Obj.cells (zv_ abP).toArray 114 (0,0)):: (D2++D3)) (fun q hq=>by simp[hq])).rowL (z:=rw0) rfl hw1 zw_
 have rd:=z6_ (w0:=w) (hlk (by decide))
 have ln:=ZH_ hS3
 have ix:qa_ (.sl (true,34)) v3 (some 0)=some (vp rb off):=by simpa using hr.idx true 0 (by decide)
 have ld: ∀n,zs_ (some (false,n)) (some (.cells arr E fz)) (off+33)=some (vi 5):=fun n=>by simpa [aiR] using ajz_ hr (k:=0) (by decide) n
 have e1: ((([aiR].length:Nat):Int)==1)=true:=rfl
 have e5: ((5:Int)==5)=true:=rfl
 refine ko (And.intro @wi_ (And.intro @ln (And.intro @ix (And.intro @rd (And.intro @ld (And.intro @e1 (@e5))))))) ?_
 refine Ow.callC rfl rfl Tryz.call53 (fun w' hw'=>ac9_ bi _ [aiR] [] w' ((hI.mono (fun q hq=>by simp[hq])).inW hw') (by decide)) (fun B4 v4 D4 hA4 hB4 hN4 hS4=> ?_)
 rw[alk_] at hS4
 have ln4:=ZH_ hS4
 refine ko (And.intro @wi_ (And.intro @ln4 (@e1))) ?_
 first|with_reducible refine ks [] @wi_ ?_|refine kp @wi_ ?_
 refine⟨_,(ke @wi_),(hN'.app (hN4.mono hB4)), ?_⟩
 rfl
end Go.Proofs
end
section
open Go Go.Proofs Go.Sx Go.StP Go.Flo Go.Dig
namespace Go.Proofs
set_option maxRecDepth 10000
set_option maxHeartbeats 1000000
set_option linter.unusedSimpArgs false
structure IbG where
 k:Nat
 DG:ze_
set_option linter.defProp false
def ata_:=And.intro (And.intro (And.intro (@zi_) (@zh_)) (And.intro (@Sx.tup2_0) (@Sx.tup2_1))) (And.intro (And.intro (@z7_) (@vb_)) (And.intro (@Zg_) (@jY_)))
end Go.Proofs
end
section
open Go Go.Proofs Go.Sx Go.StP Go.Flo
namespace Go.Proofs
set_option maxRecDepth 10000
set_option maxHeartbeats 400000
set_option linter.unusedSimpArgs false
set_option linter.defProp false
def kO_:=And.intro (@zi_) (And.intro (@zh_) (@abj_))
theorem abx_ (x a b:Int) (w:World) (hx:x.natAbs<8192) (ha:a.natAbs<8192) (hb:b.natAbs<8192):
  Rets Tryz.prog 234 #[fl x,vi a,vi b] w (fun v D=>v= .tuple #[vi (if a≤x∧x≤b then x else 0), .bool (decide (a≤x∧x≤b))]∧D= []):=by
 refine Rets.enterV Tryz.func234 rfl (rs:= [.tmp 6, .tmp 7]) Tryz.results234 Tryz.ntmps234 ?_
 refine kf ?_
 first|with_reducible refine ks [] @kO_ ?_|refine kp @kO_ ?_
 refine Ow.convIF rfl rfl cvIF Tryz.underlying3 Tryz.underlying301 rfl ?_
 refine Ow.fgeq rfl rfl rfl hx ha ?_
 by_cases h1:a≤x
 ·rw[decide_eq_true h1]
  refine ko @kO_ ?_
  refine Ow.convIF rfl rfl cvIF Tryz.underlying3 Tryz.underlying301 rfl ?_
  refine Ow.fleq rfl rfl rfl hx hb ?_
  by_cases h2:x≤b
  ·rw[decide_eq_true h2,decide_eq_true (show a≤x∧x≤b from⟨h1,h2⟩),if_pos ⟨h1,h2⟩]
   refine ko @kO_ ?_
   first|with_reducible refine ks [] @kO_ ?_|refine kp @kO_ ?_
   refine Ow.convFI rfl rfl cvFI Tryz.underlying301 Tryz.underlying3 rfl hx ?_
   refine ko @kO_ ?_
   first|with_reducible refine ks [] @kO_ ?_|refine kp @kO_ ?_
   refine Ow.convIF rfl rfl cvIF Tryz.underlying3 Tryz.underlying301 rfl ?_
   refine ko @kO_ ?_
   refine Ow.feql rfl rfl rfl hx hx ?_
   rw[show(x==x)=true by simp]
   refine ko @kO_ ?_
   first|with_reducible refine ks [] @kO_ ?_|refine kp @kO_ ?_
   refine⟨_,(ke @kO_),trivial, ?_⟩
   rfl
  ·rw[decide_eq_false h2,decide_eq_false (show¬ (a≤x∧x≤b) from fun h=>h2 h.2),if_neg (fun h=>h2 h.2)]
   refine ko @kO_ ?_
   first|with_reducible refine ks [] @kO_ ?_|refine kp @kO_ ?_
   refine⟨_,(ke @kO_),trivial, ?_⟩
   rfl
 ·rw[decide_eq_false h1,decide_eq_false (show¬ (a≤x∧x≤b) from fun h=>h1 h.1),if_neg (fun h=>h1 h.1)]
  refine ko @kO_ ?_
  first|with_reducible refine ks [] @kO_ ?_|refine kp @kO_ ?_
  refine⟨_,(ke @kO_),trivial, ?_⟩
  rfl
def cpR (p:PcL) (b:Int):Value:=match cpV p b with
 |some q=> .tuple #[vi q.1,vi q.2, .bool true]
 |none=>if(1≤p.n∧p.n≤4099)∧p.x= []∧(p.n:Int)≤b then .tuple #[vi 0,vi p.n, .bool false] else .tuple #[vi 0,vi 0, .bool false]
theorem aoo_ {p:PcL} {b:Int} (h:1≤p.n∧p.n≤4099∧p.x= []∧(p.a:Int)≤b - p.n):cpV p b=some (p.a,p.n):=by unfold cpV;rw[if_pos h]
theorem VO_ {p:PcL} {b:Int} (h: ¬ (1≤p.n∧p.n≤4099∧p.x= []∧(p.a:Int)≤b - p.n)):cpV p b=none:=by unfold cpV;rw[if_neg h]
set_option linter.defProp false
def xn_:=And.intro (And.intro (And.intro (And.intro (@zi_) (@zh_)) (And.intro (@xL_) (@xK_))) (And.intro (And.intro (@k8_) (@jH_)) (And.intro (@Ke_) (@cxz)))) (And.intro (And.intro (And.intro (@Wj_) (@W8_)) (And.intro (@kv_) (@Sx.tup2_0))) (And.intro (And.intro (@Sx.tup2_1) (@Sx.tup3_0)) (And.intro (@Sx.tup3_1) (@Sx.tup3_2))))
theorem Zf_ (p:PcL) (b:Int) (w:World) (hp:PcB p) (h0:0≤b) (h1:b≤4099):
  Rets Tryz.prog 217 #[.agg (pcC p).toArray,vi b] w (fun v D=>v=cpR p b∧D= []):=by
 obtain⟨hpa,hpn⟩:=hp
 refine Rets.enterV Tryz.func217 rfl (rs:= [.tmp 4, .tmp 5, .tmp 6]) Tryz.results217 Tryz.ntmps217 ?_
 refine kf ?_
 first|with_reducible refine ks [] @xn_ ?_|refine kp @xn_ ?_
 refine Ow.box rfl rfl fun b2 hb2 hw2=> ?_
 simp only[z8_,z3_,z4_,zc_,List.nil_append,List.cons_append]
 refine Ow.go rfl ?_
 simp(disch:=(first|assumption|omega| (simp only[xg_,xe_,UInt64.reduceToNat];try omega))) only[↓Sx.S0,Sx.S1,Tryz.fx,xn_,Nat.reduceAdd,Nat.reducePow,Int.reducePow,Nat.reduceBEq, ↓reduceIte,UInt8.reduceToNat,UInt16.reduceToNat,UInt32.reduceToNat,UInt64.reduceToNat,Int.reduceToNat]
 first|with_reducible refine ks [] @xn_ ?_|refine kp @xn_ ?_
 refine Ow.imag rfl rfl ?_
 refine Ow.callFV rfl Tryz.call234 (fun w' hw'=>abx_ (p.n:Int) 1 4099 w' (by omega) (by omega) (by omega)) ?_
 unfold cpR
 by_cases c1:1≤p.n
 ·rw[decide_eq_true (show(1:Int)≤ (p.n:Int)∧(p.n:Int)≤4099 by omega),if_pos (show(1:Int)≤ (p.n:Int)∧(p.n:Int)≤4099 by omega)]
  by_cases c2:p.x= []
  ·have d2:decide (0< (p.x.length:Int))=false:=by rw[c2];rfl
   by_cases c4: (p.n:Int)≤b
   ·have d4:decide (b< (p.n:Int))=false:=decide_eq_false (by omega)
    refine ko (And.intro @xn_ (And.intro @d2 (@d4))) ?_
    first|with_reducible refine ks [] @xn_ ?_|refine kp @xn_ ?_
    refine Ow.real rfl rfl ?_
    refine ko @xn_ ?_
    refine Ow.callFV rfl Tryz.call234 (fun w' hw'=>abx_ (p.a:Int) 0 (b - p.n) w' (by omega) (by omega) (by omega)) ?_
    by_cases c3: (p.a:Int)≤b - p.n
    ·rw[decide_eq_true (show(0:Int)≤ (p.a:Int)∧(p.a:Int)≤b - p.n by omega),if_pos (show(0:Int)≤ (p.a:Int)∧(p.a:Int)≤b - p.n by omega),aoo_ ⟨c1,hpn,c2,c3⟩]
     refine ko @xn_ ?_
     first|with_reducible refine ks [] @xn_ ?_|refine kp @xn_ ?_
     refine⟨_,(ke @xn_),⟨hw2,trivial⟩, ?_⟩
     rfl
    ·rw[decide_eq_false (show¬ ((0:Int)≤ (p.a:Int)∧(p.a:Int)≤b - p.n) by omega),if_neg (show¬ ((0:Int)≤ (p.a:Int)∧(p.a:Int)≤b - p.n) by omega),VO_ (fun h=>c3 h.2.2.2)]
     simp only
     rw[if_pos ⟨⟨c1,hpn⟩,c2,c4⟩]
     refine ko @xn_ ?_
     first|with_reducible refine ks [] @xn_ ?_|refine kp @xn_ ?_
     refine⟨_,(ke @xn_),⟨hw2,trivial⟩, ?_⟩
     rfl
   ·have d4:decide (b< (p.n:Int))=true:=decide_eq_true (by omega)
    rw[VO_ (fun h=>by have:=h.2.2.2;omega)]
    simp only
    rw[if_neg (fun h=>c4 h.2.2)]
    refine ko (And.intro @xn_ (And.intro @d2 (@d4))) ?_
    first|with_reducible refine ks [] @xn_ ?_|refine kp @xn_ ?_
    refine⟨_,(ke @xn_),⟨hw2,trivial⟩, ?_⟩
    rfl
  ·have d2:decide (0< (p.x.length:Int))=true:=decide_eq_true (by have:=List.length_pos_iff.2 c2;omega)
   rw[VO_ (fun h=>c2 h.2.2.1)]
   simp only
   rw[if_neg (fun h=>c2 h.2.1)]
   refine ko (And.intro @xn_ @d2) ?_
   first|with_reducible refine ks [] @xn_ ?_|refine kp @xn_ ?_
   refine⟨_,(ke @xn_),⟨hw2,trivial⟩, ?_⟩
   rfl
 ·rw[decide_eq_false (show¬ ((1:Int)≤ (p.n:Int)∧(p.n:Int)≤4099) by omega),if_neg (show¬ ((1:Int)≤ (p.n:Int)∧(p.n:Int)≤4099) by omega),VO_ (fun h=>c1 h.1)]
  simp only
  rw[if_neg (fun h=>c1 h.1.1)]
  refine ko @xn_ ?_
  first|with_reducible refine ks [] @xn_ ?_|refine kp @xn_ ?_
  refine⟨_,(ke @xn_),⟨hw2,trivial⟩, ?_⟩
  rfl
end Go.Proofs
end
section
open Go Go.Proofs Go.Sx Go.StP Go.Flo
namespace Go.Proofs
set_option maxRecDepth 10000
set_option maxHeartbeats 400000
set_option linter.unusedSimpArgs false
theorem Ks_ {p:PcL} {b:Int} (h:jc_ p b≠0):jc_ p b=(match cpV p b with|some q=>q.2|none=>p.x.length):=by
 unfold jc_ at h ⊢
 split
 ·rename_i hz
  rw[VO_ (fun hc=>by omega)]
 ·rename_i hz
  rw[if_neg hz] at h
  cases hc:cpV p b with
  |none=>rw[hc] at h;exact absurd rfl h
  |some q=>rfl
theorem aot_ {p:PcL} {b:Int} {q:Nat×Nat} (h:cpV p b=some q):q=(p.a,p.n)∧1≤p.n:=by
 unfold cpV at h
 split at h
 ·rename_i hc;cases h;exact⟨rfl,hc.1⟩
 ·cases h
set_option linter.defProp false
def jW_:=And.intro (And.intro (And.intro (And.intro (@zi_) (@zh_)) (And.intro (@xL_) (@xK_))) (And.intro (And.intro (@k8_) (@jH_)) (And.intro (@Ke_) (@cxz)))) (And.intro (And.intro (And.intro (@Wj_) (@W8_)) (And.intro (@kv_) (@Sx.tup2_0))) (And.intro (And.intro (@Sx.tup2_1) (@Sx.tup3_0)) (And.intro (@Sx.tup3_1) (@Sx.tup3_2))))
theorem acA_ (p:PcL) (b:Int) (w:World) (hp:PcB p) (h0:0≤b) (h1:b≤4099):
  Rets Tryz.prog 233 #[.agg (pcC p).toArray,vi b] w (fun v D=>v= .bool (decide (jc_ p b≠0))∧D= []):=by
 have hp':=hp
 obtain⟨hpa,hpn⟩:=hp'
 have hcall: ¬ (p.a=0∧p.n=0)→(cpV p b).isSome=decide (jc_ p b≠0):=by
  intro hz
  unfold jc_
  rw[if_neg (fun h=>hz ⟨h.1,h.2.1⟩)]
  cases hc:cpV p b with
  |none=>rfl
  |some q=>
   obtain⟨rfl,hn⟩:=aot_ hc
   rw[decide_eq_true (show p.n≠0 by omega)]
   rfl
 refine Rets.enterV Tryz.func233 rfl (rs:= [.tmp 4]) Tryz.results233 Tryz.ntmps233 ?_
 refine kf ?_
 first|with_reducible refine ks [3] @jW_ ?_|refine kp @jW_ ?_
 refine Ow.box rfl rfl fun b2 hb2 hw2=> ?_
 simp only[z8_,z3_,z4_,zc_,List.nil_append,List.cons_append]
 refine Ow.go rfl ?_
 simp(disch:=(first|assumption|omega| (simp only[xg_,xe_,UInt64.reduceToNat];try omega))) only[↓Sx.S0,Sx.S1,Tryz.fx,jW_,Nat.reduceAdd,Nat.reducePow,Int.reducePow,Nat.reduceBEq, ↓reduceIte,UInt8.reduceToNat,UInt16.reduceToNat,UInt32.reduceToNat,UInt64.reduceToNat,Int.reduceToNat]
 first|with_reducible refine ks [] @jW_ ?_|refine kp @jW_ ?_
 refine Ow.real rfl rfl ?_
 refine Ow.feql (b:=0) rfl rfl rfl (by omega) (by omega) ?_
 have fin: ∀v,v=cpR p b→ ∃x y,v= .tuple #[x,y, .bool (cpV p b).isSome]:=by
  rintro v rfl
  unfold cpR
  cases cpV p b with
  |some q=>exact⟨_,_,rfl⟩
  |none=>
   simp only
   split
   ·exact⟨_,_,rfl⟩
   ·exact⟨_,_,rfl⟩
 obtain⟨x,y,hxy⟩:=fin _ rfl
 by_cases ha:p.a=0
 ·have e1: (((p.a:Nat):Int)==0)=true:=by rw[ha];rfl
  rw[e1]
  refine ko @jW_ ?_
  refine Ow.imag rfl rfl ?_
  refine Ow.feql (b:=0) rfl rfl rfl (by omega) (by omega) ?_
  by_cases hn:p.n=0
  ·have e2: (((p.n:Nat):Int)==0)=true:=by rw[hn];rfl
   rw[e2]
   have hc:cpV p b=none:=VO_ (fun h=>by omega)
   by_cases hl:1≤p.x.length
   ·have d1:decide ((1:Int)≤ (p.x.length:Int))=true:=decide_eq_true (by omega)
    by_cases hm:p.x.length≤4099
    ·have d2:decide ((p.x.length:Int)≤4099)=true:=decide_eq_true (by omega)
     have hr:decide (jc_ p b≠0)=true:=decide_eq_true (by unfold jc_;rw[if_pos ⟨ha,hn,hm⟩];omega)
     rw[hr]
     refine ko (And.intro @jW_ (And.intro @d1 (@d2))) ?_
     first|with_reducible refine ks [] (And.intro @jW_ (And.intro @d1 (@d2))) ?_|refine kp (And.intro @jW_ (And.intro @d1 (@d2))) ?_
     refine⟨_,(ke @jW_),⟨hw2,trivial⟩, ?_⟩
     rfl
    ·have d2:decide ((p.x.length:Int)≤4099)=false:=decide_eq_false (by omega)
     have hr:decide (jc_ p b≠0)=false:=decide_eq_false (by unfold jc_;rw[if_neg (fun h=>hm h.2.2),hc];simp)
     rw[hr]
     refine ko (And.intro @jW_ (And.intro @d1 (@d2))) ?_
     first|with_reducible refine ks [] (And.intro @jW_ (And.intro @d1 (@d2))) ?_|refine kp (And.intro @jW_ (And.intro @d1 (@d2))) ?_
     refine⟨_,(ke @jW_),⟨hw2,trivial⟩, ?_⟩
     rfl
   ·have d1:decide ((1:Int)≤ (p.x.length:Int))=false:=decide_eq_false (by omega)
    have hr:decide (jc_ p b≠0)=false:=decide_eq_false (by unfold jc_;rw[if_pos ⟨ha,hn,by omega⟩];omega)
    rw[hr]
    refine ko (And.intro @jW_ @d1) ?_
    first|with_reducible refine ks [] (And.intro @jW_ @d1) ?_|refine kp (And.intro @jW_ @d1) ?_
    refine⟨_,(ke @jW_),⟨hw2,trivial⟩, ?_⟩
    rfl
  ·have e2: (((p.n:Nat):Int)==0)=false:=beq_eq_false_iff_ne.2 (by omega)
   rw[e2,←hcall (fun h=>hn h.2)]
   refine ko @jW_ ?_
   first|with_reducible refine ks [] @jW_ ?_|refine kp @jW_ ?_
   refine Ow.callFV rfl Tryz.call217 (fun w' hw'=>Zf_ p b w' hp h0 h1) ?_
   rw[hxy]
   refine ko @jW_ ?_
   first|with_reducible refine ks [] @jW_ ?_|refine kp @jW_ ?_
   refine⟨_,(ke @jW_),⟨hw2,trivial⟩, ?_⟩
   rfl
 ·have e1: (((p.a:Nat):Int)==0)=false:=beq_eq_false_iff_ne.2 (by omega)
  rw[e1,←hcall (fun h=>ha h.1)]
  refine ko @jW_ ?_
  first|with_reducible refine ks [] @jW_ ?_|refine kp @jW_ ?_
  refine Ow.callFV rfl Tryz.call217 (fun w' hw'=>Zf_ p b w' hp h0 h1) ?_
  rw[hxy]
  refine ko @jW_ ?_
  first|with_reducible refine ks [] @jW_ ?_|refine kp @jW_ ?_
  refine⟨_,(ke @jW_),⟨hw2,trivial⟩, ?_⟩
  rfl
end Go.Proofs
end
section
open Go Go.Proofs Go.Sx Go.StP Go.Flo
namespace Go.Proofs
set_option maxRecDepth 10000
set_option maxHeartbeats 400000
set_option linter.unusedSimpArgs false
theorem afW_ {p:PcL} {b:Int} {q:Nat×Nat} (h:cpV p b=some q):cpR p b= .tuple #[vi q.1,vi q.2, .bool true]:=by unfold cpR;rw[h]
theorem afd_ {p:PcL} {b:Int} (h:cpV p b=none): ∃y:Int,cpR p b= .tuple #[vi 0,vi y, .bool false]:=by
 unfold cpR
 rw[h]
 simp only
 split
 ·exact⟨_,rfl⟩
 ·exact⟨_,rfl⟩
set_option linter.defProp false
def jo_:=And.intro (And.intro (And.intro (@zi_) (@zh_)) (And.intro (@xL_) (And.intro (@xK_) (@k8_)))) (And.intro (And.intro (@jH_) (And.intro (@Sx.tup2_0) (@Sx.tup2_1))) (And.intro (@Sx.tup3_0) (And.intro (@Sx.tup3_1) (@Sx.tup3_2))))
theorem Kd_ (b:Int) (v:Value) (l:List PcL) (w:World) (hv:PcSl w v l) (hl:BndP l) (hn:l.length<1000000000):
  Rets Tryz.prog 216 #[vi b,v] w (fun v D=>v= .tuple #[vi (vH_ b l).1,vi (vH_ b l).2]∧D= []):=by
 obtain⟨bb,off,arr,E,fz,hr⟩:=hv.row
 have ln:=hv.len
 refine Rets.enterV Tryz.func216 rfl (rs:= [.tmp 4, .tmp 5]) Tryz.results216 Tryz.ntmps216 ?_
 refine kf ?_
 unfold vH_
 by_cases hb0:b<0
 ·have d1:decide (b<0)=true:=decide_eq_true hb0
  rw[if_pos (.inl hb0)]
  first|with_reducible refine ks [] (And.intro @jo_ @d1) ?_|refine kp (And.intro @jo_ @d1) ?_
  refine⟨_,(ke @jo_),trivial, ?_⟩
  rfl
 have d1:decide (b<0)=false:=decide_eq_false hb0
 by_cases hb4:4099<b
 ·have d2:decide (4099<b)=true:=decide_eq_true hb4
  rw[if_pos (.inr hb4)]
  first|with_reducible refine ks [] (And.intro @jo_ (And.intro @d1 (@d2))) ?_|refine kp (And.intro @jo_ (And.intro @d1 (@d2))) ?_
  refine⟨_,(ke @jo_),trivial, ?_⟩
  rfl
 have d2:decide (4099<b)=false:=decide_eq_false hb4
 rw[if_neg (by omega)]
 first|with_reducible refine ks [] (And.intro @jo_ (And.intro @d1 (@d2))) ?_|refine kp (And.intro @jo_ (And.intro @d1 (@d2))) ?_
 refine Cw.loopG (G:=Nat) [18,19,20,21,24,25,26,27,28,29,30,4,5,22,23,6] (fun g=> [(6,vi g)]) (fun g=> []) (fun g=>g≤l.length∧anyZ b (l.take g)=false) (fun g=>l.length - g) 0 rfl rfl ?_ ?_
 ·exact⟨Nat.zero_le _,rfl⟩
 intro k jk hk
 refine kv ?_
 obtain⟨hk,hz⟩:=hk
 by_cases hlt:k<l.length
 ·have d3:decide ((k:Int)< (l.length:Int))=true:=decide_eq_true (by omega)
  have rd:=hr.has (by omega)
  have ix:=hr.idx true k hlt
  have ld:=hr.load xb_ (by omega) hlt
  obtain⟨hpb,hpx⟩:=hl k hlt
  have htk:=ab6_ (b:=b) hlt
  have hmz:=JY_ (b:=b) hlt
  generalize l.getD k pc0=p at*
  first|with_reducible refine ks [] (And.intro @jo_ (And.intro @ln (And.intro @d3 (And.intro @ix (And.intro @rd (@ld)))))) ?_|refine kp (And.intro @jo_ (And.intro @ln (And.intro @d3 (And.intro @ix (And.intro @rd (@ld)))))) ?_
  refine Ow.callFV rfl Tryz.call233 (fun w' hw'=>acA_ p b w' hpb (by omega) (by omega)) ?_
  by_cases hp0:jc_ p b=0
  ·rw[decide_eq_false (show¬ (jc_ p b≠0) by omega),if_pos (hmz hp0)]
   refine ko @jo_ ?_
   first|with_reducible refine ks [] @jo_ ?_|refine kp @jo_ ?_
   refine⟨_,(ke @jo_),trivial, ?_⟩
   rfl
  ·rw[decide_eq_true (show jc_ p b≠0 from hp0)]
   refine ko @jo_ ?_
   first|with_reducible refine ks [] @jo_ ?_|refine kp @jo_ ?_
   refine Again.mk (k+1) (by omega) ⟨hlt, ?_⟩ rfl rfl
   rw[htk,hz,Bool.false_or]
   exact beq_eq_false_iff_ne.2 hp0
 ·obtain rfl:k=l.length:=by omega
  have d3:decide ((l.length:Int)< (l.length:Int))=false:=decide_eq_false (by omega)
  rw[List.take_length] at hz
  rw[if_neg (by rw[hz];decide)]
  first|with_reducible refine ks [] (And.intro @jo_ (And.intro @ln (@d3))) ?_|refine kp (And.intro @jo_ (And.intro @ln (@d3))) ?_
  refine Cw.loopG (G:=Nat) [31,32,33,34,38,39,40,41,42,43,37,44,45,46,9,10,11,47,48,49,50,51,52,53,54,55,56,57,7,58,59,4,5,35,36,8] (fun g=> [(7,vi (kM_ b (l.take g):Nat)),(8,vi g)]) (fun g=> []) (fun g=>g≤l.length∧kM_ b (l.take g)≤4099) (fun g=>l.length - g) 0 rfl rfl ?_ ?_
  ·exact⟨Nat.zero_le _,by simp[kM_]⟩
  intro m jm hm
  refine kv ?_
  obtain⟨hm,hs⟩:=hm
  by_cases hlt:m<l.length
  ·have d4:decide ((m:Int)< (l.length:Int))=true:=decide_eq_true (by omega)
   have rd:=hr.has (by omega)
   have ix:=hr.idx true m hlt
   have ld:=hr.load xb_ (by omega) hlt
   have ld1:zs_ (some (false,1)) (some (.cells arr E fz)) (off+m*2+1)=some (vs (l.getD m pc0).x):=hr.cell (j:=1) (n:=1) hlt (by omega)
   obtain⟨hpb,hpx⟩:=hl m hlt
   have hst:=abi_ (b:=b) hlt
   have hle:=wP_ (b:=b) (l:=l) (g:=m+1)
   have hp0:jc_ (l.getD m pc0) b≠0:=fun h=>by rw[JY_ hlt h] at hz;cases hz
   have hpr:=Ks_ hp0
   have hpl:=aao_ (l.getD m pc0) b
   generalize l.getD m pc0=p at*
   first|with_reducible refine ks [15] (And.intro @jo_ (And.intro @ln (And.intro @d4 (And.intro @ix (And.intro @rd (@ld)))))) ?_|refine kp (And.intro @jo_ (And.intro @ln (And.intro @d4 (And.intro @ix (And.intro @rd (@ld)))))) ?_
   refine Ow.callFV rfl Tryz.call217 (fun w' hw'=>Zf_ p b w' hpb (by omega) (by omega)) ?_
   have fin: ∀N:Nat,kM_ b (l.take (m+1))=kM_ b (l.take m)+N→((kM_ b (l.take m):Nat):Int)+ (N:Int)=((kM_ b (l.take (m+1)):Nat):Int):=fun N h=>by omega
   cases hc:cpV p b with
   |some q=>
    rw[hc] at hpr
    simp only at hpr
    rw[afW_ hc,←hpr]
    generalize jc_ p b=N at*
    have hf:=fin N hst
    refine ko @jo_ ?_
    by_cases h4:4099<kM_ b (l.take (m+1))
    ·have d5:decide ((4099:Int)< ((kM_ b (l.take (m+1)):Nat):Int))=true:=decide_eq_true (by omega)
     rw[if_pos (show 4099<kM_ b l by omega)]
     first|with_reducible refine ks [] (And.intro @jo_ (And.intro @hf (@d5))) ?_|refine kp (And.intro @jo_ (And.intro @hf (@d5))) ?_
     refine⟨_,(ke @jo_),trivial, ?_⟩
     rfl
    ·have d5:decide ((4099:Int)< ((kM_ b (l.take (m+1)):Nat):Int))=false:=decide_eq_false (by omega)
     first|with_reducible refine ks [] (And.intro @jo_ (And.intro @hf (@d5))) ?_|refine kp (And.intro @jo_ (And.intro @hf (@d5))) ?_
     exact Again.mk (m+1) (by omega) ⟨hlt,by omega⟩ rfl rfl
   |none=>
    rw[hc] at hpr
    simp only at hpr
    obtain⟨y,hy⟩:=afd_ hc
    rw[hy]
    have hf:=fin p.x.length (by omega)
    refine ko (And.intro @jo_ (And.intro @ix (And.intro @rd (@ld1)))) ?_
    by_cases h4:4099<kM_ b (l.take (m+1))
    ·have d5:decide ((4099:Int)< ((kM_ b (l.take (m+1)):Nat):Int))=true:=decide_eq_true (by omega)
     rw[if_pos (show 4099<kM_ b l by omega)]
     first|with_reducible refine ks [] (And.intro @jo_ (And.intro @hf (@d5))) ?_|refine kp (And.intro @jo_ (And.intro @hf (@d5))) ?_
     refine⟨_,(ke @jo_),trivial, ?_⟩
     rfl
    ·have d5:decide ((4099:Int)< ((kM_ b (l.take (m+1)):Nat):Int))=false:=decide_eq_false (by omega)
     first|with_reducible refine ks [] (And.intro @jo_ (And.intro @hf (@d5))) ?_|refine kp (And.intro @jo_ (And.intro @hf (@d5))) ?_
     exact Again.mk (m+1) (by omega) ⟨hlt,by omega⟩ rfl rfl
  ·obtain rfl:m=l.length:=by omega
   have d4:decide ((l.length:Int)< (l.length:Int))=false:=decide_eq_false (by omega)
   rw[List.take_length] at hs
   rw[if_neg (by omega),List.take_length]
   first|with_reducible refine ks [] (And.intro @jo_ (And.intro @ln (@d4))) ?_|refine kp (And.intro @jo_ (And.intro @ln (@d4))) ?_
   refine⟨_,(ke @jo_),trivial, ?_⟩
   rfl
end Go.Proofs
end
section
open Go Go.Proofs Go.Sx Go.StP Go.Flo
namespace Go.Proofs
set_option maxRecDepth 10000
set_option maxHeartbeats 400000
set_option linter.unusedSimpArgs false
theorem aqn_ {p:PcL} {b:Int} {q:Nat×Nat} (h:cpV p b=some q):q=(p.a,p.n)∧1≤p.n∧p.n≤4099∧p.x= []∧(p.a:Int)≤b - p.n:=by
 unfold cpV at h
 split at h
 ·rename_i hc;cases h;exact⟨rfl,hc⟩
 ·cases h
set_option linter.defProp false
def vo_:=And.intro (And.intro (And.intro (@zi_) (@zh_)) (And.intro (@xL_) (And.intro (@xK_) (@k8_)))) (And.intro (And.intro (@jH_) (And.intro (@Sx.tup2_0) (@Sx.tup2_1))) (And.intro (@Sx.tup3_0) (And.intro (@Sx.tup3_1) (@Sx.tup3_2))))
theorem acy_ (base:List UInt8) (v:Value) (l:List PcL) (w:World) (hv:PcSl w v l) (hl:BndP l) (hn:l.length<1000000000):
  Rets Tryz.prog 185 #[vs base,v] w (fun v' D=>v'= .tuple #[vs (if(vH_ base.length l).2=0 then txtP base l else []),vi (vH_ base.length l).2]∧D= []):=by
 obtain⟨bb,off,arr,E,fz,hr⟩:=hv.row
 have ln:=hv.len
 refine Rets.enterV Tryz.func185 rfl (rs:= [.tmp 4, .tmp 5]) Tryz.results185 Tryz.ntmps185 ?_
 refine kf ?_
 first|with_reducible refine ks [] @vo_ ?_|refine kp @vo_ ?_
 refine Ow.callFV rfl Tryz.call216 (fun w' hw'=>Kd_ (base.length:Int) v l w' (hv.oldN hw' trivial) hl hn) ?_
 by_cases he: (vH_ base.length l).2=0
 ·obtain⟨m,hm⟩: ∃m,vH_ base.length l=(m,0):=⟨(vH_ base.length l).1,by rw[←he]⟩
  obtain⟨-,hb4,hz,hs4,-,hl4⟩:=QS_ hm
  rw[if_pos he,hm]
  have e0: ((0:Int) !=0)=false:=rfl
  refine ko @vo_ ?_
  first|with_reducible refine ks [] (And.intro @vo_ @e0) ?_|refine kp (And.intro @vo_ @e0) ?_
  refine Cw.loopG (G:=Nat) [23,24,25,26,30,31,32,33,34,35,36,29,37,38,39,10,11,12,40,41,42,43,44,45,46,47,48,8,49,50,51,52,53,54,55,27,28,9] (fun g=> [(8,vs (txtP base (l.take g))),(9,vi g)]) (fun g=> []) (fun g=>g≤l.length) (fun g=>l.length - g) 0 rfl rfl ?_ ?_
  ·exact Nat.zero_le _
  intro k jk hk
  refine kv ?_
  by_cases hlt:k<l.length
  ·have d3:decide ((k:Int)< (l.length:Int))=true:=decide_eq_true (by omega)
   have rd:=hr.has (by omega)
   have ix:=hr.idx true k hlt
   have ld:=hr.load xb_ (by omega) hlt
   have ld1:zs_ (some (false,1)) (some (.cells arr E fz)) (off+k*2+1)=some (vs (l.getD k pc0).x):=hr.cell (j:=1) (n:=1) hlt (by omega)
   obtain⟨hpb,hpx⟩:=hl k hlt
   have htk:=acc_ (base:=base) hlt
   have hpt:pcT base (l.getD k pc0)=(match cpV (l.getD k pc0) base.length with|some q=>(base.drop q.1).take q.2++ (l.getD k pc0).x|none=>(l.getD k pc0).x):=rfl
   have htl: (txtP base (l.take k)).length≤4099:=by
    rw[Z9_ (base:=base) (ahW_ (g:=k) hz)]
    have:=wP_ (b:=(base.length:Int)) (l:=l) (g:=k)
    omega
   have hxl:cpV (l.getD k pc0) base.length=none→(l.getD k pc0).x.length≤4099:=fun hc=>by
    have hp0:jc_ (l.getD k pc0) base.length≠0:=fun h=>by rw[JY_ hlt h] at hz;cases hz
    have h1:=Ks_ hp0
    have h2:=aao_ (l.getD k pc0) base.length
    rw[hc] at h1
    simp only at h1
    omega
   generalize l.getD k pc0=p at*
   first|with_reducible refine ks [] (And.intro @vo_ (And.intro @ln (And.intro @d3 (And.intro @ix (And.intro @rd (@ld)))))) ?_|refine kp (And.intro @vo_ (And.intro @ln (And.intro @d3 (And.intro @ix (And.intro @rd (@ld)))))) ?_
   refine Ow.callFV rfl Tryz.call217 (fun w' hw'=>Zf_ p (base.length:Int) w' hpb (by omega) (by omega)) ?_
   cases hc:cpV p base.length with
   |some q=>
    rw[hc] at hpt
    simp only at hpt
    obtain⟨rfl,h1,h2,h3,h4⟩:=aqn_ hc
    rw[afW_ hc]
    rw[h3,List.append_nil] at hpt
    simp only at hpt ⊢
    refine ko @vo_ ?_
    first|with_reducible refine ks [] @vo_ ?_|refine kp @vo_ ?_
    refine Again.mk (k+1) (by omega) (by omega) rfl ?_
    rw[htk,hpt,←show(base.take (p.a+p.n)).drop p.a=(base.drop p.a).take p.n by rw[List.drop_take,Nat.add_sub_cancel_left]]
    rfl
   |none=>
    rw[hc] at hpt
    simp only at hpt
    obtain⟨y,hy⟩:=afd_ hc
    have hx4:=hxl hc
    rw[hy]
    refine ko @vo_ ?_
    first|with_reducible refine ks [] (And.intro @vo_ (And.intro @ix (And.intro @rd (@ld1)))) ?_|refine kp (And.intro @vo_ (And.intro @ix (And.intro @rd (@ld1)))) ?_
    refine Again.mk (k+1) (by omega) (by omega) rfl ?_
    rw[htk,hpt]
    rfl
  ·obtain rfl:k=l.length:=by omega
   have d3:decide ((l.length:Int)< (l.length:Int))=false:=decide_eq_false (by omega)
   rw[List.take_length]
   first|with_reducible refine ks [] (And.intro @vo_ (And.intro @ln (@d3))) ?_|refine kp (And.intro @vo_ (And.intro @ln (@d3))) ?_
   refine⟨_,(ke @vo_),trivial, ?_⟩
   rfl
 ·rw[if_neg he]
  have e0: ((vH_ base.length l).2 !=0)=true:=bne_iff_ne.2 he
  refine ko @vo_ ?_
  first|with_reducible refine ks [] (And.intro @vo_ @e0) ?_|refine kp (And.intro @vo_ @e0) ?_
  refine⟨_,(ke @vo_),trivial, ?_⟩
  rfl
end Go.Proofs
end
section
open Go Go.Proofs Go.Sx Go.StP Go.Flo
namespace Go.Proofs
set_option maxRecDepth 10000
set_option maxHeartbeats 400000
set_option linter.unusedSimpArgs false
def rrO (s:List UInt8) (a:Nat) (e:Int):Obj:= .cells #[vs s,vi a,vi e] 166 (0,0)
theorem afL_ (s:List UInt8) (a:Nat) (e:Int) (n:Nat):zs_ (some (false,n)) (some (rrO s a e)) 0=some (vs s):=(rfl)
theorem afP_ (s:List UInt8) (a:Nat) (e:Int) (n:Nat):zs_ (some (false,n)) (some (rrO s a e)) 1=some (vi a):=(rfl)
theorem ae2_ (s:List UInt8) (a:Nat) (e:Int) (n:Nat):zs_ (some (false,n)) (some (rrO s a e)) 2=some (vi e):=(rfl)
theorem abd_ (b:Nat) (s:List UInt8) (a:Nat) (e n:Int) (w:World) (ha:a≤s.length) (hs:s.length<1099511627776) (ho:w.heap[b]? =some (rrO s a e)):
  Rets Tryz.prog 100 #[vp b 0,vi n] w (fun v D=> ∃o,D= [(b,o)]∧v=vs (qD_ s a e n).1∧o=rrO s (qD_ s a e n).2.1 (qD_ s a e n).2.2):=ZI_ b s a e n w ha hs ho
theorem qW_ (b:Nat) (s:List UInt8) (a:Nat) (e most:Int) (w:World) (ha:a≤s.length) (hs:s.length<1099511627776) (ho:w.heap[b]? =some (rrO s a e)):
  Rets Tryz.prog 98 #[vp b 0,vi most] w (fun v D=> ∃o,D= [(b,o)]∧v=vi (zr_ s a e most).1∧o=rrO s (zr_ s a e most).2.1 (zr_ s a e most).2.2):=xO_ b s a e most w ha hs ho
theorem JE_ (b:Nat) (s:List UInt8) (a:Nat) (e:Int) (w:World) (ho:w.heap[b]? =some (rrO s a e)):
  Rets Tryz.prog 102 #[vp b 0] w (fun v D=>v=vi (jq_ s a e)∧D= []):=vX_ b s a e w ho
theorem zrRR:zE_ Tryz.prog 166=some (.agg #[vs [],vi 0,vi 0]):=id (by kernel_rfl)
theorem aly_ (s:List UInt8):qp_ (x3_ Tryz.prog 166) (zE_ Tryz.prog 166) [(0,vs s)]=some (.agg #[vs s,vi 0,vi 0]):=by
 rw[show x3_ Tryz.prog 166=some [(0,1),(1,1),(2,1)] from id (by kernel_rfl),zrRR];rfl
theorem ai4_:qp_ (x3_ Tryz.prog 300) (zE_ Tryz.prog 300) []=some (.agg (pcC pc0).toArray):=by
 rw[show x3_ Tryz.prog 300=some [(0,1),(1,1)] from id (by kernel_rfl),zrPc];rfl
theorem aj5_ (x n:Nat) (E:TypeId) (a:Bool):zl_ (some (a,1)) (some (.cells (pcC pc0).toArray E (0,0))) 0 (cx x n)=some (.cells (pcC ⟨x,n,[]⟩).toArray E (0,0)):=(rfl)
theorem ah9_ (x:List UInt8) (E:TypeId) (a:Bool):zl_ (some (a,1)) (some (.cells (pcC pc0).toArray E (0,0))) 1 (vs x)=some (.cells (pcC ⟨0,0,x⟩).toArray E (0,0)):=(rfl)
structure RrG where
 a:Nat
 e:Int
 out:List PcL
 v:Value
 D:ze_
 DG:ze_
def RrJ (d:List UInt8) (a0:Nat) (e0:Int) (sz:Nat) (g:RrG):Prop:=
 New sz g.D∧New sz g.DG∧Gr g.D 300 2 g.v g.out.length (g.out.map pcC).flatten∧g.a≤d.length∧BndP g.out∧g.out.length≤g.a+1∧(g.e=0→g.out.length≤g.a)∧
  ((e0≠0∧g.e≠0)∨(e0=0∧((g.e=0∧pcs d a0=(g.out++ (pcs d g.a).1,(pcs d g.a).2))∨(g.e≠0∧pcs d a0=(g.out,g.a,g.e)))))
def afS_ (d:List UInt8) (v:Value) (D:ze_):Prop:=match x5_ d with
 |some p=> ∃x,v= .tuple #[vi p.1,x, .bool true]∧BndP p.2∧p.2.length≤4099∧p.1≤4099∧GrI D 300 2 x p.2.length (p.2.map pcC).flatten
 |none=>v= .tuple #[vi 0, .slice none 0 0, .bool false]
theorem akO_ {out:List PcL} {p:PcL} (h:BndP out) (hp:PcB p∧p.x.length<9223372036854775808):BndP (out++ [p]):=by
 intro g hg
 by_cases hlt:g<out.length
 ·rw[jL_ hlt];exact h g hlt
 ·rw[List.length_append] at hg
  rw[qy_ (by omega),show g - out.length=0 by simp at hg;omega]
  exact hp
set_option linter.defProp false
def qj_:=And.intro (And.intro (And.intro (@zi_) (And.intro (@zh_) (@afL_))) (And.intro (And.intro (@afP_) (@ae2_)) (And.intro (@xL_) (@xK_)))) (And.intro (And.intro (And.intro (@k8_) (@jH_)) (And.intro (@Sx.tup2_0) (@Sx.tup2_1))) (And.intro (And.intro (@Sx.tup3_0) (@Sx.tup3_1)) (And.intro (@Sx.tup3_2) (@kv_))))
theorem aed_ (d:List UInt8) (w:World) (hd:d.length<100000000):Rets Tryz.prog 184 #[vs d] w (XS w [] (afS_ d)):=by
 refine Rets.enterX Tryz.func184 rfl (rs:= [.tmp 2, .tmp 3, .tmp 4]) Tryz.results184 Tryz.ntmps184 (fun p hp=>by cases hp) (by simp[keys]) ?_
 refine kf ?_
 first|with_reducible refine ks [] @qj_ ?_|refine kp @qj_ ?_
 refine Ow.build (.agg #[vs d,vi 0,vi 0]) rfl (aly_ d) ?_
 refine ko @qj_ ?_
 refine Ow.box rfl rfl fun br hbr hwr=> ?_
 simp only[z8_,z3_,z4_,zc_,List.nil_append]
 refine Ow.permL (M:= [(br,rrO d 0 0)]) (List.Perm.refl _) ?_
 refine ko @qj_ ?_
 first|with_reducible refine ks [] @qj_ ?_|refine kp @qj_ ?_
 have l1:=zO_ (s:=d) (a:=0) (e:=0) (most:=4099) (Nat.zero_le _)
 have m1:=z9_ (s:=d) (a:=0) (e:=0) (most:=4099) (by omega)
 refine Ow.callM rfl rfl Tryz.call98 (by simp[keys]) (fun w' hw'=>qW_ br d 0 0 4099 w' (Nat.zero_le _) (by omega) (hw'.has _ _ List.mem_cons_self)) ?_
 refine kn ?_
 refine ko @qj_ ?_
 first|with_reducible refine ks [] @qj_ ?_|refine kp @qj_ ?_
 have l2:=zO_ (s:=d) (a:=(zr_ d 0 0 4099).2.1) (e:=(zr_ d 0 0 4099).2.2) (most:=4099) l1.2
 refine Ow.callM rfl rfl Tryz.call98 (by simp[keys]) (fun w' hw'=>qW_ br d (zr_ d 0 0 4099).2.1 (zr_ d 0 0 4099).2.2 4099 w' l1.2 (by omega) (hw'.has _ _ List.mem_cons_self)) ?_
 have hdR:=wQ_ d
 rw[show zr_ d 0 0 4099=dB d from rfl] at l2 m1 ⊢
 rw[show zr_ d (dB d).2.1 (dB d).2.2 4099=dM d from rfl] at l2 ⊢
 refine kn ?_
 refine ko @qj_ ?_
 first|with_reducible refine ks [] @qj_ ?_|refine kp @qj_ ?_
 refine Cw.permL (M:=(br,rrO d (dM d).2.1 (dM d).2.2):: ([]++ [])) (List.Perm.refl _) ?_
 refine Cw.loopG (G:=RrG) [20,21,22,23,24,25,26,27,28,29,30,31,32,33,34,35,9,36,10,37,38,39,40,41,42,43,44,45,46,47,48,49,50,51,52,53,54,55,56,8] (fun g=> [(8,g.v)]) (fun g=>(br,rrO d g.a g.e):: (g.D++g.DG)) (fun g=>RrJ d (dM d).2.1 (dM d).2.2 w.heap.size g) (fun g=>(if g.e=0 then d.length - g.a+1 else 0)) ⟨(dM d).2.1,(dM d).2.2,[], .slice none 0 0,[],[]⟩ rfl rfl ?_ ?_
 ·refine⟨trivial,trivial,Gr.nl,l2.2,fun g hg=>by simp at hg,by simp,fun _=>Nat.zero_le _, ?_⟩
  by_cases he: (dM d).2.2=0
  ·exact .inr ⟨he, .inl ⟨he,rfl⟩⟩
  ·exact .inl ⟨he,he⟩
 intro g j hg
 refine kv ?_
 obtain⟨a,e,out,v,D,DG⟩:=g
 obtain⟨hN,hNG,hG,hal,hB,hol,hol0,hrel⟩:=hg
 simp only at hN hNG hG hal hB hol hol0 hrel ⊢
 by_cases hc:e=0∧a<d.length
 ·obtain⟨rfl,hlt⟩:=hc
  have e0: ((0:Int)==0)=true:=rfl
  have d1:decide ((a:Int)< (d.length:Int))=true:=decide_eq_true (by omega)
  have hle1:=zO_ (s:=d) (a:=a) (e:=0) (most:=8199) hal
  have hm1:=z9_ (s:=d) (a:=a) (e:=0) (most:=8199) (by omega)
  have hpR:pcR d a=pcR d a:=rfl
  conv at hpR=>rhs;unfold pcR
  first|with_reducible refine ks [1000008] (And.intro @qj_ (And.intro @e0 (@d1))) ?_|refine kp (And.intro @qj_ (And.intro @e0 (@d1))) ?_
  refine Ow.callM rfl rfl Tryz.call98 (by simp[keys]) (fun w' hw'=>qW_ br d a 0 8199 w' hal (by omega) (hw'.has _ _ List.mem_cons_self)) ?_
  generalize zr_ d a 0 8199=q at*
  obtain⟨q1,a1,e1⟩:=q
  simp only at hle1 hm1 hpR ⊢
  obtain⟨Q,rfl⟩: ∃Q:Nat,q1=(Q:Int):=⟨q1.toNat,by omega⟩
  have hQ:Q≤8199:=by omega
  refine kn ?_
  refine ko @qj_ ?_
  first|with_reducible refine ks [] @qj_ ?_|refine kp @qj_ ?_
  refine Ow.build (.agg (pcC pc0).toArray) rfl ai4_ ?_
  refine ko @qj_ ?_
  refine Ow.alloc rfl rfl zrPc fun b10 hb10 hw10=> ?_
  simp only[zc_,List.nil_append,List.cons_append]
  have h10:br<b10:=zf_ hb10 (by simp[keys])
  have hst:=Wl_ pc0 pc0 300
  refine Ow.permL (M:=(b10, .cells (pcC pc0).toArray 300 (0,0)):: (br,rrO d a1 e1):: (D++DG)) (by classical exact List.perm_iff_count.2 fun a=>by simp only[List.count_append,List.count_cons,List.count_nil]<;>omega) ?_
  refine ko (And.intro @qj_ @hst) ?_
  refine Cw.cutO (G:=(PcL×Nat×Int)) [37,38,39,40,41,42,43,44,45,46,47,48,49,50,51,52] (fun g=> []) (fun g=>(b10, .cells (pcC g.1).toArray 300 (0,0)):: (br,rrO d g.2.1 g.2.2):: (D++DG)) (fun g=>pcR d a=g∧(PcB g.1∧g.1.x.length<9223372036854775808)) ?_ ?_
  ·by_cases hodd: (Q:Int)%2=1
   ·have d2: (((Q:Nat):Int)%2==1)=true:=by rw[beq_iff_eq];exact hodd
    rw[if_pos hodd] at hpR
    have hm2:=z9_ (s:=d) (a:=a1) (e:=e1) (most:=4099) (by omega)
    first|with_reducible refine ks [] (And.intro @qj_ @d2) ?_|refine kp (And.intro @qj_ @d2) ?_
    refine Ow.callM rfl rfl Tryz.call98 (by simp[keys]) (fun w' hw'=>qW_ br d a1 e1 4099 w' hle1.2 (by omega) (hw'.has _ _ (List.mem_cons_of_mem _ List.mem_cons_self))) ?_
    generalize zr_ d a1 e1 4099=x at*
    obtain⟨x1,a2,e2⟩:=x
    simp only at hm2 hpR ⊢
    obtain⟨X,rfl⟩: ∃X:Nat,x1=(X:Int):=⟨x1.toNat,by omega⟩
    rw[Int.toNat_natCast,show((Q:Int) / 2).toNat=Q / 2 by omega] at hpR
    refine kn ?_
    refine Ow.convIF rfl rfl cvIF Tryz.underlying3 Tryz.underlying301 rfl ?_
    refine ko @qj_ ?_
    rw[show(Q:Int) / 2=((Q / 2:Nat):Int) by omega]
    refine Ow.convIF rfl rfl cvIF Tryz.underlying3 Tryz.underlying301 rfl ?_
    refine Ow.complexB (a:=(X:Nat)) (b:=(Q / 2:Nat)) rfl rfl rfl ?_
    have hs2:=fun a=>aj5_ X (Q / 2) 300 a
    refine ko (And.intro @qj_ @hs2) ?_
    refine CutO.mk (⟨X,Q / 2,[]⟩,a2,e2) ⟨hpR,⟨by show X≤4099;omega,by show Q / 2≤4099;omega⟩,by show 0<9223372036854775808;omega⟩ rfl rfl
   ·have d2: (((Q:Nat):Int)%2==1)=false:=by rw[beq_eq_false_iff_ne];exact hodd
    rw[if_neg hodd] at hpR
    first|with_reducible refine ks [] (And.intro @qj_ @d2) ?_|refine kp (And.intro @qj_ @d2) ?_
    refine Ow.callM rfl rfl Tryz.call100 (by simp[keys]) (fun w' hw'=>abd_ br d a1 e1 ((Q:Int) / 2) w' hle1.2 (by omega) (hw'.has _ _ (List.mem_cons_of_mem _ List.mem_cons_self))) ?_
    have hxl: (qD_ d a1 e1 ((Q:Int) / 2)).1.length≤d.length:=by
     unfold qD_
     split
     ·simp
     ·split
      ·simp
      ·split
       ·simp
       ·simp only[List.length_take,List.length_drop];omega
    generalize qD_ d a1 e1 ((Q:Int) / 2)=x at*
    obtain⟨x1,a2,e2⟩:=x
    simp only at hxl hpR ⊢
    refine kn ?_
    have hs2:=fun a=>ah9_ x1 300 a
    refine ko (And.intro @qj_ @hs2) ?_
    refine CutO.mk (⟨0,0,x1⟩,a2,e2) ⟨hpR,⟨Nat.zero_le _,Nat.zero_le _⟩,by show x1.length<9223372036854775808;omega⟩ rfl rfl
  ·intro g j hg
   refine kv ?_
   obtain⟨p,a2,e2⟩:=g
   obtain⟨hpq,hpB⟩:=hg
   simp only at hpB ⊢
   have hle:=abh_ hal
   have hup:=KE_ hal
   have hok:=abC_ hlt
   have her:=XG_ hlt
   rw[hpq] at hle hup hok her
   simp only at hle hup hok her
   first|with_reducible refine ks [] @qj_ ?_|refine kp @qj_ ?_
   refine Ow.buildSlice (e:=300) (pcC p).toArray rfl rfl (aen_ p) fun b11 hb11 hw11=> ?_
   refine ko @qj_ ?_
   refine Ow.permL (M:=D++ ((b10, .cells (pcC p).toArray 300 (0,0)):: (br,rrO d a2 e2):: (DG++ [(b11, .cells (pcC p).toArray 300 (0,0))]))) (by classical exact List.perm_iff_count.2 fun a=>by simp only[List.count_append,List.count_cons,List.count_nil]<;>omega) ?_
   refine Ow.appendXG (e:=300) (k:=1) (new:=pcC p) (X:=D) v rfl rfl rfl rfl Tryz.underlying263 (id (by kernel_rfl):z2_ Tryz.prog 300=some (true,2)) (by kernel_rfl) zrPc (by rw[jH_];rfl) Tryz.underlying263 (by intro k h;cases h) hG (fun w' hw'=>AppX.one1 (hw'.has b11 (.cells (pcC p).toArray 300 (0,0)) (by simp)) (xb_ p) (WZ_ p)) (by omega) (fun B3 v3 D3 hA3 hB3 hG3 hk13 hk23 hlk3=> ?_)
   have hN3:New w.heap.size D3:=New.of_le fun q hq=>by
    rcases hk23 q hq with h|h
    ·exact hN.le q h
    ·omega
   refine Ow.permL (M:=(br,rrO d a2 e2):: (D3++ ((b10, .cells (pcC p).toArray 300 (0,0)):: (DG++ [(b11, .cells (pcC p).toArray 300 (0,0))])))) (by classical exact List.perm_iff_count.2 fun a=>by simp only[List.count_append,List.count_cons,List.count_nil]<;>omega) ?_
   refine ko @qj_ ?_
   refine Again.mk ⟨a2,e2,out++ [p],v3,D3,(b10, .cells (pcC p).toArray 300 (0,0)):: (DG++ [(b11, .cells (pcC p).toArray 300 (0,0))])⟩ ?_ ⟨hN3,⟨hw10,hNG.app ⟨hw11,trivial⟩⟩,by simpa using hG3,hle.2,akO_ hB hpB, ?_, ?_, ?_⟩ rfl rfl
   ·show(if e2=0 then d.length - a2+1 else 0)< (if(0:Int)=0 then d.length - a+1 else 0)
    rw[if_pos rfl]
    split
    ·rename_i he;have:=hup he;omega
    ·omega
   ·show(out++ [p]).length≤a2+1
    have:=hol0 rfl
    rw[List.length_append];simp;omega
   ·intro he
    show(out++ [p]).length≤a2
    have:=hol0 rfl
    have:=hup he
    rw[List.length_append];simp;omega
   ·rcases hrel with⟨h1,h2⟩ | ⟨h1,h2|h2⟩
    ·exact absurd rfl h2
    ·refine .inr ⟨h1, ?_⟩
     by_cases he:e2=0
     ·refine .inl ⟨he, ?_⟩
      rw[h2.2,hok he]
      simp
     ·refine .inr ⟨he, ?_⟩
      rw[h2.2,her he]
    ·exact absurd rfl h2.1
 ·have hdone: (e==0&&decide ((a:Int)< (d.length:Int)))=false:=by
   rw[Bool.and_eq_false_iff]
   by_cases he:e=0
   ·right;exact decide_eq_false (fun h=>hc ⟨he,by omega⟩)
   ·left;exact beq_eq_false_iff_ne.2 he
  have hNr:New w.heap.size ((br,rrO d a e):: (D++DG)):=⟨hwr,hN.app hNG⟩
  by_cases he:e=0
  ·subst he
   have hal2: ¬a<d.length:=fun h=>hc ⟨rfl,h⟩
   have e0: ((0:Int)==0)=true:=rfl
   have d1:decide ((a:Int)< (d.length:Int))=false:=decide_eq_false (by omega)
   have hE:jq_ d a 0=0:=by unfold jq_;rw[if_neg (by simp),if_neg (by omega)]
   have n0: ((0:Int) !=0)=false:=rfl
   obtain⟨h1,h2⟩: (dM d).2.2=0∧pcs d (dM d).2.1=(out,a,0):=by
    rcases hrel with⟨h1,h2⟩ | ⟨h1,h2|h2⟩
    ·exact absurd rfl h2
    ·rw[WB_ hal2] at h2
     exact⟨h1,by rw[h2.2,List.append_nil]⟩
    ·exact absurd rfl h2.1
   rw[h2] at hdR
   rw[if_neg (by rw[h1];simp),if_neg (by simp)] at hdR
   simp only at hdR
   first|with_reducible refine ks [] (And.intro @qj_ (And.intro @e0 (@d1))) ?_|refine kp (And.intro @qj_ (And.intro @e0 (@d1))) ?_
   refine Ow.callFV rfl Tryz.call102 (fun w' hw'=>JE_ br d a 0 w' (hw'.has _ _ List.mem_cons_self)) ?_
   rw[hE]
   refine ko (And.intro @qj_ @n0) ?_
   first|with_reducible refine ks [] (And.intro @qj_ @n0) ?_|refine kp (And.intro @qj_ @n0) ?_
   refine Ow.callFV rfl Tryz.call216 (fun w' hw'=>Kd_ (dB d).1 v out w' (hG.slM (fun b o hm=>hw'.has b o (by simp[hm])) rfl rfl xb_) hB (by omega)) ?_
   unfold afS_
   by_cases hk:vH_ (dB d).1 out=((dM d).1,0)
   ·rw[if_pos hk] at hdR
    rw[hdR,hk]
    obtain⟨-,-,-,-,-,hc4⟩:=QS_ hk
    have n1: ((dM d).1 !=(dM d).1)=false:=bne_self_eq_false _
    refine ko @qj_ ?_
    first|with_reducible refine ks [] (And.intro @qj_ (And.intro @n0 (@n1))) ?_|refine kp (And.intro @qj_ (And.intro @n0 (@n1))) ?_
    refine⟨_,(ke @qj_), ?_⟩
    refine⟨Ext.of_new hNr,v, ?_,hB,hc4,by show(dB d).1.toNat≤4099;omega,Gr.i hG fun q hq=>by simp[hq]⟩
    show Value.tuple #[vi (dB d).1,v, .bool true]= .tuple #[vi ((dB d).1.toNat:Nat),v, .bool true]
    rw[show(((dB d).1.toNat:Nat):Int)=(dB d).1 by omega]
   ·rw[if_neg hk] at hdR
    rw[hdR]
    obtain⟨N,E,hNE⟩: ∃N E,vH_ (dB d).1 out=(N,E):=⟨_,_,rfl⟩
    rw[hNE] at hk ⊢
    by_cases hE0:E=0
    ·subst hE0
     have n1: (N !=(dM d).1)=true:=bne_iff_ne.2 (fun h=>hk (by rw[h]))
     refine ko @qj_ ?_
     first|with_reducible refine ks [] (And.intro @qj_ (And.intro @n0 (@n1))) ?_|refine kp (And.intro @qj_ (And.intro @n0 (@n1))) ?_
     refine⟨_,(ke @qj_), ?_⟩
     exact⟨Ext.of_new hNr,rfl⟩
    ·have n1: (E !=0)=true:=bne_iff_ne.2 hE0
     refine ko @qj_ ?_
     first|with_reducible refine ks [] (And.intro @qj_ @n1) ?_|refine kp (And.intro @qj_ @n1) ?_
     refine⟨_,(ke @qj_), ?_⟩
     exact⟨Ext.of_new hNr,rfl⟩
  ·have e0: (e==0)=false:=beq_eq_false_iff_ne.2 he
   have hE:jq_ d a e=e:=by unfold jq_;rw[if_pos he]
   have n0: (e !=0)=true:=bne_iff_ne.2 he
   have hno:x5_ d=none:=by
    rw[hdR]
    rcases hrel with⟨h1,h2⟩ | ⟨h1,h2|h2⟩
    ·rw[if_pos h1]
    ·exact absurd h2.1 he
    ·rw[h2.2,if_neg (by rw[h1];simp),if_pos he]
   first|with_reducible refine ks [] (And.intro @qj_ @e0) ?_|refine kp (And.intro @qj_ @e0) ?_
   refine Ow.callFV rfl Tryz.call102 (fun w' hw'=>JE_ br d a e w' (hw'.has _ _ List.mem_cons_self)) ?_
   rw[hE]
   refine ko (And.intro @qj_ @n0) ?_
   first|with_reducible refine ks [] (And.intro @qj_ @n0) ?_|refine kp (And.intro @qj_ @n0) ?_
   refine⟨_,(ke @qj_), ?_⟩
   refine⟨Ext.of_new hNr, ?_⟩
   unfold afS_
   rw[hno]
   rfl
end Go.Proofs
end
section
open Go Go.Proofs Go.Sx Go.StP Go.Flo
namespace Go.Proofs
set_option maxRecDepth 10000
set_option maxHeartbeats 400000
set_option linter.unusedSimpArgs false
set_option linter.defProp false
def wC_:=And.intro (And.intro (And.intro (@zi_) (@zh_)) (And.intro (@xL_) (And.intro (@xK_) (@k8_)))) (And.intro (And.intro (@jH_) (And.intro (@Sx.tup2_0) (@Sx.tup2_1))) (And.intro (@Sx.tup3_0) (And.intro (@Sx.tup3_1) (@Sx.tup3_2))))
theorem aev_ (base d:List UInt8) (w:World) (hd:d.length<100000000):
  Rets Tryz.prog 164 #[vs base,vs d] w (fun v D=>v= .tuple #[vs (qN_ base d).1,vi (qN_ base d).2]∧D= []):=by
 refine Rets.enterV Tryz.func164 rfl (rs:= [.tmp 4, .tmp 5]) Tryz.results164 Tryz.ntmps164 ?_
 refine kf ?_
 first|with_reducible refine ks [] @wC_ ?_|refine kp @wC_ ?_
 refine Ow.callC rfl rfl Tryz.call184 (fun w' hw'=>aed_ d w' hd) (fun B1 v1 D1 hA1 hB1 hN1 hS1=> ?_)
 have hN1':=hN1.mono hB1
 unfold afS_ at hS1
 cases hr:x5_ d with
 |none=>
  rw[hr] at hS1
  have hS1':v1= .tuple #[vi 0, .slice none 0 0, .bool false]:=hS1
  subst hS1'
  have hap:qN_ base d=([],2):=by unfold qN_;rw[hr]
  refine ko @wC_ ?_
  first|with_reducible refine ks [] @wC_ ?_|refine kp @wC_ ?_
  refine⟨_,(ke @wC_),hN1', ?_⟩
  rw[hap];rfl
 |some p=>
  rw[hr] at hS1
  obtain⟨x,rfl,hB,hl4,hp4,hg⟩:=hS1
  by_cases hb:p.1=base.length
  ·have e1: (((p.1:Nat):Int) !=((base.length:Nat):Int))=false:=by rw[hb];exact bne_self_eq_false _
   obtain⟨m,hm⟩:=Q5_ hr
   rw[hb] at hm
   have hap:qN_ base d=(txtP base p.2,0):=by unfold qN_;rw[hr];simp only;rw[if_neg (by simp[hb])]
   refine ko @wC_ ?_
   first|with_reducible refine ks [] (And.intro @wC_ @e1) ?_|refine kp (And.intro @wC_ @e1) ?_
   refine Ow.callFV rfl Tryz.call185 (fun w' hw'=>acy_ base x p.2 w' (GrI.slV (hg.mono fun q hq=>by simp[hq]) hw' rfl rfl xb_) hB (by omega)) ?_
   rw[hm,if_pos rfl]
   refine ko @wC_ ?_
   first|with_reducible refine ks [] @wC_ ?_|refine kp @wC_ ?_
   refine⟨_,(ke @wC_),hN1', ?_⟩
   rw[hap];rfl
  ·have e1: (((p.1:Nat):Int) !=((base.length:Nat):Int))=true:=by rw[bne_iff_ne];omega
   have hap:qN_ base d=([],19):=by unfold qN_;rw[hr];simp only;rw[if_pos hb]
   refine ko @wC_ ?_
   first|with_reducible refine ks [] (And.intro @wC_ @e1) ?_|refine kp (And.intro @wC_ @e1) ?_
   refine⟨_,(ke @wC_),hN1', ?_⟩
   rw[hap];rfl
structure PrG where
 at_:Nat
 out:List Nat
 v:Value
 D:ze_
 DG:ze_
set_option linter.defProp false
def js_:=And.intro (And.intro (And.intro (@zi_) (@zh_)) (And.intro (@jJ_) (@jF_))) (And.intro (And.intro (@jB_) (@qf_)) (And.intro (@Sx.tup2_0) (@Sx.tup2_1)))
theorem agC_ (v0:Value) (l:List PartL) (a0:Int) (w:World) (hv:k3_ w v0 l):
  Rets Tryz.prog 163 #[v0,vi a0] w (XS w [] (JM_ l a0)):=by
 obtain⟨bb,off,arr,E,fz,hr⟩:=hv.row
 have ln:=hv.len
 refine Rets.enterX Tryz.func163 rfl (rs:= [.tmp 4, .tmp 5]) Tryz.results163 Tryz.ntmps163 (fun p hp=>by cases hp) (by simp[keys]) ?_
 refine kf ?_
 by_cases hc:200<l.length∨a0<0∨(l.length:Int)≤a0
 ·have hpv:q0_ l a0= .error 1:=by unfold q0_;rw[if_pos hc]
  unfold JM_
  rw[hpv]
  by_cases h1:200<l.length
  ·have d1:decide ((200:Int)< (l.length:Int))=true:=decide_eq_true (by omega)
   first|with_reducible refine ks [] (And.intro @js_ (And.intro @ln (@d1))) ?_|refine kp (And.intro @js_ (And.intro @ln (@d1))) ?_
   refine⟨_,(ke @js_), ?_⟩
   exact⟨Ext.refl _ _,rfl⟩
  ·have d1:decide ((200:Int)< (l.length:Int))=false:=decide_eq_false (by omega)
   by_cases h2:a0<0
   ·have d2:decide (a0<0)=true:=decide_eq_true h2
    first|with_reducible refine ks [] (And.intro @js_ (And.intro @ln (And.intro @d1 (@d2)))) ?_|refine kp (And.intro @js_ (And.intro @ln (And.intro @d1 (@d2)))) ?_
    refine⟨_,(ke @js_), ?_⟩
    exact⟨Ext.refl _ _,rfl⟩
   ·have d2:decide (a0<0)=false:=decide_eq_false h2
    have d3:decide ((l.length:Int)≤a0)=true:=decide_eq_true (by omega)
    first|with_reducible refine ks [] (And.intro @js_ (And.intro @ln (And.intro @d1 (And.intro @d2 (@d3))))) ?_|refine kp (And.intro @js_ (And.intro @ln (And.intro @d1 (And.intro @d2 (@d3))))) ?_
    refine⟨_,(ke @js_), ?_⟩
    exact⟨Ext.refl _ _,rfl⟩
 ·have d1:decide ((200:Int)< (l.length:Int))=false:=decide_eq_false (by omega)
  have d2:decide (a0<0)=false:=decide_eq_false (by omega)
  have d3:decide ((l.length:Int)≤a0)=false:=decide_eq_false (by omega)
  obtain⟨A,rfl⟩: ∃A:Nat,a0=(A:Int):=⟨a0.toNat,by omega⟩
  have hpv:q0_ l (A:Int)=(qG_ l 5 A).map ([]++ ·):=by
   unfold q0_
   rw[if_neg hc,Int.toNat_natCast]
   cases qG_ l 5 A<;>rfl
  first|with_reducible refine ks [] (And.intro @js_ (And.intro @ln (And.intro @d1 (And.intro @d2 (@d3))))) ?_|refine kp (And.intro @js_ (And.intro @ln (And.intro @d1 (And.intro @d2 (@d3))))) ?_
  refine Cw.loopG (G:=PrG) [21,22,25,26,4,5,27,28,29,30,6,31,32,33,34,35,36,37,38,39,40,41,42,43,44,45,46,47,48,49,50,51,52,53,54,55,56,57,58,59,60,61,62,63,1,23,24,7] (fun g=> [(1,vi g.at_),(6,g.v),(7,vi g.out.length)]) (fun g=>g.D++g.DG) (fun g=>New w.heap.size g.D∧New w.heap.size g.DG∧Gr g.D 3 1 g.v g.out.length (g.out.map Jh_).flatten∧g.at_<l.length∧g.out.length≤5∧q0_ l (A:Int)=(qG_ l (5 - g.out.length) g.at_).map (g.out++ ·)) (fun g=>6 - g.out.length) ⟨A,[], .slice none 0 0,[],[]⟩ rfl rfl ?_ ?_
  ·exact⟨trivial,trivial,Gr.nl,by show A<l.length;omega,by simp,hpv⟩
  intro g j hg
  refine kv ?_
  obtain⟨a,out,v,D,DG⟩:=g
  obtain⟨hN,hNG,hG,hal,hol,hrel⟩:=hg
  simp only at hN hNG hG hal hol hrel ⊢
  have d4:decide ((out.length:Int)<6)=true:=decide_eq_true (by omega)
  by_cases h5:out.length=5
  ·have d5: ((out.length:Int)==5)=true:=by rw[h5];rfl
   rw[h5] at hrel
   have hpe:q0_ l (A:Int)= .error 11:=hrel
   first|with_reducible refine ks [] (And.intro @js_ (And.intro @d4 (@d5))) ?_|refine kp (And.intro @js_ (And.intro @d4 (@d5))) ?_
   refine⟨_,(ke @js_), ?_⟩
   refine⟨Ext.of_new (hN.app hNG), ?_⟩
   unfold JM_
   rw[hpe]
   rfl
  ·have d5: ((out.length:Int)==5)=false:=beq_eq_false_iff_ne.2 (by omega)
   have hk5:qG_ l (5 - out.length) a=qG_ l (4 - out.length+1) a:=by congr 1;omega
   rw[hk5,qG_] at hrel
   first|with_reducible refine ks [] (And.intro @js_ (And.intro @d4 (@d5))) ?_|refine kp (And.intro @js_ (And.intro @d4 (@d5))) ?_
   refine Ow.buildSlice (e:=3) #[vi a] rfl rfl (by kernel_rfl) fun b9 hb9 hw9=> ?_
   refine ko @js_ ?_
   refine Ow.permL (M:=D++ (DG++ [(b9, .cells #[vi a] 3 (0,0))])) (by classical exact List.perm_iff_count.2 fun a=>by simp only[List.count_append,List.count_cons,List.count_nil]<;>omega) ?_
   refine Ow.appendXG (e:=3) (k:=1) (new:=Jh_ a) (X:=D) v rfl rfl rfl rfl Tryz.underlying28 (id (by kernel_rfl):z2_ Tryz.prog 3=some (false,1)) (by kernel_rfl) (id (by kernel_rfl):zE_ Tryz.prog 3=some (vi 0)) rfl Tryz.underlying28 (by intro k h;cases h) hG (fun w' hw'=>AppX.one1 (hw'.has b9 (.cells #[vi a] 3 (0,0)) (by simp)) (kY_ a) rfl) (by omega) (fun B3 v3 D3 hA3 hB3 hG3 hk13 hk23 hlk3=> ?_)
   have hN3:New w.heap.size D3:=New.of_le fun c hc=>by
    rcases hk23 c hc with h|h
    ·exact hN.le c h
    ·omega
   have hG4:Gr D3 3 1 v3 (out++ [a]).length ((out++ [a]).map Jh_).flatten:=by simpa using hG3
   have hol2: (out++ [a]).length=out.length+1:=by simp
   have hNG9:New w.heap.size (DG++ [(b9, .cells #[vi a] 3 (0,0))]):=hNG.app ⟨hw9,trivial⟩
   generalize DG++ [(b9,Obj.cells #[vi a] 3 (0,0))]=DG' at*
   have hNr:New w.heap.size (D3++DG'):=hN3.app hNG9
   have hb0:0<l.length:=by omega
   have hbl:=hr.lt hb0
   have rd:zA_ w (D3++DG') bb=some (.cells arr E fz):=by rw[jh_ (hNr.not hbl)];exact hr.has hb0
   have i2:=hr.idx true a hal
   have ld0:zs_ (some (false,1)) (some (.cells arr E fz)) (off+a*3)=some (.bool (l.getD a z5_).d):=hr.cell (j:=0) (n:=1) hal (by omega)
   have ld1:zs_ (some (false,1)) (some (.cells arr E fz)) (off+a*3+1)=some (vi (l.getD a z5_).b):=hr.cell (j:=1) (n:=1) hal (by omega)
   generalize l.getD a z5_=p at*
   cases hd:p.d with
   |false=>
    rw[hd,if_neg (by simp)] at hrel
    rw[hd] at ld0
    by_cases hb:p.b=0
    ·have e1: (p.b !=0)=false:=by rw[hb];rfl
     rw[if_neg (by simp[hb])] at hrel
     refine ko (And.intro @js_ (And.intro @i2 (And.intro @rd (And.intro @ld0 (And.intro @ld1 (@e1)))))) ?_
     first|with_reducible refine ks [] (And.intro @js_ (And.intro @i2 (And.intro @rd (And.intro @ld0 (And.intro @ld1 (@e1)))))) ?_|refine kp (And.intro @js_ (And.intro @i2 (And.intro @rd (And.intro @ld0 (And.intro @ld1 (@e1)))))) ?_
     refine⟨_,(ke @js_), ?_⟩
     refine⟨Ext.of_new hNr, ?_⟩
     unfold JM_
     rw[hrel]
     exact⟨v3,rfl,by show(out++ [a]).length≤5;omega,Gr.i hG4 fun c hc=>by simp[hc]⟩
    ·have e1: (p.b !=0)=true:=by rw[bne_iff_ne];exact hb
     rw[if_pos hb] at hrel
     have hpe:q0_ l (A:Int)= .error 2:=hrel
     refine ko (And.intro @js_ (And.intro @i2 (And.intro @rd (And.intro @ld0 (And.intro @ld1 (@e1)))))) ?_
     first|with_reducible refine ks [] (And.intro @js_ (And.intro @i2 (And.intro @rd (And.intro @ld0 (And.intro @ld1 (@e1)))))) ?_|refine kp (And.intro @js_ (And.intro @i2 (And.intro @rd (And.intro @ld0 (And.intro @ld1 (@e1)))))) ?_
     refine⟨_,(ke @js_), ?_⟩
     refine⟨Ext.of_new hNr, ?_⟩
     unfold JM_
     rw[hpe];rfl
   |true=>
    rw[hd,if_pos rfl] at hrel
    rw[hd] at ld0
    by_cases hb:p.b<0
    ·have e1:decide (p.b<0)=true:=decide_eq_true hb
     rw[if_pos (.inl hb)] at hrel
     have hpe:q0_ l (A:Int)= .error 2:=hrel
     refine ko (And.intro @js_ (And.intro @i2 (And.intro @rd (And.intro @ld0 (And.intro @ld1 (@e1)))))) ?_
     first|with_reducible refine ks [] (And.intro @js_ (And.intro @i2 (And.intro @rd (And.intro @ld0 (And.intro @ld1 (@e1)))))) ?_|refine kp (And.intro @js_ (And.intro @i2 (And.intro @rd (And.intro @ld0 (And.intro @ld1 (@e1)))))) ?_
     refine⟨_,(ke @js_), ?_⟩
     refine⟨Ext.of_new hNr, ?_⟩
     unfold JM_
     rw[hpe];rfl
    ·have e1:decide (p.b<0)=false:=decide_eq_false hb
     by_cases hb2: (a:Int)≤p.b
     ·have e2:decide ((a:Int)≤p.b)=true:=decide_eq_true hb2
      rw[if_pos (.inr hb2)] at hrel
      have hpe:q0_ l (A:Int)= .error 2:=hrel
      refine ko (And.intro @js_ (And.intro @i2 (And.intro @rd (And.intro @ld0 (And.intro @ld1 (And.intro @e1 (@e2))))))) ?_
      first|with_reducible refine ks [] (And.intro @js_ (And.intro @i2 (And.intro @rd (And.intro @ld0 (And.intro @ld1 (And.intro @e1 (@e2))))))) ?_|refine kp (And.intro @js_ (And.intro @i2 (And.intro @rd (And.intro @ld0 (And.intro @ld1 (And.intro @e1 (@e2))))))) ?_
      refine⟨_,(ke @js_), ?_⟩
      refine⟨Ext.of_new hNr, ?_⟩
      unfold JM_
      rw[hpe];rfl
     ·have e2:decide ((a:Int)≤p.b)=false:=decide_eq_false hb2
      rw[if_neg (by omega)] at hrel
      obtain⟨Bn,hBn⟩: ∃Bn:Nat,p.b=(Bn:Int):=⟨p.b.toNat,by omega⟩
      rw[hBn] at ld1 e1 e2 hrel
      rw[Int.toNat_natCast] at hrel
      refine ko (And.intro @js_ (And.intro @i2 (And.intro @rd (And.intro @ld0 (And.intro @ld1 (And.intro @e1 (@e2))))))) ?_
      first|with_reducible refine ks [] (And.intro @js_ (And.intro @i2 (And.intro @rd (And.intro @ld0 (And.intro @ld1 (And.intro @e1 (@e2))))))) ?_|refine kp (And.intro @js_ (And.intro @i2 (And.intro @rd (And.intro @ld0 (And.intro @ld1 (And.intro @e1 (@e2))))))) ?_
      refine Again.mk ⟨Bn,out++ [a],v3,D3,DG'⟩ (by show 6 - (out++ [a]).length<6 - out.length;omega) ⟨hN3,hNG9,hG4,by show Bn<l.length;omega,by show(out++ [a]).length≤5;omega, ?_⟩ rfl (by simp only[hol2];rfl)
      show q0_ l (A:Int)=(qG_ l (5 - (out++ [a]).length) Bn).map ((out++ [a])++ ·)
      rw[hrel,show 5 - (out++ [a]).length=4 - out.length by omega]
      split
      ·rename_i h4
       rw[h4];rfl
      ·cases qG_ l (4 - out.length) Bn with
       |error x=>rfl
       |ok x=>show Except.ok _=Except.ok _;simp
end Go.Proofs
end
section
open Go Go.Proofs Go.Sx Go.StP Go.Flo
namespace Go.Proofs
set_option maxRecDepth 10000
set_option maxHeartbeats 400000
set_option linter.unusedSimpArgs false
def BndD (l:List PartL):Prop:= ∀g,g<l.length→(l.getD g z5_).x.length<100000000
theorem ak6_ {α:Type} {enc:α→List Value} {m:Nat} {D:ze_} {E:TypeId} {v:Value} {l:List α} (h:GrI D E m v l.length (l.map enc).flatten) (hn: (keys D).Nodup):l.length=0∨ ∃b c rest,v=vsl b 0 l.length c∧b∈keys D∧Sx.look D b=some (rowO enc E rest l):=by
 obtain⟨X,hX,h| ⟨h0,-⟩⟩:=h
 ·rcases h.inv with⟨-,h0,-⟩ | ⟨b,c,rest,rfl,hl,h1,h2,h3,h4⟩
  ·exact .inl h0
  ·exact .inr ⟨b,c,rest,rfl,List.mem_map_of_mem (f:=Prod.fst) (hX _ (zJ_ hl)),xA_ hn (hX _ (zJ_ hl))⟩
 ·exact .inl h0
structure TrG where
 n:Nat
 s:List UInt8
 DG:ze_
set_option linter.defProp false
def xa_:=And.intro (And.intro (And.intro (@zi_) (@zh_)) (And.intro (@jJ_) (@jF_))) (And.intro (And.intro (@jB_) (@qf_)) (And.intro (@Sx.tup2_0) (@Sx.tup2_1)))
theorem aet_ (v0:Value) (l:List PartL) (a0:Int) (w:World) (hv:k3_ w v0 l) (hb:BndD l):
  Rets Tryz.prog 132 #[v0,vi a0] w (fun v D=>v=W6_ (partV l a0)∧D= []):=by
 obtain⟨bb,off,arr,E,fz,hr⟩:=hv.row
 refine Rets.enterV Tryz.func132 rfl (rs:= [.tmp 4, .tmp 5]) Tryz.results132 Tryz.ntmps132 ?_
 refine kf ?_
 first|with_reducible refine ks [] @xa_ ?_|refine kp @xa_ ?_
 refine Ow.callC rfl rfl Tryz.call163 (fun w' hw'=>agC_ v0 l a0 w' (hv.oldN hw' trivial)) (fun B1 v1 D1 hA1 hB1 hN1 hS1=> ?_)
 have hN1':=hN1.mono hB1
 unfold JM_ at hS1
 unfold partV
 cases hp:q0_ l a0 with
 |error e=>
  rw[hp] at hS1
  have hS1':v1= .tuple #[.slice none 0 0,vi e]:=hS1
  subst hS1'
  have e0: (e !=0)=true:=by rw[bne_iff_ne];exact KN_ hp
  refine ko @xa_ ?_
  first|with_reducible refine ks [] (And.intro @xa_ @e0) ?_|refine kp (And.intro @xa_ @e0) ?_
  refine⟨_,(ke @xa_),hN1', ?_⟩
  rfl
 |ok p=>
  rw[hp] at hS1
  obtain⟨x,rfl,hp5,hgp⟩:=hS1
  have hlt:=aml_ hp
  have e0: ((0:Int) !=0)=false:=rfl
  have hlen: ∀m,X4_ (.sl m) x=some (vi p.length):=fun m=>ZH_ hgp m
  rw[List.nil_append]
  refine ko (And.intro @xa_ (And.intro @e0 (@hlen))) ?_
  first|with_reducible refine ks [] @xa_ ?_|refine kp @xa_ ?_
  refine Cw.world fun wz hwz=> ?_
  have hnd:=hwz.nodup
  clear hwz wz
  refine Cw.permL (M:=D1++ []) (by rw[List.append_nil]) ?_
  refine Cw.loopG (G:=TrG) [25,26,29,30,31,32,33,34,35,10,36,37,38,39,40,41,42,4,5,43,44,8,46,47,48,49,45,50,51,11,12,52,53,54,55,27,28,9] (fun g=> [(8,vs g.s),(9,vi ((g.n:Int) - 1))]) (fun g=>D1++g.DG) (fun g=>g.n≤p.length∧xZ_ l (p.drop g.n)= .ok g.s∧New w.heap.size g.DG) (fun g=>g.n) ⟨p.length,[],[]⟩ rfl rfl ?_ ?_
  ·exact⟨Nat.le_refl _,by rw[List.drop_length];rfl,trivial⟩
  intro g j hg
  refine kv ?_
  obtain⟨n,s,DG⟩:=g
  simp only at hg ⊢
  obtain⟨hn1,hfn,hNG⟩:=hg
  have hNr:New w.heap.size (D1++DG):=hN1'.app hNG
  cases n with
  |zero=>
   have d1:decide ((0:Int)≤ ((0:Nat):Int) - 1)=false:=rfl
   first|with_reducible refine ks [] (And.intro @xa_ @d1) ?_|refine kp (And.intro @xa_ @d1) ?_
   refine⟨_,(ke @xa_),hNr, ?_⟩
   rw[List.drop_zero] at hfn;show _=W6_ ((Except.ok p).bind (xZ_ l));rw[show(Except.ok p).bind (xZ_ l)=xZ_ l p from rfl,hfn];rfl
  |succ n=>
   have en: ((n+1:Nat):Int) - 1=(n:Int):=by omega
   rw[en]
   have d1:decide ((0:Int)≤ (n:Int))=true:=decide_eq_true (by omega)
   obtain h0| ⟨bp,cp,rp,rfl,hkp,hlk⟩:=ak6_ hgp hnd
   ·omega
   have hnl:n<p.length:=by omega
   have rdp:zA_ w (D1++DG) bp=some (rowO Jh_ 3 rp p):=z6_ (qR_ hlk)
   have lp:=aeX_ (E:=3) (rest:=rp) 1 n hnl
   have hmem:p.getD n 0<l.length:=hlt _ (Ql_ hnl)
   have hdr:p.drop n=p.getD n 0::p.drop (n+1):=jA_ (z:=0) hnl
   have hfo:xZ_ l (p.drop n)=if(q2_ (l.getD (p.getD n 0) z5_) s).2=0 then .ok (q2_ (l.getD (p.getD n 0) z5_) s).1 else .error (q2_ (l.getD (p.getD n 0) z5_) s).2:=by
    rw[hdr,xZ_,hfn];rfl
   generalize p.getD n 0=a at*
   have hb0:0<l.length:=by omega
   have hbl:=hr.lt hb0
   have rd:zA_ w (D1++DG) bb=some (.cells arr E fz):=by rw[jh_ (hNr.not hbl)];exact hr.has hb0
   have i2:=hr.idx true a hmem
   have ld:=hr.load jv_ (by omega) hmem
   have hpx:=hb a hmem
   generalize l.getD a z5_=pt at*
   have hst:=xz_ pt z5_ 114
   first|with_reducible refine ks [7] (And.intro @xa_ (And.intro @d1 (And.intro @lp (And.intro @rdp (And.intro @rd (And.intro @i2 (@ld))))))) ?_|refine kp (And.intro @xa_ (And.intro @d1 (And.intro @lp (And.intro @rdp (And.intro @rd (And.intro @i2 (@ld))))))) ?_
   refine Ow.alloc rfl rfl vq_ fun b10 hb10 hw10=> ?_
   simp only[zc_,List.nil_append,List.cons_append]
   refine Ow.permL (M:=(b10, .cells (zv_ z5_).toArray 114 (0,0)):: (D1++DG)) (by classical exact List.perm_iff_count.2 fun a=>by simp only[List.count_append,List.count_cons,List.count_nil]<;>omega) ?_
   cases hd:pt.d with
   |false=>
    by_cases hl4:4099<pt.x.length
    ·have d2:decide ((4099:Int)< (pt.x.length:Int))=true:=decide_eq_true (by omega)
     have ht:q2_ pt s=([],19):=by unfold q2_;rw[if_neg (by rw[hd];decide),if_pos hl4]
     rw[ht,if_neg (by decide)] at hfo
     refine ko (And.intro @xa_ (And.intro @hst (And.intro @hd (@d2)))) ?_
     first|with_reducible refine ks [] (And.intro @xa_ (And.intro @hd (@d2))) ?_|refine kp (And.intro @xa_ (And.intro @hd (@d2))) ?_
     refine⟨_,(ke @xa_),(show New w.heap.size ((b10,_):: (D1++DG)) from⟨hw10,hNr⟩), ?_⟩
     show _=W6_ (xZ_ l p);rw[Q4_ p n hfo];rfl
    ·have d2:decide ((4099:Int)< (pt.x.length:Int))=false:=decide_eq_false (by omega)
     have ht:q2_ pt s=(pt.x,0):=by unfold q2_;rw[if_neg (by rw[hd];decide),if_neg hl4]
     rw[ht,if_pos rfl] at hfo
     refine ko (And.intro @xa_ (And.intro @hst (And.intro @hd (@d2)))) ?_
     refine Cw.permL (M:=D1++ ((b10, .cells (zv_ pt).toArray 114 (0,0))::DG)) (by classical exact List.perm_iff_count.2 fun a=>by simp only[List.count_append,List.count_cons,List.count_nil]<;>omega) ?_
     first|with_reducible refine ks [] @xa_ ?_|refine kp @xa_ ?_
     exact Again.mk ⟨n,pt.x,(b10, .cells (zv_ pt).toArray 114 (0,0))::DG⟩ (by show n<n+1;omega) ⟨by show n≤p.length;omega,hfo,⟨hw10,hNG⟩⟩ rfl rfl
   |true=>
    have ht:q2_ pt s=qN_ s pt.x:=by unfold q2_;rw[if_pos hd]
    rw[ht] at hfo
    refine ko (And.intro @xa_ (And.intro @hst (@hd))) ?_
    first|with_reducible refine ks [] (And.intro @xa_ @hd) ?_|refine kp (And.intro @xa_ @hd) ?_
    refine Ow.callFV rfl Tryz.call164 (fun w' hw'=>aev_ s pt.x w' hpx) ?_
    by_cases he: (qN_ s pt.x).2=0
    ·have e1: ((qN_ s pt.x).2 !=0)=false:=by rw[he];rfl
     rw[if_pos he] at hfo
     refine ko (And.intro @xa_ @e1) ?_
     refine Cw.permL (M:=D1++ ((b10, .cells (zv_ pt).toArray 114 (0,0))::DG)) (by classical exact List.perm_iff_count.2 fun a=>by simp only[List.count_append,List.count_cons,List.count_nil]<;>omega) ?_
     first|with_reducible refine ks [] @xa_ ?_|refine kp @xa_ ?_
     exact Again.mk ⟨n,(qN_ s pt.x).1,(b10, .cells (zv_ pt).toArray 114 (0,0))::DG⟩ (by show n<n+1;omega) ⟨by show n≤p.length;omega,hfo,⟨hw10,hNG⟩⟩ rfl rfl
    ·have e1: ((qN_ s pt.x).2 !=0)=true:=by rw[bne_iff_ne];exact he
     rw[if_neg he] at hfo
     refine ko @xa_ ?_
     first|with_reducible refine ks [] (And.intro @xa_ @e1) ?_|refine kp (And.intro @xa_ @e1) ?_
     refine⟨_,(ke @xa_),(show New w.heap.size ((b10,_):: (D1++DG)) from⟨hw10,hNr⟩), ?_⟩
     show _=W6_ (xZ_ l p);rw[Q4_ p n hfo];rfl
end Go.Proofs
end
section
open Go Go.Proofs Go.Sx Go.StP Go.Flo
namespace Go.Proofs
set_option maxRecDepth 10000
set_option maxHeartbeats 400000
set_option linter.unusedSimpArgs false
structure A9G where
 ts:List (List UInt8)
 v:Value
 D:ze_
 DG:ze_
set_option linter.defProp false
def ve_:=And.intro (And.intro (@zi_) (@zh_)) (And.intro (@Sx.tup2_0) (@Sx.tup2_1))
theorem agl_ (v0:Value) (l:List PartL) (w:World) (hv:k3_ w v0 l) (hb:BndD l):
  Rets Tryz.prog 65 #[v0] w (XS w [] (AllS l)):=by
 have ln:=hv.len
 refine Rets.enterX Tryz.func65 rfl (rs:= [.tmp 2, .tmp 3]) Tryz.results65 Tryz.ntmps65 (fun p hp=>by cases hp) (by simp[keys]) ?_
 refine kf ?_
 by_cases h2:200<l.length
 ·have d1:decide ((200:Int)< (l.length:Int))=true:=decide_eq_true (by omega)
  first|with_reducible refine ks [] (And.intro @ve_ (And.intro @ln (@d1))) ?_|refine kp (And.intro @ve_ (And.intro @ln (@d1))) ?_
  refine⟨_,(ke @ve_), ?_⟩
  refine⟨Ext.of_new trivial, ?_⟩
  unfold AllS ZC_;rw[if_pos h2];rfl
 ·have d1:decide ((200:Int)< (l.length:Int))=false:=decide_eq_false (by omega)
  first|with_reducible refine ks [] (And.intro @ve_ (And.intro @ln (@d1))) ?_|refine kp (And.intro @ve_ (And.intro @ln (@d1))) ?_
  refine Cw.loopG (G:=A9G) [11,12,13,14,18,19,20,17,21,22,6,7,23,24,25,2,3,26,27,28,29,4,15,16,5] (fun g=> [(4,g.v),(5,vi g.ts.length)]) (fun g=>g.D++g.DG) (fun g=>g.ts.length≤l.length∧kx_ l g.ts.length= .ok g.ts∧New w.heap.size g.D∧New w.heap.size g.DG∧Gr g.D 9 1 g.v g.ts.length (g.ts.map strC).flatten) (fun g=>l.length - g.ts.length) ⟨[], .slice none 0 0,[],[]⟩ rfl rfl ?_ ?_
  ·exact⟨Nat.zero_le _,rfl,trivial,trivial,Gr.nl⟩
  intro g j hg
  refine kv ?_
  obtain⟨ts,v,D,DG⟩:=g
  simp only at hg ⊢
  obtain⟨hgl,hgo,hN,hNG,hG⟩:=hg
  by_cases hlt:ts.length<l.length
  ·have d2:decide ((ts.length:Int)< (l.length:Int))=true:=decide_eq_true (by omega)
   first|with_reducible refine ks [6] (And.intro @ve_ (And.intro @d2 (@ln))) ?_|refine kp (And.intro @ve_ (And.intro @d2 (@ln))) ?_
   refine Ow.callFV rfl Tryz.call132 (fun w' hw'=>aet_ v0 l (ts.length:Nat) w' (hv.oldN hw' (hN.app hNG)) hb) ?_
   cases hp:partV l (ts.length:Nat) with
   |error e=>
    have hal:ZC_ l= .error e:=by unfold ZC_;rw[if_neg h2];exact aaa_ hgo hp _ hlt
    have e0: (e !=0)=true:=by rw[bne_iff_ne];exact X7_ hp
    unfold W6_
    refine ko @ve_ ?_
    first|with_reducible refine ks [] (And.intro @ve_ @e0) ?_|refine kp (And.intro @ve_ @e0) ?_
    refine⟨_,(ke @ve_), ?_⟩
    refine⟨Ext.of_new (hN.app hNG), ?_⟩
    unfold AllS;rw[hal];rfl
   |ok s=>
    have e0: ((0:Int) !=0)=false:=rfl
    unfold W6_
    refine ko @ve_ ?_
    first|with_reducible refine ks [] (And.intro @ve_ @e0) ?_|refine kp (And.intro @ve_ @e0) ?_
    refine Ow.buildSlice (e:=9) #[vs s] rfl rfl (by kernel_rfl) fun b9 hb9 hw9=> ?_
    refine Ow.permL (M:=D++ (DG++ [(b9, .cells #[vs s] 9 (0,0))])) (by classical exact List.perm_iff_count.2 fun a=>by simp only[List.count_append,List.count_cons,List.count_nil]<;>omega) ?_
    refine ko @ve_ ?_
    refine Ow.appendXG (e:=9) (k:=1) (new:=strC s) (X:=D) v rfl rfl rfl rfl Tryz.underlying57 (id (by kernel_rfl):z2_ Tryz.prog 9=some (false,1)) (by kernel_rfl) (id (by kernel_rfl):zE_ Tryz.prog 9=some (vs [])) rfl Tryz.underlying57 (by intro k h;cases h) hG (fun w' hw'=>AppX.one1 (hw'.has b9 (.cells #[vs s] 9 (0,0)) (by simp)) (afh_ s) rfl) (by omega) (fun B4 v4 D4 hA4 hB4 hG4 hk14 hk24 hlk4=> ?_)
    have hN4:New w.heap.size D4:=New.of_le fun c hc=>by
     rcases hk24 c hc with h|h
     ·exact hN.le c h
     ·omega
    have hG5:Gr D4 9 1 v4 (ts++ [s]).length ((ts++ [s]).map strC).flatten:=by
     simpa using hG4
    have hN5:New w.heap.size (DG++ [(b9,Obj.cells #[vs s] 9 (0,0))]):=hNG.app ⟨hw9,trivial⟩
    generalize DG++ [(b9,Obj.cells #[vs s] 9 (0,0))]=D6 at*
    refine ko @ve_ ?_
    first|with_reducible refine ks [] @ve_ ?_|refine kp @ve_ ?_
    have hlt2: (ts++ [s]).length=ts.length+1:=by simp
    refine Again.mk ⟨ts++ [s],v4,D4,D6⟩ (by show l.length - (ts++ [s]).length<l.length - ts.length;omega) ⟨by show(ts++ [s]).length≤l.length;omega,by show kx_ l (ts++ [s]).length= .ok (ts++ [s]);rw[hlt2];exact ae9_ hgo hp,hN4,hN5,hG5⟩ rfl (by simp only[hlt2];rfl)
  ·have e:ts.length=l.length:=by omega
   have d2:decide ((ts.length:Int)< (l.length:Int))=false:=decide_eq_false (by omega)
   first|with_reducible refine ks [] (And.intro @ve_ (And.intro @d2 (@ln))) ?_|refine kp (And.intro @ve_ (And.intro @d2 (@ln))) ?_
   refine⟨_,(ke @ve_), ?_⟩
   refine⟨Ext.of_new (hN.app hNG), ?_⟩
   have hal:ZC_ l= .ok ts:=by unfold ZC_;rw[if_neg h2,←e];exact hgo
   unfold AllS
   rw[hal]
   exact⟨v,rfl,Gr.i (hG.app (M:=DG)) fun q hq=>by simp[hq]⟩
end Go.Proofs
end
section
open Go Go.Proofs Go.Sx Go.StP Go.Flo
namespace Go.Proofs
set_option maxRecDepth 10000
set_option maxHeartbeats 400000
set_option linter.unusedSimpArgs false
theorem ac5_ (s:List UInt8) (a:Nat) (e most:Int):zr_ s (a+1) e most=((zr_ (s.drop 1) a e most).1,(zr_ (s.drop 1) a e most).2.1+1,(zr_ (s.drop 1) a e most).2.2):=by
 unfold zr_
 rw[List.drop_drop,Nat.add_comm 1 a]
 by_cases he:e≠0
 ·rw[if_pos he,if_pos he]
 ·rw[if_neg he,if_neg he]
  cases qb_ most (List.drop (a+1) s) 0 0 with
  |error x=>rfl
  |ok p=>simp only[Prod.mk.injEq,true_and];exact⟨by omega,trivial⟩
theorem acu_ (s:List UInt8) (a:Nat) (e n:Int) (hs:1≤s.length):qD_ s (a+1) e n=((qD_ (s.drop 1) a e n).1,(qD_ (s.drop 1) a e n).2.1+1,(qD_ (s.drop 1) a e n).2.2):=by
 unfold qD_
 rw[List.length_drop,List.drop_drop,Nat.add_comm 1 a]
 have hq: ((s.length:Int) - ((a+1:Nat):Int)<n)=(((s.length - 1:Nat):Int) - (a:Int)<n):=by rw[eq_iff_iff];omega
 simp only[hq]
 by_cases he:e≠0
 ·simp only[if_pos he]
 ·simp only[if_neg he]
  by_cases hn:n<0
  ·simp only[if_pos hn]
  ·simp only[if_neg hn]
   by_cases hl: ((s.length - 1:Nat):Int) - (a:Int)<n
   ·simp only[if_pos hl]
   ·simp only[if_neg hl,Prod.mk.injEq,true_and]
    exact⟨by omega,trivial⟩
theorem aay_ (s:List UInt8) (a:Nat) (e most:Int) (hs:1≤s.length):zI_ s (a+1) e most=((zI_ (s.drop 1) a e most).1,(zI_ (s.drop 1) a e most).2.1+1,(zI_ (s.drop 1) a e most).2.2):=by
 unfold zI_
 simp only[ac5_]
 rw[acu_ _ _ _ _ hs]
 simp only
 split<;>rfl
theorem afJ_ (c:UInt8) (r:List UInt8):frR (c::r)=([c],1,0):=by
 unfold frR qD_
 rw[if_neg (by simp),if_neg (by decide),if_neg (by simp only[List.length_cons];omega)]
 rfl
theorem afc_ (c:UInt8) (r:List UInt8):frT (c::r)=((lfT r).1,(lfT r).2.1+1,(lfT r).2.2):=by
 unfold frT
 rw[afJ_]
 exact aay_ (c::r) 0 0 4096 (by simp)
theorem ai3_ (c:UInt8) (r:List UInt8) (a:Nat) (e:Int):jq_ (c::r) (a+1) e=jq_ r a e:=by
 unfold jq_
 rw[List.length_cons]
 have: ((((a+1:Nat):Int)< ((r.length+1:Nat):Int))=((a:Int)< (r.length:Int))):=by rw[eq_iff_iff];omega
 simp only[this]
theorem amW_ (c:UInt8) (r:List UInt8): (fkC c=0∧ ¬ (1≤frK (c::r)∧frK (c::r)≤3))∨(fkC c≠0∧frK (c::r)=fkC c∧ZV_ (fkC c)= [c]):=by
 have e:frK (c::r)=Lib.indexByte letL c:=by unfold frK;rw[afJ_];rfl
 rw[e]
 by_cases h1:c=98
 ·subst h1;exact .inr ⟨by decide,rfl,rfl⟩
 by_cases h2:c=116
 ·subst h2;exact .inr ⟨by decide,rfl,rfl⟩
 by_cases h3:c=99
 ·subst h3;exact .inr ⟨by decide,rfl,rfl⟩
 refine .inl ⟨by unfold fkC;rw[if_neg h1,if_neg h2,if_neg h3], ?_⟩
 have b1: ((98:UInt8)==c)=false:=beq_eq_false_iff_ne.2 (Ne.symm h1)
 have b2: ((116:UInt8)==c)=false:=beq_eq_false_iff_ne.2 (Ne.symm h2)
 have b3: ((99:UInt8)==c)=false:=beq_eq_false_iff_ne.2 (Ne.symm h3)
 simp only[Lib.indexByte,b1,b2,b3,Bool.false_eq_true, ↓reduceIte]
 split<;>simp
theorem ajb_ {k:Int} {t:List UInt8} (h: ¬ (1≤k∧k≤3)):vR_ k t=false:=by
 unfold vR_;rw[if_neg (fun h'=>h ⟨h'.1,h'.2.1⟩)]
theorem aqa_ (s:List UInt8):Jt_ s=lfOk s∧(Jt_ s=true→frK s=lfK s∧(frT s).1=(lfT (s.drop 1)).1):=by
 cases s with
 |nil=>
  have h:Jt_ []=false:=by
   unfold Jt_
   rw[ajb_ (k:=frK []) (by decide),Bool.and_false]
  exact⟨by rw[h];rfl,fun h'=>by rw[h] at h';cases h'⟩
 |cons c r=>
  have e1:Jt_ (c::r)=(jq_ r (lfT r).2.1 (lfT r).2.2==0&&vR_ (frK (c::r)) (lfT r).1):=by
   unfold Jt_;rw[afc_,ai3_]
  have e2:lfOk (c::r)=(fkC c !=0&&jq_ r (lfT r).2.1 (lfT r).2.2==0&&Jr_ (fkC c) (lfT r).1):=rfl
  rcases amW_ c r with⟨h1,h2⟩ | ⟨h1,h2,-⟩
  ·rw[e1,e2,ajb_ h2,h1,Bool.and_false]
   exact⟨rfl,fun h=>by cases h⟩
  ·have h3: (fkC c !=0)=true:=by simpa using h1
   rw[e1,e2,h2,h3,agO_,Bool.true_and]
   refine⟨rfl,fun _=>⟨rfl, ?_⟩⟩
   rw[afc_];rfl
set_option linter.defProp false
def Zs_:=And.intro (And.intro (@zi_) (@zh_)) (And.intro (@j4_) (@aih_))
theorem ahE_ (v:Value) (l:List IdL) (x:IdL) (w:World) (hv:IdS w v l) (hl:l.length<1000000):
  Rets Tryz.prog 26 #[v, .agg (a8 x.l)] w (fun v' D=>v'=vi (idxG x l 0)∧D= []):=by
 obtain⟨b,off,arr,E,fz,hr⟩:=hv.row
 have ln:=hv.len
 refine Rets.enterV Tryz.func26 rfl (rs:= [.tmp 4]) Tryz.results26 Tryz.ntmps26 ?_
 refine kf ?_
 first|with_reducible refine ks [] @Zs_ ?_|refine kp @Zs_ ?_
 refine Ow.box rfl rfl fun b1 hb1 hw1=> ?_
 simp only[z8_,z3_,z4_,zc_,List.nil_append,List.cons_append]
 refine Ow.go rfl ?_
 simp(disch:=(first|assumption|omega| (simp only[xg_,xe_,UInt64.reduceToNat];try omega))) only[↓Sx.S0,Sx.S1,Tryz.fx,Zs_,Nat.reduceAdd,Nat.reducePow,Int.reducePow,Nat.reduceBEq, ↓reduceIte,UInt8.reduceToNat,UInt16.reduceToNat,UInt32.reduceToNat,UInt64.reduceToNat,Int.reduceToNat]
 first|with_reducible refine ks [] (And.intro @Zs_ @ln) ?_|refine kp (And.intro @Zs_ @ln) ?_
 refine Cw.loopG (G:=Nat) [6,7,8,9,12,13,14,15,16,17,18,4,10,11,5] (fun g=> [(5,vi g)]) (fun g=> [(b1, .cells (a8 x.l) 37 (0,0))]) (fun g=>g≤l.length∧idxG x l 0=idxG x (l.drop g) g) (fun g=>l.length - g) 0 rfl rfl ?_ ?_
 ·exact⟨Nat.zero_le _,rfl⟩
 ·intro k jk hk
  refine kv ?_
  obtain⟨h1,h2⟩:=hk
  by_cases hk:k<l.length
  ·have h0:0<l.length:=by omega
   have hbl:=hr.lt h0
   have hn1:b1≠b:=by omega
   have r2:=hr.has h0
   have i2:=hr.idx true k hk
   have l2:=JH_ hr hk
   rw[jA_ (z:=id0) hk,abq_] at h2
   first|with_reducible refine ks [] (And.intro @Zs_ @ln) ?_|refine kp (And.intro @Zs_ @ln) ?_
   refine Cw.regionS [b1,b] [0,1,2,3,4,5] [] (by kernel_rfl) (by kernel_rfl) (by kernel_rfl) ?_
   simp only[zg_, ↓zd_, ↓zb_, ↓zp_, ↓zq_,za_]
   refine kq (And.intro @Zs_ (And.intro @i2 (And.intro @r2 (@l2)))) ?_
   have hsym: (x.l==(l.getD k id0).l)=((l.getD k id0).l==x.l):=Bool.beq_comm
   rw[hsym] at h2
   cases hq: ((l.getD k id0).l==x.l)
   ·rw[hq,if_neg (by simp)] at h2
    first|with_reducible refine ks [] (And.intro @Zs_ @hq) ?_|refine kp (And.intro @Zs_ @hq) ?_
    exact Again.mk (k+1) (by omega) ⟨hk,h2⟩ rfl rfl
   ·rw[hq,if_pos rfl] at h2
    rw[h2]
    first|with_reducible refine ks [] (And.intro @Zs_ @hq) ?_|refine kp (And.intro @Zs_ @hq) ?_
    refine⟨_,(ke @Zs_),⟨hw1,trivial⟩, ?_⟩
    rfl
  ·obtain rfl:k=l.length:=by omega
   rw[List.drop_length] at h2
   rw[h2]
   first|with_reducible refine ks [] (And.intro @Zs_ @ln) ?_|refine kp (And.intro @Zs_ @ln) ?_
   refine⟨_,(ke @Zs_),⟨hw1,trivial⟩, ?_⟩
   rfl
end Go.Proofs
end
section
open Go Go.Proofs Go.Sx Go.StP Go.Flo
namespace Go.Proofs
set_option maxRecDepth 10000
set_option maxHeartbeats 1000000
set_option linter.unusedSimpArgs false
def mkO (v0 v1 v2 v3:Value):Obj:= .cells #[v0,v1,v2,v3] 32 (0,0)
def mkV (v0 v1 v2 v3:Value):Value:= .agg #[v0,v1,v2,v3]
theorem Xh_ (v0 v1 v2 v3:Value):zs_ (some (true,4)) (some (mkO v0 v1 v2 v3)) 0=some (mkV v0 v1 v2 v3):=(rfl)
theorem ae8_ (v0 v1 v2 v3:Value) (n:Nat):zs_ (some (false,n)) (some (mkO v0 v1 v2 v3)) 2=some v2:=(rfl)
theorem JP_ (v0 v1 v2 v3:Value) (n:Nat):zs_ (some (false,n)) (some (mkO v0 v1 v2 v3)) 3=some v3:=(rfl)
abbrev KO_ (q:Value):Prop:=Value.oneCell' q=true∧q.cells= #[q]
theorem k4_ {v0 v1 v2 v3 u0 u1 u2 u3:Value} (h:KO_ u0∧KO_ u1∧KO_ u2∧KO_ u3) (a:Bool):zl_ (some (a,4)) (some (mkO v0 v1 v2 v3)) 0 (mkV u0 u1 u2 u3)=some (mkO u0 u1 u2 u3):=
 zS_ [] [v0,v1,v2,v3] [u0,u1,u2,u3] [] a _ 32 rfl rfl (by rw[mkV,zc_]) rfl (by simp[h.1.1,h.2.1.1,h.2.2.1.1,h.2.2.2.1])
theorem ajF_ (v0 v1 v2 v3 q:Value) (a:Bool) (hq:KO_ q):zl_ (some (a,1)) (some (mkO v0 v1 v2 v3)) 2 q=some (mkO v0 v1 q v3):=
 zS_ [v0,v1] [v2] [q] [v3] a _ 32 rfl rfl hq.2 rfl (by simp[hq.1])
theorem aiv_ (v0 v1 v2 v3 q:Value) (a:Bool) (hq:KO_ q):zl_ (some (a,1)) (some (mkO v0 v1 v2 v3)) 3 q=some (mkO v0 v1 v2 q):=
 zS_ [v0,v1,v2] [v3] [q] [] a _ 32 rfl rfl hq.2 rfl (by simp[hq.1])
theorem zrMk:zE_ Tryz.prog 32=some (mkV (.slice none 0 0) (.slice none 0 0) (.slice none 0 0) (.slice none 0 0)):=id (by kernel_rfl)
theorem aqo_:x3_ Tryz.prog 32=some [(0,1),(1,1),(2,1),(3,1)]:=id (by kernel_rfl)
theorem akm_ {w:World} {v0:Value} {l:List PartL} (hv:k3_ w v0 l):qp_ (x3_ Tryz.prog 32) (zE_ Tryz.prog 32) [(0,v0)]=some (mkV v0 (.slice none 0 0) (.slice none 0 0) (.slice none 0 0)):=by
 rw[aqo_,zrMk]
 obtain⟨b,off,c,arr,E,fz,hr,hc,⟨rfl,rfl,rfl⟩ | ⟨rfl,hb,hsz⟩⟩:=hv<;>rfl
theorem ajP_ (a b c d:Value):Obj.cells (Value.cells (mkV a b c d)) 32 (0,0)=mkO a b c d:=(rfl)
theorem apv_ {α:Type} {m:Nat} {enc:α→List Value} {z:α} {w:World} {v:Value} {l:List α} (hv:SlV m enc z w v l):KO_ v:=by
 obtain⟨bb,off,c,arr,E,fz,hr,hc,⟨rfl,-,-⟩ | ⟨rfl,h,-⟩⟩:=hv<;>exact⟨rfl,rfl⟩
def OfS (l:List PartL) (v0:Value) (v:Value) (D:ze_):Prop:=match fillV l with
 |some p=> ∃x2 x3,v= .tuple #[mkV v0 (.slice none 0 0) x3 x2, .bool true]∧GrI D 37 32 x2 p.1.length (p.1.map wb_).flatten∧GrI D 43 2 x3 p.2.length (p.2.map obC).flatten
 |none=> ∃x2 x3,v= .tuple #[mkV v0 (.slice none 0 0) x3 x2, .bool false]∧KO_ x2∧KO_ x3
theorem afU_ (s:List UInt8):zt_ s=⟨if lfOk s then lfK s else 0,if lfOk s then(lfT (s.drop 1)).1 else []⟩:=by
 unfold zt_
 have h:=aqa_ s
 rw[←h.1]
 cases hf:Jt_ s
 ·rfl
 ·rw[(h.2 hf).1,(h.2 hf).2]
theorem VK_ {s:List UInt8} (h:Jt_ s=true):vR_ (zt_ s).k (zt_ s).t=true:=by
 unfold zt_
 rw[h]
 unfold Jt_ at h
 rw[Bool.and_eq_true] at h
 exact h.2
theorem aoN_ {s:List UInt8} (h:Jt_ s=true): (je_ s).l=Dig.shaR (Qy_ (zt_ s).k (zt_ s).t):=by
 have hr:=VK_ h
 unfold je_ idV
 rw[if_pos hr,akW_ hr]
theorem amn_ {k:Int} {t:List UInt8} (h:vR_ k t=true):t.length≤4096:=by
 unfold vR_ at h
 split at h
 ·rename_i h1;exact h1.2.2
 ·cases h
set_option linter.defProp false
def qz_:=And.intro (And.intro (And.intro (@zi_) (And.intro (@zh_) (@Xh_))) (And.intro (@ae8_) (And.intro (@JP_) (@Sx.tup2_0)))) (And.intro (And.intro (@Sx.tup2_1) (And.intro (@ja_) (@qs_))) (And.intro (@qt_) (And.intro (@qB_) (@j4_))))
theorem amx_ (v0:Value) (l:List PartL) (w:World) (hv:k3_ w v0 l) (hb:BndD l):
  Rets Tryz.prog 15 #[v0] w (XS w [] (OfS l v0)):=by
 have hn1:KO_ (.slice none 0 0):=⟨rfl,rfl⟩
 have hn0:KO_ v0:=apv_ hv
 refine Rets.enterX Tryz.func15 rfl (rs:= [.cell 2 32, .tmp 3]) Tryz.results15 Tryz.ntmps15 (fun p hp=>by cases hp) (by simp[keys]) ?_
 refine kf ?_
 first|with_reducible refine ks [] @qz_ ?_|refine kp @qz_ ?_
 refine Ow.alloc rfl rfl zrMk fun b2 hb2 hw2=> ?_
 simp only[zc_,List.nil_append,List.cons_append]
 refine ko @qz_ ?_
 first|with_reducible refine ks [] @qz_ ?_|refine kp @qz_ ?_
 refine Ow.build (mkV v0 (.slice none 0 0) (.slice none 0 0) (.slice none 0 0)) rfl (akm_ hv) ?_
 refine ko @qz_ ?_
 refine Ow.alloc rfl rfl zrMk fun b4 hb4 hw4=> ?_
 simp only[zc_,List.nil_append,List.cons_append]
 have h24:b2<b4:=zf_ hb4 (by simp[keys])
 simp only[ajP_]
 refine Ow.permL (M:= [(b4,mkO (.slice none 0 0) (.slice none 0 0) (.slice none 0 0) (.slice none 0 0)),(b2,mkO (.slice none 0 0) (.slice none 0 0) (.slice none 0 0) (.slice none 0 0))]) (by classical exact List.perm_iff_count.2 fun a=>by simp only[List.count_append,List.count_cons,List.count_nil]<;>omega) ?_
 have hs4:=fun a=>k4_ (v0:= .slice none 0 0) (v1:= .slice none 0 0) (v2:= .slice none 0 0) (v3:= .slice none 0 0) ⟨hn0,hn1,hn1,hn1⟩ a
 refine ko (And.intro @qz_ @hs4) ?_
 first|with_reducible refine ks [] @qz_ ?_|refine kp @qz_ ?_
 refine Ow.callX (Y:= [(b4,mkO v0 (.slice none 0 0) (.slice none 0 0) (.slice none 0 0)),(b2,mkO (.slice none 0 0) (.slice none 0 0) (.slice none 0 0) (.slice none 0 0))]) (by simp) rfl rfl Tryz.call65 (fun w' hw' hX hn=>agl_ v0 l w' (hv.oldN hw' ⟨hw4,hw2,trivial⟩) hb) (fun v1' D1 hC1 hS1=> ?_)
 have hN1:New w.heap.size D1:=New.of_le fun c hc=>by
  rcases hC1.new c hc with h|h
  ·cases h
  ·exact h.2
 unfold AllS at hS1
 cases ha:ZC_ l with
 |error e=>
  rw[ha] at hS1
  have hS1':v1'= .tuple #[.slice none 0 0,vi e]:=hS1
  subst hS1'
  have e0: (e !=0)=true:=bne_iff_ne.2 (ae4_ ha)
  have hs2:=fun a=>k4_ (v0:= .slice none 0 0) (v1:= .slice none 0 0) (v2:= .slice none 0 0) (v3:= .slice none 0 0) ⟨hn0,hn1,hn1,hn1⟩ a
  refine Ow.permL (M:=(b4,mkO v0 (.slice none 0 0) (.slice none 0 0) (.slice none 0 0)):: (b2,mkO (.slice none 0 0) (.slice none 0 0) (.slice none 0 0) (.slice none 0 0))::D1) (by classical exact List.perm_iff_count.2 fun a=>by simp only[List.count_append,List.count_cons,List.count_nil]<;>omega) ?_
  refine ko @qz_ ?_
  first|with_reducible refine ks [] (And.intro @qz_ (And.intro @e0 (@hs2))) ?_|refine kp (And.intro @qz_ (And.intro @e0 (@hs2))) ?_
  refine⟨_,(ke @qz_), ?_⟩
  refine⟨Ext.of_new ⟨hw4,hw2,hN1⟩, ?_⟩
  unfold OfS
  rw[aci_ ha]
  exact⟨_,_,rfl,hn1,hn1⟩
 |ok ts=>
  rw[ha] at hS1
  obtain⟨x,rfl,hGT⟩:=hS1
  obtain⟨hlen,hl2,htl⟩:=Wn_ ha
  have lnT:=ZH_ hGT
  have e0: ((0:Int) !=0)=false:=rfl
  refine ko @qz_ ?_
  first|with_reducible refine ks [6] (And.intro @qz_ (And.intro @e0 (@lnT))) ?_|refine kp (And.intro @qz_ (And.intro @e0 (@lnT))) ?_
  refine Cw.world fun ww hww=> ?_
  have hnd:=hww.nodup
  clear hww ww
  rw[zk_,List.nodup_append] at hnd
  refine Cw.permL (M:=(b4,mkO v0 (.slice none 0 0) (.slice none 0 0) (.slice none 0 0)):: (b2,mkO (.slice none 0 0) (.slice none 0 0) (.slice none 0 0) (.slice none 0 0)):: (D1++ ([]++ ([]++ [])))) (by classical exact List.perm_iff_count.2 fun a=>by simp only[List.count_append,List.count_cons,List.count_nil]<;>omega) ?_
  refine Cw.loopG (G:=FiG) [21,22,23,24,28,29,30,31,32,27,33,34,8,9,35,36,37,3,38,39,10,40,41,42,43,44,45,46,47,48,49,50,51,52,53,54,55,56,57,25,26,7] (fun g=> [(7,vi g.k)]) (fun g=>(b4,mkO v0 (.slice none 0 0) g.x3 g.x2):: (b2,mkO (.slice none 0 0) (.slice none 0 0) (.slice none 0 0) (.slice none 0 0)):: (D1++ (g.D2++ (g.D3++g.DG)))) (fun g=>g.k≤ts.length∧qM_ (ts.take g.k) [] []=some (g.ids,g.os)∧New w.heap.size g.D2∧New w.heap.size g.D3∧New w.heap.size g.DG∧Gr g.D2 37 32 g.x2 g.ids.length (g.ids.map wb_).flatten∧Gr g.D3 43 2 g.x3 g.os.length (g.os.map obC).flatten) (fun g=>ts.length - g.k) ⟨0,[],[], .slice none 0 0, .slice none 0 0,[],[],[]⟩ rfl rfl ?_ ?_
  ·exact⟨Nat.zero_le _,rfl,trivial,trivial,trivial,Gr.nl,Gr.nl⟩
  intro g j hg
  refine kv ?_
  obtain⟨k,ids,os,x2,x3,D2,D3,DG⟩:=g
  simp only at hg ⊢
  obtain⟨hk,hfg,hN2,hN3,hNG,hG2,hG3⟩:=hg
  have hNr:New w.heap.size (D1++ (D2++ (D3++DG))):=hN1.app (hN2.app (hN3.app hNG))
  have hfl:=Jf_ _ _ _ _ hfg
  rw[List.length_take,Nat.min_eq_left hk,List.length_nil,List.length_nil,Nat.zero_add] at hfl
  simp only at hfl
  have hs2:=fun a=>k4_ (v0:= .slice none 0 0) (v1:= .slice none 0 0) (v2:= .slice none 0 0) (v3:= .slice none 0 0) ⟨hn0,hn1,hG3.cell,hG2.cell⟩ a
  by_cases hlt:k<ts.length
  ·obtain h0| ⟨bt,ct,rest,rfl,hbt,hlk⟩:=ajx_ hGT hnd.1
   ·omega
   have hd:decide ((k:Int)< (ts.length:Int))=true:=decide_eq_true (by omega)
   have hbtn:b4≠bt∧b2≠bt:=by
    have:=hnd.2.2 bt hbt
    simp only[keys,List.map_cons,List.map_nil,List.mem_cons,List.not_mem_nil,or_false,forall_eq_or_imp,forall_eq] at this
    exact⟨Ne.symm this.1,Ne.symm this.2⟩
   have rdt:zA_ w ((b4,mkO v0 (.slice none 0 0) x3 x2):: (b2,mkO (.slice none 0 0) (.slice none 0 0) (.slice none 0 0) (.slice none 0 0)):: (D1++ (D2++ (D3++DG)))) bt=some (rowO strC 9 rest ts):=z6_ (by rw[qw_ _ _ _ _ hbtn.1,qw_ _ _ _ _ hbtn.2];exact qR_ hlk)
   have ldt:=afM_ (E:=9) (rest:=rest) 1 k hlt
   have hsl:=htl k hlt
   first|with_reducible refine ks [7] (And.intro @qz_ (And.intro @hd (And.intro @rdt (@ldt)))) ?_|refine kp (And.intro @qz_ (And.intro @hd (And.intro @rdt (@ldt)))) ?_
   generalize hs:ts.getD k []=s at*
   have hrd1: (if lfOk s then lfK s else 0)=(zt_ s).k:=by rw[afU_]
   have hrd2: (if lfOk s then(lfT (s.drop 1)).1 else [])=(zt_ s).t:=by rw[afU_]
   have hfl2:=(aqa_ s).1
   refine Ow.callFV rfl Tryz.call66 (fun w' hw'=>agH_ s w' (by omega)) ?_
   rw[hrd1,hrd2,←hfl2]
   refine ko @qz_ ?_
   refine Ow.alloc rfl rfl zrOb fun b7 hb7 hw7=> ?_
   simp only[zc_,List.nil_append,List.cons_append]
   have hb47:b4<b7:=zf_ hb7 (by simp[keys])
   have hb27:b2<b7:=by omega
   refine Ow.permL (M:=(b7, .cells #[vi 0,vs []] 43 (0,0)):: (b4,mkO v0 (.slice none 0 0) x3 x2):: (b2,mkO (.slice none 0 0) (.slice none 0 0) (.slice none 0 0) (.slice none 0 0)):: (D1++ (D2++ (D3++DG)))) (by classical exact List.perm_iff_count.2 fun a=>by simp only[List.count_append,List.count_cons,List.count_nil]<;>omega) ?_
   refine ko @qz_ ?_
   cases hfr:Jt_ s with
   |false=>
    have hno:fillV l=none:=JR_ ha hlt hfg (by rw[hs,hfr];rintro⟨h,-⟩;cases h)
    first|with_reducible refine ks [] (And.intro @qz_ @hs2) ?_|refine kp (And.intro @qz_ @hs2) ?_
    refine⟨_,(ke @qz_), ?_⟩
    refine⟨Ext.of_new ⟨hw7,hw4,hw2,hNr⟩, ?_⟩
    unfold OfS
    rw[hno]
    exact⟨_,_,rfl,hG2.cell,hG3.cell⟩
   |true=>
    have htl': (zt_ s).t.length<100000:=by have:=amn_ (VK_ hfr);omega
    have hid:=aoN_ hfr
    first|with_reducible refine ks [] @qz_ ?_|refine kp @qz_ ?_
    refine Ow.callFV rfl Tryz.call67 (fun w' hw'=>am0_ (zt_ s).k (zt_ s).t w' htl') ?_
    rw[←hid]
    have hil:=(je_ s).h
    have hi0:=id0.h
    refine ko @qz_ ?_
    refine Ow.alloc rfl rfl wv_ fun b9 hb9 hw9=> ?_
    simp only[zc_,List.nil_append,List.cons_append]
    have hb79:b7<b9:=zf_ hb9 (by simp[keys])
    refine Ow.permL (M:=(b9, .cells (a8 id0.l) 37 (0,0)):: (b7, .cells #[vi (zt_ s).k,vs (zt_ s).t] 43 (0,0)):: (b4,mkO v0 (.slice none 0 0) x3 x2):: (b2,mkO (.slice none 0 0) (.slice none 0 0) (.slice none 0 0) (.slice none 0 0)):: (D1++ (D2++ (D3++DG)))) (by classical exact List.perm_iff_count.2 fun a=>by simp only[List.count_append,List.count_cons,List.count_nil]<;>omega) ?_
    refine ko @qz_ ?_
    first|with_reducible refine ks [] @qz_ ?_|refine kp @qz_ ?_
    refine Ow.callFV rfl Tryz.call26 (fun w' hw'=>ahE_ x2 ids (je_ s) w' (hG2.slM (fun b o hm=>hw'.has b o (by simp only[List.mem_cons,List.mem_append];exact .inr (.inr (.inr (.inr (.inr (.inl hm))))))) rfl rfl qZ_) (by omega)) ?_
    have hany:=W4_ (je_ s) ids 0
    cases hct: (ids.any fun y=>(je_ s).l==y.l) with
    |true=>
     rw[hct] at hany
     have hno:fillV l=none:=JR_ ha hlt hfg (by rw[hs];rintro⟨-,h⟩;rw[hct] at h;cases h)
     refine ko @qz_ ?_
     first|with_reducible refine ks [] (And.intro @qz_ (And.intro @hany (@hs2))) ?_|refine kp (And.intro @qz_ (And.intro @hany (@hs2))) ?_
     refine⟨_,(ke @qz_), ?_⟩
     refine⟨Ext.of_new ⟨hw9,hw7,hw4,hw2,hNr⟩, ?_⟩
     unfold OfS
     rw[hno]
     exact⟨_,_,rfl,hG2.cell,hG3.cell⟩
    |false=>
     rw[hct] at hany
     have hfg':qM_ (ts.take (k+1)) [] []=some (ids++ [je_ s],os++ [zt_ s]):=by rw[take_snoc (z:= []) hlt,hs,ZM_ hfg,if_pos ⟨hfr,hct⟩]
     refine ko @qz_ ?_
     first|with_reducible refine ks [7] (And.intro @qz_ @hany) ?_|refine kp (And.intro @qz_ @hany) ?_
     refine Ow.buildSlice (e:=43) #[vi (zt_ s).k,vs (zt_ s).t] rfl rfl (zR_ (cs:=obC (zt_ s)) Tryz.underlying29 Tryz.ag43 zrOb (by decide) rfl) fun bc hbc hwc=> ?_
     refine ko @qz_ ?_
     refine Ow.permL (M:=D3++ ((b9, .cells (a8 (je_ s).l) 37 (0,0)):: (b7, .cells #[vi (zt_ s).k,vs (zt_ s).t] 43 (0,0)):: (b4,mkO v0 (.slice none 0 0) x3 x2):: (b2,mkO (.slice none 0 0) (.slice none 0 0) (.slice none 0 0) (.slice none 0 0)):: (D1++ (D2++ (DG++ [(bc, .cells #[vi (zt_ s).k,vs (zt_ s).t] 43 (0,0))]))))) (by classical exact List.perm_iff_count.2 fun a=>by simp only[List.count_append,List.count_cons,List.count_nil]<;>omega) ?_
     refine Ow.appendXG (e:=43) (k:=1) (new:=obC (zt_ s)) (X:=D3) x3 rfl rfl rfl rfl Tryz.underlying29 Tryz.ag43 (by kernel_rfl) zrOb (by rw[obV,zc_];rfl) Tryz.underlying29 (by intro k h;cases h) hG3 (fun w' hw'=>AppX.one1 (hw'.has bc (.cells (obC (zt_ s)).toArray 43 (0,0)) (by simp[obC])) (Km_ _) (WG_ _)) (by omega) (fun B5 v5 D5 hA5 hB5 hG5 hk51 hk52 hlk5=> ?_)
     have hN5:New w.heap.size D5:=New.of_le fun q hq=>by
      rcases hk52 q hq with h|h
      ·exact hN3.le q h
      ·omega
     refine Ow.permL (M:=(b9, .cells (a8 (je_ s).l) 37 (0,0)):: (b7, .cells #[vi (zt_ s).k,vs (zt_ s).t] 43 (0,0)):: (b4,mkO v0 (.slice none 0 0) x3 x2):: (b2,mkO (.slice none 0 0) (.slice none 0 0) (.slice none 0 0) (.slice none 0 0)):: (D1++ (D2++ (D5++ (DG++ [(bc, .cells #[vi (zt_ s).k,vs (zt_ s).t] 43 (0,0))]))))) (by classical exact List.perm_iff_count.2 fun a=>by simp only[List.count_append,List.count_cons,List.count_nil]<;>omega) ?_
     have st5: ∀a,zl_ (some (a,1)) (some (mkO v0 (.slice none 0 0) x3 x2)) 2 v5=some (mkO v0 (.slice none 0 0) v5 x2):=fun a=>ajF_ _ _ _ _ v5 a hG5.cell
     refine ko (And.intro @qz_ @st5) ?_
     first|with_reducible refine ks [] @qz_ ?_|refine kp @qz_ ?_
     refine Ow.buildSlice (e:=37) (a8 (je_ s).l) rfl rfl (zR_ (cs:=(je_ s).l.map v8) Tryz.underlying30 we_ wv_ (by decide) (by simp[(je_ s).h])) fun ba hba hwa=> ?_
     refine ko @qz_ ?_
     refine Ow.permL (M:=D2++ ((b9, .cells (a8 (je_ s).l) 37 (0,0)):: (b7, .cells #[vi (zt_ s).k,vs (zt_ s).t] 43 (0,0)):: (b4,mkO v0 (.slice none 0 0) v5 x2):: (b2,mkO (.slice none 0 0) (.slice none 0 0) (.slice none 0 0) (.slice none 0 0)):: (D1++ (D5++ (DG++ [(bc, .cells #[vi (zt_ s).k,vs (zt_ s).t] 43 (0,0)),(ba, .cells (a8 (je_ s).l) 37 (0,0))]))))) (by classical exact List.perm_iff_count.2 fun a=>by simp only[List.count_append,List.count_cons,List.count_nil]<;>omega) ?_
     refine Ow.appendXG (e:=37) (k:=1) (new:=wb_ (je_ s)) (X:=D2) x2 rfl rfl rfl rfl Tryz.underlying30 we_ (by kernel_rfl) wv_ (by rw[zc_,kD_,id0.h]) Tryz.underlying30 (by intro k h;cases h) hG2 (fun w' hw'=>AppX.one1 (by rw[Q8_];exact hw'.has ba (.cells (a8 (je_ s).l) 37 (0,0)) (by simp)) (qZ_ _) (vC_ _)) (by omega) (fun B4 v4 D4 hA4 hB4 hG4 hk41 hk42 hlk4=> ?_)
     have hN4:New w.heap.size D4:=New.of_le fun q hq=>by
      rcases hk42 q hq with h|h
      ·exact hN2.le q h
      ·omega
     refine Ow.permL (M:=(b4,mkO v0 (.slice none 0 0) v5 x2):: (b2,mkO (.slice none 0 0) (.slice none 0 0) (.slice none 0 0) (.slice none 0 0)):: (D1++ (D4++ (D5++ ((b9, .cells (a8 (je_ s).l) 37 (0,0)):: (b7, .cells #[vi (zt_ s).k,vs (zt_ s).t] 43 (0,0)):: (DG++ [(bc, .cells #[vi (zt_ s).k,vs (zt_ s).t] 43 (0,0)),(ba, .cells (a8 (je_ s).l) 37 (0,0))])))))) (by classical exact List.perm_iff_count.2 fun a=>by simp only[List.count_append,List.count_cons,List.count_nil]<;>omega) ?_
     have st4: ∀a,zl_ (some (a,1)) (some (mkO v0 (.slice none 0 0) v5 x2)) 3 v4=some (mkO v0 (.slice none 0 0) v5 v4):=fun a=>aiv_ _ _ _ _ v4 a hG4.cell
     refine ko (And.intro @qz_ @st4) ?_
     first|with_reducible refine ks [] @qz_ ?_|refine kp @qz_ ?_
     have hl1: (ids++ [je_ s]).length=ids.length+1:=by simp
     have hl2: (os++ [zt_ s]).length=os.length+1:=by simp
     refine Again.mk ⟨k+1,ids++ [je_ s],os++ [zt_ s],v4,v5,D4,D5,(b9, .cells (a8 (je_ s).l) 37 (0,0)):: (b7, .cells #[vi (zt_ s).k,vs (zt_ s).t] 43 (0,0)):: (DG++ [(bc, .cells #[vi (zt_ s).k,vs (zt_ s).t] 43 (0,0)),(ba, .cells (a8 (je_ s).l) 37 (0,0))])⟩ (by show ts.length - (k+1)<ts.length - k;omega) ⟨hlt,hfg',hN4,hN5,⟨hw9,hw7,hNG.app ⟨hwc,hwa,trivial⟩⟩,by simpa using hG4,by simpa using hG5⟩ rfl rfl
  ·obtain rfl:k=ts.length:=by omega
   have hd:decide ((ts.length:Int)< (ts.length:Int))=false:=decide_eq_false (by omega)
   first|with_reducible refine ks [] (And.intro @qz_ (And.intro @lnT (And.intro @hd (@hs2)))) ?_|refine kp (And.intro @qz_ (And.intro @lnT (And.intro @hd (@hs2)))) ?_
   refine⟨_,(ke @qz_), ?_⟩
   refine⟨Ext.of_new ⟨hw4,hw2,hNr⟩, ?_⟩
   have hf:fillV l=some (ids,os):=by
    unfold fillV
    rw[ha]
    rw[List.take_length] at hfg
    exact hfg
   unfold OfS
   rw[hf]
   exact⟨x2,x3,rfl,Gr.i hG2 fun q hq=>by simp[hq],Gr.i hG3 fun q hq=>by simp[hq]⟩
end Go.Proofs
end
namespace Go.Sx
def kB (c:Bool):BitVec 32:=bif c then 3988292384#32 else 0#32
def stB (x:BitVec 32):BitVec 32:=(x>>>1)^^^kB (x.getLsbD 0)
theorem aqA_ (c:Bool) (j:Nat) (h:j<5): (kB c).getLsbD j=false:=by
 have:j=0∨j=1∨j=2∨j=3∨j=4:=by omega
 rcases this with rfl|rfl|rfl|rfl|rfl<;>cases c<;>decide
theorem Q0_ (x:BitVec 32) (j:Nat) (h:j<5): (stB x).getLsbD j=x.getLsbD (j+1):=by
 unfold stB
 rw[BitVec.getLsbD_xor,aqA_ _ _ h,BitVec.getLsbD_ushiftRight,Bool.xor_false,Nat.add_comm]
theorem stB4 (x:BitVec 32):stB (stB (stB (stB x)))=(x>>>4)^^^ (kB (x.getLsbD 0)>>>3^^^kB (x.getLsbD 1)>>>2^^^kB (x.getLsbD 2)>>>1^^^kB (x.getLsbD 3)):=by
 have h1: (stB x).getLsbD 0=x.getLsbD 1:=Q0_ x 0 (by omega)
 have h2: (stB (stB x)).getLsbD 0=x.getLsbD 2:=by rw[Q0_ _ 0 (by omega),Q0_ _ 1 (by omega)]
 have h3: (stB (stB (stB x))).getLsbD 0=x.getLsbD 3:=by rw[Q0_ _ 0 (by omega),Q0_ _ 1 (by omega),Q0_ _ 2 (by omega)]
 have e4:stB (stB (stB (stB x)))=(stB (stB (stB x))>>>1)^^^kB (x.getLsbD 3):=by rw[←h3];rfl
 have e3:stB (stB (stB x))=(stB (stB x)>>>1)^^^kB (x.getLsbD 2):=by rw[←h2];rfl
 have e2:stB (stB x)=(stB x>>>1)^^^kB (x.getLsbD 1):=by rw[←h1];rfl
 have e1:stB x=(x>>>1)^^^kB (x.getLsbD 0):=rfl
 rw[e4,e3,e2,e1]
 simp only[BitVec.ushiftRight_xor_distrib,←BitVec.shiftRight_add,BitVec.xor_assoc]
def hvB:List (BitVec 32):= [0x00000000,0x1db71064,0x3b6e20c8,0x26d930ac,0x76dc4190,0x6b6b51f4,0x4db26158,0x5005713c,0xedb88320,0xf00f9344,0xd6d6a3e8,0xcb61b38c,0x9b64c2b0,0x86d3d2d4,0xa00ae278,0xbdbdf21c]
theorem tabB: ∀a b c d:Bool,(kB a>>>3^^^kB b>>>2^^^kB c>>>1^^^kB d)=hvB.getD (a.toNat+2*b.toNat+4*c.toNat+8*d.toNat) 0:=by decide
theorem lowB (x:BitVec 32):x.toNat%16=(x.getLsbD 0).toNat+2* (x.getLsbD 1).toNat+4* (x.getLsbD 2).toNat+8* (x.getLsbD 3).toNat:=by
 have e: ∀i,(x.getLsbD i).toNat=x.toNat / 2^i%2:=by
  intro i
  rw[BitVec.getLsbD,Nat.testBit_eq_decide_div_mod_eq]
  have:=Nat.mod_lt (x.toNat / 2^i) (show 0<2 by omega)
  by_cases h:x.toNat / 2^i%2=1
  ·simp[h]
  ·have h0:x.toNat / 2^i%2=0:=by omega
   simp[h0]
 rw[e 0,e 1,e 2,e 3]
 omega
theorem ary_ (x:BitVec 32):stB (stB (stB (stB x)))=(x>>>4)^^^hvB.getD (x.toNat%16) 0:=by
 rw[stB4,tabB,lowB]
end Go.Sx
section
open Go Go.Proofs Go.Sx
namespace Go.Proofs
set_option maxRecDepth 10000
set_option maxHeartbeats 4000000
set_option linter.unusedSimpArgs false
def wt_ (n:UInt32):UInt32:=if n%2==1 then n / 2^^^3988292384 else n / 2
theorem Wi_ (n:UInt32): (wt_ n).toBitVec=stB n.toBitVec:=by
 have hd: (n / 2).toBitVec=n.toBitVec>>>1:=by
  apply BitVec.eq_of_toNat_eq
  rw[UInt32.toBitVec_div,BitVec.toNat_udiv,BitVec.toNat_ushiftRight]
  rfl
 have hm: (n%2==1)=n.toBitVec.getLsbD 0:=by
  rw[BitVec.getLsbD,Nat.testBit_eq_decide_div_mod_eq,Nat.pow_zero,Nat.div_one,Bool.eq_iff_iff,beq_iff_eq,decide_eq_true_eq,←UInt32.toNat_inj,UInt32.toNat_mod]
  rfl
 unfold wt_ stB
 rw[hm]
 cases n.toBitVec.getLsbD 0
 ·rw[if_neg (by decide),hd];simp[kB]
 ·rw[if_pos rfl,UInt32.toBitVec_xor,hd];rfl
theorem abY_ (n:UInt32):aaX_ n=wt_ (wt_ (wt_ (wt_ n))):=by
 apply UInt32.toBitVec_inj.1
 rw[Wi_,Wi_,Wi_,Wi_,ary_]
 unfold aaX_
 rw[UInt32.toBitVec_xor]
 congr 1
 ·apply BitVec.eq_of_toNat_eq
  unfold zU_
  rw[BitVec.toNat_ushiftRight,Nat.shiftRight_eq_div_pow]
  have:=n.toNat_lt
  simp only[UInt32.toNat_toBitVec,UInt32.toNat_ofNat']
  omega
 ·have e: (n&&&15).toNat=n.toBitVec.toNat%16:=by
   rw[UInt32.toNat_and,show(15:UInt32).toNat=2^4 - 1 from rfl,Nat.and_two_pow_sub_one_eq_mod]
   rfl
  rw[e]
  have hlt:n.toBitVec.toNat%16<16:=Nat.mod_lt _ (by omega)
  generalize n.toBitVec.toNat%16=m at hlt
  have: ∀m,m<16→(hvL.getD m 0).toBitVec=hvB.getD m 0:=by decide
  exact this m hlt
def amK_ (n:UInt32):Nat→UInt32
 |0=>n
 |k+1=>wt_ (amK_ n k)
theorem agP_ (n:UInt32):amK_ n 8=af0_ n 2:=by
 show wt_ (wt_ (wt_ (wt_ (wt_ (wt_ (wt_ (wt_ n)))))))=aaX_ (aaX_ n)
 rw[abY_,abY_]
set_option linter.defProp false
def qo_:=And.intro (And.intro (@zi_) (@Zq_)) (And.intro (@w4_) (And.intro (@Zp_) (@zh_)))
theorem ajN_ (n:UInt32) (w:World):Rets Tryz.prog 192 #[v32 n] w (fun v D=>v=v32 (wt_ n)∧D= []):=by
 have hrem:zo_ .rem (v32 n) (v32 2)=some (v32 (n%2)):=kq_ _ _ (by decide)
 have hquo:zo_ .quo (v32 n) (v32 2)=some (v32 (n / 2)):=kC_ _ _ (by decide)
 refine Rets.enterV Tryz.func192 rfl (rs:= [.tmp 2]) Tryz.results192 Tryz.ntmps192 ?_
 refine kf ?_
 unfold wt_
 first|with_reducible refine ks [] (And.intro @qo_ (And.intro @hrem (@hquo))) ?_|refine kp (And.intro @qo_ (And.intro @hrem (@hquo))) ?_
 cases h: (n%2==1)
 ·first|with_reducible refine ks [] (And.intro @qo_ @hquo) ?_|refine kp (And.intro @qo_ @hquo) ?_
  refine⟨_,(ke @qo_),trivial, ?_⟩
  rfl
 ·first|with_reducible refine ks [] (And.intro @qo_ @hquo) ?_|refine kp (And.intro @qo_ @hquo) ?_
  refine⟨_,(ke @qo_),trivial, ?_⟩
  rfl
theorem aku_ (n:UInt32) (b:UInt8) (w:World):Rets Tryz.prog 169 #[v32 n,v8 b] w (fun v D=>v=v32 (ahz_ n b)∧D= []):=by
 refine Rets.enterV Tryz.func169 rfl (rs:= [.tmp 4]) Tryz.results169 Tryz.ntmps169 ?_
 refine kf ?_
 first|with_reducible refine ks [] @qo_ ?_|refine kp @qo_ ?_
 unfold ahz_
 generalize n^^^UInt32.ofNat b.toNat=m
 rw[←agP_,show v32 m=v32 (amK_ m 0) from rfl]
 refine Cw.loopG (G:=Nat) [10,11,14,15,0,12,13,5] (fun g=> [(0,v32 (amK_ m g)),(5,vi g)]) (fun g=> []) (fun g=>g≤8) (fun g=>8 - g) 0 rfl rfl ?_ ?_
 ·omega
 intro g j hg
 refine kv ?_
 by_cases hlt:g<8
 ·first|with_reducible refine ks [] @qo_ ?_|refine kp @qo_ ?_
  refine Ow.callFV rfl Tryz.call192 (fun w' hw'=>ajN_ _ w') ?_
  refine ko @qo_ ?_
  first|with_reducible refine ks [] @qo_ ?_|refine kp @qo_ ?_
  refine Again.mk (g+1) (by omega) (by omega) rfl rfl
 ·obtain rfl:g=8:=by omega
  first|with_reducible refine ks [] @qo_ ?_|refine kp @qo_ ?_
  refine⟨_,(ke @qo_),trivial, ?_⟩
  rfl
theorem aoz_ (n:UInt32):4294967295 - n= ~~~ n:=by
 apply UInt32.toBitVec_inj.1
 rw[UInt32.toBitVec_sub,UInt32.toBitVec_not,←BitVec.allOnes_sub_eq_not]
 rfl
theorem ad0_ (s:List UInt8) (w:World) (hs:s.length<1099511627776):Rets Tryz.prog 136 #[vs s] w (fun v D=>v=v32 (crcV s)∧D= []):=by
 refine Rets.enterV Tryz.func136 rfl (rs:= [.tmp 2]) Tryz.results136 Tryz.ntmps136 ?_
 refine kf ?_
 first|with_reducible refine ks [] @qo_ ?_|refine kp @qo_ ?_
 rw[show v32 4294967295=v32 (WT_ (~~~ (0:UInt32)) (s.take 0)) from rfl]
 refine Cw.loopG (G:=Nat) [5,6,7,8,11,12,13,14,15,3,9,10,4] (fun g=> [(3,v32 (WT_ (~~~ (0:UInt32)) (s.take g))),(4,vi g)]) (fun g=> []) (fun g=>g≤s.length) (fun g=>s.length - g) 0 rfl rfl ?_ ?_
 ·omega
 intro g j hg
 refine kv ?_
 by_cases hlt:g<s.length
 ·first|with_reducible refine ks [] @qo_ ?_|refine kp @qo_ ?_
  refine Ow.callFV rfl Tryz.call169 (fun w' hw'=>aku_ _ _ w') ?_
  refine ko @qo_ ?_
  first|with_reducible refine ks [] @qo_ ?_|refine kp @qo_ ?_
  refine Again.mk (g+1) (by omega) (by omega) rfl ?_
  rw[Wf_ _ _ _ hlt]
  rfl
 ·obtain rfl:g=s.length:=by omega
  first|with_reducible refine ks [] @qo_ ?_|refine kp @qo_ ?_
  rw[List.take_length]
  rw[aoz_]
  refine⟨_,(ke @qo_),trivial, ?_⟩
  rfl
theorem aop_ (n:UInt32):sum4 n= [UInt8.ofNat (n%256).toNat,UInt8.ofNat (n / 256%256).toNat,UInt8.ofNat (n / 65536%256).toNat,UInt8.ofNat (n / 16777216).toNat]:=by
 show [UInt8.ofNat (zU_ n 0).toNat,UInt8.ofNat (zU_ n 8).toNat,UInt8.ofNat (zU_ n 16).toNat,UInt8.ofNat (zU_ n 24).toNat]=_
 have hn:=n.toNat_lt
 congr 1
 ·apply UInt8.toNat_inj.1
  simp[zU_]
 ·congr 1
  ·apply UInt8.toNat_inj.1
   simp[zU_]
  ·congr 1
   ·apply UInt8.toNat_inj.1
    simp[zU_]
   ·congr 1
    apply UInt8.toNat_inj.1
    simp[zU_]
theorem JB_ (s:List UInt8) (w:World) (hs:s.length<1099511627776):
  Rets Tryz.prog 68 #[vs s] w (fun v D=>v=vs (q9_ s)∧D= []):=by
 refine Rets.enterV Tryz.func68 rfl (rs:= [.tmp 2]) Tryz.results68 Tryz.ntmps68 ?_
 refine kf ?_
 first|with_reducible refine ks [] @qo_ ?_|refine kp @qo_ ?_
 refine Ow.callFV rfl Tryz.call136 (fun w' hw'=>ad0_ s w' hs) ?_
 refine ko @qo_ ?_
 unfold q9_
 rw[aop_]
 generalize crcV s=n
 have h1:zo_ .rem (v32 n) (v32 256)=some (v32 (n%256)):=kq_ _ _ (by decide)
 have h2:zo_ .quo (v32 n) (v32 256)=some (v32 (n / 256)):=kC_ _ _ (by decide)
 have h3:zo_ .rem (v32 (n / 256)) (v32 256)=some (v32 (n / 256%256)):=kq_ _ _ (by decide)
 have h4:zo_ .quo (v32 n) (v32 65536)=some (v32 (n / 65536)):=kC_ _ _ (by decide)
 have h5:zo_ .rem (v32 (n / 65536)) (v32 256)=some (v32 (n / 65536%256)):=kq_ _ _ (by decide)
 have h6:zo_ .quo (v32 n) (v32 16777216)=some (v32 (n / 16777216)):=kC_ _ _ (by decide)
 first|with_reducible refine ks [] (And.intro @qo_ (And.intro @h1 (And.intro @h2 (And.intro @h3 (And.intro @h4 (And.intro @h5 (@h6))))))) ?_|refine kp (And.intro @qo_ (And.intro @h1 (And.intro @h2 (And.intro @h3 (And.intro @h4 (And.intro @h5 (@h6))))))) ?_
 generalize UInt8.ofNat (n%256).toNat=q0
 generalize UInt8.ofNat (n / 256%256).toNat=q1
 generalize UInt8.ofNat (n / 65536%256).toNat=q2
 generalize UInt8.ofNat (n / 16777216).toNat=q3
 refine Ow.buildSlice (e:=5) #[v8 q0,v8 q1,v8 q2,v8 q3] rfl rfl (by kernel_rfl) fun b1 hb1 hw1=> ?_
 rw[show(#[v8 q0,v8 q1,v8 q2,v8 q3]:Array Value)=a8 [q0,q1,q2,q3] from rfl]
 have hl4: [q0,q1,q2,q3].length=4:=rfl
 have e4:List.take 4 (List.drop 0 [q0,q1,q2,q3])= [q0,q1,q2,q3]:=rfl
 generalize [q0,q1,q2,q3]=q at*
 refine ko (And.intro @qo_ @e4) ?_
 first|with_reducible refine ks [] @qo_ ?_|refine kp @qo_ ?_
 refine⟨_,(ke @qo_),⟨hw1,trivial⟩, ?_⟩
 rfl
theorem VA_ (s:List UInt8) (w:World) (hs:s.length<1099511627776):
  Rets Tryz.prog 75 #[vs s] w (fun v D=>v= .tuple #[vs (zu_ s).1, .bool (zu_ s).2]∧D= []):=by
 refine Rets.enterV Tryz.func75 rfl (rs:= [.tmp 2, .tmp 3]) Tryz.results75 Tryz.ntmps75 ?_
 refine kf ?_
 first|with_reducible refine ks [] @qo_ ?_|refine kp @qo_ ?_
 unfold zu_
 by_cases h4:s.length<4
 ·have e1:decide ((s.length:Int)<4)=true:=decide_eq_true (by omega)
  rw[if_pos h4]
  first|with_reducible refine ks [] (And.intro @qo_ @e1) ?_|refine kp (And.intro @qo_ @e1) ?_
  refine⟨_,(ke @qo_),trivial, ?_⟩
  rfl
 ·have e1:decide ((s.length:Int)<4)=false:=decide_eq_false (by omega)
  have e2: ((s.length:Int) - 4).toNat=s.length - 4:=by omega
  rw[if_neg h4]
  first|with_reducible refine ks [] (And.intro @qo_ (And.intro @e1 (@e2))) ?_|refine kp (And.intro @qo_ (And.intro @e1 (@e2))) ?_
  refine Ow.callFV rfl Tryz.call68 (fun w' hw'=>JB_ (s.take (s.length - 4)) w' (by rw[List.length_take];omega)) ?_
  refine ko @qo_ ?_
  cases hq: (q9_ (s.take (s.length - 4)) !=s)
  ·rw[if_pos (by simpa using hq)]
   first|with_reducible refine ks [] (And.intro @qo_ (And.intro @hq (@e2))) ?_|refine kp (And.intro @qo_ (And.intro @hq (@e2))) ?_
   refine⟨_,(ke @qo_),trivial, ?_⟩
   rfl
  ·rw[if_neg (by simpa using hq)]
   first|with_reducible refine ks [] (And.intro @qo_ @hq) ?_|refine kp (And.intro @qo_ @hq) ?_
   refine⟨_,(ke @qo_),trivial, ?_⟩
   rfl
end Go.Proofs
end
section
open Go Go.Proofs Go.Sx Go.StP Go.Flo
namespace Go.Proofs
set_option maxRecDepth 10000
set_option maxHeartbeats 1000000
set_option linter.unusedSimpArgs false
set_option linter.defProp false
def asO_:=And.intro (And.intro (@zi_) (And.intro (@zh_) (@jJ_))) (And.intro (@jF_) (And.intro (@jB_) (@qf_)))
end Go.Proofs
end
section
open Go Go.Proofs Go.Sx Go.StP Go.Flo
namespace Go.Proofs
set_option maxRecDepth 10000
set_option maxHeartbeats 1000000
set_option linter.unusedSimpArgs false
theorem XY_ {s:List UInt8} (h:s.length<4∨s.take 4≠magB):jg_ s=(0,false,(qD_ s 0 0 4).2):=by
 unfold jg_
 rw[if_neg]
 unfold qD_
 rw[if_neg (by decide),if_neg (by decide)]
 split
 ·decide
 ·rename_i h1
  rcases h with h|h
  ·omega
  ·exact h
theorem ahS_ {s:List UInt8} (h4:4≤s.length) (h:s.take 4=magB):jg_ s=((zr_ s 4 0 200).1,(zr_ s 4 0 200).2.2==0,(zr_ s 4 0 200).2):=by
 have e:qD_ s 0 0 4=(s.take 4,4,0):=by
  unfold qD_
  rw[if_neg (by decide),if_neg (by decide),if_neg (by omega)]
  rfl
 unfold jg_
 rw[e]
 simp only
 rw[if_pos h]
def XV_ (s:List UInt8) (v:Value) (D:ze_):Prop:=
 if(jg_ s).2.1=true then∃x y n A,v= .tuple #[x,y,vi n,vi A, .bool true]∧n=(jg_ s).1∧0≤n∧n≤200∧GrI D 114 3 x (jI_ s).1.length ((jI_ s).1.map zv_).flatten∧GrI D 3 1 y (jI_ s).2.1.length ((jI_ s).2.1.map Jh_).flatten∧
  (((jI_ s).2.2.2=0∧A=(jI_ s).2.2.1∧((jI_ s).1.length:Int)=n)∨((jI_ s).2.2.2≠0∧((jI_ s).1.length:Int)<n))
 else v= .tuple #[.slice none 0 0, .slice none 0 0,vi 0,vi 0, .bool false]
structure RdDG where
 l:List PartL
 sp:List Nat
 a:Nat
 v1:Value
 v2:Value
 D1:ze_
 D2:ze_
 DG:ze_
theorem akS_ (s:List UInt8):qp_ (x3_ Tryz.prog 166) (zE_ Tryz.prog 166) [(0,vs s),(1,vi 4)]=some (.agg #[vs s,vi 4,vi 0]):=by
 rw[show x3_ Tryz.prog 166=some [(0,1),(1,1),(2,1)] from id (by kernel_rfl),zrRR];rfl
theorem aah_ (b:Nat) (s:List UInt8) (a:Nat) (e most:Int) (w:World) (ha:a≤s.length) (hs:s.length<1099511627776) (ho:w.heap[b]? =some (rrO s a e)):
  Rets Tryz.prog 99 #[vp b 0,vi most] w (fun v D=> ∃o,D= [(b,o)]∧v=vs (zI_ s a e most).1∧o=rrO s (zI_ s a e most).2.1 (zI_ s a e most).2.2):=kQ_ b s a e most w ha hs ho
set_option linter.defProp false
def qn_:=And.intro (And.intro (@zi_) (And.intro (@zh_) (@afL_))) (And.intro (And.intro (@afP_) (@ae2_)) (And.intro (@qf_) (@Ze_)))
theorem acj_ (s:List UInt8) (w:World) (hs:s.length<1099511627776):Rets Tryz.prog 76 #[vs s] w (XS w [] (XV_ s)):=by
 refine Rets.enterX Tryz.func76 rfl (rs:= [.tmp 2, .tmp 3, .tmp 4, .tmp 5, .tmp 6]) Tryz.results76 Tryz.ntmps76 (fun p hp=>by cases hp) (by simp[keys]) ?_
 refine kf ?_
 by_cases h4:s.length<4
 ·have d1:decide ((s.length:Int)<4)=true:=decide_eq_true (by omega)
  first|with_reducible refine ks [] (And.intro @qn_ @d1) ?_|refine kp (And.intro @qn_ @d1) ?_
  refine⟨_,(ke @qn_), ?_⟩
  refine⟨Ext.of_new trivial, ?_⟩
  unfold XV_
  rw[XY_ (.inl h4)]
  rfl
 have d1:decide ((s.length:Int)<4)=false:=decide_eq_false (by omega)
 have d1':decide ((0:Int)≤4∧(4:Int)≤ (s.length:Int))=true:=decide_eq_true (by omega)
 by_cases hm:s.take 4=magB
 ·have d2: (s.take 4 != [83,80,75,49])=false:=bne_eq_false_iff_eq.2 hm
  have hhd:=ahS_ (by omega) hm
  first|with_reducible refine ks [] (And.intro @qn_ (And.intro @d1 (@d2))) ?_|refine kp (And.intro @qn_ (And.intro @d1 (@d2))) ?_
  refine Ow.build (.agg #[vs s,vi 4,vi 0]) rfl (akS_ s) ?_
  refine ko @qn_ ?_
  refine Ow.box rfl rfl fun br hbr hwr=> ?_
  simp only[z8_,z3_,z4_,zc_,List.nil_append]
  refine Ow.permL (M:= [(br,rrO s 4 0)]) (List.Perm.refl _) ?_
  refine ko @qn_ ?_
  first|with_reducible refine ks [] @qn_ ?_|refine kp @qn_ ?_
  have l1:=zO_ (s:=s) (a:=4) (e:=0) (most:=200) (by omega)
  have m1:=z9_ (s:=s) (a:=4) (e:=0) (most:=200) (by omega)
  refine Ow.callM rfl rfl Tryz.call98 (by simp[keys]) (fun w' hw'=>qW_ br s 4 0 200 w' (by omega) (by omega) (hw'.has _ _ List.mem_cons_self)) ?_
  have hrp:jI_ s=zN_ s (jg_ s).1.toNat 0 (jg_ s).2.2.1 (jg_ s).2.2.2:=rfl
  rw[hhd] at hrp
  generalize zr_ s 4 0 200=q at*
  obtain⟨n0,a0,e0⟩:=q
  simp only at l1 m1 hhd hrp ⊢
  obtain⟨n,rfl⟩: ∃n:Nat,n0=(n:Int):=⟨n0.toNat,by omega⟩
  rw[Int.toNat_natCast] at hrp
  refine kn ?_
  refine ko @qn_ ?_
  by_cases he:e0=0
  ·subst he
   have hd0: ((0:Int) !=0)=false:=rfl
   have hE: (jg_ s).2.1=true:=by rw[hhd];rfl
   have hn1: (jg_ s).1=(n:Int):=by rw[hhd]
   clear hhd
   first|with_reducible refine ks [11] (And.intro @qn_ @hd0) ?_|refine kp (And.intro @qn_ @hd0) ?_
   refine Cw.permL (M:=(br,rrO s a0 0):: ([]++ ([]++ []))) (List.Perm.refl _) ?_
   refine Cw.loopG (G:=RdDG) [34,35,36,39,40,41,42,12,43,44,13,45,46,14,47,48,49,50,51,52,53,54,55,2,3,4,5,6,56,57,15,58,59,60,61,62,63,64,65,66,67,68,9,69,70,71,72,10,37,38,11] (fun g=> [(9,g.v1),(10,g.v2),(11,vi g.l.length)]) (fun g=>(br,rrO s g.a 0):: (g.D1++ (g.D2++g.DG))) (fun g=>g.l.length≤n∧g.sp.length=g.l.length∧g.a≤s.length∧New w.heap.size g.D1∧New w.heap.size g.D2∧New w.heap.size g.DG∧Gr g.D1 114 3 g.v1 g.l.length (g.l.map zv_).flatten∧Gr g.D2 3 1 g.v2 g.sp.length (g.sp.map Jh_).flatten∧jI_ s=(g.l++ (zN_ s (n - g.l.length) g.l.length g.a 0).1,g.sp++ (zN_ s (n - g.l.length) g.l.length g.a 0).2.1,(zN_ s (n - g.l.length) g.l.length g.a 0).2.2)) (fun g=>n - g.l.length) ⟨[],[],a0, .slice none 0 0, .slice none 0 0,[],[],[]⟩ rfl rfl ?_ ?_
   ·exact⟨Nat.zero_le _,rfl,l1.2,trivial,trivial,trivial,Gr.nl,Gr.nl,by rw[hrp];rfl⟩
   intro g j hg
   refine kv ?_
   obtain⟨l,sp,a,v1,v2,D1,D2,DG⟩:=g
   simp only at hg ⊢
   obtain⟨hln,hsl,hal,hN1,hN2,hNG,hG1,hG2,hpr⟩:=hg
   have hNr:New w.heap.size (D1++ (D2++DG)):=hN1.app (hN2.app hNG)
   by_cases hlt:l.length<n
   ·have d3:decide ((l.length:Int)< (n:Int))=true:=decide_eq_true (by omega)
    have hk:n - l.length=(n - (l.length+1))+1:=by omega
    rw[hk] at hpr
    have hle1:=zO_ (s:=s) (a:=a) (e:=0) (most:=200) hal
    have hm1:=z9_ (s:=s) (a:=a) (e:=0) (most:=200) (by omega)
    have hpc:wf_ s l.length a 0=(⟨decide (0< (zr_ s a 0 200).1),if 0< (zr_ s a 0 200).1 then((l.length:Nat):Int) - (zr_ s a 0 200).1 else 0,(zI_ s (zr_ s a 0 200).2.1 (zr_ s a 0 200).2.2 65536).1⟩,(zI_ s (zr_ s a 0 200).2.1 (zr_ s a 0 200).2.2 65536).2):=rfl
    first|with_reducible refine ks [1000018] (And.intro @qn_ @d3) ?_|refine kp (And.intro @qn_ @d3) ?_
    refine Ow.callM rfl rfl Tryz.call98 (by simp[keys]) (fun w' hw'=>qW_ br s a 0 200 w' hal (by omega) (hw'.has _ _ List.mem_cons_self)) ?_
    generalize zr_ s a 0 200=x at*
    obtain⟨F,a1,e1⟩:=x
    simp only at hle1 hm1 hpc ⊢
    have hle2:=xl_ (s:=s) (a:=a1) (e:=e1) (most:=65536) hle1.2
    refine kn ?_
    refine ko @qn_ ?_
    first|with_reducible refine ks [] @qn_ ?_|refine kp @qn_ ?_
    refine Ow.callM rfl rfl Tryz.call99 (by simp[keys]) (fun w' hw'=>aah_ br s a1 e1 65536 w' hle1.2 hs (hw'.has _ _ List.mem_cons_self)) ?_
    generalize zI_ s a1 e1 65536=x at*
    obtain⟨t,a2,e2⟩:=x
    simp only at hle2 hpc ⊢
    refine kn ?_
    refine ko @qn_ ?_
    rw[zN_,hpc] at hpr
    simp only at hpr
    by_cases he2:e2=0
    ·subst he2
     rw[if_pos rfl] at hpr
     have d4: ((0:Int) !=0)=false:=rfl
     first|with_reducible refine ks [] (And.intro @qn_ @d4) ?_|refine kp (And.intro @qn_ @d4) ?_
     refine Ow.build (.agg (zv_ ⟨false,0,t⟩).toArray) rfl (ZG_ t) ?_
     refine ko @qn_ ?_
     refine Ow.alloc rfl rfl vq_ fun b15 hb15 hw15=> ?_
     simp only[zc_,List.nil_append,List.cons_append]
     have hb15r:br<b15:=zf_ hb15 (by simp[keys])
     have hst:=xz_ ⟨false,0,t⟩ z5_ 114
     refine Ow.permL (M:=(b15, .cells (zv_ z5_).toArray 114 (0,0)):: (br,rrO s a2 0):: (D1++ (D2++DG))) (by classical exact List.perm_iff_count.2 fun a=>by simp only[List.count_append,List.count_cons,List.count_nil]<;>omega) ?_
     refine ko (And.intro @qn_ @hst) ?_
     obtain⟨p,hp⟩: ∃p,p=(⟨decide (0<F),if 0<F then((l.length:Nat):Int) - F else 0,t⟩:PartL):=⟨_,rfl⟩
     rw[←hp] at hpr
     refine Cw.cutO (G:=PartL) [58,59,60,61,62,63,64] (fun g=> []) (fun g=>(b15, .cells (zv_ g).toArray 114 (0,0)):: (br,rrO s a2 0):: (D1++ (D2++DG))) (fun g=>g=p) ?_ ?_
     ·by_cases hF:0<F
      ·have d5:decide ((0:Int)<F)=true:=decide_eq_true hF
       have hs1:=KD_ ⟨false,0,t⟩ 114
       have hs2:=Xf_ ⟨true,0,t⟩ 114
       first|with_reducible refine ks [] (And.intro @qn_ (And.intro @d5 (And.intro @hs1 (@hs2)))) ?_|refine kp (And.intro @qn_ (And.intro @d5 (And.intro @hs1 (@hs2)))) ?_
       refine CutO.mk _ ?_ rfl rfl
       rw[hp,decide_eq_true hF,if_pos hF]
      ·have d5:decide ((0:Int)<F)=false:=decide_eq_false hF
       first|with_reducible refine ks [] (And.intro @qn_ @d5) ?_|refine kp (And.intro @qn_ @d5) ?_
       refine CutO.mk _ ?_ rfl rfl
       rw[hp,decide_eq_false hF,if_neg hF]
     ·intro g j hg
      refine kv ?_
      obtain rfl:=hg
      clear hp
      first|with_reducible refine ks [] @qn_ ?_|refine kp @qn_ ?_
      refine Ow.buildSlice (e:=114) (zv_ g).toArray rfl rfl (zR_ (cs:=zv_ g) Tryz.underlying22 Tryz.ag114 vq_ (by decide) rfl) fun ba hba hwa=> ?_
      refine ko @qn_ ?_
      refine Ow.permL (M:=D1++ ((b15, .cells (zv_ g).toArray 114 (0,0)):: (br,rrO s a2 0):: (D2++ (DG++ [(ba, .cells (zv_ g).toArray 114 (0,0))])))) (by classical exact List.perm_iff_count.2 fun a=>by simp only[List.count_append,List.count_cons,List.count_nil]<;>omega) ?_
      refine Ow.appendXG (e:=114) (k:=1) (new:=zv_ g) (X:=D1) v1 rfl rfl rfl rfl Tryz.underlying22 Tryz.ag114 (by kernel_rfl) vq_ (by rw[qf_];rfl) Tryz.underlying22 (by intro k h;cases h) hG1 (fun w' hw'=>AppX.one1 (hw'.has ba (.cells (zv_ g).toArray 114 (0,0)) (by simp)) (jv_ _) (wG_ _)) (by omega) (fun B4 v4 D4 hA4 hB4 hG4 hk41 hk42 hlk4=> ?_)
      have hN4:New w.heap.size D4:=New.of_le fun q hq=>by
       rcases hk42 q hq with h|h
       ·exact hN1.le q h
       ·omega
      refine Ow.permL (M:=(br,rrO s a2 0):: (D4++ (D2++ ((b15, .cells (zv_ g).toArray 114 (0,0)):: (DG++ [(ba, .cells (zv_ g).toArray 114 (0,0))]))))) (by classical exact List.perm_iff_count.2 fun a=>by simp only[List.count_append,List.count_cons,List.count_nil]<;>omega) ?_
      refine ko @qn_ ?_
      first|with_reducible refine ks [] @qn_ ?_|refine kp @qn_ ?_
      refine Ow.buildSlice (e:=3) #[vi a] rfl rfl (by kernel_rfl) fun bc hbc hwc=> ?_
      refine ko @qn_ ?_
      refine Ow.permL (M:=D2++ ((br,rrO s a2 0):: (D4++ ((b15, .cells (zv_ g).toArray 114 (0,0)):: (DG++ [(ba, .cells (zv_ g).toArray 114 (0,0)),(bc, .cells #[vi a] 3 (0,0))]))))) (by classical exact List.perm_iff_count.2 fun a=>by simp only[List.count_append,List.count_cons,List.count_nil]<;>omega) ?_
      refine Ow.appendXG (e:=3) (k:=1) (new:=Jh_ a) (X:=D2) v2 rfl rfl rfl rfl Tryz.underlying28 (id (by kernel_rfl):z2_ Tryz.prog 3=some (false,1)) (by kernel_rfl) (id (by kernel_rfl):zE_ Tryz.prog 3=some (vi 0)) rfl Tryz.underlying28 (by intro k h;cases h) hG2 (fun w' hw'=>AppX.one1 (hw'.has bc (.cells #[vi a] 3 (0,0)) (by simp)) (kY_ a) rfl) (by omega) (fun B5 v5 D5 hA5 hB5 hG5 hk51 hk52 hlk5=> ?_)
      have hN5:New w.heap.size D5:=New.of_le fun q hq=>by
       rcases hk52 q hq with h|h
       ·exact hN2.le q h
       ·omega
      refine Ow.permL (M:=(br,rrO s a2 0):: (D4++ (D5++ ((b15, .cells (zv_ g).toArray 114 (0,0)):: (DG++ [(ba, .cells (zv_ g).toArray 114 (0,0)),(bc, .cells #[vi a] 3 (0,0))]))))) (by classical exact List.perm_iff_count.2 fun a=>by simp only[List.count_append,List.count_cons,List.count_nil]<;>omega) ?_
      refine ko @qn_ ?_
      first|with_reducible refine ks [] @qn_ ?_|refine kp @qn_ ?_
      have hl1: (l++ [g]).length=l.length+1:=by simp
      have hl2: (sp++ [a]).length=sp.length+1:=by simp
      refine Again.mk ⟨l++ [g],sp++ [a],a2,v4,v5,D4,D5,(b15, .cells (zv_ g).toArray 114 (0,0)):: (DG++ [(ba, .cells (zv_ g).toArray 114 (0,0)),(bc, .cells #[vi a] 3 (0,0))])⟩ (by show n - (l++ [g]).length<n - l.length;omega) ⟨by show(l++ [g]).length≤n;omega,by show(sp++ [a]).length=(l++ [g]).length;omega,hle2.2,hN4,hN5,⟨hw15,hNG.app ⟨hwa,hwc,trivial⟩⟩,by simpa using hG4,by simpa using hG5, ?_⟩ rfl (by simp only[hl1];rfl)
      show jI_ s=_
      rw[hpr,hl1]
      simp
    ·have d4: (e2 !=0)=true:=bne_iff_ne.2 he2
     rw[if_neg he2] at hpr
     first|with_reducible refine ks [] (And.intro @qn_ @d4) ?_|refine kp (And.intro @qn_ @d4) ?_
     refine⟨_,(ke @qn_), ?_⟩
     refine⟨Ext.of_new ⟨hwr,hNr⟩, ?_⟩
     unfold XV_
     rw[if_pos hE,hpr,hn1]
     simp only[List.append_nil]
     exact⟨v1,v2,_,_,rfl,rfl,by omega,by omega,Gr.i hG1 fun c hc=>by simp[hc],Gr.i hG2 fun c hc=>by simp[hc], .inr ⟨he2,by omega⟩⟩
   ·obtain hln':l.length=n:=by omega
    have d3:decide ((l.length:Int)< (n:Int))=false:=decide_eq_false (by omega)
    rw[hln',Nat.sub_self] at hpr
    first|with_reducible refine ks [] (And.intro @qn_ @d3) ?_|refine kp (And.intro @qn_ @d3) ?_
    refine Cw.regionS [br] [0,1,2,3,4,5,7,8,9,6,10,11] [] (by kernel_rfl) (by kernel_rfl) (by kernel_rfl) ?_
    simp only[zg_, ↓zd_, ↓zb_, ↓zp_, ↓zq_,za_]
    refine kq @qn_ ?_
    first|with_reducible refine ks [] @qn_ ?_|refine kp @qn_ ?_
    refine⟨_,(ke @qn_), ?_⟩
    refine⟨Ext.of_new ⟨hwr,hNr⟩, ?_⟩
    unfold XV_
    rw[if_pos hE,hpr,hn1]
    simp only[zN_,List.append_nil]
    exact⟨v1,v2,_,_,rfl,rfl,by omega,by omega,Gr.i hG1 fun c hc=>by simp[hc],Gr.i hG2 fun c hc=>by simp[hc], .inl ⟨trivial,rfl,by omega⟩⟩
  ·have hd0: (e0 !=0)=true:=bne_iff_ne.2 he
   have hE: (jg_ s).2.1=false:=by rw[hhd];exact beq_eq_false_iff_ne.2 he
   first|with_reducible refine ks [] (And.intro @qn_ @hd0) ?_|refine kp (And.intro @qn_ @hd0) ?_
   refine⟨_,(ke @qn_), ?_⟩
   refine⟨Ext.of_new ⟨hwr,trivial⟩, ?_⟩
   unfold XV_
   rw[hE]
   rfl
 ·have d2: (s.take 4 != [83,80,75,49])=true:=bne_iff_ne.2 hm
  first|with_reducible refine ks [] (And.intro @qn_ (And.intro @d1 (@d2))) ?_|refine kp (And.intro @qn_ (And.intro @d1 (@d2))) ?_
  refine⟨_,(ke @qn_), ?_⟩
  refine⟨Ext.of_new trivial, ?_⟩
  unfold XV_
  rw[XY_ (.inr hm)]
  rfl
end Go.Proofs
end
section
open Go Go.Proofs Go.Sx Go.StP Go.Flo
namespace Go.Proofs
set_option maxRecDepth 10000
set_option maxHeartbeats 1000000
set_option linter.unusedSimpArgs false
def MkD (D:ze_) (v:Value) (l:List PartL) (sp:List Nat) (ids:List IdL) (os:List ObL):Prop:=
 ∃v0 v1 v2 v3,v=mkV v0 v1 v3 v2∧GrI D 114 3 v0 l.length (l.map zv_).flatten∧GrI D 3 1 v1 sp.length (sp.map Jh_).flatten∧GrI D 37 32 v2 ids.length (ids.map wb_).flatten∧GrI D 43 2 v3 os.length (os.map obC).flatten
def ajY_ (b:List UInt8) (v:Value) (D:ze_):Prop:=match vP_ b with
 |some q=> ∃x,v= .tuple #[x, .bool true]∧MkD D x q.1 q.2.1 q.2.2.1 q.2.2.2
 |none=> ∃c0 c1 c2 c3,v= .tuple #[mkV c0 c1 c2 c3, .bool false]∧KO_ c0∧KO_ c1∧KO_ c2∧KO_ c3
theorem Qx_:qp_ (x3_ Tryz.prog 32) (zE_ Tryz.prog 32) []=some (mkV (.slice none 0 0) (.slice none 0 0) (.slice none 0 0) (.slice none 0 0)):=by
 rw[aqo_,zrMk];rfl
theorem ake_ (v0 v1 v2 v3 q:Value) (a:Bool) (hq:KO_ q):zl_ (some (a,1)) (some (mkO v0 v1 v2 v3)) 1 q=some (mkO v0 q v2 v3):=
 zS_ [v0] [v1] [q] [v2,v3] a _ 32 rfl rfl hq.2 rfl (by simp[hq.1])
theorem BndD.ofSmall {l:List PartL} (h:SmallP l):BndD l:=fun g hg=>by have:=h g hg;omega
theorem Wo_ {s:List UInt8} {a:Nat} {e:Int} (ha:a≤s.length):jq_ s a e=0↔e=0∧a=s.length:=by
 constructor
 ·intro h
  have:=Z6_ h
  exact⟨this.1,by omega⟩
 ·rintro⟨rfl,rfl⟩
  unfold jq_
  rw[if_neg (by decide),if_neg (by omega)]
def ae3_ (l:List PartL) (_x c2 c3:Value) (ok:Bool) (D:ze_):Prop:=match fillV l with
 |some p=>ok=true∧GrI D 37 32 c2 p.1.length (p.1.map wb_).flatten∧GrI D 43 2 c3 p.2.length (p.2.map obC).flatten
 |none=>ok=false
theorem amC_ {l:List PartL} {x v:Value} {D:ze_} (h:OfS l x v D): ∃c2 c3 ok,v= .tuple #[mkV x (.slice none 0 0) c3 c2, .bool ok]∧KO_ c2∧KO_ c3∧ae3_ l x c2 c3 ok D:=by
 unfold OfS at h
 unfold ae3_
 cases hf:fillV l with
 |some p=>
  rw[hf] at h
  obtain⟨x2,x3,rfl,h1,h2⟩:=h
  exact⟨x2,x3,true,rfl,xN_ h1,xN_ h2,rfl,h1,h2⟩
 |none=>
  rw[hf] at h
  obtain⟨x2,x3,rfl,h1,h2⟩:=h
  exact⟨x2,x3,false,rfl,h1,h2,rfl⟩
theorem XX_ {s:List UInt8} {i a:Nat} {e:Int} (ha:a≤s.length): (wf_ s i a e).2.1≤s.length:=by
 have h1:=zO_ (s:=s) (a:=a) (e:=e) (most:=200) ha
 exact(xl_ (s:=s) (a:=(zr_ s a e 200).2.1) (e:=(zr_ s a e 200).2.2) (most:=65536) h1.2).2
theorem VX_ {s:List UInt8}: ∀ (k i a:Nat) (e:Int),a≤s.length→(zN_ s k i a e).2.2.1≤s.length
 |0,_,_,_,h=>h
 |k+1,i,a,e,h=>by
  unfold zN_
  split
  ·exact VX_ k _ _ _ (XX_ (i:=i) h)
  ·exact XX_ (i:=i) h
theorem amq_ (s:List UInt8): (jI_ s).2.2.1≤s.length:=VX_ _ _ _ _ (Wy_ s)
theorem apO_ (a b c d e:Value): #[a,b,c,d,e][0]? =some a:=rfl
theorem ap5_ (a b c d e:Value): #[a,b,c,d,e][1]? =some b:=rfl
theorem aqB_ (a b c d e:Value): #[a,b,c,d,e][2]? =some c:=rfl
theorem aqu_ (a b c d e:Value): #[a,b,c,d,e][3]? =some d:=rfl
theorem apP_ (a b c d e:Value): #[a,b,c,d,e][4]? =some e:=rfl
set_option linter.defProp false
def qL_:=And.intro (And.intro (And.intro (@zi_) (@zh_)) (And.intro (@Xh_) (And.intro (@Sx.tup2_0) (@Sx.tup2_1)))) (And.intro (And.intro (@apO_) (@ap5_)) (And.intro (@aqB_) (And.intro (@aqu_) (@apP_))))
theorem ahB_ (b:List UInt8) (w:World) (hb:b.length<1099511627776):
  Rets Tryz.prog 18 #[vs b] w (XS w [] (ajY_ b)):=by
 have hn1:KO_ (.slice none 0 0):=⟨rfl,rfl⟩
 have hs1:=fun a=>k4_ (v0:= .slice none 0 0) (v1:= .slice none 0 0) (v2:= .slice none 0 0) (v3:= .slice none 0 0) ⟨hn1,hn1,hn1,hn1⟩ a
 refine Rets.enterX Tryz.func18 rfl (rs:= [.cell 2 32, .tmp 3]) Tryz.results18 Tryz.ntmps18 (fun p hp=>by cases hp) (by simp[keys]) ?_
 refine kf ?_
 first|with_reducible refine ks [] @qL_ ?_|refine kp @qL_ ?_
 refine Ow.alloc rfl rfl zrMk fun b2 hb2 hw2=> ?_
 simp only[zc_,List.nil_append,List.cons_append]
 simp only[ajP_]
 refine ko @qL_ ?_
 first|with_reducible refine ks [] @qL_ ?_|refine kp @qL_ ?_
 refine Ow.callFV rfl Tryz.call75 (fun w' hw'=>VA_ b w' (by omega)) ?_
 have hun: (zu_ b).1.length≤b.length:=by
  unfold zu_
  split
  ·simp
  ·split
   ·simp only[List.length_take];omega
   ·simp
 unfold ajY_ vP_
 generalize zu_ b=u at*
 obtain⟨s,ok⟩:=u
 simp only at hun ⊢
 cases ok with
 |false=>
  rw[if_neg (by simp)]
  refine ko @qL_ ?_
  first|with_reducible refine ks [] @qL_ ?_|refine kp @qL_ ?_
  refine Ow.build (mkV (.slice none 0 0) (.slice none 0 0) (.slice none 0 0) (.slice none 0 0)) rfl Qx_ ?_
  refine ko (And.intro @qL_ @hs1) ?_
  first|with_reducible refine ks [] @qL_ ?_|refine kp @qL_ ?_
  refine⟨_,(ke @qL_), ?_⟩
  exact⟨Ext.of_new ⟨hw2,trivial⟩,_,_,_,_,rfl,hn1,hn1,hn1,hn1⟩
 |true=>
  refine ko @qL_ ?_
  first|with_reducible refine ks [] @qL_ ?_|refine kp @qL_ ?_
  refine Ow.callX (Y:= [(b2,mkO (.slice none 0 0) (.slice none 0 0) (.slice none 0 0) (.slice none 0 0))]) (by simp) rfl rfl Tryz.call76 (fun w' hw' hX hn=>acj_ s w' (by omega)) (fun v23 D23 hC23 hS23=> ?_)
  have hN23:New w.heap.size D23:=qh_ hC23 trivial
  unfold XV_ at hS23
  by_cases hh: (jg_ s).2.1=true
  ·rw[if_pos hh] at hS23
   obtain⟨x,y,n,A,rfl,hn,hn0,hn2,hG1,hG2,hcase⟩:=hS23
   have lx:=ZH_ hG1
   have hle:=amq_ s
   have hsm:=ZT_ s
   have hln:=XP_ s
   generalize jI_ s=r at*
   obtain⟨l,sp,a,e⟩:=r
   simp only at hG1 hG2 hcase hle hsm hln ⊢
   rcases hcase with⟨rfl,rfl,hlen⟩ | ⟨he,hlen⟩
   ·have d1: ((l.length:Int) !=n)=false:=by rw[bne_eq_false_iff_eq];exact hlen
    by_cases hA:a=s.length
    ·have d2: ((a:Int) !=(s.length:Int))=false:=by rw[hA];exact bne_self_eq_false _
     rw[if_pos ⟨rfl,hh,(Wo_ hle).2 ⟨rfl,hA⟩⟩]
     refine ko @qL_ ?_
     first|with_reducible refine ks [] (And.intro @qL_ (And.intro @lx (And.intro @d1 (@d2)))) ?_|refine kp (And.intro @qL_ (And.intro @lx (And.intro @d1 (@d2)))) ?_
     refine Ow.callX (Y:=(D23++ [(b2,mkO (.slice none 0 0) (.slice none 0 0) (.slice none 0 0) (.slice none 0 0))])) (by simp) rfl rfl Tryz.call15 (fun w' hw' hX hn=>amx_ x l w' ((hG1.mono (fun q hq=>by simp[hq])).slV hw' rfl rfl jv_) (BndD.ofSmall hsm)) (fun v46 D46 hC46 hS46=> ?_)
     have hN46:New w.heap.size D46:=qh_ hC46 trivial
     have hx1:=xN_ hG1
     have hy1:=xN_ hG2
     obtain⟨c2,c3,ok,rfl,hc2,hc3,hok⟩: ∃c2 c3 ok,v46= .tuple #[mkV x (.slice none 0 0) c3 c2, .bool ok]∧KO_ c2∧KO_ c3∧ae3_ l x c2 c3 ok D46:=amC_ hS46
     have hs2:=fun a=>k4_ (v0:= .slice none 0 0) (v1:= .slice none 0 0) (v2:= .slice none 0 0) (v3:= .slice none 0 0) ⟨hx1,hn1,hc3,hc2⟩ a
     have hs3:=fun a=>ake_ x (.slice none 0 0) c3 c2 y a hy1
     have hs4:=fun a=>k4_ (v0:= .slice none 0 0) (v1:= .slice none 0 0) (v2:= .slice none 0 0) (v3:= .slice none 0 0) ⟨hx1,hy1,hc3,hc2⟩ a
     refine ko @qL_ ?_
     refine Ow.alloc rfl rfl zrMk fun b11 hb11 hw11=> ?_
     simp only[ajP_]
     have h211:b2<b11:=zf_ hb11 (by simp[keys])
     refine Ow.permL (M:=(b11,mkO (.slice none 0 0) (.slice none 0 0) (.slice none 0 0) (.slice none 0 0)):: (b2,mkO (.slice none 0 0) (.slice none 0 0) (.slice none 0 0) (.slice none 0 0)):: (D46++D23)) (by classical exact List.perm_iff_count.2 fun a=>by simp only[List.count_append,List.count_cons,List.count_nil]<;>omega) ?_
     refine ko (And.intro @qL_ @hs2) ?_
     first|with_reducible refine ks [] (And.intro @qL_ (And.intro @hs3 (@hs4))) ?_|refine kp (And.intro @qL_ (And.intro @hs3 (@hs4))) ?_
     refine⟨_,(ke @qL_), ?_⟩
     refine⟨Ext.of_new ⟨hw11,hw2,hN46.app hN23⟩, ?_⟩
     unfold ae3_ at hok
     cases hf:fillV l with
     |some q=>
      rw[hf] at hok
      obtain⟨rfl,hq1,hq2⟩:=hok
      exact⟨_,rfl,x,y,c2,c3,rfl,hG1.mono (fun q hq=>by simp[hq]),hG2.mono (fun q hq=>by simp[hq]),hq1.mono (fun q hq=>by simp[hq]),hq2.mono (fun q hq=>by simp[hq])⟩
     |none=>
      rw[hf] at hok
      subst hok
      exact⟨_,_,_,_,rfl,hx1,hy1,hc3,hc2⟩
    ·have d2: ((a:Int) !=(s.length:Int))=true:=bne_iff_ne.2 (by omega)
     rw[if_neg (fun h=>hA ((Wo_ hle).1 h.2.2).2)]
     refine ko @qL_ ?_
     first|with_reducible refine ks [] (And.intro @qL_ (And.intro @lx (And.intro @d1 (@d2)))) ?_|refine kp (And.intro @qL_ (And.intro @lx (And.intro @d1 (@d2)))) ?_
     refine Ow.build (mkV (.slice none 0 0) (.slice none 0 0) (.slice none 0 0) (.slice none 0 0)) rfl Qx_ ?_
     refine Ow.permL (M:=(b2,mkO (.slice none 0 0) (.slice none 0 0) (.slice none 0 0) (.slice none 0 0))::D23) (by classical exact List.perm_iff_count.2 fun a=>by simp only[List.count_append,List.count_cons,List.count_nil]<;>omega) ?_
     refine ko (And.intro @qL_ @hs1) ?_
     first|with_reducible refine ks [] @qL_ ?_|refine kp @qL_ ?_
     refine⟨_,(ke @qL_), ?_⟩
     exact⟨Ext.of_new ⟨hw2,hN23⟩,_,_,_,_,rfl,hn1,hn1,hn1,hn1⟩
   ·have d1: ((l.length:Int) !=n)=true:=bne_iff_ne.2 (by omega)
    rw[if_neg (fun h=>he ((Wo_ hle).1 h.2.2).1)]
    refine ko @qL_ ?_
    first|with_reducible refine ks [] (And.intro @qL_ (And.intro @lx (@d1))) ?_|refine kp (And.intro @qL_ (And.intro @lx (@d1))) ?_
    refine Ow.build (mkV (.slice none 0 0) (.slice none 0 0) (.slice none 0 0) (.slice none 0 0)) rfl Qx_ ?_
    refine Ow.permL (M:=(b2,mkO (.slice none 0 0) (.slice none 0 0) (.slice none 0 0) (.slice none 0 0))::D23) (by classical exact List.perm_iff_count.2 fun a=>by simp only[List.count_append,List.count_cons,List.count_nil]<;>omega) ?_
    refine ko (And.intro @qL_ @hs1) ?_
    first|with_reducible refine ks [] @qL_ ?_|refine kp @qL_ ?_
    refine⟨_,(ke @qL_), ?_⟩
    exact⟨Ext.of_new ⟨hw2,hN23⟩,_,_,_,_,rfl,hn1,hn1,hn1,hn1⟩
  ·rw[if_neg hh] at hS23
   rw[if_neg (fun h=>hh h.2.1)]
   subst hS23
   refine ko @qL_ ?_
   first|with_reducible refine ks [] @qL_ ?_|refine kp @qL_ ?_
   refine Ow.build (mkV (.slice none 0 0) (.slice none 0 0) (.slice none 0 0) (.slice none 0 0)) rfl Qx_ ?_
   refine Ow.permL (M:=(b2,mkO (.slice none 0 0) (.slice none 0 0) (.slice none 0 0) (.slice none 0 0))::D23) (by classical exact List.perm_iff_count.2 fun a=>by simp only[List.count_append,List.count_cons,List.count_nil]<;>omega) ?_
   refine ko (And.intro @qL_ @hs1) ?_
   first|with_reducible refine ks [] @qL_ ?_|refine kp @qL_ ?_
   refine⟨_,(ke @qL_), ?_⟩
   exact⟨Ext.of_new ⟨hw2,hN23⟩,_,_,_,_,rfl,hn1,hn1,hn1,hn1⟩
end Go.Proofs
end
section
open Go Go.Proofs Go.Sx Go.StP Go.Flo Go.Dig
namespace Go.Proofs
set_option maxRecDepth 10000
set_option maxHeartbeats 1000000
set_option linter.unusedSimpArgs false
def Dist (l:List RwL):Prop:=l.Pairwise fun a b=>a.id.l≠b.id.l
theorem aij_ {Z:List RwL} (hs:zC_ Z) (hd:Dist Z) (hr: ∀r,r∈Z→j6_ r=true): ∀n,n≤Z.length→JZ_ Z n=true
 |0,_=>rfl
 |n+1,h=>by
  have hn:n<Z.length:=by omega
  unfold JZ_
  rw[aij_ hs hd hr n (by omega),Bool.true_and,Bool.and_eq_true,Bool.or_eq_true,decide_eq_true_eq,decide_eq_true_eq]
  refine⟨?_,hr _ (by rw[v0_ hn];exact List.getElem_mem hn)⟩
  by_cases h0:n=0
  ·exact .inl h0
  ·right
   have h1:n - 1<Z.length:=by omega
   rw[cmpI_lt,v0_ h1,v0_ hn]
   have a:=List.pairwise_iff_getElem.1 hs (n - 1) n h1 hn (by omega)
   have b:=List.pairwise_iff_getElem.1 hd (n - 1) n h1 hn (by omega)
   exact Qq_ a (fun e=>b e.symm)
theorem Kx_: ∀ {l:List RwL},Dist l→ ∀k,(StP.of (fun r:RwL=>r.id.l) k l).length≤1
 | [],_,k=>by simp[StP.of]
 |r::l,h,k=>by
  have h1:=List.pairwise_cons.1 h
  have ih:=Kx_ (l:=l) h1.2 k
  unfold StP.of at ih ⊢
  rw[List.filter_cons]
  split
  ·rename_i hk
   have:l.filter (fun a=>a.id.l==k)= []:=by
    rw[List.filter_eq_nil_iff]
    intro y hy hyk
    exact h1.1 y hy ((by simpa using hk:r.id.l=k).trans (by simpa using hyk:y.id.l=k).symm)
   rw[this];simp
  ·exact ih
theorem KK_: ∀ {l:List RwL},(∀k,(StP.of (fun r:RwL=>r.id.l) k l).length≤1)→Dist l
 | [],_=>List.Pairwise.nil
 |r::l,h=>by
  refine List.pairwise_cons.2 ⟨fun y hy e=> ?_,KK_ fun k=> ?_⟩
  ·have:=h r.id.l
   unfold StP.of at this
   rw[List.filter_cons,if_pos (by simp),List.length_cons] at this
   have h0:l.filter (fun a=>a.id.l==r.id.l)= []:=List.eq_nil_of_length_eq_zero (Nat.le_zero.1 (Nat.le_of_succ_le_succ this))
   rw[List.filter_eq_nil_iff] at h0
   exact h0 y hy (by simp[e])
  ·have:=h k
   unfold StP.of at this ⊢
   rw[List.filter_cons] at this
   split at this
   ·rw[List.length_cons] at this;omega
   ·exact this
theorem aoA_ {l Z:List RwL} (h:jV_ l Z) (hd:Dist l):Dist Z:=KK_ fun k=>by rw[h k];exact Kx_ hd k
theorem Ka_: ∀ (ts:List (List UInt8)) (ids:List IdL) (os:List ObL) (p:List IdL×List ObL),qM_ ts ids os=some p→ids.Pairwise (fun a b=>a.l≠b.l)→p.1.Pairwise (fun a b=>a.l≠b.l)
 | [],ids,os,p,h,hd=>by cases h;exact hd
 |s::r,ids,os,p,h,hd=>by
  rw[qM_] at h
  split at h
  ·rename_i hc
   refine Ka_ r _ _ p h (List.pairwise_append.2 ⟨hd,List.pairwise_singleton _ _, ?_⟩)
   intro a ha b hb e
   rw[List.mem_singleton] at hb
   subst hb
   have:=List.any_eq_false.1 hc.2 a ha
   exact this (by simp[e])
  ·cases h
theorem ags_ {sp:List Nat} {ids:List IdL} (h:ids.Pairwise (fun a b=>a.l≠b.l)):Dist (x9_ sp ids):=by
 refine List.pairwise_iff_getElem.2 fun i j hi hj hij=> ?_
 rw[←v0_ hi,←v0_ hj]
 rw[ws_] at hi hj
 rw[Z4_ sp ids hi,Z4_ sp ids hj]
 show(ids.getD i id0).l≠ (ids.getD j id0).l
 rw[List.getD_eq_getElem?_getD,List.getElem?_eq_getElem hi,List.getD_eq_getElem?_getD,List.getElem?_eq_getElem hj]
 exact List.pairwise_iff_getElem.1 h i j hi hj hij
theorem Z8_ {s:List UInt8}: ∀ (k i a:Nat) (e:Int),a≤s.length→ ∀x,x∈ (zN_ s k i a e).2.1→x≤s.length
 |0,_,_,_,_,x,h=>by cases h
 |k+1,i,a,e,ha,x,h=>by
  unfold zN_ at h
  split at h
  ·rcases List.mem_cons.1 h with rfl|h
   ·exact ha
   ·exact Z8_ k (i+1) _ 0 (XX_ (i:=i) ha) x h
  ·cases h
theorem ahD_ {b:List UInt8} {q:List PartL×List Nat×List IdL×List ObL} (h:vP_ b=some q) (hb:b.length<1099511627776) {Z:List RwL} (hZ:rws_SortOf (x9_ q.2.1 q.2.2.1) Z):jP_ (b.drop (b.length - 4)) Z=true∧Dist (x9_ q.2.1 q.2.2.1):=by
 obtain⟨l,sp,ids,os⟩:=q
 have h4:=XQ_ h
 obtain⟨-,hl,hsl,hil,-⟩:=ZY_ h
 simp only at hZ hl hsl hil ⊢
 have hun: (zu_ b).1.length≤b.length:=X5_ b
 unfold vP_ at h
 split at h
 ·cases hf:fillV (jI_ (zu_ b).1).1 with
  |none=>rw[hf] at h;cases h
  |some q'=>
   rw[hf] at h
   simp only[Option.map_some,Option.some.injEq,Prod.mk.injEq] at h
   obtain⟨-,hsp,rfl⟩:=h
   have hd:ids.Pairwise (fun a b=>a.l≠b.l):=by
    unfold fillV at hf
    cases ha:ZC_ (jI_ (zu_ b).1).1 with
    |error e=>rw[ha] at hf;cases hf
    |ok ts=>rw[ha] at hf;exact Ka_ ts [] [] _ hf List.Pairwise.nil
   have hD:=ags_ (sp:=sp) hd
   have hle:=Wy_ (zu_ b).1
   have hso: ∀x,x∈sp→x≤ (zu_ b).1.length:=by
    rw[←hsp]
    exact fun x hx=>Z8_ _ _ _ _ hle x hx
   have hro: ∀r,r∈x9_ sp ids→j6_ r=true:=by
    intro r hr
    obtain⟨i,hi,rfl⟩:=List.getElem_of_mem hr
    rw[←v0_ hi]
    rw[ws_] at hi
    rw[Z4_ sp ids hi]
    have hx:sp.getD i 0≤ (zu_ b).1.length:=hso _ (by rw[List.getD_eq_getElem?_getD,List.getElem?_eq_getElem (by omega)];exact List.getElem_mem _)
    unfold j6_
    simp only[Bool.and_eq_true,Bool.not_eq_true',decide_eq_false_iff_not]
    omega
   refine⟨?_,hD⟩
   unfold jP_
   rw[aij_ hZ.2.1 (aoA_ hZ.2.2 hD) (fun r hr=>hro r ((hZ.2.2.mem r).1 hr)) _ (Nat.le_refl _),Bool.true_and,Bool.and_eq_true,decide_eq_true_eq,decide_eq_true_eq]
   have:=hZ.1
   rw[ws_] at this
   rw[List.length_drop]
   omega
 ·cases h
theorem anX_ {b:List UInt8} {q:List PartL×List Nat×List IdL×List ObL} (h:vP_ b=some q) (hb:b.length<1099511627776) {v:Value} (hv:ahI_ b v): ∃Z,rws_SortOf (x9_ q.2.1 q.2.2.1) Z∧jP_ (b.drop (b.length - 4)) Z=true∧v= .tuple #[vs (q9_ (Zu_ (b.drop (b.length - 4)) Z)),vi 0]:=by
 unfold ahI_ at hv
 rw[h] at hv
 obtain⟨Z,hZ,rfl⟩:=hv
 have hr:=(ahD_ h hb hZ).1
 refine⟨Z,hZ,hr, ?_⟩
 unfold wd_;rw[if_pos hr]
end Go.Proofs
end
section
open Go Go.Proofs Go.Sx Go.StP Go.Flo Go.Dig
namespace Go.Proofs
set_option maxRecDepth 100000
set_option maxHeartbeats 400000
set_option linter.unusedSimpArgs false
theorem zrRx:zE_ Tryz.prog 107=some (.agg (rwC rw0).toArray):=id (by kernel_rfl)
theorem Ve_:z2_ Tryz.prog 107=some (true,34):=id (by kernel_rfl)
theorem amN_ (r:RwL):qp_ (x3_ Tryz.prog 107) (zE_ Tryz.prog 107) [(0,Value.agg (a8 r.id.l)),(1,vi r.place),(2,vi r.spot)]=some (.agg (rwC r).toArray):=by
 have hp:x3_ Tryz.prog 107=some [(0,32),(32,1),(33,1)]:=id (by kernel_rfl)
 rw[hp,zrRx]
 have e0: (rwC rw0).toArray=(([]:List Value)++ ((rw0.id.l.map v8)++ ([vi rw0.place]++ ([vi rw0.spot])))).toArray:=by congr 1<;>simp only[rwC,List.append_assoc,List.nil_append,List.append_nil]
 have q0:wg_ (([]:List Value)++ ((rw0.id.l.map v8)++ ([vi rw0.place]++ ([vi rw0.spot])))).toArray 0 (r.id.l.map v8)=(([]:List Value)++ ((r.id.l.map v8)++ ([vi rw0.place]++ ([vi rw0.spot])))).toArray:=ZR_ _ _ _ _ (by simp) (by simp[rw0.id.h,r.id.h])
 have s0: (([]:List Value)++ ((rw0.id.l.map v8)++ ([vi rw0.place]++ ([vi rw0.spot])))).toArray.size=34:=by simp[r.id.h,rw0.id.h]
 have z0: (Value.cells (Value.agg (a8 r.id.l))).toList=r.id.l.map v8:=by rw[zc_];rfl
 have y0: (Value.cells (Value.agg (a8 r.id.l))).size=32:=by rw[←Array.length_toList,z0];simp[r.id.h]
 have e1: (([]:List Value)++ ((r.id.l.map v8)++ ([vi rw0.place]++ ([vi rw0.spot])))).toArray=(((r.id.l.map v8))++ (([vi rw0.place])++ ([vi rw0.spot]))).toArray:=by congr 1<;>simp only[rwC,List.append_assoc,List.nil_append,List.append_nil]
 have q1:wg_ (((r.id.l.map v8))++ (([vi rw0.place])++ ([vi rw0.spot]))).toArray 32 ([vi r.place])=(((r.id.l.map v8))++ (([vi r.place])++ ([vi rw0.spot]))).toArray:=ZR_ _ _ _ _ (by simp[r.id.h]) (rfl)
 have s1: (((r.id.l.map v8))++ (([vi rw0.place])++ ([vi rw0.spot]))).toArray.size=34:=by simp[r.id.h,rw0.id.h]
 have z1: (Value.cells (vi r.place)).toList= [vi r.place]:=by rfl
 have y1: (Value.cells (vi r.place)).size=1:=by rw[←Array.length_toList,z1];simp
 have e2: (((r.id.l.map v8))++ (([vi r.place])++ ([vi rw0.spot]))).toArray=(((r.id.l.map v8)++ ([vi r.place]))++ (([vi rw0.spot])++ (([]:List Value)))).toArray:=by congr 1<;>simp only[rwC,List.append_assoc,List.nil_append,List.append_nil]
 have q2:wg_ (((r.id.l.map v8)++ ([vi r.place]))++ (([vi rw0.spot])++ (([]:List Value)))).toArray 33 ([vi r.spot])=(((r.id.l.map v8)++ ([vi r.place]))++ (([vi r.spot])++ (([]:List Value)))).toArray:=ZR_ _ _ _ _ (by simp[r.id.h]) (rfl)
 have s2: (((r.id.l.map v8)++ ([vi r.place]))++ (([vi rw0.spot])++ (([]:List Value)))).toArray.size=34:=by simp[r.id.h,rw0.id.h]
 have z2: (Value.cells (vi r.spot)).toList= [vi r.spot]:=by rfl
 have y2: (Value.cells (vi r.spot)).size=1:=by rw[←Array.length_toList,z2];simp
 have e3: (((r.id.l.map v8)++ ([vi r.place]))++ (([vi r.spot])++ (([]:List Value)))).toArray=(rwC r).toArray:=by congr 1<;>simp only[rwC,List.append_assoc,List.nil_append,List.append_nil]
 simp only[qp_]
 rw[e0]
 unfold Sx.fillV
 simp only[List.getElem?_cons_zero,List.getElem?_cons_succ,z0,y0]
 rw[if_pos ⟨trivial,by rw[s0];decide⟩,q0]
 rw[e1]
 unfold Sx.fillV
 simp only[List.getElem?_cons_zero,List.getElem?_cons_succ,z1,y1]
 rw[if_pos ⟨trivial,by rw[s1];decide⟩,q1]
 rw[e2]
 unfold Sx.fillV
 simp only[List.getElem?_cons_zero,List.getElem?_cons_succ,z2,y2]
 rw[if_pos ⟨trivial,by rw[s2];decide⟩,q2]
 rw[e3];rfl
theorem aqN_: ∀ (g:Nat) (a b:List UInt8),a.take g=b.take g→g<a.length→g<b.length→a.getD g 0≠b.getD g 0→ltB a b=decide (a.getD g 0<b.getD g 0)
 |_,[],_,_,h,_,_=>by simp at h
 |_,_::_,[],_,_,h,_=>by simp at h
 |0,x::a,y::b,_,_,_,hne=>by
  simp only[List.getD_cons_zero] at hne ⊢
  rw[QA_]
  simp only[List.cons_lt_cons_iff]
  simp[hne]
 |g+1,x::a,y::b,h,h1,h2,hne=>by
  simp only[List.take_succ_cons,List.cons.injEq] at h
  simp only[List.getD_cons_succ] at hne ⊢
  obtain⟨rfl,h⟩:=h
  have ih:=aqN_ g a b h (by simpa using h1) (by simpa using h2) hne
  rw[QA_] at ih ⊢
  rw[←ih]
  simp
set_option linter.defProp false
def vm_:=And.intro (@zi_) (@zh_)
theorem agd_ (x y:IdL) (w:World):Rets Tryz.prog 112 #[.agg (a8 x.l), .agg (a8 y.l)] w (fun v D=>v= .bool (ltB x.l y.l)∧D= []):=by
 have hx:=x.h
 have hy:=y.h
 refine Rets.enterV Tryz.func112 rfl (rs:= [.tmp 4]) Tryz.results112 Tryz.ntmps112 ?_
 refine kf ?_
 first|with_reducible refine ks [] @vm_ ?_|refine kp @vm_ ?_
 refine Ow.box rfl rfl fun b2 hb2 hw2=> ?_
 simp only[z8_,z3_,z4_,zc_,List.nil_append,List.cons_append]
 refine Ow.go rfl ?_
 simp(disch:=(first|assumption|omega| (simp only[xg_,xe_,UInt64.reduceToNat];try omega))) only[↓Sx.S0,Sx.S1,Tryz.fx,vm_,Nat.reduceAdd,Nat.reducePow,Int.reducePow,Nat.reduceBEq, ↓reduceIte,UInt8.reduceToNat,UInt16.reduceToNat,UInt32.reduceToNat,UInt64.reduceToNat,Int.reduceToNat]
 refine Ow.box rfl rfl fun b3 hb3 hw3=> ?_
 simp only[z8_,z3_,z4_,zc_,List.nil_append,List.cons_append]
 refine Ow.go rfl ?_
 simp(disch:=(first|assumption|omega| (simp only[xg_,xe_,UInt64.reduceToNat];try omega))) only[↓Sx.S0,Sx.S1,Tryz.fx,vm_,Nat.reduceAdd,Nat.reducePow,Int.reducePow,Nat.reduceBEq, ↓reduceIte,UInt8.reduceToNat,UInt16.reduceToNat,UInt32.reduceToNat,UInt64.reduceToNat,Int.reduceToNat]
 obtain⟨h23,-⟩:=hb3
 first|with_reducible refine ks [] @vm_ ?_|refine kp @vm_ ?_
 refine Cw.loopG (G:=Nat) [6,7,10,11,12,13,14,15,16,17,18,19,20,21,22,23,4,8,9,5] (fun g=> [(5,vi g)]) (fun g=> [(b2, .cells (a8 x.l) 37 (0,0)),(b3, .cells (a8 y.l) 37 (0,0))]) (fun g=>g≤32∧x.l.take g=y.l.take g) (fun g=>32 - g) 0 rfl rfl ?_ ?_
 ·exact⟨Nat.zero_le _,rfl⟩
 intro g j hg
 refine kv ?_
 obtain⟨hg1,hg2⟩:=hg
 by_cases hlt:g<32
 ·have d1:decide ((g:Int)<32)=true:=decide_eq_true (by omega)
  first|with_reducible refine ks [] (And.intro @vm_ @d1) ?_|refine kp (And.intro @vm_ @d1) ?_
  refine Cw.regionS [b2,b3] [0,1,3,4,2,5,6] [] (by kernel_rfl) (by kernel_rfl) (by kernel_rfl) ?_
  simp only[zg_, ↓zd_, ↓zb_, ↓zp_, ↓zq_,za_]
  refine kq @vm_ ?_
  by_cases hne:x.l.getD g 0=y.l.getD g 0
  ·have d2: (x.l.getD g 0 !=y.l.getD g 0)=false:=by rw[hne];exact bne_self_eq_false _
   first|with_reducible refine ks [] (And.intro @vm_ @d2) ?_|refine kp (And.intro @vm_ @d2) ?_
   refine Again.mk (G:=Nat) (g+1) (by show 32 - (g+1)<32 - g;omega) ⟨by show g+1≤32;omega, ?_⟩ rfl rfl
   rw[StP.take_snoc (z:=0) (by omega),StP.take_snoc (z:=0) (by omega),hg2,hne]
  ·have d2: (x.l.getD g 0 !=y.l.getD g 0)=true:=by simpa using hne
   first|with_reducible refine ks [] (And.intro @vm_ @d2) ?_|refine kp (And.intro @vm_ @d2) ?_
   refine Cw.regionS [b2,b3] [0,1,3,4,2,5,6,7] [] (by kernel_rfl) (by kernel_rfl) (by kernel_rfl) ?_
   simp only[zg_, ↓zd_, ↓zb_, ↓zp_, ↓zq_,za_]
   refine kq @vm_ ?_
   try with_reducible refine Ow.nil ?_
   first|with_reducible refine ks [] @vm_ ?_|refine kp @vm_ ?_
   refine⟨_,(ke @vm_),⟨hw2,hw3,trivial⟩, ?_⟩
   rw[aqN_ g x.l y.l hg2 (by omega) (by omega) hne];rfl
 ·obtain rfl:g=32:=by omega
  have d1:decide (((32:Nat):Int)<32)=false:=rfl
  first|with_reducible refine ks [] (And.intro @vm_ @d1) ?_|refine kp (And.intro @vm_ @d1) ?_
  have e:ltB x.l y.l=false:=by
   rw[List.take_of_length_le (by omega),List.take_of_length_le (by omega)] at hg2
   rw[hg2];exact Zb_ _
  refine⟨_,(ke @vm_),⟨hw2,hw3,trivial⟩, ?_⟩
  rw[e];rfl
end Go.Proofs
end
section
open Go Go.Proofs Go.Sx Go.StP
namespace Go.Proofs
set_option maxRecDepth 10000
set_option maxHeartbeats 1000000
set_option linter.unusedSimpArgs false
structure rx_SoG where
 g:Nat
 Z:List RwL
 v:Value
 D:ze_
theorem vS_ {w:World} {D:ze_} {b:Nat} (h:b∉keys D):zA_ w D b=w.heap[b]? :=by
 unfold zA_
 cases e:Sx.look D b with
 |none=>rfl
 |some o=>exact absurd (zx_ e) h
theorem Zm_ {Z:List RwL} {g:Nat} (h:Z.length=g): ((Z.map rwC).flatten).length=g*34:=by
 subst h
 induction Z with
 |nil=>rfl
 |cons x r ih=>rw[List.map_cons,List.flatten_cons,List.length_append,ih,zw_,List.length_cons];omega
theorem Xe_ {w w':World} {D:ze_} {E:TypeId} {v1 vt:Value} {Z:List RwL} {k:Nat} (hG:Gr D E 34 v1 Z.length (Z.map rwC).flatten) (hw':Hp w D w') (k1:k≤Z.length)
  (st:jO_ (.sl (true,34)) v1 none (some (some (k:Int)))=some vt):AppX Tryz.prog w' 34 vt k ((Z.take k).map rwC).flatten:=by
 obtain⟨v',e',h',-⟩:=(hG.slV (enc:=rwC) (z:=rw0) hw' rfl rfl zw_).take k1 true
 rw[st] at e';cases e'
 have:=h'.appX (P:=Tryz.prog) zw_ kL_
 rwa [List.length_take,Nat.min_eq_left k1] at this
theorem Xd_ {w w':World} {D:ze_} {E:TypeId} {v1 vt:Value} {Z:List RwL} {k:Nat} (hG:Gr D E 34 v1 Z.length (Z.map rwC).flatten) (hw':Hp w D w') (k1:k≤Z.length)
  (st:jO_ (.sl (true,34)) v1 (some (some (k:Int))) none=some vt):AppX Tryz.prog w' 34 vt (Z.length - k) ((Z.drop k).map rwC).flatten:=by
 obtain⟨v',e',h',-⟩:=(hG.slV (enc:=rwC) (z:=rw0) hw' rfl rfl zw_).dropE k1 true
 rw[st] at e';cases e'
 have:=h'.appX (P:=Tryz.prog) zw_ kL_
 rwa [List.length_drop] at this
set_option linter.defProp false
def kB_:=And.intro (@z7_) (And.intro (@zi_) (@zh_))
theorem Ky_ (v:Value) (l:List RwL) (w:World) (hv:RwSl w v l) (hl:l.length<1000000):
  Rets Tryz.prog 43 #[v] w (XS w [] (fun v' D=> ∃Z,rws_SortOf l Z∧Gr D 107 34 v' l.length (Z.map rwC).flatten)):=by
 obtain⟨b,off,arr,E,fz,hr⟩:=hv.row
 have ln:=hv.len
 refine Rets.enterX Tryz.func43 rfl (rs:= [.tmp 2]) Tryz.results43 Tryz.ntmps43 (fun p hp=>by cases hp) (by simp[keys]) ?_
 refine kf ?_
 first|with_reducible refine ks [] (And.intro @kB_ @ln) ?_|refine kp (And.intro @kB_ @ln) ?_
 refine Cw.loopG (G:=rx_SoG) [7,8,9,10,13,14,5,15,16,17,18,19,20,21,22,23,24,25,26,27,28,29,30,31,32,6,33,34,35,36,37,38,39,40,41,42,43,44,45,46,47,48,49,50,3,11,12,4] (fun q=> [(3,q.v),(4,vi q.g)]) (fun q=>q.D) (fun q=>q.g≤l.length∧Ext w [] q.D∧rws_SortOf (l.take q.g) q.Z∧Gr q.D 107 34 q.v q.g (q.Z.map rwC).flatten) (fun q=>l.length - q.g) ⟨0,[], .slice none 0 0,[]⟩ rfl rfl ?_ ?_
 ·exact⟨Nat.zero_le _,Ext.refl w [],⟨rfl,List.Pairwise.nil,St.refl _ _⟩,Gr.nl⟩
 ·intro q jq hq
  refine kv ?_
  obtain⟨g,Z,v1,D⟩:=q
  simp only at hq ⊢
  obtain⟨h1,hE,hZ,hG⟩:=hq
  have hZl:Z.length=g:=by rw[hZ.1,List.length_take];omega
  subst hZl
  by_cases hg:Z.length<l.length
  ·have h0:0<l.length:=by omega
   have hbl:=hr.lt h0
   have hbD:=hE.new0.not hbl
   have r2:zA_ w D b=some (.cells arr E fz):=by rw[vS_ hbD];exact hr.has h0
   have i2:=hr.idx true Z.length hg
   have m0:=acJ_ hr hg
   rw[Nat.add_zero] at m0
   have ln1:=hG.len
   generalize hx:l.getD Z.length rw0=x at m0
   first|with_reducible refine ks [] (And.intro @kB_ (And.intro @ln (@ln1))) ?_|refine kp (And.intro @kB_ (And.intro @ln (@ln1))) ?_
   refine Cw.loopG (G:=Nat) [15,16,17,18,19,20,21,22,23,24,25,26,27,28,29,30,31,32,5] (fun g=> [(5,vi g)]) (fun g=>D) (fun g=>g≤Z.length∧(Z.length≤g∨ltB x.id.l (Z.getD g rw0).id.l=true)) (fun g=>g) Z.length rfl rfl ?_ ?_
   ·exact⟨Nat.le_refl _, .inl (Nat.le_refl _)⟩
   ·intro k jk hk
    refine kv ?_
    obtain⟨k1,k2⟩:=hk
    refine Cw.world fun w1 hw1=> ?_
    have hS1:RwSl w1 v1 Z:=hG.slV hw1 rfl rfl zw_
    have done: (k=0∨ltB x.id.l (Z.getD (k - 1) rw0).id.l=false)→rws_SortOf (l.take (Z.length+1)) (Z.take k++x::Z.drop k):=fun h=>by
     obtain⟨s1,s2⟩:=wn_ (z:=rw0) hZ.2.1 k1 h k2
     refine⟨?_,s1, ?_⟩
     ·simp only[List.length_append,List.length_take,List.length_cons,List.length_drop];omega
     ·rw[take_snoc (z:=rw0) hg,hx]
      exact(hZ.2.2.app (St.refl _ [x])).trans s2
    obtain⟨c,coff,carr,cE,cfz,hr1⟩:=hS1.row
    obtain⟨vt,st,-,-⟩:=hS1.take k1 true
    obtain⟨vd,sd,-,-⟩:=hS1.dropE k1 true
    have m3:zs_ (some (true,34)) (some (.cells arr E fz)) (off+Z.length*34)=some (.agg (rwC x).toArray):=by rw[←hx];exact aqD_ hr hg
    by_cases hk:k=0
    ·have d1:decide ((0:Int)< (k:Int))=false:=decide_eq_false (by omega)
     first|with_reducible refine ks [] @kB_ ?_|refine kp @kB_ ?_
     refine Cw.regionS [b] [0,1,2,3,4,5,6,8,9,10,11,12,7,13,14,15] [] (by kernel_rfl) (by kernel_rfl) (by kernel_rfl) ?_
     simp only[zg_, ↓zd_, ↓zb_, ↓zp_, ↓zq_,za_]
     refine kq (And.intro @kB_ (And.intro @d1 (@st))) ?_
     refine Ow.appendG (e:=107) (k:=k) (new:=((Z.take k).map rwC).flatten) (.slice none 0 0) rfl rfl rfl Tryz.underlying83 Ve_ (by kernel_rfl) zrRx (by rw[z7_,List.size_toArray,zw_]) Tryz.underlying83 (by intro k h;cases h) Gr.nl (fun w' hw'=>Xe_ hG hw' k1 st) (Zm_ (by rw[List.length_take];omega)) (by omega) (fun v2 L2 hB2 _ hg2 hs2=> ?_)
     have hG2:=hG.keep (L':=L2) fun b o hb ho=>hg2.look b o (by simp[slB]) ho
     have hE2:=hE.grew hg2
     have r22:zA_ w L2 b=some (.cells arr E fz):=by rw[vS_ (hE2.new0.not hbl)];exact hr.has h0
     rw[Nat.zero_add,List.nil_append] at hB2
     refine ko (And.intro @kB_ (And.intro @i2 (And.intro @r22 (@m3)))) ?_
     refine Ow.buildSlice (e:=107) (rwC x).toArray rfl rfl (zR_ Tryz.underlying83 Ve_ zrRx (by decide) (zw_ x)) fun b6 hb6 hw6=> ?_
     refine ko @kB_ ?_
     refine Ow.appendG (e:=107) (k:=1) (new:=rwC x) v2 rfl rfl rfl Tryz.underlying83 Ve_ (by kernel_rfl) zrRx (by rw[z7_,List.size_toArray,zw_]) Tryz.underlying83 (by intro k h;cases h) hB2.app (fun w' hw'=>AppX.one1 (hw'.has _ _ (List.mem_append_right _ List.mem_cons_self)) (zw_ x) (kL_ x)) (by show(rwC x).length=1*34;rw[zw_]) (by omega) (fun v3 L3 hB3 _ hg3 hs3=> ?_)
     have hE3:=(hE2.app (o:= .cells (rwC x).toArray 107 (0,0)) hw6).grew hg3
     have n2: ∀b,slB v1=some b→slB v2≠some b:=fun b hb e=>by
      rcases hs2 with h| ⟨c',h,ha⟩
      ·rw[h] at e;cases e
      ·rw[h] at e;cases e;exact Nat.lt_irrefl _ (zf_ ha (hG.key hb))
     have hG3:=(hG2.app (M:= [(b6, .cells (rwC x).toArray 107 (0,0))])).keep (L':=L3) fun b o hb ho=>hg3.look b o (n2 b hb) ho
     have n3: ∀b,slB v1=some b→slB v3≠some b:=fun b hb e=>by
      rcases hs3 with h| ⟨c',h,ha⟩
      ·rw[h] at e;exact n2 b hb e
      ·rw[h] at e;cases e;exact Nat.lt_irrefl _ (zf_ ha (by rw[zk_];exact List.mem_append_left _ (hG2.key hb)))
     refine ko (And.intro @kB_ @sd) ?_
     refine Ow.appendG (e:=107) (k:=Z.length - k) (new:=((Z.drop k).map rwC).flatten) v3 rfl rfl rfl Tryz.underlying83 Ve_ (by kernel_rfl) zrRx (by rw[z7_,List.size_toArray,zw_]) Tryz.underlying83 (by intro k h;cases h) hB3 (fun w' hw'=>Xd_ hG3 hw' k1 sd) (Zm_ (by rw[List.length_drop])) (by omega) (fun v4 L4 hB4 _ hg4 hs4=> ?_)
     have hE4:=hE3.grew hg4
     refine ko @kB_ ?_
     refine Again.mk (rx_SoG.mk (Z.length+1) (Z.take k++x::Z.drop k) v4 L4) (by show l.length - (Z.length+1)<l.length - Z.length;omega) ⟨by show Z.length+1≤l.length;omega,hE4,done ?_, ?_⟩ rfl rfl
     ·exact .inl hk
     ·have:k+1+ (Z.length - k)=Z.length+1:=by omega
      rw[this] at hB4
      simpa only[List.map_append,List.map_cons,List.flatten_append,List.flatten_cons,List.append_assoc] using hB4
    ·have d1:decide ((0:Int)< (k:Int))=true:=decide_eq_true (by omega)
     have hZ0:0<Z.length:=by omega
     have i1:qa_ (.sl (true,34)) v1 (some ((k:Int) - 1))=some (vp c (coff+ (k - 1)*34)):=by
      rw[show(k:Int) - 1=((k - 1:Nat):Int) by omega];exact hr1.idx true (k - 1) (by omega)
     have m1:=acJ_ hr1 (show k - 1<Z.length by omega)
     rw[Nat.add_zero] at m1
     have rc:zA_ w D c=some (.cells carr cE cfz):=by
      rcases hS1 with⟨b',off',c',arr',E',fz',hr',hc',⟨-,rfl,-⟩ | ⟨rfl,hb',-⟩⟩
      ·exact absurd hZ0 (by simp)
      ·have:c=b':=by
        have e1:=hr1.idx true 0 hZ0
        rw[xd_ _ _ _ _ _ _ ⟨by omega,by omega⟩] at e1
        have:=Option.some.inj e1
        simp[vp] at this
        exact this.1.symm
       subst this
       exact hG.read rfl hw1 (hr1.has hZ0)
     first|with_reducible refine ks [] @kB_ ?_|refine kp @kB_ ?_
     refine Cw.regionS [c,b] [0,1,2,3,4,5,6,8,9,10,11,12,7,13,14,15] [] (by kernel_rfl) (by kernel_rfl) (by kernel_rfl) ?_
     simp only[zg_, ↓zd_, ↓zb_, ↓zp_, ↓zq_,za_]
     refine kq (And.intro @kB_ (And.intro @d1 (And.intro @i1 (And.intro @i2 (And.intro @r2 (And.intro @rc (And.intro @m0 (@m1)))))))) ?_
     refine Ow.soft rfl rfl rfl ?_
     refine Ow.callFV rfl Tryz.call112 (fun w' hw'=>agd_ x.id (Z.getD (k - 1) rw0).id w') ?_
     with_reducible refine Ow.nil ?_
     refine⟨by intro b hb;simp only[List.mem_cons,List.not_mem_nil,or_false] at hb;(try subst hb);rfl, ?_⟩
     cases hl3:ltB x.id.l (Z.getD (k - 1) rw0).id.l
     ·refine kq (And.intro @kB_ @st) ?_
      refine Ow.appendG (e:=107) (k:=k) (new:=((Z.take k).map rwC).flatten) (.slice none 0 0) rfl rfl rfl Tryz.underlying83 Ve_ (by kernel_rfl) zrRx (by rw[z7_,List.size_toArray,zw_]) Tryz.underlying83 (by intro k h;cases h) Gr.nl (fun w' hw'=>Xe_ hG hw' k1 st) (Zm_ (by rw[List.length_take];omega)) (by omega) (fun v2 L2 hB2 _ hg2 hs2=> ?_)
      have hG2:=hG.keep (L':=L2) fun b o hb ho=>hg2.look b o (by simp[slB]) ho
      have hE2:=hE.grew hg2
      have r22:zA_ w L2 b=some (.cells arr E fz):=by rw[vS_ (hE2.new0.not hbl)];exact hr.has h0
      rw[Nat.zero_add,List.nil_append] at hB2
      refine ko (And.intro @kB_ (And.intro @i2 (And.intro @r22 (@m3)))) ?_
      refine Ow.buildSlice (e:=107) (rwC x).toArray rfl rfl (zR_ Tryz.underlying83 Ve_ zrRx (by decide) (zw_ x)) fun b6 hb6 hw6=> ?_
      refine ko @kB_ ?_
      refine Ow.appendG (e:=107) (k:=1) (new:=rwC x) v2 rfl rfl rfl Tryz.underlying83 Ve_ (by kernel_rfl) zrRx (by rw[z7_,List.size_toArray,zw_]) Tryz.underlying83 (by intro k h;cases h) hB2.app (fun w' hw'=>AppX.one1 (hw'.has _ _ (List.mem_append_right _ List.mem_cons_self)) (zw_ x) (kL_ x)) (by show(rwC x).length=1*34;rw[zw_]) (by omega) (fun v3 L3 hB3 _ hg3 hs3=> ?_)
      have hE3:=(hE2.app (o:= .cells (rwC x).toArray 107 (0,0)) hw6).grew hg3
      have n2: ∀b,slB v1=some b→slB v2≠some b:=fun b hb e=>by
       rcases hs2 with h| ⟨c',h,ha⟩
       ·rw[h] at e;cases e
       ·rw[h] at e;cases e;exact Nat.lt_irrefl _ (zf_ ha (hG.key hb))
      have hG3:=(hG2.app (M:= [(b6, .cells (rwC x).toArray 107 (0,0))])).keep (L':=L3) fun b o hb ho=>hg3.look b o (n2 b hb) ho
      have n3: ∀b,slB v1=some b→slB v3≠some b:=fun b hb e=>by
       rcases hs3 with h| ⟨c',h,ha⟩
       ·rw[h] at e;exact n2 b hb e
       ·rw[h] at e;cases e;exact Nat.lt_irrefl _ (zf_ ha (by rw[zk_];exact List.mem_append_left _ (hG2.key hb)))
      refine ko (And.intro @kB_ @sd) ?_
      refine Ow.appendG (e:=107) (k:=Z.length - k) (new:=((Z.drop k).map rwC).flatten) v3 rfl rfl rfl Tryz.underlying83 Ve_ (by kernel_rfl) zrRx (by rw[z7_,List.size_toArray,zw_]) Tryz.underlying83 (by intro k h;cases h) hB3 (fun w' hw'=>Xd_ hG3 hw' k1 sd) (Zm_ (by rw[List.length_drop])) (by omega) (fun v4 L4 hB4 _ hg4 hs4=> ?_)
      have hE4:=hE3.grew hg4
      refine ko @kB_ ?_
      refine Again.mk (rx_SoG.mk (Z.length+1) (Z.take k++x::Z.drop k) v4 L4) (by show l.length - (Z.length+1)<l.length - Z.length;omega) ⟨by show Z.length+1≤l.length;omega,hE4,done ?_, ?_⟩ rfl rfl
      ·exact .inr hl3
      ·have:k+1+ (Z.length - k)=Z.length+1:=by omega
       rw[this] at hB4
       simpa only[List.map_append,List.map_cons,List.flatten_append,List.flatten_cons,List.append_assoc] using hB4
     ·refine kq @kB_ ?_
      exact Again.mk (k - 1) (by omega) ⟨by omega, .inr hl3⟩ rfl (by rw[show(k:Int) - 1=((k - 1:Nat):Int) by omega];rfl)
  ·have e:Z.length=l.length:=by omega
   first|with_reducible refine ks [] (And.intro @kB_ @ln) ?_|refine kp (And.intro @kB_ @ln) ?_
   refine⟨_,(ke @kB_), ?_⟩
   exact⟨hE,Z,by rw[e,List.take_length] at hZ;exact hZ,by rw[e] at hG;exact hG⟩
end Go.Proofs
end
section
open Go Go.Proofs Go.Sx Go.StP
namespace Go.Proofs
set_option maxRecDepth 10000
set_option maxHeartbeats 1000000
set_option linter.unusedSimpArgs false
structure RiG where
 k:Nat
 DG:ze_
set_option linter.defProp false
def asZ_:=And.intro (And.intro (And.intro (@zi_) (@zh_)) (And.intro (@z7_) (@vb_))) (And.intro (And.intro (@Zg_) (@Qj_)) (And.intro (@Qp_) (@jY_)))
end Go.Proofs
end
section
open Go Go.Proofs Go.Sx Go.StP
namespace Go.Proofs
set_option maxRecDepth 10000
set_option maxHeartbeats 1000000
set_option linter.unusedSimpArgs false
theorem ahu_ (F:List Nat) {d:Nat} (h:d<F.length):xY_ (F.take (d+1))=xY_ (F.take d)++qP_ (zz_ ((F.getD d 0:Nat):Int)):=by
 unfold xY_ Jg_ xX_
 rw[StP.take_snoc (z:=0) h]
 simp
theorem abK_ (F:List Nat): (xY_ F).length≤F.length*6:=by
 have:=Qt_ (Jg_ F)
 rwa [vF_] at this
theorem anj_ {w:World} {v:Value} {l:List RwL} {b off:Nat} {arr:Array Value} {E:TypeId} {fz:Nat×Nat} (h:RowS 34 rwC rw0 w v l b off arr E fz) {k:Nat} (hk:k<l.length) (n:Nat):zs_ (some (false,n)) (some (.cells arr E fz)) (off+k*34)=some (v8 ((l.getD k rw0).id.l.getD 0 0)):=by
 have hil:=(l.getD k rw0).id.h
 have:=ajL_ h hk 0 (by omega)
 rw[Nat.add_zero] at this
 unfold zs_
 simp only[this]
structure FnG where
 n:Nat
 q:Nat
structure ByG where
 t:List UInt8
 k:Nat
set_option linter.defProp false
def xw_:=And.intro (@zi_) (@zh_)
theorem aeb_ (s:List UInt8) (v:Value) (l:List RwL) (w:World) (hv:RwSl w v l) (hl:l.length<1000000) (hs:s.length<1000000):Rets Tryz.prog 46 #[vs s,v] w (fun v D=>v=vs (q9_ (Zu_ s l))∧D= []):=by
 obtain⟨rb,off,arr,E,fz,hr⟩:=hv.row
 have ln:=hv.len
 have hnl:=zm_ (l.length:Int)
 obtain⟨P0,hP0⟩: ∃P,P=magI++ (s++qP_ (zz_ (l.length:Int))):=⟨_,rfl⟩
 have hP0l:P0.length<2000000:=by rw[hP0];simp only[List.length_append];rw[show magI.length=4 from rfl];omega
 have hidx:Zu_ s l=(P0++xY_ (vg_ l))++xQ_ l:=by rw[hP0];unfold Zu_;simp only[List.append_assoc]
 refine Rets.enterV Tryz.func46 rfl (rs:= [.tmp 4]) Tryz.results46 Tryz.ntmps46 ?_
 refine kf ?_
 first|with_reducible refine ks [] (And.intro @xw_ @ln) ?_|refine kp (And.intro @xw_ @ln) ?_
 refine Ow.callFV rfl Tryz.call91 (fun w' hw'=>jy_ _ (l.length:Int) w' (Nat.le_refl _)) ?_
 have hfl:=J2_ l
 refine ko @xw_ ?_
 refine Cw.loopG (G:=ByG) [16,17,7,8,20,21,22,23,26,27,28,29,30,31,32,33,34,35,36,37,24,25,38,39,40,41,5,18,19,6] (fun g=> [(5,vs g.t),(6,vi g.k)]) (fun g=> []) (fun g=>g.k≤16∧g.t=P0++xY_ ((vg_ l).take g.k)) (fun g=>16 - g.k) ⟨83::73::88::49:: (s++qP_ (zz_ (l.length:Int))),0⟩ rfl rfl ?_ ?_
 ·refine⟨Nat.zero_le _, ?_⟩
  rw[hP0];simp[magI,xY_,Jg_,xX_]
 intro g j hg
 refine kv ?_
 obtain⟨t,d⟩:=g
 simp only at hg ⊢
 obtain⟨hd,ht⟩:=hg
 by_cases hdl:d<16
 ·have d1:decide ((d:Int)<16)=true:=decide_eq_true (by omega)
  have hsn:=ahu_ (vg_ l) (d:=d) (by omega)
  rw[apn_ l hdl] at hsn
  have htl:t.length<2000100:=by
   rw[ht,List.length_append]
   have:=abK_ ((vg_ l).take d)
   rw[List.length_take] at this
   omega
  first|with_reducible refine ks [] (And.intro @xw_ @d1) ?_|refine kp (And.intro @xw_ @d1) ?_
  refine Cw.loopG (G:=FnG) [20,21,22,23,26,27,28,29,30,31,32,33,34,35,36,37,7,24,25,8] (fun p=> [(7,vi p.n),(8,vi p.q)]) (fun p=> []) (fun p=>p.q≤l.length∧p.n=Q3_ (l.take p.q) d) (fun p=>l.length - p.q) ⟨0,0⟩ rfl rfl ?_ ?_
  ·exact⟨Nat.zero_le _,rfl⟩
  intro p jp hp
  refine kv ?_
  obtain⟨n,q⟩:=p
  simp only at hp ⊢
  obtain⟨hq0,hn⟩:=hp
  by_cases hql:q<l.length
  ·have d2:decide ((q:Int)< (l.length:Int))=true:=decide_eq_true (by omega)
   have hb:=hr.has (by omega)
   have ix:=hr.idx true q hql
   have ld:=anj_ hr hql
   have hfs:=XE_ (l.take q) (l.getD q rw0) d
   rw[←StP.take_snoc (z:=rw0) hql] at hfs
   have hfq:Q3_ (l.take q) d≤q:=Nat.le_trans (ah5_ _ _) (by rw[List.length_take];omega)
   have hdv:XO_ (l.getD q rw0).id=((l.getD q rw0).id.l.getD 0 0).toNat / 16:=rfl
   generalize l.getD q rw0=r at*
   have hc:=(r.id.l.getD 0 0).toNat_lt
   by_cases hle:XO_ r.id≤d
   ·have d3:decide ((((r.id.l.getD 0 0).toNat / 16:Nat):Int)≤ (d:Int))=true:=decide_eq_true (by omega)
    rw[if_pos hle] at hfs
    first|with_reducible refine ks [] (And.intro @xw_ (And.intro @ln (And.intro @d2 (And.intro @hb (And.intro @ix (And.intro @ld (@d3))))))) ?_|refine kp (And.intro @xw_ (And.intro @ln (And.intro @d2 (And.intro @hb (And.intro @ix (And.intro @ld (@d3))))))) ?_
    exact Again.mk ⟨n+1,q+1⟩ (by show l.length - (q+1)<l.length - q;omega) ⟨by show q+1≤l.length;omega,by show n+1=Q3_ (l.take (q+1)) d;omega⟩ rfl rfl
   ·have d3:decide ((((r.id.l.getD 0 0).toNat / 16:Nat):Int)≤ (d:Int))=false:=decide_eq_false (by omega)
    rw[if_neg hle,Nat.add_zero] at hfs
    first|with_reducible refine ks [] (And.intro @xw_ (And.intro @ln (And.intro @d2 (And.intro @hb (And.intro @ix (And.intro @ld (@d3))))))) ?_|refine kp (And.intro @xw_ (And.intro @ln (And.intro @d2 (And.intro @hb (And.intro @ix (And.intro @ld (@d3))))))) ?_
    exact Again.mk ⟨n,q+1⟩ (by show l.length - (q+1)<l.length - q;omega) ⟨by show q+1≤l.length;omega,by show n=Q3_ (l.take (q+1)) d;omega⟩ rfl rfl
  ·obtain rfl:q=l.length:=by omega
   have d2:decide ((l.length:Int)< (l.length:Int))=false:=decide_eq_false (by omega)
   have hfl2:=ah5_ l d
   rw[List.take_length] at hn
   subst hn
   first|with_reducible refine ks [] (And.intro @xw_ (And.intro @ln (@d2))) ?_|refine kp (And.intro @xw_ (And.intro @ln (@d2))) ?_
   refine Ow.callFV rfl Tryz.call91 (fun w' hw'=>jy_ _ (Q3_ l d:Nat) w' (Nat.le_refl _)) ?_
   have hnl2:=zm_ ((Q3_ l d:Nat):Int)
   refine ko @xw_ ?_
   exact Again.mk ⟨t++qP_ (zz_ ((Q3_ l d:Nat):Int)),d+1⟩ (by show 16 - (d+1)<16 - d;omega) ⟨by show d+1≤16;omega,by show t++_=_;rw[ht,hsn,List.append_assoc]⟩ rfl rfl
 ·obtain rfl:d=16:=by omega
  have d1:decide (((16:Nat):Int)<16)=false:=rfl
  rw[List.take_of_length_le (by omega)] at ht
  have htl:t.length<2000100:=by
   rw[ht,List.length_append]
   have:=abK_ (vg_ l)
   omega
  rw[←ht] at hidx
  first|with_reducible refine ks [] (And.intro @xw_ @d1) ?_|refine kp (And.intro @xw_ @d1) ?_
  refine Cw.loopG (G:=ByG) [42,43,44,45,48,49,50,51,52,53,54,55,56,57,58,59,60,61,62,63,64,65,66,67,68,69,5,46,47,9] (fun q=> [(5,vs q.t),(9,vi q.k)]) (fun q=> []) (fun q=>q.k≤l.length∧q.t=t++xQ_ (l.take q.k)) (fun q=>l.length - q.k) ⟨t,0⟩ rfl rfl ?_ ?_
  ·exact⟨Nat.zero_le _,by simp[xQ_]⟩
  intro q jq hq
  refine kv ?_
  obtain⟨u,k⟩:=q
  simp only at hq ⊢
  obtain⟨hk,hu⟩:=hq
  have hul:u.length≤2000100+k*44:=by
   rw[hu,List.length_append]
   have:=Qa_ l k hk
   omega
  by_cases hkl:k<l.length
  ·have d2:decide ((k:Int)< (l.length:Int))=true:=decide_eq_true (by omega)
   have hb:=hr.has (by omega)
   have ix:=hr.idx true k hkl
   have ld0:=acJ_ hr hkl
   rw[Nat.add_zero] at ld0
   have ld1:=aok_ hr hkl
   have ld2:=ajz_ hr hkl
   have hsn:=Jb_ l hkl
   generalize l.getD k rw0=r at*
   have hil:=r.id.h
   have h1:=zm_ r.place
   have h2:=zm_ r.spot
   first|with_reducible refine ks [] (And.intro @xw_ (And.intro @ln (@d2))) ?_|refine kp (And.intro @xw_ (And.intro @ln (@d2))) ?_
   refine Cw.regionS [rb] [0,1,2,3,4,8,9,10,11,15,16,17,18,5,12,19,6,7,13,14,20,21,22] [] (by kernel_rfl) (by kernel_rfl) (by kernel_rfl) ?_
   simp only[zg_, ↓zd_, ↓zb_, ↓zp_, ↓zq_,za_]
   refine kq (And.intro @xw_ (And.intro @hb (And.intro @ix (And.intro @ld0 (And.intro @ld1 (@ld2)))))) ?_
   refine Ow.soft rfl rfl rfl ?_
   refine Ow.callFV rfl Tryz.call93 (fun w' hw'=>J1_ r.id w') ?_
   with_reducible refine Ow.nil ?_
   refine⟨by intro b hb;simp only[List.mem_cons,List.not_mem_nil,or_false] at hb;(try subst hb);rfl, ?_⟩
   refine kq @xw_ ?_
   refine Ow.soft rfl rfl rfl ?_
   refine Ow.callFV rfl Tryz.call91 (fun w' hw'=>jy_ _ r.place w' (Nat.le_refl _)) ?_
   with_reducible refine Ow.nil ?_
   refine⟨by intro b hb;simp only[List.mem_cons,List.not_mem_nil,or_false] at hb;(try subst hb);rfl, ?_⟩
   refine kq @xw_ ?_
   refine Ow.soft rfl rfl rfl ?_
   refine Ow.callFV rfl Tryz.call91 (fun w' hw'=>jy_ _ r.spot w' (Nat.le_refl _)) ?_
   with_reducible refine Ow.nil ?_
   refine⟨by intro b hb;simp only[List.mem_cons,List.not_mem_nil,or_false] at hb;(try subst hb);rfl, ?_⟩
   refine kq @xw_ ?_
   try with_reducible refine Ow.nil ?_
   first|with_reducible refine ks [] @xw_ ?_|refine kp @xw_ ?_
   exact Again.mk ⟨u++r.id.l++qP_ (zz_ r.place)++qP_ (zz_ r.spot),k+1⟩ (by show l.length - (k+1)<l.length - k;omega) ⟨by show k+1≤l.length;omega,by show _=t++xQ_ (l.take (k+1));rw[hsn,hu];unfold rowB;simp only[List.append_assoc]⟩ rfl rfl
  ·obtain rfl:k=l.length:=by omega
   have d2:decide ((l.length:Int)< (l.length:Int))=false:=decide_eq_false (by omega)
   rw[List.take_length,←hidx] at hu
   first|with_reducible refine ks [] (And.intro @xw_ (And.intro @ln (@d2))) ?_|refine kp (And.intro @xw_ (And.intro @ln (@d2))) ?_
   rw[hu] at*
   refine Ow.callFV rfl Tryz.call68 (fun w' hw'=>JB_ (Zu_ s l) w' (by omega)) ?_
   refine ko @xw_ ?_
   first|with_reducible refine ks [] @xw_ ?_|refine kp @xw_ ?_
   refine⟨_,(ke @xw_),trivial, ?_⟩
   rfl
end Go.Proofs
end
section
open Go Go.Proofs Go.Sx Go.StP
namespace Go.Proofs
set_option maxRecDepth 10000
set_option maxHeartbeats 1000000
set_option linter.unusedSimpArgs false
structure CvG where
 k:Nat
 v:Value
 D:ze_
set_option linter.defProp false
def asW_:=And.intro (@zi_) (@zh_)
end Go.Proofs
end
section
open Go Go.Proofs Go.Sx Go.StP Go.Flo
namespace Go.Proofs
set_option maxRecDepth 10000
set_option maxHeartbeats 1000000
set_option linter.unusedSimpArgs false
def OfRS (b:List UInt8) (v:Value) (D:ze_):Prop:=match vP_ b with
 |none=>v= .tuple #[.slice none 0 0, .bool false]
 |some q=> ∃x Z,rws_SortOf (x9_ q.2.1 q.2.2.1) Z∧v= .tuple #[x, .bool true]∧GrI D 107 34 x Z.length (Z.map rwC).flatten
structure OrfG where
 k:Nat
 v:Value
 D:ze_
theorem amO_ {w:World} {v:Value} {l:List Nat} {b off:Nat} {arr:Array Value} {E:TypeId} {fz:Nat×Nat} (h:RowS 1 Jh_ 0 w v l b off arr E fz) {k:Nat} (hk:k<l.length) (n:Nat):
  zs_ (some (false,n)) (some (.cells arr E fz)) (off+k)=some (vi (l.getD k 0)):=by
 have:=h.cell (j:=0) (n:=n) hk (by omega)
 rwa [Nat.mul_one,Nat.add_zero] at this
theorem akw_ (v0 v1 v2 v3:Value) (n:Nat):zs_ (some (false,n)) (some (mkO v0 v1 v2 v3)) 1=some v1:=(rfl)
set_option linter.defProp false
def km_:=And.intro (And.intro (@zi_) (And.intro (@zh_) (@Sx.tup2_0))) (And.intro (And.intro (@Sx.tup2_1) (@Xh_)) (And.intro (@JP_) (@akw_)))
theorem VT_ (b:List UInt8) (w:World) (hb:b.length<1099511627776):Rets Tryz.prog 48 #[vs b] w (XS w [] (OfRS b)):=by
 have hn1:KO_ (.slice none 0 0):=⟨rfl,rfl⟩
 refine Rets.enterX Tryz.func48 rfl (rs:= [.tmp 2, .tmp 3]) Tryz.results48 Tryz.ntmps48 (fun p hp=>by cases hp) (by simp[keys]) ?_
 refine kf ?_
 first|with_reducible refine ks [1000004] @km_ ?_|refine kp @km_ ?_
 refine Ow.callC rfl rfl Tryz.call18 (fun w' hw'=>ahB_ b w' hb) (fun B1 v1 D1 hA1 hB1 hN1 hS1=> ?_)
 have hD1:New w.heap.size D1:=hN1.mono hB1
 rw[List.nil_append]
 unfold ajY_ at hS1
 unfold OfRS
 cases hop:vP_ b with
 |none=>
  rw[hop] at hS1
  obtain⟨c0,c1,c2,c3,rfl,hc0,hc1,hc2,hc3⟩:=hS1
  have hst:=fun a=>k4_ (v0:= .slice none 0 0) (v1:= .slice none 0 0) (v2:= .slice none 0 0) (v3:= .slice none 0 0) ⟨hc0,hc1,hc2,hc3⟩ a
  refine ko @km_ ?_
  refine Ow.alloc rfl rfl zrMk fun b4 hb4 hw4=> ?_
  simp only[ajP_]
  refine Ow.permL (M:=(b4,mkO (.slice none 0 0) (.slice none 0 0) (.slice none 0 0) (.slice none 0 0))::D1) (by classical exact List.perm_iff_count.2 fun a=>by simp only[List.count_append,List.count_cons,List.count_nil]<;>omega) ?_
  refine ko (And.intro @km_ @hst) ?_
  first|with_reducible refine ks [] @km_ ?_|refine kp @km_ ?_
  refine⟨_,(ke @km_), ?_⟩
  exact⟨Ext.of_new ⟨hw4,hD1⟩,rfl⟩
 |some q=>
  obtain⟨l,sp,ids,os⟩:=q
  rw[hop] at hS1
  obtain⟨x,rfl,v0,v1,v2,v3,rfl,hg0,hg1,hg2,hg3⟩:=hS1
  simp only at hg0 hg1 hg2 hg3
  obtain⟨-,hl,hsl,hil,-⟩:=ZY_ hop
  simp only at hl hsl hil
  have hst:=fun a=>k4_ (v0:= .slice none 0 0) (v1:= .slice none 0 0) (v2:= .slice none 0 0) (v3:= .slice none 0 0) ⟨xN_ hg0,xN_ hg1,xN_ hg3,xN_ hg2⟩ a
  refine ko @km_ ?_
  refine Ow.alloc rfl rfl zrMk fun b4 hb4 hw4=> ?_
  simp only[ajP_]
  refine Ow.permL (M:=(b4,mkO (.slice none 0 0) (.slice none 0 0) (.slice none 0 0) (.slice none 0 0))::D1) (by classical exact List.perm_iff_count.2 fun a=>by simp only[List.count_append,List.count_cons,List.count_nil]<;>omega) ?_
  refine ko (And.intro @km_ @hst) ?_
  have hN:New w.heap.size ((b4,mkO v0 v1 v3 v2)::D1):=⟨hw4,hD1⟩
  refine Cw.rebaseX (S1:=fun v D=> ∃x Z,rws_SortOf (x9_ sp ids) Z∧v= .tuple #[x, .bool true]∧GrI D 107 34 x Z.length (Z.map rwC).flatten) (by rfl) (fun w1 hw1=> ?_) (fun v' D' hD' hv'=> ?_)
  ·have hb41:w1.heap[b4]? =some (mkO v0 v1 v3 v2):=hw1.has _ _ List.mem_cons_self
   have hvi:SlV 32 wb_ id0 w1 v2 ids:=(hg2.mono (fun q hq=>by simp[hq])).slV hw1 rfl rfl qZ_
   have hvs:SlV 1 Jh_ 0 w1 v1 sp:=(hg1.mono (fun q hq=>by simp[hq])).slV hw1 rfl rfl kY_
   have hb4l:=(Array.getElem?_eq_some_iff.1 hb41).1
   clear hw1 hg0 hg1 hg2 hg3 hN hD1
   obtain⟨ri,oi,ai,Ei,fi,hri⟩:=hvi.row
   obtain⟨rs,ofs,ars,Es,fs,hrs⟩:=hvs.row
   have lni:=hvi.len
   have hrl:=ws_ sp ids
   first|with_reducible refine ks [] @km_ ?_|refine kp @km_ ?_
   refine Cw.loopG (G:=OrfG) [15,16,17,18,19,22,23,24,25,26,27,28,29,30,31,32,33,34,35,36,6,20,21,7] (fun q=> [(6,q.v),(7,vi q.k)]) (fun q=>q.D) (fun q=>q.k≤ids.length∧Ext w1 [] q.D∧Gr q.D 107 34 q.v q.k (((x9_ sp ids).take q.k).map rwC).flatten) (fun q=>ids.length - q.k) ⟨0, .slice none 0 0,[]⟩ rfl rfl ?_ ?_
   ·exact⟨Nat.zero_le _,Ext.refl w1 [],Gr.nl⟩
   intro q jq hq
   refine kv ?_
   obtain⟨k,v,D⟩:=q
   simp only at hq ⊢
   obtain⟨hk,hE,hGr⟩:=hq
   have rd: ∀c o,w1.heap[c]? =some o→zA_ w1 D c=some o:=fun c o hc=>by rw[jh_ (hE.new0.not (Array.getElem?_eq_some_iff.1 hc).1)];exact hc
   have rd4:=rd b4 _ hb41
   by_cases hlt:k<ids.length
   ·have d1:decide ((k:Int)< (ids.length:Int))=true:=decide_eq_true (by omega)
    have rdi:=rd ri _ (hri.has (by omega))
    have rds:=rd rs _ (hrs.has (by omega))
    have ixi:=hri.idx true k hlt
    have ixs:=hrs.idx false k (by omega)
    rw[Nat.mul_one] at ixs
    have ldi:=JH_ hri hlt
    have lds:=amO_ hrs (show k<sp.length by omega)
    have hra:=Z4_ sp ids hlt
    have hts:=StP.take_snoc (z:=rw0) (show k< (x9_ sp ids).length by omega)
    rw[hra] at hts
    first|with_reducible refine ks [] (And.intro @km_ (And.intro @rd4 (And.intro @lni (@d1)))) ?_|refine kp (And.intro @km_ (And.intro @rd4 (And.intro @lni (@d1)))) ?_
    refine Cw.regionO [0,1,3,6,7,9,2,4,5,8,10,11,12,13,14,15] [13,14] rfl (by kernel_rfl) (by kernel_rfl) ?_
    simp only[zg_, ↓zd_, ↓zb_, ↓zp_, ↓zq_,za_]
    refine kq (And.intro @km_ (And.intro @rd4 (And.intro @rdi (And.intro @rds (And.intro @ixi (And.intro @ixs (And.intro @ldi (@lds)))))))) ?_
    refine Ow.build (.agg (rwC ⟨ids.getD k id0,(k:Int),(sp.getD k 0:Nat)⟩).toArray) rfl (amN_ ⟨ids.getD k id0,(k:Int),(sp.getD k 0:Nat)⟩) ?_
    refine kq @km_ ?_
    generalize (RwL.mk (ids.getD k id0) (k:Int) (sp.getD k 0:Nat))=r at*
    refine Ow.buildSlice (e:=107) (rwC r).toArray rfl rfl (zR_ Tryz.underlying83 Ve_ zrRx (by decide) (zw_ _)) fun b6 hb6 hw6=> ?_
    refine ko @km_ ?_
    refine Ow.appendG (e:=107) (k:=1) (new:=rwC r) v rfl rfl rfl Tryz.underlying83 Ve_ (by kernel_rfl) zrRx (by rw[z7_,List.size_toArray,zw_]) Tryz.underlying83 (by intro k h;cases h) hGr.app (fun w' hw'=>AppX.one1 (hw'.has _ _ (List.mem_append_right _ List.mem_cons_self)) (zw_ _) (kL_ _)) (by show(rwC _).length=1*34;rw[zw_]) (by omega) (fun v3 L3 hB3 _ hg3 hs3=> ?_)
    have hE3:=(hE.app (o:= .cells (rwC r).toArray 107 (0,0)) hw6).grew hg3
    refine ko @km_ ?_
    refine Again.mk ⟨k+1,v3,L3⟩ (by show ids.length - (k+1)<ids.length - k;omega) ⟨hlt,hE3, ?_⟩ rfl rfl
    show Gr L3 107 34 v3 (k+1) (((x9_ sp ids).take (k+1)).map rwC).flatten
    rw[hts]
    simpa only[List.map_append,List.map_cons,List.map_nil,List.flatten_append,List.flatten_cons,List.flatten_nil,List.append_nil] using hB3
   ·obtain rfl:k=ids.length:=by omega
    have d1:decide ((ids.length:Int)< (ids.length:Int))=false:=decide_eq_false (by omega)
    rw[List.take_of_length_le (by omega)] at hGr
    first|with_reducible refine ks [] (And.intro @km_ (And.intro @rd4 (And.intro @lni (@d1)))) ?_|refine kp (And.intro @km_ (And.intro @rd4 (And.intro @lni (@d1)))) ?_
    refine Ow.callC rfl rfl Tryz.call43 (fun w' hw'=>Ky_ v (x9_ sp ids) w' (hGr.slV hw' (by omega) rfl zw_) (by omega)) (fun B3 v5 D3 hA3 hB3 hN3 hS3=> ?_)
    obtain⟨Z,hZ,hG3⟩:=hS3
    refine ko @km_ ?_
    first|with_reducible refine ks [] @km_ ?_|refine kp @km_ ?_
    refine⟨_,(ke @km_), ?_⟩
    exact⟨Ext.of_new (hE.new0.app (hN3.mono hB3)),v5,Z,hZ,rfl,by rw[hZ.1];exact Gr.i hG3 fun p hp=>by simp[hp]⟩
  ·obtain⟨x,Z,hZ,rfl,hx⟩:=hv'
   exact⟨Ext.of_new (hN.app hD'),x,Z,hZ,rfl,hx.mono fun p hp=>by simp[hp]⟩
end Go.Proofs
end
section
open Go Go.Proofs Go.Sx Go.StP Go.Flo
namespace Go.Proofs
set_option maxRecDepth 10000
set_option maxHeartbeats 1000000
set_option linter.unusedSimpArgs false
set_option linter.defProp false
def jX_:=And.intro (And.intro (@zi_) (@zh_)) (And.intro (@Sx.tup2_0) (@Sx.tup2_1))
theorem X1_ (b:List UInt8) (w:World) (hG:GlobE w) (hC:GlobC w):Rets Tryz.prog 8 #[vs b] w (fun v D=>v= .bool true∧D= []):=by
 refine Rets.enterV Tryz.func8 rfl (rs:= [.tmp 2]) Tryz.results8 Tryz.ntmps8 ?_
 refine kf ?_
 first|with_reducible refine ks [] @jX_ ?_|refine kp @jX_ ?_
 refine Ow.callFV rfl Tryz.call41 (fun w' hw'=>v3_ w' (hG.new hw' trivial) (hC.newP hw' trivial)) ?_
 refine ko @jX_ ?_
 by_cases hbl:8000<b.length
 ·have d1:decide ((8000:Int)< (b.length:Int))=true:=decide_eq_true (by omega)
  first|with_reducible refine ks [] (And.intro @jX_ @d1) ?_|refine kp (And.intro @jX_ @d1) ?_
  refine Ow.callFV rfl Tryz.call41 (fun w' hw'=>v3_ w' (hG.new hw' trivial) (hC.newP hw' trivial)) ?_
  refine ko @jX_ ?_
  first|with_reducible refine ks [] @jX_ ?_|refine kp @jX_ ?_
  refine⟨_,(ke @jX_),trivial, ?_⟩
  rfl
 have d1:decide ((8000:Int)< (b.length:Int))=false:=decide_eq_false (by omega)
 first|with_reducible refine ks [] (And.intro @jX_ @d1) ?_|refine kp (And.intro @jX_ @d1) ?_
 refine Ow.callC rfl rfl Tryz.call47 (fun w' hw'=>Rets.toX (VR_ b w' (hG.new hw' trivial) (hC.newP hw' trivial) (by omega))) (fun B1 v1 D1 hA1 hB1 hN1 hS1=> ?_)
 obtain⟨rfl,hS1⟩:=hS1
 rw[List.append_nil]
 cases hop:vP_ b with
 |none=>
  unfold ahI_ at hS1
  rw[hop] at hS1
  have hS1':v1= .tuple #[vs [],vi 2]:=hS1
  subst hS1'
  refine ko @jX_ ?_
  first|with_reducible refine ks [] @jX_ ?_|refine kp @jX_ ?_
  refine Ow.callC rfl rfl Tryz.call48 (fun w' hw'=>VT_ b w' (by omega)) (fun B2 v2 D2 hA2 hB2 hN2 hS2=> ?_)
  have hD2:New w.heap.size D2:=hN2.mono hB2
  unfold OfRS at hS2
  rw[hop] at hS2
  have hS2':v2= .tuple #[.slice none 0 0, .bool false]:=hS2
  subst hS2'
  rw[List.nil_append]
  have e1: ((2:Int)==2)=true:=rfl
  have e2: (([]:List UInt8)== [])=true:=rfl
  refine ko @jX_ ?_
  first|with_reducible refine ks [] @jX_ ?_|refine kp @jX_ ?_
  refine Ow.callFV rfl Tryz.call41 (fun w' hw'=>v3_ w' (hG.new hw' hD2) (hC.newP hw' hD2)) ?_
  refine ko (And.intro @jX_ (And.intro @e1 (@e2))) ?_
  first|with_reducible refine ks [] @jX_ ?_|refine kp @jX_ ?_
  refine⟨_,(ke @jX_),hD2, ?_⟩
  rfl
 |some q=>
  obtain⟨Z,hZ,hr,rfl⟩:=anX_ hop (by omega) hS1
  have hb4:=XQ_ hop
  have e4: (b.length:Int) - 4=((b.length - 4:Nat):Int):=by omega
  obtain⟨-,-,hl2⟩:=vD_ hr
  have hdl: (b.drop (b.length - 4)).length<1000000:=by rw[List.length_drop];omega
  refine ko @jX_ ?_
  first|with_reducible refine ks [] @jX_ ?_|refine kp @jX_ ?_
  refine Ow.callC rfl rfl Tryz.call48 (fun w' hw'=>VT_ b w' (by omega)) (fun B2 v2 D2 hA2 hB2 hN2 hS2=> ?_)
  have hD2:New w.heap.size D2:=hN2.mono hB2
  unfold OfRS at hS2
  rw[hop] at hS2
  obtain⟨x,Z',hZ',rfl,hg⟩:=hS2
  obtain rfl:Z'=Z:=hZ'.eq hZ
  rw[List.nil_append]
  have e1: ((0:Int)==0)=true:=rfl
  have e2: (q9_ (Zu_ (b.drop (b.length - 4)) Z')==q9_ (Zu_ (b.drop (b.length - 4)) Z'))=true:=beq_self_eq_true _
  refine ko @jX_ ?_
  first|with_reducible refine ks [] @jX_ ?_|refine kp @jX_ ?_
  refine Ow.callFV rfl Tryz.call41 (fun w' hw'=>v3_ w' (hG.new hw' hD2) (hC.newP hw' hD2)) ?_
  refine ko (And.intro @jX_ (And.intro @e1 (@e4))) ?_
  refine Ow.callFV rfl Tryz.call46 (fun w' hw'=>aeb_ (b.drop (b.length - 4)) x Z' w' (hg.slV hw' rfl rfl zw_) (by omega) hdl) ?_
  refine ko (And.intro @jX_ @e2) ?_
  first|with_reducible refine ks [] @jX_ ?_|refine kp @jX_ ?_
  refine⟨_,(ke @jX_),hD2, ?_⟩
  rfl
end Go.Proofs
end
section
open Go Go.Proofs Go.Sx Go.StP Go.Flo
namespace Go.Proofs
set_option maxRecDepth 10000
set_option maxHeartbeats 1000000
set_option linter.unusedSimpArgs false
theorem anF_:qO_ Tryz.prog .eql 38 (.pointer none) (.pointer none)=some (.bool true):=by
 simp[qO_,eqX,qH_,qI_,Tryz.underlying38]
theorem ap8_ (b o:Nat):qO_ Tryz.prog .neq 38 (vp b o) (.pointer none)=some (.bool true):=by
 simp[qO_,eqX,qH_,qI_,Tryz.underlying38,vp]
set_option linter.defProp false
def atf_:=And.intro (And.intro (And.intro (@zi_) (@zh_)) (And.intro (@anF_) (@ja_))) (And.intro (And.intro (@qs_) (@qt_)) (And.intro (@qB_) (@j4_)))
end Go.Proofs
end
section
open Go Go.Proofs Go.Sx Go.StP Go.Flo
namespace Go.Proofs
set_option maxRecDepth 10000
set_option maxHeartbeats 1000000
set_option linter.unusedSimpArgs false
theorem al1_ (v0 v1 v2 v3:Value) (n:Nat):zs_ (some (false,n)) (some (mkO v0 v1 v2 v3)) 0=some v0:=(rfl)
theorem amB_ (v0 v1 v2 v3:Value) (n:Nat):zs_ (some (false,n)) (some (mkO v0 v1 v2 v3)) 1=some v1:=(rfl)
theorem aqQ_ (k k':Int) (t t':List UInt8):qO_ Tryz.prog .neq 43 (obV k t) (obV k' t')=some (.bool (!decide ((⟨k,t⟩:ObL)=⟨k',t'⟩))):=arz_ ⟨k,t⟩ ⟨k',t'⟩
structure SmG where
 i:Nat
 DG:ze_
set_option linter.defProp false
def asU_:=And.intro (And.intro (And.intro (And.intro (@zi_) (@zh_)) (And.intro (@Xh_) (@al1_))) (And.intro (And.intro (@amB_) (@ae8_)) (And.intro (@JP_) (@ja_)))) (And.intro (And.intro (And.intro (@qs_) (@qt_)) (And.intro (@qB_) (@j4_))) (And.intro (And.intro (@ag4_) (@aqQ_)) (And.intro (@Sx.tup2_0) (@Sx.tup2_1))))
end Go.Proofs
end
section
open Go Go.Proofs Go.Sx Go.StP Go.Flo
namespace Go.Proofs
set_option maxRecDepth 10000
set_option maxHeartbeats 1000000
set_option linter.unusedSimpArgs false
def Dst (l:List IdL):Prop:= ∀k,k<l.length→idxG (l.getD k id0) l 0=(k:Int)
set_option linter.defProp false
def asq_:=And.intro (And.intro (And.intro (@zi_) (And.intro (@zh_) (@Xh_))) (And.intro (And.intro (@JP_) (@ja_)) (And.intro (@qs_) (@qt_)))) (And.intro (And.intro (And.intro (@qB_) (@j4_)) (And.intro (@ag4_) (@aqQ_))) (And.intro (And.intro (@ap8_) (@anF_)) (And.intro (@Sx.tup2_0) (@Sx.tup2_1))))
end Go.Proofs
end
namespace Go.Sx
open Go Go.ChangeShapes Go.WideShapes Go.RowKit
theorem Hp.same0 {W W':World} (h:Hp W [] W') {b:Nat} (hb:b<W.heap.size):W'.heap[b]? =W.heap[b]? :=h.old b hb (fun hm=>by cases hm)
theorem Hp.kept {W W':World} (h:Hp W [] W') (may:MemPlace→Prop):W.keptBut W' may:=by
 refine⟨h.os,h.output,fun i hi=> ?_⟩
 rw[h.same0 hi]
 cases ho:W.heap[i]? with
 |none=>rfl
 |some o=>
  cases o<;>first
   |exact⟨rfl,rfl,rfl,fun _ _=>rfl⟩
   |exact .inr ⟨rfl,rfl⟩
   |rfl
theorem Hp.sameAt {W W':World} (h:Hp W [] W') {p:MemPlace} (hp:p.block<W.heap.size):W.sameAt W' p:=by
 cases p with
 |cell b off=>
  have:=h.same0 (b:=b) hp
  simp only[World.sameAt,World.cell?,this]
 |map b=>exact h.same0 hp
theorem Hp.frozen {W W':World} (h:Hp W [] W') {a:Addr} (ha:a.block<W.heap.size):W'.frozen? a=W.frozen? a:=by
 simp only[World.frozen?,h.same0 ha]
section
variable {H:Type} {enc:TypeId×Value→H} {P:Program}
theorem QF_ (hl:laidOutB P=true) {W W':World} {sp:Nat→Bool} (hp:Hp W [] W'): ∀ {ts:List TypeId} {vs:List Value} {ds:List (DataW H)} {ps:List MemPlace},
  (∀t∈ts,P.readableRec t=true∧t<P.types.size)→(∀p∈ps,p.block<W.heap.size)→(∀p∈ps,sp p.block=true)→
  DataW.TrodAll enc P W 0 (fun _=>true) true ts vs ds ps→DataW.TrodAll enc P W' 0 sp true ts vs ds ps
 | [],_,_,_,_,_,_,h=>by
  obtain⟨rfl,rfl,rfl⟩:=trodAll_nil h
  exact trodAll_mk0
 |t::ts,_,_,_,ht,hlt,hs,h=>by
  obtain⟨v,vs,d,ds,p,q,rfl,rfl,rfl,h1,h2⟩:=trodAll_cons h
  have hlt1: ∀x∈p,x.block<W.heap.size:=fun x hx=>hlt x (List.mem_append_left _ hx)
  exact trodAll_cons_mk (WideElems.Trod_stays hl (ht t List.mem_cons_self).1 (ht t List.mem_cons_self).2 h1 (fun x hx=>hp.sameAt (hlt1 x hx)) (fun x hx=>hs x (List.mem_append_left _ hx)))
   (QF_ hl hp (fun u hu=>ht u (List.mem_cons_of_mem _ hu)) (fun x hx=>hlt x (List.mem_append_right _ hx)) (fun x hx=>hs x (List.mem_append_right _ hx)) h2)
theorem ajd_ {f:Func} {s:ChangeSpec} {W W':World} {args:Array Value} {ds gs:List (DataW H)} {before:List MemPlace} {tb:TypeId} (hl:laidOutB P=true)
  (hW:DataW.Whole enc P f.params.toList s.vars false W args.toList ds gs before) (hv:s.vars= []) (hpar: ∀t∈f.params.toList,P.readableRec t=true∧t<P.types.size)
  (hr:f.resultTypes= #[tb]) (htb:P.underlying tb=some .bool) (hfn:s.fn H ds={results:= [.lit (.bool true)],args:=ds}) (hp:Hp W [] W'):
  s.post enc P f false true false false W args (.bool true) W':=by
 have hlt:=hW.lt
 have hW0:=hW
 obtain⟨p,q,hA,hV,rfl,hz,hn⟩:=hW
 rw[hv] at hV
 obtain⟨rfl,rfl⟩:=trodVars_none hV
 rw[List.append_nil] at hW0 hlt hz
 have hargs: ∀sp:Nat→Bool,(∀x∈p,sp x.block=true)→DataW.TrodAll enc P W' 0 sp true f.params.toList args.toList (s.fn H (ds++ [])).args p:=fun sp hs=>by
  rw[List.append_nil,hfn]
  exact QF_ hl hp hpar hlt hs hA
 have hvars: ∀sp:Nat→Bool,DataW.TrodVars enc P W' sp s.vars (s.fn H (ds++ [])).vars []:=fun sp=>by
  rw[List.append_nil,hfn,hv];rfl
 have hres: ∀ (b:Nat) (sp:Nat→Bool) (hd:Bool),DataW.TrodAll enc P W' b sp hd f.resultTypes.toList ((Value.bool true).resultList f.resultTypes.size) (s.fn H (ds++ [])).results []:=fun b sp hd=>by
  rw[List.append_nil,hfn,hr]
  exact trodAll_cons_mk (shut_bool htb true) trodAll_mk0
 have hold: ∀x∈p,(fun b=>decide (b<W.heap.size)) x.block=true:=fun x hx=>by simpa using hlt x hx
 refine⟨ds,[],p,[],p,[],hW0,hres _ _ _,hargs _ hold,hvars _,hp.kept _,fun _=> ?_⟩
 refine⟨ok_one hr rfl (okWide_bool_mk htb true),_,_,([]++p)++ [],⟨[]++p,[],trodAll_append (hargs _ (fun _ _=>rfl)) (hres _ _ _),hvars _,rfl, ?_,fun h=>by cases h⟩, ?_⟩
 ·intro b off hx
  have hx':MemPlace.cell b off∈p:=by simpa using hx
  rw[hp.frozen (hlt _ hx')]
  exact hz b off hx'
 ·intro x hx _
  simpa using hx
end
section
variable {P:Program} {W:World} {name:String} {k:IntKind} {zs:List Int}
theorem vK_ {t e:TypeId} {g n:Nat} (hg:P.globalNamed name=some g) (hty: (P.globals[g]?).map (·.type)=some t) (ht:P.underlying t=some (.array n e)) (he:P.underlying e=some (.int k)) (hce:P.cellsOf e=1) (hct:P.cellsOf t=n):
  ∀ {laid:List (String×DataW Unit)} {ps:List MemPlace},DataW.LaidVars P W laid ps→(name,Lib.tabData k zs)∈laid→Lib.TabIs P W name k zs
 | [],_,_,hm=>by cases hm
 | (n',d')::rest,ps,h,hm=>by
  obtain⟨g',t',cs,fuel,p,q,hg',ht',hvar,hd,hr,-⟩:=h
  rcases List.mem_cons.1 hm with hm|hm
  ·cases hm
   obtain rfl:=Option.some.inj (hg.symm.trans hg')
   obtain rfl:=Option.some.inj (hty.symm.trans ht')
   unfold Lib.TabIs
   rw[hvar,←Lib.cells_of_tab ht he hce hct hd]
  ·exact vK_ hg hty ht he hce hct hr hm
theorem ZP_ {g:Nat} (hg:P.globalNamed name=some g) (h:Lib.TabIs P W name k zs): ∃e f,W.heap[g]? =some (.cells (zs.map fun z=>Value.int k z).toArray e f):=by
 unfold Lib.TabIs at h
 simp only[World.var?,hg,Option.bind_some] at h
 split at h
 ·rename_i cs e f hb
  cases h
  exact⟨e,f,hb⟩
 ·cases h
end
section
variable {H:Type} {enc:TypeId×Value→H} {P:Program}
end
end Go.Sx
namespace Go.Sx
open Go
section
variable {P:Program}
end
end Go.Sx
section
open Go Go.Proofs Go.Sx Go.StP Go.ChangeShapes
namespace Go.Proofs
set_option maxRecDepth 10000
set_option maxHeartbeats 400000
end Go.Proofs
end
section
open Go Go.Proofs Go.Sx
namespace Go.Proofs
set_option maxRecDepth 10000
set_option maxHeartbeats 400000
end Go.Proofs
end
section
open Go Go.Proofs Go.Sx Go.StP Go.ChangeShapes
namespace Go.Proofs
set_option maxRecDepth 10000
set_option maxHeartbeats 400000
end Go.Proofs
end
