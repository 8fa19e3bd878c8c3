/-
  Part 2 of the walk: contracts of the functions that the law reaches, and the calculus they stand on.
  No conditions.
-/
import Derived.Test.YtcakbfbidacnlaaDoorO1
import Derived.Lib.Strings
import Derived.Lib.Bytealg
import GoSem.Core.Float
import Derived.Laws.MakeOwn
section
open Go Go.Proofs Go.Sx Go.StP
namespace Go.Proofs
set_option maxRecDepth 10000
set_option maxHeartbeats 1000000
set_option linter.unusedSimpArgs false
theorem afs_ (s:List UInt8) (v1:Value) (F:List Nat) (n d:Nat) (hd:d<F.length):zn_ (some (false,n)) (some (ixO s v1 F)) (2+d)=some (vi ((F.getD d 0:Nat):Int)):=by
 unfold ixO zn_
 simp only[List.getElem?_toArray]
 rw[List.getElem?_append_right (by simp),show 2+d - [vs s,v1].length=d from by simp,List.getElem?_map,List.getElem?_eq_getElem hd,List.getD_eq_getElem?_getD,List.getElem?_eq_getElem hd]
 rfl
theorem ae3_ (s:List UInt8) (v1:Value) (F:List Nat) (d x:Nat) (a:Bool) (hd:d<F.length):zk_ (some (a,1)) (some (ixO s v1 F)) (2+d) (vi (x:Int))=some (ixO s v1 (F.set d x)):=by
 have e1: ([vs s,v1]++ (F.map fun(n:Nat)=>vi (n:Int)))=([vs s,v1]++ (F.take d).map (fun(n:Nat)=>vi (n:Int)))++ ([vi ((F.getD d 0:Nat):Int)]++ (F.drop (d+1)).map (fun(n:Nat)=>vi (n:Int))):=by
  have hF:F=F.take d++ (F.getD d 0::F.drop (d+1)):=by rw[←jr_ (z:=0) hd,List.take_append_drop]
  conv=>lhs;rw[hF]
  simp
 have e2: ([vs s,v1]++ ((F.set d x).map fun(n:Nat)=>vi (n:Int)))=([vs s,v1]++ (F.take d).map (fun(n:Nat)=>vi (n:Int)))++ ([vi (x:Int)]++ (F.drop (d+1)).map (fun(n:Nat)=>vi (n:Int))):=by
  rw[List.set_eq_take_append_cons_drop,if_pos hd]
  simp
 unfold ixO
 rw[e1,e2]
 exact zV_ _ [vi ((F.getD d 0:Nat):Int)] [vi (x:Int)] _ a _ 78 (by simp;omega) rfl rfl rfl rfl
theorem zrIx:qb_ Tryd.prog 78=some (.agg ([vs [], .slice none 0 0]++ (List.replicate 16 0).map fun(n:Nat)=>vi (n:Int)).toArray):=id (by kernel_rfl)
theorem akw_:Jn_ Tryd.prog 78=some [(0,1),(1,1),(2,16)]:=id (by kernel_rfl)
theorem aga_ {w:World} {v1:Value} {l:List RwL} (s:List UInt8) (hv:RwSl w v1 l):jb_ (Jn_ Tryd.prog 78) (qb_ Tryd.prog 78) [(0,vs s),(1,v1)]=some (.agg ([vs s,v1]++ (ke_ []).map fun(n:Nat)=>vi (n:Int)).toArray):=by
 rw[akw_,zrIx]
 obtain⟨b,off,c,arr,E,fz,hr,hc,⟨rfl,rfl,rfl⟩ | ⟨rfl,hb,hsz⟩⟩:=hv<;>rfl
theorem akF_ (s:List UInt8) (v1:Value) (F:List Nat):Obj.cells (Value.cells (.agg ([vs s,v1]++F.map fun(n:Nat)=>vi (n:Int)).toArray)) 78 (0,0)=ixO s v1 F:=(rfl)
theorem Kw_ {l:List RwL} {k:Nat}: ∀ {n:Nat},k<n→Qw_ l n=true→Qw_ l (k+1)=true
 |0,h,_=>by omega
 |n+1,h,h'=>by
  by_cases hk:k=n
  ·subst hk;exact h'
  ·refine Kw_ (n:=n) (by omega) ?_
   unfold Qw_ at h'
   simp only[Bool.and_eq_true] at h'
   exact h'.1.1
def OfIS (s:List UInt8) (v1:Value) (l:List RwL) (v:Value) (D:za_):Prop:=
 if Qw_ l l.length=true then∃b,v= .tuple #[vp b 0, .bool (decide (s.length=4)&&decide (l.length≤200))]∧(b,ixO s v1 (ke_ l))∈D else v= .tuple #[.pointer none, .bool false]
structure OfG where
 k:Nat
 DG:za_
set_option linter.defProp false
def zA_:=And.intro (And.intro (And.intro (@zf_) (@zg_)) (And.intro (@qS_) (And.intro (@x1_) (@vI_)))) (And.intro (And.intro (@vl_) (@vn_)) (And.intro (@q3_) (And.intro (@Sx.tup2_0) (@Sx.tup2_1))))
theorem aa6_ (s:List UInt8) (v1:Value) (l:List RwL) (w:World) (hv:RwSl w v1 l) (hl:l.length<1000000):
  Rets Tryd.prog 31 #[vs s,v1] w (XS w [] (OfIS s v1 l)):=by
 obtain⟨bb,off,arr,E,fz,hr⟩:=hv.row
 have ln:=hv.len
 refine Rets.enterX Tryd.func31 rfl (rs:= [.tmp 4, .tmp 5]) Tryd.results31 Tryd.ntmps31 (fun p hp=>by cases hp) (by simp[keys]) ?_
 refine kf ?_
 first|with_reducible refine ks [] @zA_ ?_|refine kp @zA_ ?_
 refine Ow.build _ rfl (aga_ s hv) ?_
 refine ko @zA_ ?_
 refine Ow.box rfl rfl fun b6 hb6 hw6=> ?_
 simp only[xs_,xf_,xg_,akF_,List.nil_append]
 refine Ow.permL (M:= [(b6,ixO s v1 (ke_ []))]) (List.Perm.refl _) ?_
 refine ko @zA_ ?_
 first|with_reducible refine ks [] (And.intro @zA_ @ln) ?_|refine kp (And.intro @zA_ @ln) ?_
 rw[show ke_ []=ke_ (l.take 0) from rfl]
 refine Cw.loopG (G:=OfG) [17,18,19,20,8,7,21,22,23,24,25,26,27,28,29,30,31,32,33,34,35,36,37,38,39,40,41,42,43,44,45,46,47,48,49,50,51,52,4,5,53,54,55,9,56,57,60,61,62,63,64,65,66,67,68,69,58,59,70,16] (fun g=> [(16,vi g.k)]) (fun g=>(b6,ixO s v1 (ke_ (l.take g.k)))::g.DG) (fun g=>g.k≤l.length∧Qw_ l g.k=true∧New w.heap.size g.DG) (fun g=>l.length - g.k) ⟨0,[]⟩ rfl rfl ?_ ?_
 ·exact⟨Nat.zero_le _,rfl,trivial⟩
 intro g j hg
 refine kv ?_
 obtain⟨k,DG⟩:=g
 simp only at hg ⊢
 obtain⟨hk,hok,hNG⟩:=hg
 by_cases hlt:k<l.length
 ·have d1:decide ((k:Int)< (l.length:Int))=true:=decide_eq_true (by omega)
  have hbl:=hr.lt (by omega)
  have hNr:New w.heap.size ((b6,ixO s v1 (ke_ (l.take k)))::DG):=⟨hw6,hNG⟩
  have rd:zx_ w ((b6,ixO s v1 (ke_ (l.take k)))::DG) bb=some (.cells arr E fz):=by rw[qM_ (hNr.not hbl)];exact hr.has (by omega)
  have ix:=hr.idx true k hlt
  have ld:=hr.load z4_ (by omega) hlt
  first|with_reducible refine ks [11,1000005] (And.intro @zA_ (And.intro @d1 (And.intro @rd (And.intro @ix (@ld))))) ?_|refine kp (And.intro @zA_ (And.intro @d1 (And.intro @rd (And.intro @ix (@ld))))) ?_
  refine Ow.alloc rfl rfl zrRw fun b8 hb8 hw8=> ?_
  simp only[ze_,List.nil_append,List.cons_append]
  have h68:b6<b8:=zz_ hb8 (by simp[keys])
  refine Ow.permL (M:=(b8, .cells (rwC rw0).toArray 45 (0,0)):: (b6,ixO s v1 (ke_ (l.take k)))::DG) (by classical exact List.perm_iff_count.2 fun a=>by simp only[List.count_append,List.count_cons,List.count_nil]<;>omega) ?_
  have htk:l.take (k+1)=l.take k++ [l.getD k rw0]:=take_snoc (z:=rw0) hlt
  have hok1:Qw_ l (k+1)=((decide (k=0) ||decide (wk_ (l.getD (k - 1) rw0).id (l.getD k rw0).id<0))&&ja_ (l.getD k rw0)):=by show(Qw_ l k&&_&&_)=_;rw[hok,Bool.true_and]
  have hno:Qw_ l (k+1)=false→ ¬Qw_ l l.length=true:=fun h h'=>by rw[Kw_ hlt h'] at h;cases h
  generalize hrr:l.getD k rw0=r at*
  have hN8:New w.heap.size ((b8,Obj.cells (rwC r).toArray 45 (0,0)):: (b6,ixO s v1 (ke_ (l.take k)))::DG):=⟨hw8,hNr⟩
  have rd8:zx_ w ((b8,Obj.cells (rwC r).toArray 45 (0,0)):: (b6,ixO s v1 (ke_ (l.take k)))::DG) bb=some (.cells arr E fz):=by rw[qM_ (hN8.not hbl)];exact hr.has (by omega)
  refine ko @zA_ ?_
  refine Cw.cutO (G:=Unit) [21,22,23,24,25,26,27,28,29,30,31,32,33,34,35,36,37,38,39,40,41,42,43,44,45,46,47,48,49,50,51,52] (fun g=> []) (fun g=>(b8, .cells (rwC r).toArray 45 (0,0)):: (b6,ixO s v1 (ke_ (l.take k)))::DG) (fun g=>Qw_ l (k+1)=true) ?_ ?_
  ·rcases Nat.eq_zero_or_pos k with rfl|hk0
   ·have d5:decide ((0:Int)< ((0:Nat):Int))=false:=rfl
    have hok2:Qw_ l (0+1)=ja_ r:=by rw[hok1,decide_eq_true (rfl:0=0),Bool.true_or,Bool.true_and]
    first|with_reducible refine ks [] @zA_ ?_|refine kp @zA_ ?_
    refine Cw.regionS [b8,bb] [0,1,2,3,4,5,6,7,8,9,10,11,12,13,14,15,16,17,18,19,20,21,22,23,24,25,26,27,28,29,30,31] [] (by kernel_rfl) (by kernel_rfl) (by kernel_rfl) ?_
    simp only[zm_, ↓zd_, ↓zb_, ↓zE_, ↓zD_,zc_]
    cases p1:decide (r.place<0) with
    |true=>
     have hbad:=hok2.trans (show ja_ r=false by simp[ja_,p1])
     refine kq (And.intro @zA_ (And.intro @d5 (@p1))) ?_
     first|with_reducible refine ks [] @zA_ ?_|refine kp @zA_ ?_
     refine⟨_,(ke @zA_), ?_⟩
     refine⟨Ext.of_new hN8, ?_⟩
     unfold OfIS
     rw[if_neg (hno hbad)]
     rfl
    |false=>
     cases p2:decide (1099511627775<r.place) with
     |true=>
      have hbad:=hok2.trans (show ja_ r=false by simp[ja_,p2])
      refine kq (And.intro @zA_ (And.intro @d5 (And.intro @p1 (@p2)))) ?_
      first|with_reducible refine ks [] @zA_ ?_|refine kp @zA_ ?_
      refine⟨_,(ke @zA_), ?_⟩
      refine⟨Ext.of_new hN8, ?_⟩
      unfold OfIS
      rw[if_neg (hno hbad)]
      rfl
     |false=>
      cases p3:decide (r.spot<0) with
      |true=>
       have hbad:=hok2.trans (show ja_ r=false by simp[ja_,p3])
       refine kq (And.intro @zA_ (And.intro @d5 (And.intro @p1 (And.intro @p2 (@p3))))) ?_
       first|with_reducible refine ks [] @zA_ ?_|refine kp @zA_ ?_
       refine⟨_,(ke @zA_), ?_⟩
       refine⟨Ext.of_new hN8, ?_⟩
       unfold OfIS
       rw[if_neg (hno hbad)]
       rfl
      |false=>
       cases p4:decide (1099511627775<r.spot) with
       |true=>
        have hbad:=hok2.trans (show ja_ r=false by simp[ja_,p4])
        refine kq (And.intro @zA_ (And.intro @d5 (And.intro @p1 (And.intro @p2 (And.intro @p3 (@p4)))))) ?_
        first|with_reducible refine ks [] @zA_ ?_|refine kp @zA_ ?_
        refine⟨_,(ke @zA_), ?_⟩
        refine⟨Ext.of_new hN8, ?_⟩
        unfold OfIS
        rw[if_neg (hno hbad)]
        rfl
       |false=>
        refine kq (And.intro @zA_ (And.intro @d5 (And.intro @p1 (And.intro @p2 (And.intro @p3 (@p4)))))) ?_
        exact CutO.mk () (by rw[hok2];simp[ja_,p1,p2,p3,p4]) rfl rfl
   ·have d5:decide ((0:Int)< (k:Int))=true:=decide_eq_true (by omega)
    have hki: (k:Int) - 1=((k - 1:Nat):Int):=by omega
    have ix':=hr.idx true (k - 1) (by omega)
    have ld':=hr.load z4_ (by omega) (k:=k - 1) (by omega)
    rw[decide_eq_false (show¬k=0 by omega),Bool.false_or] at hok1
    first|with_reducible refine ks [] @zA_ ?_|refine kp @zA_ ?_
    refine Cw.regionS [b8,bb] [0,1,2,3,4,5,6,7,8,9,10,11,12,13,14,15,16,17,18,19,20,21,22,23,24,25,26,27,28,29,30,31] [] (by kernel_rfl) (by kernel_rfl) (by kernel_rfl) ?_
    simp only[zm_, ↓zd_, ↓zb_, ↓zE_, ↓zD_,zc_]
    refine kq (And.intro @zA_ (And.intro @d5 (And.intro @hki (And.intro @ix' (And.intro @ld' (@rd8)))))) ?_
    refine Ow.soft rfl rfl rfl ?_
    refine Ow.callFV rfl Tryd.call39 (fun w' hw'=>Jx_ (l.getD (k - 1) rw0) r w') ?_
    with_reducible refine Ow.nil ?_
    refine⟨by intro b hb;simp only[List.mem_cons,List.not_mem_nil,or_false] at hb;(try subst hb);rfl, ?_⟩
    generalize wk_ (l.getD (k - 1) rw0).id r.id=c at*
    by_cases hc:c<0
    ·have d6:decide (0≤c)=false:=decide_eq_false (by omega)
     have hok2:Qw_ l (k+1)=ja_ r:=by rw[hok1,decide_eq_true hc,Bool.true_and]
     cases p1:decide (r.place<0) with
     |true=>
      have hbad:=hok2.trans (show ja_ r=false by simp[ja_,p1])
      refine kq (And.intro @zA_ (And.intro @d6 (@p1))) ?_
      first|with_reducible refine ks [] @zA_ ?_|refine kp @zA_ ?_
      refine⟨_,(ke @zA_), ?_⟩
      refine⟨Ext.of_new hN8, ?_⟩
      unfold OfIS
      rw[if_neg (hno hbad)]
      rfl
     |false=>
      cases p2:decide (1099511627775<r.place) with
      |true=>
       have hbad:=hok2.trans (show ja_ r=false by simp[ja_,p2])
       refine kq (And.intro @zA_ (And.intro @d6 (And.intro @p1 (@p2)))) ?_
       first|with_reducible refine ks [] @zA_ ?_|refine kp @zA_ ?_
       refine⟨_,(ke @zA_), ?_⟩
       refine⟨Ext.of_new hN8, ?_⟩
       unfold OfIS
       rw[if_neg (hno hbad)]
       rfl
      |false=>
       cases p3:decide (r.spot<0) with
       |true=>
        have hbad:=hok2.trans (show ja_ r=false by simp[ja_,p3])
        refine kq (And.intro @zA_ (And.intro @d6 (And.intro @p1 (And.intro @p2 (@p3))))) ?_
        first|with_reducible refine ks [] @zA_ ?_|refine kp @zA_ ?_
        refine⟨_,(ke @zA_), ?_⟩
        refine⟨Ext.of_new hN8, ?_⟩
        unfold OfIS
        rw[if_neg (hno hbad)]
        rfl
       |false=>
        cases p4:decide (1099511627775<r.spot) with
        |true=>
         have hbad:=hok2.trans (show ja_ r=false by simp[ja_,p4])
         refine kq (And.intro @zA_ (And.intro @d6 (And.intro @p1 (And.intro @p2 (And.intro @p3 (@p4)))))) ?_
         first|with_reducible refine ks [] @zA_ ?_|refine kp @zA_ ?_
         refine⟨_,(ke @zA_), ?_⟩
         refine⟨Ext.of_new hN8, ?_⟩
         unfold OfIS
         rw[if_neg (hno hbad)]
         rfl
        |false=>
         refine kq (And.intro @zA_ (And.intro @d6 (And.intro @p1 (And.intro @p2 (And.intro @p3 (@p4)))))) ?_
         exact CutO.mk () (by rw[hok2];simp[ja_,p1,p2,p3,p4]) rfl rfl
    ·have d6:decide (0≤c)=true:=decide_eq_true (by omega)
     have hbad:Qw_ l (k+1)=false:=by rw[hok1,decide_eq_false hc,Bool.false_and]
     refine kq (And.intro @zA_ @d6) ?_
     first|with_reducible refine ks [] @zA_ ?_|refine kp @zA_ ?_
     refine⟨_,(ke @zA_), ?_⟩
     refine⟨Ext.of_new hN8, ?_⟩
     unfold OfIS
     rw[if_neg (hno hbad)]
     rfl
  ·intro u ju hu
   refine kv ?_
   first|with_reducible refine ks [] @zA_ ?_|refine kp @zA_ ?_
   refine Ow.callFV rfl Tryd.call33 (fun w' hw'=>Vw_ r.id w') ?_
   refine ko @zA_ ?_
   rw[←aju_ (l.take k) r]
   refine Cw.loopG (G:=Nat) [56,57,60,61,62,63,64,65,66,67,68,69,58,59,9] (fun g=> [(9,vi g)]) (fun g=>(b8, .cells (rwC r).toArray 45 (0,0)):: (b6,ixO s v1 (XM_ (l.take k) r g))::DG) (fun g=>JY_ r.id≤g∧g≤16) (fun g=>16 - g) (JY_ r.id) rfl rfl ?_ ?_
   ·exact⟨Nat.le_refl _,Nat.le_of_lt (af5_ _)⟩
   intro g j hg
   refine kv ?_
   obtain⟨hg1,hg2⟩:=hg
   by_cases hgl:g<16
   ·have d7:decide ((g:Int)<16)=true:=decide_eq_true (by omega)
    have lf:=fun n=>afs_ s v1 (XM_ (l.take k) r g) n g (by rw[Zf_];exact hgl)
    rw[afD_ _ _ hgl] at lf
    have h86:b8≠b6:=by omega
    have sf:=fun a=>ae3_ s v1 (XM_ (l.take k) r g) g (XK_ (l.take k) g+1) a (by rw[Zf_];exact hgl)
    rw[afe_ _ _ hgl hg1,show((XK_ (l.take k) g+1:Nat):Int)=((XK_ (l.take k) g:Nat):Int)+1 by omega] at sf
    have hfv:XK_ (l.take k) g≤k:=by
     have h1:XK_ (l.take k) g≤ (l.take k).length:=List.countP_le_length
     rw[List.length_take] at h1
     omega
    first|with_reducible refine ks [] (And.intro @zA_ @d7) ?_|refine kp (And.intro @zA_ @d7) ?_
    refine Cw.regionS [b6] [0,1,2,3,4,7,8,5,6,9,10] [10] (by kernel_rfl) (by kernel_rfl) (by kernel_rfl) ?_
    simp only[zm_, ↓zd_, ↓zb_, ↓zE_, ↓zD_,zc_]
    refine kq (And.intro @zA_ @lf) ?_
    refine Ow.store rfl rfl rfl (ke (And.intro @zA_ @sf)) ?_
    refine ko @zA_ ?_
    first|with_reducible refine ks [] @zA_ ?_|refine kp @zA_ ?_
    exact Again.mk (G:=Nat) (g+1) (by show 16 - (g+1)<16 - g;omega) ⟨by omega,by omega⟩ rfl rfl
   ·obtain rfl:g=16:=by omega
    have d7:decide (((16:Nat):Int)<16)=false:=rfl
    rw[ail_,←htk]
    first|with_reducible refine ks [] @zA_ ?_|refine kp @zA_ ?_
    refine Cw.permL (M:=(b6,ixO s v1 (ke_ (l.take (k+1)))):: (b8, .cells (rwC r).toArray 45 (0,0))::DG) (by classical exact List.perm_iff_count.2 fun a=>by simp only[List.count_append,List.count_cons,List.count_nil]<;>omega) ?_
    first|with_reducible refine ks [] @zA_ ?_|refine kp @zA_ ?_
    exact Again.mk ⟨k+1,(b8, .cells (rwC r).toArray 45 (0,0))::DG⟩ (by show l.length - (k+1)<l.length - k;omega) ⟨hlt,hu,hw8,hNG⟩ rfl rfl
 ·obtain rfl:k=l.length:=by omega
  have d1:decide ((l.length:Int)< (l.length:Int))=false:=decide_eq_false (by omega)
  rw[List.take_length]
  by_cases h4:s.length=4
  ·have d2: ((s.length:Int)==4)=true:=by rw[h4];rfl
   first|with_reducible refine ks [] (And.intro @zA_ (And.intro @d1 (And.intro @d2 (@ln)))) ?_|refine kp (And.intro @zA_ (And.intro @d1 (And.intro @d2 (@ln)))) ?_
   refine⟨_,(ke @zA_), ?_⟩
   refine⟨Ext.of_new ⟨hw6,hNG⟩, ?_⟩
   unfold OfIS
   rw[if_pos hok]
   refine⟨b6, ?_,List.mem_cons_self⟩
   have e:decide ((l.length:Int)≤200)=decide (l.length≤200):=decide_eq_decide.2 (by omega)
   rw[decide_eq_true h4,Bool.true_and,←e];rfl
  ·have d2: ((s.length:Int)==4)=false:=beq_eq_false_iff_ne.2 (by omega)
   first|with_reducible refine ks [] (And.intro @zA_ (And.intro @d1 (And.intro @d2 (@ln)))) ?_|refine kp (And.intro @zA_ (And.intro @d1 (And.intro @d2 (@ln)))) ?_
   refine⟨_,(ke @zA_), ?_⟩
   refine⟨Ext.of_new ⟨hw6,hNG⟩, ?_⟩
   unfold OfIS
   rw[if_pos hok]
   exact⟨b6,by rw[decide_eq_false h4,Bool.false_and];rfl,List.mem_cons_self⟩
end Go.Proofs
end
section
open Go Go.Proofs Go.Sx Go.StP
namespace Go.Proofs
set_option maxRecDepth 10000
set_option maxHeartbeats 4000000
set_option linter.unusedSimpArgs false
structure ComL where
 tree:IdL
 par:List IdL
 text:List UInt8
def vi_ (t:IdL) (p:Value) (x:List UInt8):List Value:=t.l.map v8++ ([p]++ [vs x])
theorem aaY_ (t:IdL) (p:Value) (x:List UInt8): (vi_ t p x).length=34:=by simp[vi_,t.h]
theorem j5_ (t:IdL) (p:Value) (x:List UInt8):Value.cells (.agg (vi_ t p x).toArray)=(vi_ t p x).toArray:=ze_ _
theorem ku_ (t:IdL) (p:Value) (x:List UInt8) (E:TypeId) (fz:Nat×Nat):zn_ (some (true,32)) (some (.cells (vi_ t p x).toArray E fz)) 0=some (.agg (a8 t.l)):=by
 unfold vi_;exact xX_ [] _ _ E fz rfl (by simp[t.h])
theorem ky_ (t:IdL) (p:Value) (x:List UInt8) (n:Nat) (E:TypeId) (fz:Nat×Nat):zn_ (some (false,n)) (some (.cells (vi_ t p x).toArray E fz)) 32=some p:=by
 unfold vi_;exact qz_ _ _ p n E fz (by simp[t.h])
theorem kz_ (t:IdL) (p:Value) (x:List UInt8) (n:Nat) (E:TypeId) (fz:Nat×Nat):zn_ (some (false,n)) (some (.cells (vi_ t p x).toArray E fz)) 33=some (vs x):=by
 have e:vi_ t p x=(t.l.map v8++ [p])++ ([vs x]++ []):=by unfold vi_;simp only[List.append_assoc,List.append_nil]
 rw[e];exact qz_ _ _ (vs x) n E fz (by simp[t.h])
theorem vj_ (t:IdL) (p:Value) (x:List UInt8) (E:TypeId) (fz:Nat×Nat):zn_ (some (true,34)) (some (.cells (vi_ t p x).toArray E fz)) 0=some (.agg (vi_ t p x).toArray):=jK_ _ E fz 34 (by rw[List.size_toArray,aaY_])
def akE_ (l:List IdL) (i:Nat):Bool:= !((l.take i).any fun y=>(l.getD i id0).l==y.l)
def ajK_ (c:ComL):Bool:=(decide (c.par.length≤4)&&decide (c.text.length≤64))&& (List.range c.par.length).all (akE_ c.par)
abbrev ComS (w:World) (v:Value) (c:ComL):Prop:= ∃p,v= .agg (vi_ c.tree p c.text).toArray∧IdS w p c.par
theorem SlV.one {α:Type} {m:Nat} {enc:α→List Value} {z:α} {w:World} {v:Value} {l:List α} (h:SlV m enc z w v l):Value.oneCell' v=true∧v.cells= #[v]:=by
 obtain⟨b,off,c,arr,E,fz,-,-,⟨rfl,-,-⟩ | ⟨rfl,-,-⟩⟩:=h<;>exact⟨rfl,rfl⟩
set_option linter.defProp false
def alZ_:=And.intro (And.intro (And.intro (@afd_) (@agd_)) (And.intro (@jI_) (And.intro (@zf_) (@zg_)))) (And.intro (And.intro (@ku_) (@ky_)) (And.intro (@kz_) (And.intro (@vj_) (@j5_))))
end Go.Proofs
end
section
open Go Go.Proofs Go.Sx Go.StP
namespace Go.Proofs
set_option maxRecDepth 10000
set_option maxHeartbeats 4000000
set_option linter.unusedSimpArgs false
set_option linter.defProp false
def amF_:=And.intro (And.intro (And.intro (@afd_) (@agd_)) (And.intro (@jI_) (And.intro (@zf_) (@zg_)))) (And.intro (And.intro (@ku_) (@ky_)) (And.intro (@kz_) (And.intro (@vj_) (@j5_))))
def ani_ (a b:ComL):Bool:=(a.tree.l==b.tree.l)&& (a.text==b.text)&&decide (a.par=b.par)
end Go.Proofs
end
section
open Go Go.Proofs Go.Sx
namespace Go.Proofs
set_option maxRecDepth 10000
set_option maxHeartbeats 4000000
set_option linter.unusedSimpArgs false
theorem abT_ {n:Nat} (h:n<1099511627776):zM_ (n:Int)=n:=by unfold zM_ maxN;omega
end Go.Proofs
end
section
open Go Go.Proofs Go.Sx Go.StP
namespace Go.Proofs
set_option maxRecDepth 10000
set_option maxHeartbeats 400000
set_option linter.unusedSimpArgs false
set_option linter.defProp false
def amd_:=And.intro (And.intro (And.intro (@j4_) (@xH_)) (And.intro (@xr_) (@qy_))) (And.intro (And.intro (@zX_) (@z5_)) (And.intro (@zf_) (@zg_)))
def entB (e:EntL):List UInt8:=(z3_ (zM_ e.kind)++jM_ e.name)++e.id.l
def akJ_ (l:List EntL):List UInt8:=(l.map entB).flatten
def idsB (l:List IdL):List UInt8:=(l.map IdL.l).flatten
def ak8_ (c:ComL):List UInt8:=c.tree.l++z3_ (zM_ c.par.length)
def comB (c:ComL):List UInt8:=ak8_ c++idsB c.par++jM_ c.text
set_option linter.defProp false
def alK_:=And.intro (And.intro (And.intro (@afd_) (@agd_)) (And.intro (@jI_) (And.intro (@zf_) (@zg_)))) (And.intro (And.intro (@ku_) (@ky_)) (And.intro (@kz_) (And.intro (@vj_) (@j5_))))
end Go.Proofs
end
section
open Go Go.Proofs Go.Sx Go.StP
namespace Go.Proofs
set_option maxRecDepth 10000
set_option maxHeartbeats 400000
set_option linter.unusedSimpArgs false
instance:DecidableEq EntL:=fun a b=>if h:a.name=b.name∧a.kind=b.kind∧a.id.l=b.id.l then .isTrue (by cases a;cases b;simp only at h;obtain⟨rfl,rfl,h3⟩:=h;rw[IdL.ext' h3]) else .isFalse (fun e=>h (by rw[e];exact⟨rfl,rfl,rfl⟩))
theorem EntL.ext' {a b:EntL} (h: (a.name==b.name&&a.kind==b.kind&&a.id.l==b.id.l)=true):a=b:=by
 simp only[Bool.and_eq_true,beq_iff_eq] at h
 cases a;cases b;simp only at h;obtain⟨⟨rfl,rfl⟩,h3⟩:=h;rw[IdL.ext' h3]
set_option linter.defProp false
def am8_:=And.intro (And.intro (And.intro (@j4_) (@xH_)) (And.intro (@xr_) (@qy_))) (And.intro (And.intro (@zX_) (@z5_)) (And.intro (@zf_) (@zg_)))
end Go.Proofs
end
section
open Go Go.Proofs Go.Sx Go.StP
namespace Go.Proofs
set_option maxRecDepth 10000
set_option maxHeartbeats 400000
set_option linter.unusedSimpArgs false
structure SoG where
 g:Nat
 Z:List EntL
 v:Value
 D:za_
set_option linter.defProp false
def alQ_:=And.intro (And.intro (And.intro (@j4_) (@xH_)) (And.intro (@xr_) (@qy_))) (And.intro (And.intro (@zX_) (@z5_)) (And.intro (@zf_) (@zg_)))
end Go.Proofs
end
section
open Go Go.Proofs Go.Sx Go.StP
namespace Go.Proofs
set_option maxRecDepth 10000
set_option maxHeartbeats 400000
set_option linter.unusedSimpArgs false
def wu_ (l:List UInt8):IdL:=if h:l.length=32 then⟨l,h⟩ else id0
theorem aaC_ {l:List UInt8} (h:l.length=32): (wu_ l).l=l:=by unfold wu_;rw[dif_pos h]
theorem aeG_ (s:List UInt8) (a:Nat) (e:Int): (idR s a e).1.length=32:=by
 unfold idR
 simp only
 split
 ·assumption
 ·simp[z32]
theorem ahl_ {s:List UInt8} {a:Nat} {e:Int} (ha:a≤s.length):a≤ (idR s a e).2.1∧(idR s a e).2.1≤s.length:=va_ ha
theorem JV_ {s:List UInt8} {a:Nat} {e most:Int} (ha:a≤s.length):a≤ (z6_ s a e most).2.1∧(z6_ s a e most).2.1≤s.length:=by
 have hp:=jh_ (e:=e) (most:=most) ha
 have hq:=va_ (e:=(zB_ s a e most).2.2) (n:=(zB_ s a e most).1) hp.2
 unfold z6_
 simp only
 split
 ·exact⟨Nat.le_refl _,ha⟩
 ·exact⟨by omega,hq.2⟩
theorem ael_ (s:List UInt8) (a:Nat) (e most:Int): (z6_ s a e most).1.length≤s.length:=by
 have: ∀ (b:Nat) (e n:Int),(qq_ s b e n).1.length≤s.length:=by
  intro b e n
  unfold qq_
  split
  ·simp
  ·split
   ·simp
   ·split
    ·simp
    ·simp only[List.length_take,List.length_drop];omega
 unfold z6_
 simp only
 split
 ·simp
 ·exact this _ _ _
theorem ahh_ {s:List UInt8} {a:Nat} {e n:Int} (he:e≠0): (qq_ s a e n).2=(a,e):=by unfold qq_;rw[if_pos he]
theorem aaM_ {s:List UInt8} {a:Nat} {e most:Int} (he:e≠0): (zB_ s a e most).2=(a,e):=by unfold zB_;rw[if_pos he]
theorem ahN_ {s:List UInt8} {a:Nat} {e most:Int} (he:e≠0): (z6_ s a e most).2=(a,e):=by
 unfold z6_
 simp only[aaM_ he,ahh_ he]
 rw[if_pos he]
theorem ajB_ {s:List UInt8} {a:Nat} {e:Int} (he:e≠0): (idR s a e).2=(a,e):=by unfold idR;simp only[ahh_ he]
theorem ado_ {s:List UInt8} {a:Nat} {e n:Int} (h:e≠5): (qq_ s a e n).2.2≠5:=by
 unfold qq_
 split
 ·exact h
 ·split
  ·show(2:Int)≠5;decide
  ·split
   ·show(3:Int)≠5;decide
   ·show(0:Int)≠5;decide
theorem aif_ (most:Int): ∀ (l:List UInt8) (k n x:Nat),qA_ most l k n= .error x→x≠5:=by
 intro l
 induction l with
 |nil=>intro k n x h;unfold qA_ at h;cases h;decide
 |cons c r ih=>
  intro k n x h
  unfold qA_ at h
  split at h
  ·split at h
   ·cases h;decide
   ·exact ih _ _ _ h
  ·split at h
   ·cases h;decide
   ·split at h
    ·cases h
    ·cases h;decide
theorem aiH_ (most:Int): ∀ (l:List UInt8) (k n:Nat),qA_ most l k n≠ .error 0:=by
 intro l
 induction l with
 |nil=>intro k n h;unfold qA_ at h;cases h
 |cons c r ih=>
  intro k n h
  unfold qA_ at h
  split at h
  ·split at h
   ·cases h
   ·exact ih _ _ h
  ·split at h
   ·cases h
   ·split at h
    ·cases h
    ·cases h
theorem adj_ {s:List UInt8} {a:Nat} {e most:Int} (h:e≠5): (zB_ s a e most).2.2≠5:=by
 unfold zB_
 split
 ·exact h
 ·split
  ·show(0:Int)≠5;decide
  ·rename_i x hx
   have:=aif_ _ _ _ _ _ hx
   show((x:Nat):Int)≠5
   omega
theorem ahH_ {s:List UInt8} {a:Nat} {e most:Int} (h:e≠5): (z6_ s a e most).2.2≠5:=by
 unfold z6_
 simp only
 split
 ·exact ado_ (adj_ h)
 ·exact ado_ (adj_ h)
theorem ak1_ {s:List UInt8} {a:Nat} {e:Int} (h:e≠5): (idR s a e).2.2≠5:=by unfold idR;exact ado_ h
theorem aiO_ {s:List UInt8} {a:Nat} {e most:Int} (h: (zB_ s a e most).2.2=0):a< (zB_ s a e most).2.1:=by
 unfold zB_ at h ⊢
 split
 ·rename_i he
  rw[if_pos he] at h
  exact absurd h he
 ·rename_i he
  rw[if_neg he] at h
  split
  ·rename_i n k hk
   have:=J9_ _ _ _ _ _ _ hk
   show a<a+k
   omega
  ·rename_i x hx
   rw[hx] at h
   exfalso
   have:x=0:=by have: ((x:Nat):Int)=0:=h;omega
   subst this
   exact aiH_ _ _ _ _ hx
def Vj_ (s:List UInt8) (a:Nat) (e:Int):EntL×Nat×Int:=
 let p:=zB_ s a e 2
 let q:=z6_ s p.2.1 p.2.2 32
 let i:=idR s q.2.1 q.2.2
 (⟨q.1,p.1,wu_ i.1⟩,i.2)
theorem ahO_ {s:List UInt8} {a:Nat} {e:Int} (ha:a≤s.length):a≤ (Vj_ s a e).2.1∧(Vj_ s a e).2.1≤s.length:=by
 have h1:=jh_ (e:=e) (most:=2) ha
 have h2:=JV_ (e:=(zB_ s a e 2).2.2) (most:=32) h1.2
 have h3:=ahl_ (e:=(z6_ s (zB_ s a e 2).2.1 (zB_ s a e 2).2.2 32).2.2) h2.2
 unfold Vj_
 exact⟨by simp only;omega,h3.2⟩
theorem ajz_ {s:List UInt8} {a:Nat} {e:Int} (h:e≠5): (Vj_ s a e).2.2≠5:=ak1_ (ahH_ (adj_ h))
theorem aig_ {s:List UInt8} {a:Nat} {e:Int} (ha:a≤s.length) (h: (Vj_ s a e).2.2=0):a< (Vj_ s a e).2.1:=by
 have h1:=jh_ (e:=e) (most:=2) ha
 have h2:=JV_ (e:=(zB_ s a e 2).2.2) (most:=32) h1.2
 have h3:=ahl_ (e:=(z6_ s (zB_ s a e 2).2.1 (zB_ s a e 2).2.2 32).2.2) h2.2
 unfold Vj_ at h ⊢
 simp only at h ⊢
 have e2: (z6_ s (zB_ s a e 2).2.1 (zB_ s a e 2).2.2 32).2.2=0:=Decidable.byContradiction fun hn=>by rw[ajB_ hn] at h;exact hn h
 have e1: (zB_ s a e 2).2.2=0:=Decidable.byContradiction fun hn=>by rw[ahN_ hn] at e2;exact hn e2
 have:=aiO_ e1
 omega
def wD_ (s:List UInt8):Nat→Nat→Int→List EntL→List EntL×Nat×Int
 |0,a,e,l=>(l,a,e)
 |n+1,a,e,l=>if e=0∧a<s.length then wD_ s n (Vj_ s a e).2.1 (Vj_ s a e).2.2 (l++ [(Vj_ s a e).1]) else(l,a,e)
theorem adi_ {s:List UInt8} {n a:Nat} {e:Int} {l:List EntL} (h:e=0∧a<s.length):wD_ s (n+1) a e l=wD_ s n (Vj_ s a e).2.1 (Vj_ s a e).2.2 (l++ [(Vj_ s a e).1]):=by rw[wD_,if_pos h]
theorem abs_ {s:List UInt8} {n a:Nat} {e:Int} {l:List EntL} (h: ¬ (e=0∧a<s.length)):wD_ s n a e l=(l,a,e):=by
 cases n with
 |zero=>rfl
 |succ n=>rw[wD_,if_neg h]
def JX_ (s:List UInt8):List EntL×Nat×Int:=wD_ s (s.length+1) 0 0 []
structure EntsJ (s:List UInt8) (n a:Nat) (e:Int) (l:List EntL):Prop where
 go:JX_ s=wD_ s n a e l
 le:a≤s.length
 five:e≠5
 fuel:e=0→s.length<a+n
 cnt:l.length+n=s.length+1
 short: ∀i,i<l.length→(l.getD i ent0).name.length≤s.length
theorem EntsJ.next {s:List UInt8} {n a:Nat} {e:Int} {l:List EntL} (h:EntsJ s n a e l) (hc:e=0∧a<s.length): ∃m,n=m+1∧EntsJ s m (Vj_ s a e).2.1 (Vj_ s a e).2.2 (l++ [(Vj_ s a e).1]):=by
 have:=h.fuel hc.1
 obtain⟨m,rfl⟩: ∃m,n=m+1:=⟨n - 1,by omega⟩
 refine⟨m,rfl,h.go.trans (adi_ hc),(ahO_ h.le).2,ajz_ h.five,fun h0=> ?_, ?_,fun i hi=> ?_⟩
 ·have:=aig_ h.le h0;omega
 ·have:=h.cnt;simp only[List.length_append,List.length_cons,List.length_nil];omega
 ·by_cases hlt:i<l.length
  ·rw[qr_ hlt];exact h.short i hlt
  ·have:i=l.length:=by simp only[List.length_append,List.length_cons,List.length_nil] at hi;omega
   subst this
   rw[z8_ (Nat.le_refl _),Nat.sub_self]
   exact ael_ _ _ _ _
theorem EntsJ.done {s:List UInt8} {n a:Nat} {e:Int} {l:List EntL} (h:EntsJ s n a e l) (hc: ¬ (e=0∧a<s.length)):JX_ s=(l,a,e):=h.go.trans (abs_ hc)
theorem EntsJ.sh {s:List UInt8} {n a:Nat} {e:Int} {l:List EntL} (h:EntsJ s n a e l) (hs:s.length<1000000):ajc_ l:=fun i hi=>by have:=h.short i hi;omega
end Go.Proofs
end
section
open Go Go.Proofs Go.Sx Go.StP
namespace Go.Proofs
set_option maxRecDepth 10000
set_option maxHeartbeats 400000
set_option linter.unusedSimpArgs false
def ak9_ (s:List UInt8):Option (List EntL):=if(JX_ s).2.2=0∧aho_ (JX_ s).1=true∧akJ_ (JX_ s).1=s then some (JX_ s).1 else none
structure EnG where
 n:Nat
 a:Nat
 e:Int
 l:List EntL
 v:Value
 D:za_
set_option linter.defProp false
def amY_:=And.intro (And.intro (And.intro (@jS_) (And.intro (@jQ_) (@jH_))) (And.intro (@q1_) (And.intro (@q5_) (@qy_)))) (And.intro (And.intro (@JG_) (And.intro (@JD_) (@JI_))) (And.intro (And.intro (@zX_) (@z5_)) (And.intro (@zf_) (@zg_))))
end Go.Proofs
end
section
open Go Go.Proofs Go.Sx Go.StP
namespace Go.Proofs
set_option maxRecDepth 10000
set_option maxHeartbeats 400000
set_option linter.unusedSimpArgs false
theorem Z7_ (most:Int): ∀ (l:List UInt8) (k n m k':Nat),qA_ most l k n= .ok (m,k')→(m:Int)≤most
 | [],_,_,_,_,h=>by simp[qA_] at h
 |c::r,k,n,m,k',h=>by
  unfold qA_ at h
  split at h
  ·split at h
   ·cases h
   ·exact Z7_ most r _ _ _ _ h
  ·split at h
   ·cases h
   ·split at h
    ·rename_i hh
     cases h
     exact hh.2
    ·cases h
theorem kG_ {s:List UInt8} {a:Nat} {e most:Int} (h0:0≤most):0≤ (zB_ s a e most).1∧(zB_ s a e most).1≤most:=by
 unfold zB_
 split
 ·exact⟨Int.le_refl 0,h0⟩
 ·split
  ·rename_i n k h
   exact⟨Int.natCast_nonneg _,Z7_ most _ _ _ _ _ h⟩
  ·exact⟨Int.le_refl 0,h0⟩
def ai6_ (s:List UInt8) (a:Nat) (e:Int):Nat→List IdL×Nat×Int
 |0=>([],a,e)
 |n+1=>let p:=ai6_ s a e n;let i:=idR s p.2.1 p.2.2;(p.1++ [wu_ i.1],i.2)
def comN (s:List UInt8):Int×Nat×Int:=zB_ s (idR s 0 0).2.1 (idR s 0 0).2.2 4
def comP (s:List UInt8):List IdL×Nat×Int:=ai6_ s (comN s).2.1 (comN s).2.2 (comN s).1.toNat
def comT (s:List UInt8):List UInt8×Nat×Int:=z6_ s (comP s).2.1 (comP s).2.2 64
def comE (s:List UInt8):ComL×Nat×Int:=(⟨wu_ (idR s 0 0).1,(comP s).1,(comT s).1⟩,(comT s).2)
def wG_ (s:List UInt8) (a:Nat) (e:Int):Int:=if e≠0 then e else if(a:Int)< (s.length:Int) then 5 else 0
def ajW_ (s:List UInt8):Option ComL:=if wG_ s (comE s).2.1 (comE s).2.2=0∧ajK_ (comE s).1=true∧comB (comE s).1=s then some (comE s).1 else none
theorem ab0_ (t x:IdL) (p:Value) (y:List UInt8) (a:Bool) (E:TypeId):zk_ (some (a,32)) (some (.cells (vi_ t p y).toArray E (0,0))) 0 (.agg (a8 x.l))=some (.cells (vi_ x p y).toArray E (0,0)):=
 zV_ [] _ _ _ a _ E rfl (by simp[t.h]) (ze_ _) (by simp[x.h]) (ZF_ _)
theorem abi_ (t:IdL) (p:Value) (y z:List UInt8) (a:Bool) (E:TypeId):zk_ (some (a,1)) (some (.cells (vi_ t p y).toArray E (0,0))) 33 (vs z)=some (.cells (vi_ t p z).toArray E (0,0)):=by
 have e: ∀y,vi_ t p y=(t.l.map v8++ [p])++ ([vs y]++ []):=fun y=>by unfold vi_;simp only[List.append_assoc,List.append_nil]
 rw[e,e];exact zV_ _ _ _ _ a _ E (by simp[t.h]) rfl rfl rfl rfl
theorem aje_:qi_ Tryd.prog 36=some (true,32):=id (by kernel_rfl)
theorem akM_:qb_ Tryd.prog 36=some (.agg (a8 id0.l)):=id (by kernel_rfl)
end Go.Proofs
end
section
open Go Go.Proofs Go.Sx Go.StP
namespace Go.Proofs
set_option maxRecDepth 10000
set_option maxHeartbeats 400000
set_option linter.unusedSimpArgs false
def ali_ (s:List UInt8) (v:Value) (D:za_):Prop:=
 match ajW_ s with
 |some c=> ∃p,v= .tuple #[.agg (vi_ c.tree p c.text).toArray, .bool true]∧Gr D 36 32 p c.par.length (c.par.map idLC).flatten
 |none=>v= .tuple #[.agg (vi_ id0 (.slice none 0 0) []).toArray, .bool false]
structure CmG where
 g:Nat
 v:Value
 D:za_
set_option linter.defProp false
def alS_:=And.intro (And.intro (And.intro (@jS_) (And.intro (@jQ_) (@jH_))) (And.intro (And.intro (@q1_) (@q5_)) (And.intro (@ku_) (@ky_)))) (And.intro (And.intro (@kz_) (And.intro (@vj_) (@j5_))) (And.intro (And.intro (@ab0_) (@abi_)) (And.intro (@zf_) (@zg_))))
end Go.Proofs
end
section
open Go Go.Proofs Go.Sx Go.StP
namespace Go.Proofs
set_option maxRecDepth 10000
set_option maxHeartbeats 400000
set_option linter.unusedSimpArgs false
def roC (r v:Value) (t:IdL) (p:Value) (y:List UInt8):List Value:= [r]++ ([v]++vi_ t p y)
theorem Xf_ (r v:Value) (t:IdL) (p:Value) (y:List UInt8) (n:Nat) (E:TypeId) (fz:Nat×Nat):zn_ (some (false,n)) (some (.cells (roC r v t p y).toArray E fz)) 0=some r:=qz_ [] _ r n E fz rfl
theorem J0_ (r v:Value) (t:IdL) (p:Value) (y:List UInt8) (n:Nat) (E:TypeId) (fz:Nat×Nat):zn_ (some (false,n)) (some (.cells (roC r v t p y).toArray E fz)) 1=some v:=by
 unfold roC;exact qz_ [r] _ v n E fz rfl
theorem XF_ (r v:Value) (t:IdL) (p:Value) (y:List UInt8) (E:TypeId) (fz:Nat×Nat):zn_ (some (true,34)) (some (.cells (roC r v t p y).toArray E fz)) 2=some (.agg (vi_ t p y).toArray):=by
 have e:roC r v t p y= [r,v]++ (vi_ t p y++ []):=by unfold roC;simp
 rw[e];exact xX_ [r,v] _ _ E fz rfl (aaY_ _ _ _)
theorem KM_ (r v:Value) (t:IdL) (p:Value) (y:List UInt8) (n:Nat) (E:TypeId) (fz:Nat×Nat):zn_ (some (false,n)) (some (.cells (roC r v t p y).toArray E fz)) 34=some p:=by
 have e:roC r v t p y=([r,v]++t.l.map v8)++ ([p]++ [vs y]):=by unfold roC vi_;simp
 rw[e];exact qz_ _ _ p n E fz (by simp[t.h])
theorem aer_ (r v:Value) (t x:IdL) (p:Value) (y:List UInt8) (a:Bool) (E:TypeId):zk_ (some (a,32)) (some (.cells (roC r v t p y).toArray E (0,0))) 2 (.agg (a8 x.l))=some (.cells (roC r v x p y).toArray E (0,0)):=by
 have e: ∀t,roC r v t p y= [r,v]++ (t.l.map v8++ ([p]++ [vs y])):=fun t=>by unfold roC vi_;simp
 rw[e,e];exact zV_ [r,v] _ _ _ a _ E rfl (by simp[t.h]) (ze_ _) (by simp[x.h]) (ZF_ _)
theorem abh_ (r v:Value) (t:IdL) (p:Value) (y z:List UInt8) (a:Bool) (E:TypeId):zk_ (some (a,1)) (some (.cells (roC r v t p y).toArray E (0,0))) 35 (vs z)=some (.cells (roC r v t p z).toArray E (0,0)):=by
 have e: ∀y,roC r v t p y=(([r,v]++t.l.map v8)++ [p])++ ([vs y]++ []):=fun y=>by unfold roC vi_;simp
 rw[e,e];exact zV_ _ _ _ _ a _ E (by simp[t.h]) rfl rfl rfl rfl
theorem JC_ (b:Nat) (s:List UInt8) (a:Nat) (e:Int) (w:World) (ho:w.heap[b]? =some (.cells #[vs s,vi a,vi e] 110 (0,0))):
  Rets Tryd.prog 28 #[vp b 0] w (fun v D=>v=vi (wG_ s a e)∧D= []):=adH_ b s a e w ho
set_option linter.defProp false
def anb_:=And.intro (And.intro (And.intro (And.intro (@jS_) (@jQ_)) (And.intro (@jH_) (@q1_))) (And.intro (And.intro (@q5_) (@Xf_)) (And.intro (@J0_) (@XF_)))) (And.intro (And.intro (And.intro (@KM_) (@qy_)) (And.intro (@JG_) (@JD_))) (And.intro (And.intro (@JI_) (@zX_)) (And.intro (@z5_) (And.intro (@zf_) (@zg_)))))
structure EnH where
 n:Nat
 a:Nat
 e:Int
 l:List EntL
 v:Value
 D:za_
 H:za_
end Go.Proofs
end
section
open Go Go.Proofs Go.Sx Go.StP
namespace Go.Proofs
set_option maxRecDepth 10000
set_option maxHeartbeats 400000
set_option linter.unusedSimpArgs false
set_option linter.defProp false
def al2_:=And.intro (And.intro (And.intro (@jS_) (And.intro (@jQ_) (@jH_))) (And.intro (And.intro (@q1_) (@q5_)) (And.intro (@Xf_) (@J0_)))) (And.intro (And.intro (@XF_) (And.intro (@KM_) (@aer_))) (And.intro (And.intro (@abh_) (@j5_)) (And.intro (@zf_) (@zg_))))
structure CmH where
 g:Nat
 v:Value
 D:za_
 H:za_
end Go.Proofs
end
section
open Go Go.Proofs Go.Sx Go.StP
namespace Go.Proofs
set_option maxRecDepth 10000
set_option maxHeartbeats 400000
set_option linter.unusedSimpArgs false
abbrev obV (k:Int) (t:List UInt8):Value:= .agg #[vi k,vs t]
theorem jf_ (k:Int) (t:List UInt8) (E:TypeId) (fz:Nat×Nat):zn_ (some (true,2)) (some (.cells #[vi k,vs t] E fz)) 0=some (obV k t):=(rfl)
theorem qG_ (k:Int) (t:List UInt8) (n:Nat) (E:TypeId) (fz:Nat×Nat):zn_ (some (false,n)) (some (.cells #[vi k,vs t] E fz)) 0=some (vi k):=(rfl)
theorem qF_ (k:Int) (t:List UInt8) (n:Nat) (E:TypeId) (fz:Nat×Nat):zn_ (some (false,n)) (some (.cells #[vi k,vs t] E fz)) 1=some (vs t):=(rfl)
theorem qT_ (k k':Int) (t t':List UInt8) (a:Bool) (E:TypeId):zk_ (some (a,2)) (some (.cells #[vi k',vs t'] E (0,0))) 0 (obV k t)=some (.cells #[vi k,vs t] E (0,0)):=(rfl)
set_option linter.defProp false
def anl_:=And.intro (And.intro (@jf_) (And.intro (@qG_) (@qF_))) (And.intro (@qT_) (And.intro (@zf_) (@zg_)))
def fnV (k:Nat):Value:= .func (.func k) #[] #[]
def RdOk (k:Int) (t:List UInt8):Bool:=
 if 1≤k∧k≤3∧t.length≤4096 then
  (if k=1 then true else if k=2 then(wG_ t (JX_ t).2.1 (JX_ t).2.2==0&&aho_ (JX_ t).1) else(wG_ t (comE t).2.1 (comE t).2.2==0&&ajK_ (comE t).1))
 else false
end Go.Proofs
end
section
open Go Go.Proofs Go.Sx Go.StP
namespace Go.Proofs
set_option maxRecDepth 10000
set_option maxHeartbeats 400000
set_option linter.unusedSimpArgs false
set_option linter.defProp false
def amQ_:=And.intro (And.intro (And.intro (@jf_) (@qG_)) (And.intro (@qF_) (@qT_))) (And.intro (And.intro (@Sx.tup2_0) (@Sx.tup2_1)) (And.intro (@zf_) (@zg_)))
def amO_ (k:Int) (t:List UInt8) (ok:Bool):Int:=if ok&&RdOk k t then k else 0
def ang_ (k:Int) (t:List UInt8) (ok:Bool):List UInt8:=if ok&&RdOk k t then t else []
def anj_ (k:Int) (t:List UInt8) (ok:Bool):Int:=if ok&&RdOk k t then 0 else 1
end Go.Proofs
end
section
open Go Go.Proofs Go.Sx Go.StP
namespace Go.Proofs
set_option maxRecDepth 10000
set_option maxHeartbeats 400000
set_option linter.unusedSimpArgs false
set_option linter.defProp false
def amv_:=And.intro (And.intro (And.intro (@jf_) (And.intro (@qG_) (@qF_))) (And.intro (@qT_) (And.intro (@Sx.tup2_0) (@Sx.tup2_1)))) (And.intro (And.intro (@ku_) (And.intro (@ky_) (@kz_))) (And.intro (And.intro (@vj_) (@j5_)) (And.intro (@zf_) (@zg_))))
theorem KR_ (x:IdL):Z6_ Tryd.prog 31 1 [(0, .agg (a8 x.l))]=some (36,a8 x.l):=vX_ (cs:=x.l.map v8) Tryd.underlying31 aje_ akM_ (by decide) (by simp[x.h])
theorem Kr_ (x:IdL) {w':World} {b:Nat} (h:w'.heap[b]? =some (.cells (a8 x.l) 36 (0,0))):RowS 32 idLC id0 w' (vsl b 0 1 1) [x] b 0 (a8 x.l) 36 (0,0):=RowS.sl rfl h (by
 intro k hk j hj
 obtain rfl:k=0:=by simpa using hk
 simp only[Nat.zero_mul,Nat.zero_add,List.getD_cons_zero]
 rw[←aeQ_,List.getElem?_toArray])
end Go.Proofs
end
section
open Go Go.Proofs Go.Sx Go.StP
namespace Go.Proofs
set_option maxRecDepth 10000
set_option maxHeartbeats 400000
set_option linter.unusedSimpArgs false
set_option linter.defProp false
def amu_:=And.intro (And.intro (And.intro (@jf_) (And.intro (@qG_) (@qF_))) (And.intro (And.intro (@qT_) (@Sx.tup2_0)) (And.intro (@Sx.tup2_1) (@j4_)))) (And.intro (And.intro (@xH_) (And.intro (@xr_) (@qy_))) (And.intro (And.intro (@zX_) (@z5_)) (And.intro (@zf_) (@zg_))))
structure WrG where
 g:Nat
 D:za_
end Go.Proofs
end
section
open Go Go.Proofs Go.Sx Go.StP
namespace Go.Proofs
set_option maxRecDepth 10000
set_option maxHeartbeats 400000
set_option linter.unusedSimpArgs false
set_option linter.defProp false
def ana_:=And.intro (And.intro (And.intro (@jf_) (@qG_)) (And.intro (@qF_) (And.intro (@qT_) (@Sx.tup2_0)))) (And.intro (And.intro (@Sx.tup2_1) (And.intro (@Xf_) (@J0_))) (And.intro (@XF_) (And.intro (@zf_) (@zg_))))
def am4_ (k:Int) (t:List UInt8) (v:Value) (D:za_):Prop:=
 if RdOk k t=true∧k=3 then∃p,v= .tuple #[.agg (vi_ (comE t).1.tree p (comE t).1.text).toArray,vi 0]∧Gr D 36 32 p (comE t).1.par.length ((comE t).1.par.map idLC).flatten else v= .tuple #[.agg (vi_ id0 (.slice none 0 0) []).toArray,vi 1]
end Go.Proofs
end
section
open Go Go.Proofs Go.Sx Go.StP
namespace Go.Proofs
set_option maxRecDepth 10000
set_option maxHeartbeats 400000
set_option linter.unusedSimpArgs false
set_option linter.defProp false
def alX_:=And.intro (And.intro (And.intro (@jf_) (@qG_)) (And.intro (@qF_) (@qT_))) (And.intro (And.intro (@Sx.tup2_0) (@Sx.tup2_1)) (And.intro (@zf_) (@zg_)))
def akz_ (k:Int):List UInt8:=(([32,98,116,99]:List UInt8).take (k+1).toNat).drop k.toNat
def ajq_ (k:Int) (t:List UInt8):List UInt8:=akz_ k++jM_ t
end Go.Proofs
end
section
open Go Go.Proofs Go.Sx Go.StP
namespace Go.Proofs
set_option maxRecDepth 10000
set_option maxHeartbeats 400000
set_option linter.unusedSimpArgs false
set_option linter.defProp false
def amT_:=And.intro (And.intro (And.intro (@jf_) (@qG_)) (And.intro (@qF_) (@qT_))) (And.intro (And.intro (@Sx.tup2_0) (@Sx.tup2_1)) (And.intro (@j5_) (And.intro (@zf_) (@zg_))))
def ajy_ (k:Int) (t:List UInt8):Bool:=if 4096<t.length then false else if k=2 then(ak9_ t).isSome else if k=3 then(ajW_ t).isSome else k==1
end Go.Proofs
end
section
open Go Go.Proofs Go.Sx Go.StP
namespace Go.Proofs
set_option maxRecDepth 10000
set_option maxHeartbeats 400000
set_option linter.unusedSimpArgs false
theorem ae0_ (n:Nat):0< (z3_ n).length:=by
 by_cases h:n<128
 ·rw[kP_ h];simp
 ·rw[w7_ h];simp
theorem qs_ {n:Nat} (h:n≤1099511627775):zM_ (n:Int)=n:=abT_ (by omega)
theorem abK_ {s:List UInt8} {a:Nat} {n:Int} (ha:a≤s.length) (h: (qq_ s a 0 n).2.2=0):0≤n∧(qq_ s a 0 n).1.length=n.toNat∧s.drop a=(qq_ s a 0 n).1++s.drop (qq_ s a 0 n).2.1:=by
 unfold qq_ at h ⊢
 rw[if_neg (by simp)] at h ⊢
 split at h
 ·exact absurd (show(2:Int)=0 from h) (by decide)
 ·rename_i h1
  rw[if_neg h1]
  split at h
  ·exact absurd (show(3:Int)=0 from h) (by decide)
  ·rename_i h2
   rw[if_neg h2]
   refine⟨by omega, ?_, ?_⟩
   ·simp only[List.length_take,List.length_drop];omega
   ·simp only
    rw[←List.drop_drop,List.take_append_drop]
theorem W1_ (most:Int) (r:List UInt8): ∀ (n k acc:Nat),(0<k→0<n)→k+ (z3_ n).length≤6→acc+n*128^k≤1099511627775→((acc+n*128^k:Nat):Int)≤most→
  qA_ most (z3_ n++r) k acc= .ok (acc+n*128^k,k+ (z3_ n).length):=by
 intro n
 induction n using Nat.strongRecOn with
 |ind n ih=>
  intro k acc hk hl hs hm
  by_cases h:n<128
  ·rw[kP_ h,List.cons_append,List.nil_append,qA_]
   have hc: (UInt8.ofNat n).toNat=n:=by rw[UInt8.toNat_ofNat'];omega
   rw[hc,Nat.mod_eq_of_lt h,if_neg (by omega),if_neg (by omega),if_pos ⟨hs,hm⟩]
   rfl
  ·have hb:=w7_ h
   rw[hb] at hl ⊢
   rw[List.cons_append,qA_]
   have hc: (UInt8.ofNat (n%128+128)).toNat=n%128+128:=by rw[UInt8.toNat_ofNat'];omega
   have hp:=ae0_ (n / 128)
   rw[List.length_cons] at hl
   have e:acc+ (n%128+128)%128*128^k+n / 128*128^ (k+1)=acc+n*128^k:=by
    have h1: (n%128+128)%128=n%128:=by omega
    rw[h1,Nat.pow_succ,Nat.add_assoc]
    congr 1
    have h2:n / 128* (128^k*128)=(n / 128*128)*128^k:=by rw[Nat.mul_comm (128^k),Nat.mul_assoc]
    rw[h2,←Nat.add_mul]
    congr 1
    omega
   rw[hc,if_pos (by omega),if_neg (by omega),ih (n / 128) (by omega) (k+1) _ (fun _=>by omega) (by omega) (by rw[e];exact hs) (by rw[e];exact hm),e,List.length_cons]
   congr 2
   omega
theorem qN_ (A r:List UInt8) (n:Nat) (most:Int) (hn:n≤1099511627775) (hm: (n:Int)≤most):zB_ (A++ (z3_ n++r)) A.length 0 most=((n:Int),A.length+ (z3_ n).length,0):=by
 have hl:=k7_ 6 n (by omega) (by omega)
 have h:=W1_ most r n 0 0 (fun h=>absurd h (Nat.lt_irrefl 0)) (by omega) (by simpa using hn) (by simpa using hm)
 simp only[Nat.pow_zero,Nat.mul_one,Nat.zero_add] at h
 exact W8_ rfl (by rw[List.drop_left];exact h)
theorem kx_ (A x r:List UInt8):qq_ (A++ (x++r)) A.length 0 (x.length:Int)=(x,A.length+x.length,0):=by
 unfold qq_
 rw[if_neg (by simp),if_neg (by omega),if_neg (by simp only[List.length_append];omega),List.drop_left,Int.toNat_natCast,List.take_left]
theorem ab5_ (A t r:List UInt8) (most:Int) (hn:t.length≤1099511627775) (hm: (t.length:Int)≤most):z6_ (A++ (jM_ t++r)) A.length 0 most=(t,A.length+ (jM_ t).length,0):=by
 have h1:=qN_ A (t++r) t.length most hn hm
 have h2:=kx_ (A++z3_ t.length) t r
 unfold z6_ jM_
 rw[qs_ (by omega)]
 rw[List.append_assoc,h1]
 simp only
 rw[List.append_assoc,List.length_append] at h2
 rw[h2]
 simp only[ne_eq,not_true_eq_false, ↓reduceIte,List.length_append,Nat.add_assoc]
theorem aaL_ (A r:List UInt8) (i:IdL):idR (A++ (i.l++r)) A.length 0=(i.l,A.length+32,0):=by
 have h:=kx_ A i.l r
 have hi:=i.h
 rw[hi] at h
 unfold idR
 rw[show(32:Int)=((32:Nat):Int) from rfl,h]
 simp only[hi, ↓reduceIte]
theorem ad8_ (i:IdL):wu_ i.l=i:=by unfold wu_;rw[dif_pos i.h]
def ajI_ (l:List EntL):Prop:= ∀x,x∈l→0≤x.kind∧x.kind≤2∧x.name.length≤32
end Go.Proofs
end
section
open Go Go.Proofs Go.Sx Go.StP
namespace Go.Proofs
set_option maxRecDepth 10000
set_option maxHeartbeats 400000
set_option linter.unusedSimpArgs false
def idxT (s:List UInt8):List UInt8→Int
 | []=>0
 |c::_=>Lib.indexByte s c
abbrev letL:List UInt8:= [32,98,116,99]
def frR (s:List UInt8):List UInt8×Nat×Int:=qq_ s 0 0 1
def frT (s:List UInt8):List UInt8×Nat×Int:=z6_ s (frR s).2.1 (frR s).2.2 4096
def frK (s:List UInt8):Int:=idxT letL (frR s).1
def frOk (s:List UInt8):Bool:=wG_ s (frT s).2.1 (frT s).2.2==0&&RdOk (frK s) (frT s).1
def als_ (s:List UInt8) (v:Value):Prop:=v= .tuple #[obV (if frOk s then frK s else 0) (if frOk s then(frT s).1 else []),vi (if frOk s then 0 else 2)]
set_option linter.defProp false
def alP_:=And.intro (And.intro (And.intro (@jf_) (@qG_)) (And.intro (@qF_) (@qT_))) (And.intro (And.intro (@Sx.tup2_0) (@Sx.tup2_1)) (And.intro (@zf_) (@zg_)))
end Go.Proofs
end
section
open Go Go.Proofs Go.Sx Go.StP
namespace Go.Proofs
set_option maxRecDepth 10000
set_option maxHeartbeats 400000
set_option linter.unusedSimpArgs false
def fkC (c:UInt8):Int:=if c=98 then 1 else if c=116 then 2 else if c=99 then 3 else 0
def lfT (r:List UInt8):List UInt8×Nat×Int:=z6_ r 0 0 4096
def lfK (s:List UInt8):Int:=match s with| []=>0|c::_=>fkC c
def lfOk (s:List UInt8):Bool:=lfK s !=0&&wG_ (s.drop 1) (lfT (s.drop 1)).2.1 (lfT (s.drop 1)).2.2==0&&ajy_ (lfK s) (lfT (s.drop 1)).1
def alE_ (s:List UInt8) (v:Value):Prop:=v= .tuple #[obV (if lfOk s then lfK s else 0) (if lfOk s then(lfT (s.drop 1)).1 else []), .bool (lfOk s)]
theorem aes_ (k k':Int) (t:List UInt8) (a:Bool) (E:TypeId):zk_ (some (a,1)) (some (.cells #[vi k',vs t] E (0,0))) 0 (vi k)=some (.cells #[vi k,vs t] E (0,0)):=(rfl)
theorem adZ_ (k:Int) (t t':List UInt8) (a:Bool) (E:TypeId):zk_ (some (a,1)) (some (.cells #[vi k,vs t'] E (0,0))) 1 (vs t)=some (.cells #[vi k,vs t] E (0,0)):=(rfl)
set_option linter.defProp false
def alO_:=And.intro (And.intro (And.intro (@jf_) (@qG_)) (And.intro (@qF_) (And.intro (@qT_) (@aes_)))) (And.intro (And.intro (@adZ_) (@Sx.tup2_0)) (And.intro (@Sx.tup2_1) (And.intro (@zf_) (@zg_))))
end Go.Proofs
end
namespace Go.Flo
open Go Ieee
abbrev F (n:Int):Nat:=FloatKind.f64.nearest n
def dat (n:Int):Datum:= .number (decide (n<0)) (n.natAbs*2^ (52 - n.natAbs.log2)) ((n.natAbs.log2:Int) - 52)
def plc (n:Int):Int:=if n=0 then -1074 else(n.natAbs.log2:Int) - 52
def mag (n:Int):Nat:=if n=0 then 0 else n.natAbs*2^ (52 - n.natAbs.log2)
end Go.Flo
namespace Go.Sx
open Go Go.Flo
def fl (n:Int):Value:= .float .f64 (F n)
def cx (a b:Int):Value:= .complex .f64 (F a) (F b)
section
variable {P:Program} {w0:World} {f:Fr} {L:za_} {N:Fr→za_→Prop} {ops:Array Oper} {rest:List Oper} {md:Md}
 {d:Option Tmp} {ty:TypeId} {ps:String} {af:Array Edge} {g:Option (Nat×Bool)}
theorem Ow.real {x:Operand} {ts:Array TypeId} {a b:Int} (hs:zj_ ops f ⟨d, .call ⟨.builtin .real, #[x],ts⟩,ty,ps,af,g⟩=false) (hx:ev f x=cx a b)
  (hn:Ow P w0 ops md.next rest (qf_ f d (fl a)) L N):Ow P w0 ops md (⟨d, .call ⟨.builtin .real, #[x],ts⟩,ty,ps,af,g⟩::rest) f L N:=by
 refine Ow.calm rfl rfl hs (fun w hw=> .inl ⟨fl a,w,L, ?_,hw,rfl,rfl⟩) hn
 simp only[execOp,resolve,Sem.run_bind,Sem.run_pure,Result.andThen_ok,invoke,builtin,List.map_toArray,List.map_cons,List.map_nil,hx]
 rfl
theorem Ow.imag {x:Operand} {ts:Array TypeId} {a b:Int} (hs:zj_ ops f ⟨d, .call ⟨.builtin .imag, #[x],ts⟩,ty,ps,af,g⟩=false) (hx:ev f x=cx a b)
  (hn:Ow P w0 ops md.next rest (qf_ f d (fl b)) L N):Ow P w0 ops md (⟨d, .call ⟨.builtin .imag, #[x],ts⟩,ty,ps,af,g⟩::rest) f L N:=by
 refine Ow.calm rfl rfl hs (fun w hw=> .inl ⟨fl b,w,L, ?_,hw,rfl,rfl⟩) hn
 simp only[execOp,resolve,Sem.run_bind,Sem.run_pure,Result.andThen_ok,invoke,builtin,List.map_toArray,List.map_cons,List.map_nil,hx]
 rfl
end
end Go.Sx
namespace Go.Sx
open Go Go.Flo
theorem acD_ (P:Program) (t:TypeId) (a b:Int):qw_ P .eql t (fl a) (fl b)=none:=by
 show(qa_ (P.underlying t) (fl a) (fl b)).map _=none
 unfold qa_ fl
 split<;>simp_all
theorem ac0_ (P:Program) (t:TypeId) (a b a' b':Int):qw_ P .eql t (cx a b) (cx a' b')=none:=by
 show(qa_ (P.underlying t) (cx a b) (cx a' b')).map _=none
 unfold qa_ cx
 split<;>simp_all
section
variable {P:Program} {w0:World} {st:Bool} {f:Fr} {L:za_} {md:Md} {d:Option Tmp} {ty:TypeId} {ps:String} {af:Array Edge} {g:Option (Nat×Bool)} {go:Fr→za_→Prop} {stop:Prop}
theorem afB_ (a:Array Operand) (t:Array TypeId):vcB P w0 st md ⟨d, .call ⟨.builtin .real,a,t⟩,ty,ps,af,g⟩ f L go stop=stop:=(rfl)
theorem af0_ (a:Array Operand) (t:Array TypeId):vcB P w0 st md ⟨d, .call ⟨.builtin .imag,a,t⟩,ty,ps,af,g⟩ f L go stop=stop:=(rfl)
theorem Qk_ (a:Array Operand) (t:Array TypeId):vcB P w0 st md ⟨d, .call ⟨.builtin .complex,a,t⟩,ty,ps,af,g⟩ f L go stop=stop:=(rfl)
end
end Go.Sx
section
open Go Go.Proofs Go.Sx Go.StP Go.Flo
namespace Go.Proofs
set_option maxRecDepth 10000
set_option maxHeartbeats 400000
set_option linter.unusedSimpArgs false
structure PcL where
 a:Nat
 n:Nat
 x:List UInt8
def pc0:PcL:=⟨0,0,[]⟩
def pcC (p:PcL):List Value:= [cx p.a p.n,vs p.x]
def PcB (p:PcL):Prop:=p.a≤4099∧p.n≤4099
def cpV (p:PcL) (b:Int):Option (Nat×Nat):=if 1≤p.n∧p.n≤4099∧p.x= []∧(p.a:Int)≤b - p.n then some (p.a,p.n) else none
def ajv_ (p:PcL) (b:Int):Nat:=if p.a=0∧p.n=0∧p.x.length≤4099 then p.x.length else match cpV p b with|some q=>q.2|none=>0
def sumP (b:Int) (l:List PcL):Nat:=(l.map fun p=>ajv_ p b).sum
def anyZ (b:Int) (l:List PcL):Bool:=l.any fun p=>ajv_ p b==0
def chkV (b:Int) (l:List PcL):Int×Int:=if b<0∨4099<b then(0,1) else if anyZ b l=true then(0,1) else if 4099<sumP b l then(0,19) else((sumP b l:Nat),0)
def pcT (base:List UInt8) (p:PcL):List UInt8:=match cpV p base.length with|some q=>(base.drop q.1).take q.2++p.x|none=>p.x
def txtP (base:List UInt8) (l:List PcL):List UInt8:=(l.map (pcT base)).flatten
def pcR (d:List UInt8) (a:Nat):PcL×Nat×Int:=
 if(zB_ d a 0 8199).1%2=1 then
  (⟨(zB_ d (zB_ d a 0 8199).2.1 (zB_ d a 0 8199).2.2 4099).1.toNat,((zB_ d a 0 8199).1 / 2).toNat,[]⟩,(zB_ d (zB_ d a 0 8199).2.1 (zB_ d a 0 8199).2.2 4099).2)
 else(⟨0,0,(qq_ d (zB_ d a 0 8199).2.1 (zB_ d a 0 8199).2.2 ((zB_ d a 0 8199).1 / 2)).1⟩,(qq_ d (zB_ d a 0 8199).2.1 (zB_ d a 0 8199).2.2 ((zB_ d a 0 8199).1 / 2)).2)
def pcsF (d:List UInt8):Nat→Nat→List PcL×Nat×Int
 |0,a=>([],a,0)
 |k+1,a=>if a<d.length then(if(pcR d a).2.2=0 then((pcR d a).1:: (pcsF d k (pcR d a).2.1).1,(pcsF d k (pcR d a).2.1).2) else([(pcR d a).1],(pcR d a).2)) else([],a,0)
def pcs (d:List UInt8) (a:Nat):List PcL×Nat×Int:=pcsF d (d.length - a) a
def ajm_ (d:List UInt8):Option (Nat×List PcL):=
 if(zB_ d (zB_ d 0 0 4099).2.1 (zB_ d 0 0 4099).2.2 4099).2.2≠0 then none
 else if(pcs d (zB_ d (zB_ d 0 0 4099).2.1 (zB_ d 0 0 4099).2.2 4099).2.1).2.2≠0 then none
 else if chkV (zB_ d 0 0 4099).1 (pcs d (zB_ d (zB_ d 0 0 4099).2.1 (zB_ d 0 0 4099).2.2 4099).2.1).1=((zB_ d (zB_ d 0 0 4099).2.1 (zB_ d 0 0 4099).2.2 4099).1,0) then some ((zB_ d 0 0 4099).1.toNat,(pcs d (zB_ d (zB_ d 0 0 4099).2.1 (zB_ d 0 0 4099).2.2 4099).2.1).1)
 else none
def aja_ (base d:List UInt8):List UInt8×Int:=
 match ajm_ d with
 |none=>([],2)
 |some p=>if p.1≠base.length then([],19) else(txtP base p.2,0)
end Go.Proofs
end
section
open Go Go.Proofs Go.Sx Go.StP Go.Flo
namespace Go.Proofs
set_option maxRecDepth 10000
set_option maxHeartbeats 400000
set_option linter.unusedSimpArgs false
set_option linter.defProp false
def alU_:=And.intro (@zf_) (And.intro (@zg_) (@acD_))
theorem w8_ (p:PcL) (E:TypeId) (n:Nat):zn_ (some (false,n)) (some (.cells (pcC p).toArray E (0,0))) 0=some (cx p.a p.n):=(rfl)
theorem Zc_ (p:PcL) (E:TypeId) (n:Nat):zn_ (some (false,n)) (some (.cells (pcC p).toArray E (0,0))) 1=some (vs p.x):=(rfl)
theorem Xp_ (p:PcL) (E:TypeId):zn_ (some (true,2)) (some (.cells (pcC p).toArray E (0,0))) 0=some (.agg (pcC p).toArray):=jK_ _ E (0,0) 2 rfl
theorem Zd_ (p:PcL):Value.cells (.agg (pcC p).toArray)=(pcC p).toArray:=ze_ _
def cpO (p:PcL) (b:Int):Value:=match cpV p b with
 |some q=> .tuple #[vi q.1,vi q.2, .bool true]
 |none=> .tuple #[vi 0,vi 0, .bool false]
theorem cxz: (Value.complex FloatKind.f64 0 0)=cx 0 0:=id (by kernel_rfl)
set_option linter.defProp false
def amI_:=And.intro (And.intro (And.intro (And.intro (@zf_) (@zg_)) (And.intro (@w8_) (@Zc_))) (And.intro (And.intro (@Xp_) (@Zd_)) (And.intro (@ac0_) (@cxz)))) (And.intro (And.intro (And.intro (@afB_) (@af0_)) (And.intro (@Qk_) (@Sx.tup2_0))) (And.intro (And.intro (@Sx.tup2_1) (@Sx.tup3_0)) (And.intro (@Sx.tup3_1) (@Sx.tup3_2))))
abbrev PcSl (w:World) (v:Value) (l:List PcL):Prop:=SlV 2 pcC pc0 w v l
def BndP (l:List PcL):Prop:= ∀g,g<l.length→PcB (l.getD g pc0)∧(l.getD g pc0).x.length<9223372036854775808
end Go.Proofs
end
section
open Go Go.Proofs Go.Sx Go.StP Go.Flo
namespace Go.Proofs
set_option maxRecDepth 10000
set_option maxHeartbeats 400000
set_option linter.unusedSimpArgs false
def pcAt (p:PcL) (b:Int):Nat×Nat:=match cpV p b with|some q=>q|none=>(0,0)
theorem BldAt.zeroK (b:Nat) {L:za_} (h:Sx.look L b=some (.cells #[.pointer none, .slice none 0 0] 93 (0,0))):BldAt b [] L:=
 ⟨_,_,h, .inl rfl, .nl,fun h=>by cases h⟩
structure TxG where
 g:Nat
 D:za_
 E:za_
set_option linter.defProp false
def amZ_:=And.intro (And.intro (And.intro (@zf_) (@zg_)) (And.intro (@w8_) (And.intro (@Zc_) (@Xp_)))) (And.intro (And.intro (@Zd_) (And.intro (@Sx.tup2_0) (@Sx.tup2_1))) (And.intro (@Sx.tup3_0) (And.intro (@Sx.tup3_1) (@Sx.tup3_2))))
end Go.Proofs
end
namespace Go.Sx
open Go
section
variable {α:Type} {m:Nat} {enc:α→List Value} {z:α}
end
section
variable {P:Program} {w0:World} {f:Fr} {L:za_} {N:Fr→za_→Prop} {ops:Array Oper} {rest:List Oper} {md:Md} {d:Option Tmp} {ty:TypeId} {ps:String} {af:Array Edge} {g:Option (Nat×Bool)}
theorem Ow.makeSlice {t e:TypeId} {m:Bool×Nat} {z:Value} {x y:Operand} {n c:Nat} {md':Md} (he:md.turn=some md') (hs:zj_ ops f ⟨d, .makeSlice t x y,ty,ps,af,g⟩=false)
  (hu:P.underlying t=some (.slice e)) (hm:qi_ P e=some m) (hi:xZ_ P e=true) (hz:qb_ P e=some z) (hx:ev f x=vi n) (hy:ev f y=vi c) (hnc:n≤c) (hbig:c≤2^38)
  (hn: ∀b,jA_ L b→w0.heap.size≤b→Ow P w0 ops md' rest (qf_ f d (vsl b 0 n c)) (L++ [(b, .cells (madeCells z.cells (c*m.2)) e (0,0))]) N):
  Ow P w0 ops md (⟨d, .makeSlice t x y,ty,ps,af,g⟩::rest) f L N:=by
 refine Ow.step he rfl hs fun w hw=> .inl ⟨vsl w.heap.size 0 n c,w.alloc (.cells (madeCells z.cells (c*m.2)) e (0,0)),_, ?_,hw.alloc _,hn _ (qc_ fun b hb=>hw.lt hb) hw.size⟩
 obtain⟨i,hie,-,hb⟩:=ko_ hi hbig
 have hiz:i.zero=some z:=by
  unfold qb_ at hz
  rw[hie] at hz
  exact hz
 have him:i.size=m.2:=by
  unfold qi_ at hm
  rw[hie] at hm
  split at hm
  ·rename_i h1 h2
   cases h2
   cases hm
   rfl
  ·cases hm
 have hbb: (i.bytes:Int)* (c:Int)≤281474976710656:=by
  have: ((i.bytes*c:Nat):Int)≤281474976710656:=by rw[Nat.mul_comm];exact Int.ofNat_le.2 hb
  rwa [Int.natCast_mul] at this
 have hr:=run_make (P:=P) w t e i z hu hie hiz .i64 .i64 (n:Int) (c:Int) (by omega) (by omega) hbb (by omega)
 simp only[Int.toNat_natCast,him] at hr
 show(execOp (ev f) _).run P w=_
 simp only[execOp,Sem.run_bind]
 rw[hx,hy]
 show((Instr.makeSlice t (.int .i64 (n:Int)) (.int .i64 (c:Int))).run P w).andThen _=_
 rw[hr]
 rfl
theorem Ow.appendXG {ts tx e:TypeId} {m:Bool×Nat} {z:Value} {s x:Operand} {n k:Nat} {cs new:List Value} {dx:TypeDesc} {md':Md} {X Y:za_} (sv:Value) (hL:L=X++Y) (hsv:ev f s=sv) (he:md.turn=some md')
  (hs:zj_ ops f ⟨d, .call ⟨.builtin .append, #[s,x], #[ts,tx]⟩,ty,ps,af,g⟩=false)
  (hu:P.underlying ts=some (.slice e)) (hm:qi_ P e=some m) (hi:xZ_ P e=true) (hz:qb_ P e=some z) (hzs:z.cells.size=m.2) (hux:P.underlying tx=some dx) (hnx: ∀k,dx≠ .int k)
  (hB:Gr X e m.2 sv n cs) (hX: ∀w,Hp w0 L w→AppX P w m.2 (ev f x) k new) (hbig:2* (n+k)+768≤2^38)
  (hn: ∀B v' D,jA_ L B→w0.heap.size≤B→Gr D e m.2 v' (n+k) (cs++new)→(∀c,c∈keys X→c∈keys D)→(∀c,c∈keys D→c∈keys X∨B≤c)→(∀c o,slB sv≠some c→look X c=some o→look D c=some o)→Ow P w0 ops md' rest (qf_ f d v') (D++Y) N):
  Ow P w0 ops md (⟨d, .call ⟨.builtin .append, #[s,x], #[ts,tx]⟩,ty,ps,af,g⟩::rest) f L N:=by
 subst hL
 refine Ow.step he rfl hs fun w hw=> ?_
 have hp:=hw.part
 have hA:jA_ (X++Y) w.heap.size:=qc_ fun b hb=>hw.lt hb
 have fin: ∀v' w' D,(Builtin.append_ #[ts,tx] ty #[sv,ev f x]).run P w= .ok v' w'→Hp w D w'→Gr D e m.2 v' (n+k) (cs++new)→(∀c,c∈keys X→c∈keys D)→(∀c,c∈keys D→c∈keys X∨w.heap.size≤c)→(∀c o,slB sv≠some c→look X c=some o→look D c=some o)→
   (∃v w' L',(execOp (ev f) ⟨d, .call ⟨.builtin .append, #[s,x], #[ts,tx]⟩,ty,ps,af,g⟩).run P w= .ok (.value v) w'∧Hp w0 L' w'∧Ow P w0 ops md' rest (qf_ f d v) L' N):=by
  intro v' w' D hr hD hb h1 h2 h3
  refine⟨v',w',D++Y, ?_,hw.join hD h1 h2,hn w.heap.size v' D hA hw.size hb h1 h2 h3⟩
  simp only[execOp,resolve,Sem.run_bind,Sem.run_pure,Result.andThen_ok,invoke,builtin,List.map_toArray,List.map_cons,List.map_nil,hsv]
  rw[hr]
  rfl
 rcases hB with hB| ⟨rfl,rfl,b,rfl,hlk⟩
 ·obtain⟨v',w',D,hr,hD,hb,hg,-⟩:=Js_ (w0:=w) (L:=X) (ty:=ty) (x:=ev f x) hp hu hm hi hz hzs hux hnx hB (fun w2 hw2=>hX w2 (by
   refine hw.join hw2 (fun c hc=>hc) (fun c hc=> .inl hc))) hbig
  exact .inl (fin v' w' D hr hD (.inl hb) hg.keys (fun c hc=>(hg.new c hc).imp id And.right) hg.look)
 ·rcases wO_ (w0:=w) (L:=X) (ty:=ty) (b:=b) (x:=ev f x) hp hu hm hi hz hzs hux hnx (fun w2 hw2=>hX w2 (by
   refine hw.join hw2 (fun c hc=>hc) (fun c hc=> .inl hc))) hbig with⟨h0,hr⟩ | ⟨-,v',w',D,hr,hD,hb,hg,-⟩
  ·subst h0
   have hnw:=(hX w hw).size
   obtain rfl:new= []:=List.eq_nil_of_length_eq_zero (by rw[hnw,Nat.zero_mul])
   exact .inl (fin _ w X hr hp (.inr ⟨rfl,rfl,b,rfl,hlk⟩) (fun c hc=>hc) (fun c hc=> .inl hc) (fun c o _ hl=>hl))
  ·exact .inl (fin v' w' D hr hD (.inl hb) hg.keys (fun c hc=>(hg.new c hc).imp id And.right) (fun c o _ hl=>hg.look c o (by simp[slB]) hl))
end
theorem New.perm {n:Nat} {D D':za_} (h:New n D) (hp:D.Perm D'):New n D':=New.of_le fun c hc=>h.le c ((hp.map Prod.fst).mem_iff.2 hc)
end Go.Sx
section
open Go Go.Proofs Go.Sx Go.StP Go.Flo
namespace Go.Proofs
set_option maxRecDepth 10000
set_option maxHeartbeats 400000
set_option linter.unusedSimpArgs false
def dB (d:List UInt8):Int×Nat×Int:=zB_ d 0 0 4099
def dM (d:List UInt8):Int×Nat×Int:=zB_ d (dB d).2.1 (dB d).2.2 4099
structure EG where
 lab:Nat
 br:Nat
 a:Nat
 e:Int
 out:List PcL
 v:Value
 D:za_
def drO (d:List UInt8) (a e:Int):Obj:= .cells #[vs d,vi a,vi e] 110 (0,0)
def EH (d:List UInt8) (g:EG):za_:=match g.lab with
 |1=>(g.br,drO d g.a g.e)::g.D
 |0=>(g.br,drO d g.a g.e)::g.D
 |_=>g.D
def ES (d:List UInt8) (g:EG):List (Nat×Value):=match g.lab with
 |1=> [(5,vp g.br 0),(6,vi (dB d).1),(7,vi (dM d).1),(8,g.v)]
 |0=> [(6,vi (dB d).1),(7,vi (dM d).1),(8,g.v)]
 |_=> []
def EL (g:EG):Nat:=match g.lab with
 |1=>1
 |0=>0
 |_=>2
def pcE (d:List UInt8) (a:Nat) (e:Int):PcL×Nat×Int:=
 if(zB_ d a e 8199).1%2=1 then
  (⟨(zB_ d (zB_ d a e 8199).2.1 (zB_ d a e 8199).2.2 4099).1.toNat,((zB_ d a e 8199).1 / 2).toNat,[]⟩,(zB_ d (zB_ d a e 8199).2.1 (zB_ d a e 8199).2.2 4099).2)
 else(⟨0,0,(qq_ d (zB_ d a e 8199).2.1 (zB_ d a e 8199).2.2 ((zB_ d a e 8199).1 / 2)).1⟩,(qq_ d (zB_ d a e 8199).2.1 (zB_ d a e 8199).2.2 ((zB_ d a e 8199).1 / 2)).2)
set_option linter.defProp false
def amW_:=And.intro (And.intro (And.intro (@zf_) (And.intro (@zg_) (@w8_))) (And.intro (@Zc_) (And.intro (@Xp_) (@Zd_)))) (And.intro (And.intro (@Sx.tup2_0) (And.intro (@Sx.tup2_1) (@Sx.tup3_0))) (And.intro (@Sx.tup3_1) (And.intro (@Sx.tup3_2) (@Qk_))))
end Go.Proofs
end
section
open Go Go.Proofs Go.Sx Go.StP Go.Flo
namespace Go.Proofs
set_option maxRecDepth 10000
set_option maxHeartbeats 400000
set_option linter.unusedSimpArgs false
set_option linter.defProp false
def amc_:=And.intro (And.intro (And.intro (@zf_) (@zg_)) (And.intro (@w8_) (And.intro (@Zc_) (@Xp_)))) (And.intro (And.intro (@Zd_) (And.intro (@Sx.tup2_0) (@Sx.tup2_1))) (And.intro (@Sx.tup3_0) (And.intro (@Sx.tup3_1) (@Sx.tup3_2))))
end Go.Proofs
end
section
open Go Go.Proofs Go.Sx Go.StP Go.Flo
namespace Go.Proofs
set_option maxRecDepth 10000
set_option maxHeartbeats 400000
set_option linter.unusedSimpArgs false
structure PartL where
 d:Bool
 b:Int
 x:List UInt8
def ZR_:PartL:=⟨false,0,[]⟩
def xR_ (p:PartL):List Value:= [.bool p.d,vi p.b,vs p.x]
theorem aep_ (p:PartL): (xR_ p).all Value.oneCell'=true:=rfl
def aef_ (l:List PartL):Nat→Nat→Except Int (List Nat)
 |0,_=> .error 11
 |k+1,at_=>
  if(l.getD at_ ZR_).d=true then
   (if(l.getD at_ ZR_).b<0∨(at_:Int)≤ (l.getD at_ ZR_).b then .error 2
   else if k=0 then .error 11
   else(aef_ l k (l.getD at_ ZR_).b.toNat).map (at_:: ·))
  else if(l.getD at_ ZR_).b≠0 then .error 2 else .ok [at_]
def afH_ (l:List PartL) (at_:Int):Except Int (List Nat):=
 if 200<l.length∨at_<0∨(l.length:Int)≤at_ then .error 1 else aef_ l 5 at_.toNat
def Qe_ (p:PartL) (base:List UInt8):List UInt8×Int:=if p.d=true then aja_ base p.x else if 4099<p.x.length then([],19) else(p.x,0)
def ajU_ (l:List PartL):List Nat→Except Int (List UInt8)
 | []=> .ok []
 |a::p=>(ajU_ l p).bind fun s=>if(Qe_ (l.getD a ZR_) s).2=0 then .ok (Qe_ (l.getD a ZR_) s).1 else .error (Qe_ (l.getD a ZR_) s).2
def vW_ (l:List PartL) (at_:Int):Except Int (List UInt8):=(afH_ l at_).bind (ajU_ l)
def ajO_ (l:List PartL):Nat→Except Int (List (List UInt8))
 |0=> .ok []
 |k+1=>(ajO_ l k).bind fun ts=>(vW_ l (k:Nat)).map fun s=>ts++ [s]
def allV (l:List PartL):Except Int (List (List UInt8)):=if 200<l.length then .error 1 else ajO_ l l.length
end Go.Proofs
end
section
open Go Go.Proofs Go.Sx Go.StP Go.Flo
namespace Go.Proofs
set_option maxRecDepth 10000
set_option maxHeartbeats 400000
set_option linter.unusedSimpArgs false
def natC (n:Nat):List Value:= [vi n]
abbrev alr_ (w:World) (v:Value) (l:List PartL):Prop:=SlV 3 xR_ ZR_ w v l
theorem xv_ (p:PartL) (E:TypeId) (n:Nat):zn_ (some (false,n)) (some (.cells (xR_ p).toArray E (0,0))) 0=some (.bool p.d):=(rfl)
theorem xD_ (p:PartL) (E:TypeId) (n:Nat):zn_ (some (false,n)) (some (.cells (xR_ p).toArray E (0,0))) 1=some (vi p.b):=(rfl)
theorem xq_ (p:PartL) (E:TypeId) (n:Nat):zn_ (some (false,n)) (some (.cells (xR_ p).toArray E (0,0))) 2=some (vs p.x):=(rfl)
theorem xF_ (p:PartL):Value.cells (.agg (xR_ p).toArray)=(xR_ p).toArray:=ze_ _
theorem Jw_ (p q:PartL) (E:TypeId):zk_ (some (true,3)) (some (.cells (xR_ q).toArray E (0,0))) 0 (.agg (xR_ p).toArray)=some (.cells (xR_ p).toArray E (0,0)):=
 j6_ (xR_ p) (n:=3) true (xR_ q).toArray E rfl (aep_ p) rfl
structure PaG where
 lab:Nat
 at_:Nat
 out:List Nat
 v:Value
 b7:Nat
 q:PartL
 e:Int
 D:za_
def PaJ (l:List PartL) (a0:Int) (n:Nat) (g:PaG):Prop:=
 (g.lab=1∧n≤g.b7∧New n g.D∧g.b7∉keys g.D∧Gr g.D 3 1 g.v g.out.length (g.out.map natC).flatten∧g.at_<l.length∧l.length≤200∧g.out.length≤4∧
  afH_ l a0=(aef_ l (5 - g.out.length) g.at_).map (g.out++ ·))∨
 (g.lab=0∧New n g.D∧afH_ l a0= .error g.e)
def PaS (g:PaG):List (Nat×Value):=match g.lab with
 |1=> [(1,vi g.at_),(6,g.v),(7,vp g.b7 0),(8,vi 1)]
 |_=> [(8,vi g.e)]
def PaL (g:PaG):Nat:=match g.lab with
 |1=>1
 |_=>0
def amp_ (l:List PartL) (a0:Int) (v:Value) (D:za_):Prop:=match afH_ l a0 with
 | .ok p=> ∃x,v= .tuple #[x,vi 0]∧p.length≤5∧GrI D 3 1 x p.length (p.map natC).flatten
 | .error e=>v= .tuple #[.slice none 0 0,vi e]
set_option linter.defProp false
def amN_:=And.intro (And.intro (And.intro (@zf_) (@zg_)) (And.intro (@xv_) (@xD_))) (And.intro (And.intro (@xq_) (@xF_)) (And.intro (@Sx.tup2_0) (@Sx.tup2_1)))
end Go.Proofs
end
section
open Go Go.Proofs Go.Sx Go.StP Go.Flo
namespace Go.Proofs
set_option maxRecDepth 10000
set_option maxHeartbeats 400000
set_option linter.unusedSimpArgs false
def BndL (l:List PartL):Prop:= ∀g,g<l.length→(l.getD g ZR_).x.length<9223372036854775808
set_option linter.defProp false
def amL_:=And.intro (And.intro (And.intro (@zf_) (@zg_)) (And.intro (@xv_) (@xD_))) (And.intro (And.intro (@xq_) (@xF_)) (And.intro (@Sx.tup2_0) (@Sx.tup2_1)))
def al3_ (r:Except Int (List UInt8)):Value:=match r with
 | .ok s=> .tuple #[vs s,vi 0]
 | .error e=> .tuple #[vs [],vi e]
end Go.Proofs
end
section
open Go Go.Proofs Go.Sx Go.StP Go.Flo
namespace Go.Proofs
set_option maxRecDepth 10000
set_option maxHeartbeats 400000
set_option linter.unusedSimpArgs false
def ai4_:Nat→List (List UInt8)→List (Int×List UInt8)
 |_,[]=> []
 |i,t::ts=>((i:Int),t)::ai4_ (i+1) ts
def tabT (ts:List (List UInt8)):List (Int×List UInt8):=ai4_ 0 ts
abbrev MapT (o:Obj) (ts:List (List UInt8)):Prop:=MapG vi vs o (tabT ts)
theorem aeO_ (v:Value) (E:TypeId) (n:Nat):zn_ (some (false,n)) (some (.cells #[v] E (0,0))) 0=some v:=(rfl)
set_option linter.defProp false
def alT_:=And.intro (And.intro (And.intro (@zf_) (@zg_)) (And.intro (@aeO_) (@xv_))) (And.intro (And.intro (@xD_) (@xq_)) (And.intro (@xF_) (And.intro (@Sx.tup2_0) (@Sx.tup2_1))))
end Go.Proofs
end
section
open Go Go.Proofs Go.Sx Go.StP Go.Flo
namespace Go.Proofs
set_option maxRecDepth 10000
set_option maxHeartbeats 400000
set_option linter.unusedSimpArgs false
def Vk_ (s:List UInt8):List Value:= [vs s]
structure AlG where
 ts:List (List UInt8)
 v:Value
 o:Obj
 D:za_
def AllS (l:List PartL) (v:Value) (D:za_):Prop:=match allV l with
 | .ok ts=> ∃x,v= .tuple #[x,vi 0]∧GrI D 9 1 x ts.length (ts.map Vk_).flatten
 | .error e=>v= .tuple #[.slice none 0 0,vi e]
theorem abP_ (b:Nat) (E:TypeId) (x:Value):zk_ (some (false,1)) (some (.cells #[x] E (0,0))) 0 (vm b)=some (.cells #[vm b] E (0,0)):=(rfl)
set_option linter.defProp false
def amK_:=And.intro (And.intro (@zf_) (And.intro (@zg_) (@aeO_))) (And.intro (@abP_) (And.intro (@Sx.tup2_0) (@Sx.tup2_1)))
end Go.Proofs
end
namespace Go.Dig
open Go.Sx
def hexL:List UInt8:= [48,49,50,51,52,53,54,55,56,57,97,98,99,100,101,102]
def Jl_ (b:UInt8):Int:=if 48≤b.toNat∧b.toNat≤57 then(b.toNat:Int) - 48 else if 97≤b.toNat∧b.toNat≤102 then(b.toNat:Int) - 97+10 else -1
def hexD (n:Nat):UInt8:=hexL.getD n 0
def hexB (b:UInt8):List UInt8:= [hexD (b.toNat / 16),hexD (b.toNat%16)]
def hexV (id:List UInt8):List UInt8:=id.flatMap hexB
def alD_ (id:List UInt8) (g:Nat):List UInt8:=hexV (id.take g)++List.replicate (64 - 2*g) 0
def ahm_ (l:List UInt8) (n:Nat):List UInt8:=(List.range n).map fun i=>UInt8.ofInt (Jl_ (l.getD (2*i) 0)*16+Jl_ (l.getD (2*i+1) 0))
def aky_ (l:List UInt8):Bool:=l.length==64&&l.all fun c=>decide (0≤Jl_ c)
def alp_ (l:List UInt8):List UInt8:=if aky_ l then ahm_ l 32 else List.replicate 32 0
def akv_ (l:List UInt8) (g:Nat):List UInt8:=ahm_ l g++List.replicate (32 - g) 0
def refB (l:List UInt8) (i k:Nat):UInt8:=
 if 2*k+1<i then UInt8.ofInt (Jl_ (l.getD (2*k) 0)*16+Jl_ (l.getD (2*k+1) 0)) else if 2*k<i then UInt8.ofInt (Jl_ (l.getD (2*k) 0)) else 0
def alG_ (l:List UInt8) (i:Nat):List UInt8:=(List.range 32).map (refB l i)
def rgt (x:UInt32) (n:UInt64):UInt32:=qu_ x n.toNat|||jy_ x (32 - n).toNat
def rol (x:UInt32) (k:Int):UInt32:=jy_ x (UInt64.ofInt k&&&31).toNat|||qu_ x (32 - (UInt64.ofInt k&&&31)).toNat
def al5_ (x:UInt32) (a b c:Int):UInt32:=rol x (-a)^^^rol x (-b)^^^qu_ x c.toNat
def amD_ (x:UInt32) (a b c:Int):UInt32:=rol x (-a)^^^rol x (-b)^^^rol x (-c)
def S1 (e:UInt32):UInt32:=rgt e 6^^^rgt e 11^^^rgt e 25
def S0 (a:UInt32):UInt32:=rgt a 2^^^rgt a 13^^^rgt a 22
def s1 (y:UInt32):UInt32:=rgt y 17^^^rgt y 19^^^qu_ y 10
def s0 (x:UInt32):UInt32:=rgt x 7^^^rgt x 18^^^qu_ x 3
def kL:List UInt32:= [1116352408,1899447441,3049323471,3921009573,961987163,1508970993,2453635748,2870763221,3624381080,310598401,607225278,1426881987,1925078388,2162078206,2614888103,3248222580,3835390401,4022224774,264347078,604807628,770255983,1249150122,1555081692,1996064986,2554220882,2821834349,2952996808,3210313671,3336571891,3584528711,113926993,338241895,666307205,773529912,1294757372,1396182291,1695183700,1986661051,2177026350,2456956037,2730485921,2820302411,3259730800,3345764771,3516065817,3600352804,4094571909,275423344,430227734,506948616,659060556,883997877,958139571,1322822218,1537002063,1747873779,1955562222,2024104815,2227730452,2361852424,2428436474,2756734187,3204031479,3329325298]
def Kx_:List UInt32:= [1779033703,3144134277,1013904242,2773480762,1359893119,2600822924,528734635,1541459225]
def ak7_ (b:List UInt8) (i:Nat):UInt32:=
 UInt32.ofNat (b.getD (4*i) 0).toNat*16777216+UInt32.ofNat (b.getD (4*i+1) 0).toNat*65536+UInt32.ofNat (b.getD (4*i+2) 0).toNat*256+UInt32.ofNat (b.getD (4*i+3) 0).toNat
def wPre (b:List UInt8) (i:Nat):List UInt32:=(List.range 64).map fun j=>if j<i then ak7_ b j else 0
def akV_ (w:List UInt32) (g:Nat):List UInt32:=w.set g (s1 (w.getD (g - 2) 0)+w.getD (g - 7) 0+s0 (w.getD (g - 15) 0)+w.getD (g - 16) 0)
def wGo (w:List UInt32):Nat→List UInt32
 |0=>w
 |n+1=>akV_ (wGo w n) (16+n)
def wAll (b:List UInt8):List UInt32:=wGo (wPre b 16) 48
def akT_ (s:List UInt32) (k w:UInt32):List UInt32:=
 let t:=s.getD 7 0+S1 (s.getD 4 0)+ (s.getD 4 0&&&s.getD 5 0||| ~~~ s.getD 4 0&&&s.getD 6 0)+k+w
 let u:=S0 (s.getD 0 0)+ (s.getD 0 0&&&s.getD 1 0|||s.getD 0 0&&&s.getD 2 0|||s.getD 1 0&&&s.getD 2 0)
 [t+u,s.getD 0 0,s.getD 1 0,s.getD 2 0,s.getD 3 0+t,s.getD 4 0,s.getD 5 0,s.getD 6 0]
def rGo (st w:List UInt32):Nat→List UInt32
 |0=>st
 |n+1=>akT_ (rGo st w n) (kL.getD n 0) (w.getD n 0)
def acO_ (st s:List UInt32) (i:Nat):List UInt32:=(List.range 8).map fun j=>if j<i then st.getD j 0+s.getD j 0 else st.getD j 0
theorem Xh_ (st s:List UInt32) (i:Nat): (acO_ st s i).length=8:=by simp[acO_]
def comp (st:List UInt32) (b:List UInt8):List UInt32:=acO_ st (rGo st (wAll b) 64) 8
theorem WR_ (st:List UInt32) (b:List UInt8): (comp st b).length=8:=Xh_ _ _ _
def Xt_ (st:List UInt32) (m:List UInt8):Nat→List UInt32
 |0=>st
 |n+1=>comp (Xt_ st m n) ((m.drop (64*n)).take 64)
theorem K5_ (st:List UInt32) (m x:List UInt8) (n:Nat) (h:64*n≤m.length):Xt_ st (m++x) n=Xt_ st m n:=by
 induction n with
 |zero=>rfl
 |succ n ih=>
  simp only[Xt_]
  rw[ih (by omega),List.drop_append_of_le_length (by omega),List.take_append_of_le_length (by simp;omega)]
def kc_ (bg:Bool) (st:List UInt32) (rest:List UInt8) (many:Int) (taken:UInt64):List Value:=
 .bool bg:: (st.map (fun x=>Value.int .u32 (x.toNat:Int))++ (rest.map (fun x=>Value.int .u8 (x.toNat:Int))++ [vi many,v64 taken]))
def z2_ (bg:Bool) (st:List UInt32) (rest:List UInt8) (many:Int) (taken:UInt64):Array Value:=(kc_ bg st rest many taken).toArray
section
variable {bg:Bool} {st:List UInt32} {rest:List UInt8} {many:Int} {taken:UInt64} {E:TypeId}
theorem q9_ (h:st.length=8∧rest.length=64): (z2_ bg st rest many taken).size=75:=by simp[z2_,kc_,h]
theorem adF_: (z2_ bg st rest many taken)[0]? =some (.bool bg):=rfl
theorem aeM_ (k:Nat) (hk:k<8) (h:st.length=8): (z2_ bg st rest many taken)[1+k]? =some (v32 (st.getD k 0)):=by
 have:1+k=k+1:=by omega
 rw[this,z2_,List.getElem?_toArray,kc_,List.getElem?_cons_succ,List.getElem?_append_left (by simp;omega)]
 simp[v32,List.getD_eq_getElem?_getD,h,hk]
theorem KG_ (k:Nat) (hk:k<64) (h:st.length=8∧rest.length=64): (z2_ bg st rest many taken)[9+k]? =some (v8 (rest.getD k 0)):=by
 have:9+k=(8+k)+1:=by omega
 rw[this,z2_,List.getElem?_toArray,kc_,List.getElem?_cons_succ,List.getElem?_append_right (by simp;omega),List.getElem?_append_left (by simp;omega)]
 have e:8+k - (List.map (fun x:UInt32=>Value.int .u32 (x.toNat:Int)) st).length=k:=by simp;omega
 rw[e]
 simp[v8,List.getD_eq_getElem?_getD,h,hk]
theorem aeR_ (h:st.length=8∧rest.length=64): (z2_ bg st rest many taken)[73]? =some (vi many):=by
 rw[z2_,List.getElem?_toArray,kc_,List.getElem?_cons_succ,List.getElem?_append_right (by simp;omega),List.getElem?_append_right (by simp;omega)]
 simp[h]
theorem acz_ (h:st.length=8∧rest.length=64): (z2_ bg st rest many taken)[74]? =some (v64 taken):=by
 rw[z2_,List.getElem?_toArray,kc_,List.getElem?_cons_succ,List.getElem?_append_right (by simp;omega),List.getElem?_append_right (by simp;omega)]
 simp[h]
theorem kQ_ (n:Nat):zn_ (some (false,n)) (some (.cells (z2_ bg st rest many taken) E (0,0))) 0=some (.bool bg):=adF_
theorem kV_ (n k:Nat) (h:k<8∧st.length=8):zn_ (some (false,n)) (some (.cells (z2_ bg st rest many taken) E (0,0))) (1+k)=some (v32 (st.getD k 0)):=aeM_ k h.1 h.2
theorem kJ_ (n k:Nat) (h:k<64∧st.length=8∧rest.length=64):zn_ (some (false,n)) (some (.cells (z2_ bg st rest many taken) E (0,0))) (9+k)=some (v8 (rest.getD k 0)):=KG_ k h.1 h.2
theorem xO_ (n j k:Nat) (h:j+k<64∧st.length=8∧rest.length=64):zn_ (some (false,n)) (some (.cells (z2_ bg st rest many taken) E (0,0))) (9+j+k)=some (v8 (rest.getD (j+k) 0)):=by
 rw[Nat.add_assoc];exact KG_ (j+k) h.1 h.2
theorem kF_ (n:Nat) (h:st.length=8∧rest.length=64):zn_ (some (false,n)) (some (.cells (z2_ bg st rest many taken) E (0,0))) 73=some (vi many):=aeR_ h
theorem kM_ (n:Nat) (h:st.length=8∧rest.length=64):zn_ (some (false,n)) (some (.cells (z2_ bg st rest many taken) E (0,0))) 74=some (v64 taken):=acz_ h
theorem x2_ (h:st.length=8∧rest.length=64):zn_ (some (true,8)) (some (.cells (z2_ bg st rest many taken) E (0,0))) 1=some (.agg (a32 st)):=by
 have hs:1+8≤ (z2_ bg st rest many taken).size:=by rw[q9_ h];omega
 simp only[zn_,hs, ↓reduceIte]
 congr 2
 rw[z2_,a32,kc_]
 simp only[List.extract_toArray,List.extract_eq_take_drop]
 congr 1
 simp[h]
theorem xd_ (h:st.length=8∧rest.length=64):zn_ (some (true,75)) (some (.cells (z2_ bg st rest many taken) E (0,0))) 0=some (.agg (z2_ bg st rest many taken)):=jK_ _ _ _ _ (q9_ h)
theorem afZ_: (z2_ bg st rest many taken).toList.all Value.oneCell'=true:=by
 simp[z2_,kc_,Value.oneCell',vi,v64]
theorem jF_ (old:Array Value) (h:st.length=8∧rest.length=64∧old.size=75):zk_ (some (true,75)) (some (.cells old E (0,0))) 0 (.agg (z2_ bg st rest many taken))=some (.cells (z2_ bg st rest many taken) E (0,0)):=
 vA_ _ _ _ _ _ ⟨q9_ ⟨h.1,h.2.1⟩,h.2.2⟩ afZ_
theorem ks_ (i:Nat) (v:Value): (z2_ bg st rest many taken).setIfInBounds i v=((kc_ bg st rest many taken).set i v).toArray:=by simp[z2_]
theorem x3_ (b:Bool) (h:st.length=8∧rest.length=64):zk_ (some (false,1)) (some (.cells (z2_ bg st rest many taken) E (0,0))) 0 (.bool b)=some (.cells (z2_ b st rest many taken) E (0,0)):=by
 rw[j7_ _ _ _ _ _ (by rw[q9_ h];omega) rfl rfl,ks_];rfl
theorem xQ_ (k:Nat) (x:UInt32) (h:k<8∧st.length=8∧rest.length=64):zk_ (some (false,1)) (some (.cells (z2_ bg st rest many taken) E (0,0))) (1+k) (v32 x)=some (.cells (z2_ bg (st.set k x) rest many taken) E (0,0)):=by
 have e:1+k=k+1:=by omega
 rw[j7_ _ _ _ _ _ (by rw[q9_ h.2];omega) rfl rfl,ks_,e,kc_,List.set_cons_succ,List.set_append_left _ _ (by simp;omega)]
 simp only[z2_,kc_,List.map_set];rfl
theorem x0_ (k:Nat) (x:UInt8) (h:k<64∧st.length=8∧rest.length=64):zk_ (some (false,1)) (some (.cells (z2_ bg st rest many taken) E (0,0))) (9+k) (v8 x)=some (.cells (z2_ bg st (rest.set k x) many taken) E (0,0)):=by
 have e:9+k=(8+k)+1:=by omega
 rw[j7_ _ _ _ _ _ (by rw[q9_ h.2];omega) rfl rfl,ks_,e,kc_,List.set_cons_succ,List.set_append_right _ _ (by simp;omega),List.set_append_left _ _ (by simp;omega)]
 have e2:8+k - (List.map (fun x:UInt32=>Value.int .u32 (x.toNat:Int)) st).length=k:=by simp;omega
 rw[e2]
 simp only[z2_,kc_,List.map_set];rfl
theorem xS_ (m:Int) (h:st.length=8∧rest.length=64):zk_ (some (false,1)) (some (.cells (z2_ bg st rest many taken) E (0,0))) 73 (vi m)=some (.cells (z2_ bg st rest m taken) E (0,0)):=by
 rw[j7_ _ _ _ _ _ (by rw[q9_ h];omega) rfl rfl,ks_,kc_,List.set_cons_succ,List.set_append_right _ _ (by simp;omega),List.set_append_right _ _ (by simp;omega)]
 simp[z2_,kc_,h]
theorem x4_ (t:UInt64) (h:st.length=8∧rest.length=64):zk_ (some (false,1)) (some (.cells (z2_ bg st rest many taken) E (0,0))) 74 (v64 t)=some (.cells (z2_ bg st rest many t) E (0,0)):=by
 rw[j7_ _ _ _ _ _ (by rw[q9_ h];omega) rfl rfl,ks_,kc_,List.set_cons_succ,List.set_append_right _ _ (by simp;omega),List.set_append_right _ _ (by simp;omega)]
 simp[z2_,kc_,h]
theorem xh_ (st':List UInt32) (h:st.length=8∧rest.length=64∧st'.length=8):zk_ (some (true,8)) (some (.cells (z2_ bg st rest many taken) E (0,0))) 1 (.agg (a32 st'))=some (.cells (z2_ bg st' rest many taken) E (0,0)):=by
 have hs:1+8≤ (z2_ bg st rest many taken).size:=by rw[q9_ ⟨h.1,h.2.1⟩];omega
 have hp:xL_ (z2_ bg st rest many taken) 1 (a32 st').toList=z2_ bg st' rest many taken:=by
  have:=Xj_ (a32 st').toList [.bool bg] (st.map fun x=>Value.int .u32 (x.toNat:Int)) (rest.map (fun x=>Value.int .u8 (x.toNat:Int))++ [vi many,v64 taken]) (by simp[a32,h])
  simpa [z2_,kc_,a32] using this
 have h1: (a32 st').size=8:=by rw[vK_];exact h.2.2
 simp only[zk_,ze_,h1,hs,Nat.le_refl,true_or,ac7_,and_self, ↓reduceIte,hp]
end
def acc (b:List UInt8) (i:Nat):Nat→UInt32
 |0=>0
 |k+1=>jy_ (acc b i k) 8|||UInt32.ofNat (b.getD (4*i+k) 0).toNat
theorem qJ_ {α:Type} (l:List α) (i:Nat) (x d:α) (h:i<l.length): (l.set i x).getD i d=x:=by
 simp[List.getD_eq_getElem?_getD,h]
def wG (b:List UInt8) (g:Nat):List UInt32:=wGo (wPre b 16) (g - 16)
def Glob (w:World):Prop:= ∃e0 e1 f0 f1,w.heap[0]? =some (.cells (a32 Kx_) e0 f0)∧w.heap[1]? =some (.cells (a32 kL) e1 f1)
theorem Glob.of {w0 w:World} {L:za_} (hg:Glob w0) (h:Hp w0 L w) (hk: ∀b,b∈keys L→1<b):Glob w:=by
 obtain⟨e0,e1,f0,f1,h0,h1⟩:=hg
 refine⟨e0,e1,f0,f1, ?_, ?_⟩
 ·rw[h.old 0 (Array.getElem?_eq_some_iff.1 h0).1 (fun hm=>by have:=hk 0 hm;omega)];exact h0
 ·rw[h.old 1 (Array.getElem?_eq_some_iff.1 h1).1 (fun hm=>by have:=hk 1 hm;omega)];exact h1
structure Hs where
 st:List UInt32
 rest:List UInt8
 many:Nat
structure Hs.Ok (s:Hs):Prop where
 st:s.st.length=8
 rest:s.rest.length=64
 many:s.many<64
def hput (s:Hs) (x:UInt8):Hs:=
 if s.many+1=64 then⟨comp s.st (s.rest.set s.many x),s.rest.set s.many x,0⟩ else⟨s.st,s.rest.set s.many x,s.many+1⟩
theorem ahQ_ {s:Hs} (x:UInt8) (h:s.Ok): (hput s x).Ok:=by
 unfold hput
 split
 ·exact⟨WR_ _ _,by simp[h.rest],by show(0:Nat)<64;omega⟩
 ·exact⟨h.st,by simp[h.rest],by show s.many+1<64;have:=h.many;omega⟩
def ah3_ (s:Hs) (l:List UInt8):Hs:=l.foldl hput s
def aly_ (bg:Bool) (s:Hs):Hs:=if bg then s else{s with st:=Kx_}
def anm_ (s:Hs) (taken:UInt64):Array Value:=z2_ true s.st s.rest s.many taken
def ajD_ (t:UInt64) (l:List (List UInt8)):UInt64:=l.foldl (fun t a=>t+UInt64.ofNat a.length) t
theorem loadV_one (cs:Array Value) (E:TypeId) (fz:Nat×Nat) (n i:Nat):zn_ (some (false,n)) (some (.cells cs E fz)) i=cs[i]? :=(rfl)
structure Strs (w:World) (v:Value) (l:List (List UInt8)):Prop where
 nil_or: (l= []∧v= .slice none 0 0)∨ ∃b off c arr E fz,v=vsl b off l.length c∧w.heap[b]? =some (.cells arr E fz)∧ ∀i,i<l.length→arr[off+i]? =some (vs (l.getD i []))
end Go.Dig
section
open Go Go.Proofs Go.Sx Go.Dig
namespace Go.Proofs
set_option maxRecDepth 10000
set_option maxHeartbeats 4000000
set_option linter.unusedSimpArgs false
end Go.Proofs
end
section
open Go Go.Proofs Go.Sx Go.Dig
namespace Go.Proofs
set_option maxRecDepth 10000
set_option maxHeartbeats 4000000
set_option linter.unusedSimpArgs false
set_option linter.defProp false
def al9_:=And.intro (And.intro (And.intro (And.intro (@kQ_) (@kV_)) (And.intro (@kJ_) (@xO_))) (And.intro (And.intro (@kF_) (@kM_)) (And.intro (@x2_) (@xd_)))) (And.intro (And.intro (And.intro (@jF_) (@x3_)) (And.intro (@xQ_) (@x0_))) (And.intro (And.intro (@xS_) (@x4_)) (And.intro (@xh_) (@qJ_))))
end Go.Proofs
end
section
open Go Go.Proofs Go.Sx Go.Dig
namespace Go.Proofs
set_option maxRecDepth 10000
set_option maxHeartbeats 1000000
set_option linter.unusedSimpArgs false
set_option linter.defProp false
def amq_:=And.intro (And.intro (And.intro (And.intro (@kQ_) (@kV_)) (And.intro (@kJ_) (@xO_))) (And.intro (And.intro (@kF_) (@kM_)) (And.intro (@x2_) (@xd_)))) (And.intro (And.intro (And.intro (@jF_) (@x3_)) (And.intro (@xQ_) (@x0_))) (And.intro (And.intro (@xS_) (@x4_)) (And.intro (@xh_) (@qJ_))))
end Go.Proofs
end
namespace Go.Dig
open Go.Sx
def ai3_ (m:Nat):Nat:=(120 - m)%64
def lenB (t:UInt64) (g:Nat):UInt8:=UInt8.ofNat (q0_ (8*t) (56 - 8*g)).toNat
def len8 (t:UInt64):List UInt8:=(List.range 8).map (lenB t)
def outB (st:List UInt32) (j:Nat):UInt8:=UInt8.ofNat (qu_ (st.getD (j / 4) 0) (24 - 8* (j%4))).toNat
def aaI_ (st:List UInt32) (k:Nat):List UInt8:=(List.range 32).map fun j=>if j<k then outB st j else 0
def ajH_ (s:Hs) (taken:UInt64):Hs:=ah3_ (ah3_ (hput s 128) (List.replicate (ai3_ (hput s 128).many) 0)) (len8 taken)
def hsum (s:Hs) (taken:UInt64):List UInt8:=aaI_ (ajH_ s taken).st 32
def H0:Hs:=⟨Kx_,List.replicate 64 0,0⟩
theorem akQ_:H0.Ok:=⟨rfl,by simp[H0],by show(0:Nat)<64;omega⟩
def sumV (l:List (List UInt8)):List UInt8:=hsum (ah3_ H0 l.flatten) (ajD_ 0 l)
theorem outPre_length (st:List UInt32) (k:Nat): (aaI_ st k).length=32:=by simp[aaI_]
end Go.Dig
section
open Go Go.Proofs Go.Sx Go.Dig
namespace Go.Proofs
set_option maxRecDepth 10000
set_option maxHeartbeats 1000000
set_option linter.unusedSimpArgs false
set_option linter.defProp false
def alV_:=And.intro (And.intro (And.intro (And.intro (@kQ_) (@kV_)) (And.intro (@kJ_) (@xO_))) (And.intro (And.intro (@kF_) (@kM_)) (And.intro (@x2_) (@xd_)))) (And.intro (And.intro (And.intro (@jF_) (@x3_)) (And.intro (@xQ_) (@x0_))) (And.intro (And.intro (@xS_) (@x4_)) (And.intro (@xh_) (@qJ_))))
end Go.Proofs
end
section
open Go Go.Proofs Go.Sx Go.Dig
namespace Go.Proofs
set_option maxRecDepth 10000
set_option maxHeartbeats 1000000
set_option linter.unusedSimpArgs false
set_option linter.defProp false
def amz_:=And.intro (And.intro (And.intro (And.intro (@kQ_) (@kV_)) (And.intro (@kJ_) (@xO_))) (And.intro (And.intro (@kF_) (@kM_)) (And.intro (@x2_) (@xd_)))) (And.intro (And.intro (And.intro (@jF_) (@x3_)) (And.intro (@xQ_) (@x0_))) (And.intro (And.intro (@xS_) (@x4_)) (And.intro (@xh_) (@qJ_))))
end Go.Proofs
end
namespace Go.Dig
open Go.Sx
def quoN (t:UInt64):Nat→UInt64
 |0=>t
 |n+1=>quoN t n / 256
def akU_ (t:UInt64) (j:Nat):UInt8:=UInt8.ofNat (q0_ t (56 - 8*j)).toNat
def ale_ (t:UInt64) (i:Nat):List UInt8:=(List.range 8).map fun j=>if 8≤j+i then akU_ t j else 0
def padR (m:List UInt8):List UInt8:=m++ [128]++List.replicate (ai3_ ((m.length+1)%64)) 0++len8 (UInt64.ofNat m.length)
def shaR (m:List UInt8):List UInt8:=aaI_ (Xt_ Kx_ (padR m) ((padR m).length / 64)) 32
end Go.Dig
section
open Go Go.Proofs Go.Sx Go.Dig
namespace Go.Proofs
set_option maxRecDepth 10000
set_option maxHeartbeats 1000000
set_option linter.unusedSimpArgs false
set_option linter.defProp false
def amf_:= @qJ_
end Go.Proofs
end
section
open Go Go.Proofs Go.Sx Go.Dig
namespace Go.Proofs
set_option maxRecDepth 10000
set_option maxHeartbeats 1000000
set_option linter.unusedSimpArgs false
set_option linter.defProp false
def am0_:= @qJ_
end Go.Proofs
end
namespace Go.Dig
open Go.Sx
structure Inv (s:Hs) (p:List UInt8):Prop where
 ok:s.Ok
 st:s.st=Xt_ Kx_ p (p.length / 64)
 many:s.many=p.length%64
 rest:s.rest.take s.many=p.drop (64* (p.length / 64))
theorem Inv.put {s:Hs} {p:List UInt8} (h:Inv s p) (x:UInt8):Inv (hput s x) (p++ [x]):=by
 obtain⟨hok,hst,hmany,hrest⟩:=h
 have hk:=ahQ_ x hok
 have hm64:=hok.many
 have hrl:=hok.rest
 have hle:64* (p.length / 64)≤p.length:=by omega
 have htake: (s.rest.set s.many x).take (s.many+1)=p.drop (64* (p.length / 64))++ [x]:=by
  rw[List.take_add_one,List.take_set,←hrest]
  congr 1
  ·rw[List.set_eq_of_length_le (by simp only[List.length_take];exact Nat.min_le_left _ _)]
  ·simp[hrl,hm64]
 have hlen: (p++ [x]).length=p.length+1:=by simp
 have hc:Xt_ Kx_ (p++ [x]) (p.length / 64)=Xt_ Kx_ p (p.length / 64):=K5_ _ _ _ _ hle
 by_cases h64:s.many+1=64
 ·have e:hput s x=⟨comp s.st (s.rest.set s.many x),s.rest.set s.many x,0⟩:=by unfold hput;rw[if_pos h64]
  have hd: (p.length+1) / 64=p.length / 64+1:=by omega
  have hr: (s.rest.set s.many x)=p.drop (64* (p.length / 64))++ [x]:=by
   rw[←htake,h64,List.take_of_length_le (by simp[hrl])]
  refine⟨hk, ?_, ?_, ?_⟩
  ·rw[e,hlen,hd]
   show comp s.st _=comp (Xt_ Kx_ (p++ [x]) (p.length / 64)) _
   rw[hc,←hst,hr,List.drop_append_of_le_length hle,List.take_of_length_le (by simp;omega)]
  ·rw[e,hlen];show 0=_;omega
  ·rw[e,hlen]
   show List.take 0 _=_
   rw[List.take_zero,List.drop_of_length_le (by rw[hlen];omega)]
 ·have e:hput s x=⟨s.st,s.rest.set s.many x,s.many+1⟩:=by unfold hput;rw[if_neg h64]
  have hd: (p.length+1) / 64=p.length / 64:=by omega
  refine⟨hk, ?_, ?_, ?_⟩
  ·rw[e,hlen,hd,hc];exact hst
  ·rw[e,hlen];show s.many+1=_;omega
  ·rw[e,hlen,hd]
   show List.take (s.many+1) (s.rest.set s.many x)=_
   rw[htake,List.drop_append_of_le_length hle]
theorem Inv.zero:Inv H0 []:=⟨akQ_,rfl,rfl,rfl⟩
end Go.Dig
section
open Go Go.Proofs Go.Sx Go.StP
namespace Go.Proofs
set_option maxRecDepth 10000
set_option maxHeartbeats 400000
set_option linter.unusedSimpArgs false
theorem afW_ (m:List UInt8): (Dig.shaR m).length=32:=Dig.outPre_length _ _
set_option linter.defProp false
def ai8_:=And.intro (And.intro (And.intro (@jf_) (@qG_)) (And.intro (@qF_) (@qT_))) (And.intro (And.intro (@Sx.tup2_0) (@Sx.tup2_1)) (And.intro (@zf_) (@zg_)))
def idV (k:Int) (t:List UInt8):IdL:=if RdOk k t then⟨Dig.shaR (ajq_ k t),afW_ _⟩ else id0
def alH_ (k:Int) (t:List UInt8):List UInt8:=(if k=3 then [99] else if k=2 then [116] else [98])++jM_ t
end Go.Proofs
end
section
open Go Go.Proofs Go.Sx Go.StP Go.Flo
namespace Go.Proofs
set_option maxRecDepth 10000
set_option maxHeartbeats 400000
set_option linter.unusedSimpArgs false
structure ObL where
 k:Int
 t:List UInt8
def ob0:ObL:=⟨0,[]⟩
def obC (o:ObL):List Value:= [vi o.k,vs o.t]
def adR_ (s:List UInt8):ObL:=⟨if frOk s then frK s else 0,if frOk s then(frT s).1 else []⟩
def idOf (s:List UInt8):IdL:=idV (adR_ s).k (adR_ s).t
def ag8_:List (List UInt8)→List IdL→List ObL→Option (List IdL×List ObL)
 | [],ids,os=>some (ids,os)
 |s::r,ids,os=>if frOk s=true∧(ids.any fun y=>(idOf s).l==y.l)=false then ag8_ r (ids++ [idOf s]) (os++ [adR_ s]) else none
def fillV (l:List PartL):Option (List IdL×List ObL):=match allV l with
 | .ok ts=>ag8_ ts [] []
 | .error _=>none
end Go.Proofs
end
section
open Go Go.Proofs Go.Sx
namespace Go.Proofs
set_option maxRecDepth 10000
set_option maxHeartbeats 4000000
set_option linter.unusedSimpArgs false
def hvL:List UInt32:= [0x00000000,0x1db71064,0x3b6e20c8,0x26d930ac,0x76dc4190,0x6b6b51f4,0x4db26158,0x5005713c,0xedb88320,0xf00f9344,0xd6d6a3e8,0xcb61b38c,0x9b64c2b0,0x86d3d2d4,0xa00ae278,0xbdbdf21c]
def aj5_ (n:UInt32):UInt32:=qu_ n 4^^^hvL.getD (n&&&15).toNat 0
def adg_ (n:UInt32):Nat→UInt32
 |0=>n
 |k+1=>aj5_ (adg_ n k)
def agP_ (n:UInt32) (b:UInt8):UInt32:=adg_ (n^^^UInt32.ofNat b.toNat) 2
theorem aeD_ (n:UInt32): (n&&&15).toNat<16:=by
 rw[UInt32.toNat_and]
 exact Nat.lt_of_le_of_lt Nat.and_le_right (by decide)
def GlobC (w:World):Prop:= ∃e f,w.heap[(1:Nat)]? =some (.cells (a32 hvL) e f)
theorem GlobC.of {w w':World} {L:za_} (h:GlobC w) (hw:Hp w L w') (hn: (1:Nat)∉keys L):GlobC w':=by
 obtain⟨e,f,h⟩:=h
 exact⟨e,f,by rw[hw.old _ (Array.getElem?_eq_some_iff.1 h).1 hn];exact h⟩
theorem ah6_:hvL.length=16:=rfl
set_option linter.defProp false
def zU_:=And.intro (And.intro (@zf_) (@vz_)) (And.intro (@vu_) (And.intro (@v1_) (@zg_)))
theorem ac5_ (n:UInt32) (b:UInt8) (w:World) (hG:GlobC w):
  Rets Tryd.prog 88 #[v32 n,v8 b] w (fun v D=>v=v32 (agP_ n b)∧D= []):=by
 obtain⟨e,f,htab⟩:=hG
 refine Rets.enterV Tryd.func88 rfl (rs:= [.tmp 4]) Tryd.results88 Tryd.ntmps88 ?_
 refine kf ?_
 first|with_reducible refine ks [] @zU_ ?_|refine kp @zU_ ?_
 unfold agP_
 generalize n^^^UInt32.ofNat b.toNat=m
 rw[show v32 m=v32 (adg_ m 0) from rfl]
 refine Cw.loopG (G:=Nat) [10,11,12,13,14,15,16,17,0,18,9] (fun g=> [(0,v32 (adg_ m g)),(9,vi g)]) (fun g=> []) (fun g=>g≤2) (fun g=>2 - g) 0 rfl rfl ?_ ?_
 ·omega
 intro g j hg
 refine kv ?_
 by_cases hlt:g<2
 ·have h15:=aeD_ (adg_ m g)
  have hl:=ah6_
  first|with_reducible refine ks [] (And.intro @zU_ @htab) ?_|refine kp (And.intro @zU_ @htab) ?_
  refine Again.mk (g+1) (by omega) (by omega) rfl rfl
 ·obtain rfl:g=2:=by omega
  first|with_reducible refine ks [] @zU_ ?_|refine kp @zU_ ?_
  refine⟨_,(ke @zU_),trivial, ?_⟩
  rfl
def Ws_ (n:UInt32) (s:List UInt8):UInt32:=s.foldl agP_ n
theorem abE_ (n:UInt32) (s:List UInt8) (g:Nat) (h:g<s.length):Ws_ n (s.take (g+1))=agP_ (Ws_ n (s.take g)) (s.getD g 0):=by
 unfold Ws_
 rw[List.take_succ_eq_append_getElem h,List.foldl_append,List.getD_eq_getElem?_getD,List.getElem?_eq_getElem h]
 rfl
theorem aeS_ (n:UInt32) (s:List UInt8) (w:World) (hG:GlobC w) (hs:s.length<1099511627776):
  Rets Tryd.prog 74 #[v32 n,vs s] w (fun v D=>v=v32 (~~~ (Ws_ (~~~ n) s))∧D= []):=by
 refine Rets.enterV Tryd.func74 rfl (rs:= [.tmp 4]) Tryd.results74 Tryd.ntmps74 ?_
 refine kf ?_
 first|with_reducible refine ks [] @zU_ ?_|refine kp @zU_ ?_
 rw[show v32 (~~~ n)=v32 (Ws_ (~~~ n) (s.take 0)) from rfl]
 refine Cw.loopG (G:=Nat) [12,13,6,14,15,16,17,18,5,19,11] (fun g=> [(5,v32 (Ws_ (~~~ n) (s.take g))),(11,vi g)]) (fun g=> []) (fun g=>g≤s.length) (fun g=>s.length - g) 0 rfl rfl ?_ ?_
 ·omega
 intro g j hg
 refine kv ?_
 by_cases hlt:g<s.length
 ·first|with_reducible refine ks [] @zU_ ?_|refine kp @zU_ ?_
  refine Ow.callFV rfl Tryd.call88 (fun w' hw'=>ac5_ _ _ w' (GlobC.of hG hw' (by simp[keys]))) ?_
  refine ko @zU_ ?_
  first|with_reducible refine ks [] @zU_ ?_|refine kp @zU_ ?_
  refine Again.mk (g+1) (by omega) (by omega) rfl ?_
  rw[abE_ _ _ _ hlt]
  rfl
 ·obtain rfl:g=s.length:=by omega
  first|with_reducible refine ks [] @zU_ ?_|refine kp @zU_ ?_
  rw[List.take_length]
  refine⟨_,(ke @zU_),trivial, ?_⟩
  rfl
def crcV (s:List UInt8):UInt32:= ~~~ (Ws_ (~~~ (0:UInt32)) s)
theorem acE_ (b:Nat) (s:List UInt8) (E:TypeId) (w:World) (hG:GlobC w) (hs:s.length<1099511627776) (ho:w.heap[b]? =some (.cells #[vs s] E (0,0))):
  Rets Tryd.prog 64 #[vsl b 0 1 1] w (fun v D=>v=v32 (crcV s)∧D= []):=by
 have hS:StrS w (vsl b 0 1 1) [s] b 0 #[vs s] E (0,0):=StrS.lit [s] rfl rfl ho
 refine Rets.enterV Tryd.func64 rfl (rs:= [.tmp 2]) Tryd.results64 Tryd.ntmps64 ?_
 refine kf ?_
 first|with_reducible refine ks [] @zU_ ?_|refine kp @zU_ ?_
 refine Cw.loopG (G:=Nat) [9,10,11,5,12,13,14,3,15,8] (fun g=> [(3,v32 (if g=0 then 0 else crcV s)),(8,vi g)]) (fun g=> []) (fun g=>g≤1) (fun g=>1 - g) 0 rfl rfl ?_ ?_
 ·omega
 intro g j hg
 refine kv ?_
 by_cases hlt:g<1
 ·obtain rfl:g=0:=by omega
  have hlg:=hS.get 0 (by simp)
  have hrd:=hS.has (by simp)
  have hix:=fun m=>hS.idx m 0 (by simp)
  ((try with_reducible refine Cw.go [] ?_);(try simp(disch:=(first|assumption|omega| (simp only[kb_,kd_,UInt64.reduceToNat];try omega))) only[↓Sx.S0,Sx.S1,Tryd.fx,zU_,Nat.reduceAdd,Nat.reducePow,Int.reducePow,Nat.reduceBEq, ↓reduceIte,UInt8.reduceToNat,UInt16.reduceToNat,UInt32.reduceToNat,UInt64.reduceToNat,Int.reduceToNat,Sx.loadV_one,hrd,hlg,hix]))
  refine Ow.callFV rfl Tryd.call74 (fun w' hw'=>aeS_ 0 s w' (GlobC.of hG hw' (by simp[keys])) hs) ?_
  refine ko @zU_ ?_
  first|with_reducible refine ks [] @zU_ ?_|refine kp @zU_ ?_
  refine Again.mk 1 (by omega) (by omega) rfl rfl
 ·obtain rfl:g=1:=by omega
  first|with_reducible refine ks [] @zU_ ?_|refine kp @zU_ ?_
  refine⟨_,(ke @zU_),trivial, ?_⟩
  rfl
def ZB_ (n:UInt32) (g:Nat):List UInt8:=(List.range 4).map fun j=>if j<g then UInt8.ofNat (qu_ n (8*j)).toNat else 0
def sum4 (n:UInt32):List UInt8:=ZB_ n 4
theorem JL_ (n:UInt32) (g:Nat): (ZB_ n g).length=4:=by simp[ZB_]
theorem V2_ (n:UInt32) (g:Nat) (h:g<4): (ZB_ n g).set g (UInt8.ofNat (qu_ n (8*g)).toNat)=ZB_ n (g+1):=by
 have:g=0∨g=1∨g=2∨g=3:=by omega
 rcases this with rfl|rfl|rfl|rfl<;>rfl
def z9_ (s:List UInt8):List UInt8:=s++sum4 (crcV s)
theorem wg_ (s:List UInt8) (w:World) (hG:GlobC w) (hs:s.length<1099511627776):
  Rets Tryd.prog 43 #[vs s] w (fun v D=>v=vs (z9_ s)∧D= []):=by
 have hgl: (1:Nat)<w.heap.size:=by obtain⟨e,f,h⟩:=hG;exact(Array.getElem?_eq_some_iff.1 h).1
 refine Rets.enterV Tryd.func43 rfl (rs:= [.tmp 2]) Tryd.results43 Tryd.ntmps43 ?_
 refine kf ?_
 first|with_reducible refine ks [] @zU_ ?_|refine kp @zU_ ?_
 refine Ow.buildSlice (e:=9) #[vs s] rfl rfl (by kernel_rfl) fun b1 hb1 hw1=> ?_
 refine ko @zU_ ?_
 refine Ow.callFV rfl Tryd.call64 (fun w' hw'=>acE_ b1 s _ w' (GlobC.of hG hw' (by simp[keys];omega)) hs (hw'.has _ _ List.mem_cons_self)) ?_
 refine ko @zU_ ?_
 first|with_reducible refine ks [] @zU_ ?_|refine kp @zU_ ?_
 unfold z9_
 generalize crcV s=n
 refine Ow.alloc rfl rfl Tryd.zr123 fun b2 hb2 hw2=> ?_
 obtain⟨h12,-⟩:=hb2
 refine ko @zU_ ?_
 first|with_reducible refine ks [] @zU_ ?_|refine kp @zU_ ?_
 rw[show a8 (List.replicate 4 0)=a8 (ZB_ n 0) from rfl]
 refine Cw.loopG (G:=Nat) [10,11,5,12,13,14,15,16,17,18,19,9] (fun g=> [(9,vi g)]) (fun g=> [(b1, .cells #[vs s] 9 (0,0)),(b2, .cells (a8 (ZB_ n g)) 123 (0,0))]) (fun g=>g≤4) (fun g=>4 - g) 0 rfl rfl ?_ ?_
 ·omega
 intro g j hg
 refine kv ?_
 have hpl:=JL_ n g
 by_cases hlt:g<4
 ·first|with_reducible refine ks [] @zU_ ?_|refine kp @zU_ ?_
  refine Again.mk (g+1) (by omega) (by omega) ?_ rfl
  rw[V2_ n g hlt]
 ·obtain rfl:g=4:=by omega
  first|with_reducible refine ks [] @zU_ ?_|refine kp @zU_ ?_
  refine⟨_,(ke @zU_),⟨hw1,hw2,trivial⟩, ?_⟩
  rw[List.drop_zero,List.take_of_length_le (by omega)];rfl
def zh_ (s:List UInt8):List UInt8×Bool:=
 if s.length<4 then([],false) else if z9_ (s.take (s.length - 4))=s then(s.take (s.length - 4),true) else([],false)
theorem Qf_ (s:List UInt8): (z9_ s).length=s.length+4:=by unfold z9_ sum4;rw[List.length_append,JL_]
theorem wC_ (s:List UInt8) (w:World) (hG:GlobC w) (hs:s.length<1099511627776):
  Rets Tryd.prog 22 #[vs s] w (fun v D=>v= .tuple #[vs (zh_ s).1, .bool (zh_ s).2]∧D= []):=by
 refine Rets.enterV Tryd.func22 rfl (rs:= [.tmp 2, .tmp 3]) Tryd.results22 Tryd.ntmps22 ?_
 refine kf ?_
 first|with_reducible refine ks [] @zU_ ?_|refine kp @zU_ ?_
 unfold zh_
 by_cases h4:s.length<4
 ·have e1:decide ((s.length:Int)<4)=true:=decide_eq_true (by omega)
  rw[if_pos h4]
  first|with_reducible refine ks [] (And.intro @zU_ @e1) ?_|refine kp (And.intro @zU_ @e1) ?_
  refine⟨_,(ke @zU_),trivial, ?_⟩
  rfl
 ·have e1:decide ((s.length:Int)<4)=false:=decide_eq_false (by omega)
  have e2: ((s.length:Int) - 4).toNat=s.length - 4:=by omega
  rw[if_neg h4]
  first|with_reducible refine ks [] (And.intro @zU_ (And.intro @e1 (@e2))) ?_|refine kp (And.intro @zU_ (And.intro @e1 (@e2))) ?_
  refine Ow.callFV rfl Tryd.call43 (fun w' hw'=>wg_ (s.take (s.length - 4)) w' (GlobC.of hG hw' (by simp[keys])) (by rw[List.length_take];omega)) ?_
  refine ko @zU_ ?_
  cases hq: (z9_ (s.take (s.length - 4)) !=s)
  ·rw[if_pos (by simpa using hq)]
   first|with_reducible refine ks [] (And.intro @zU_ (And.intro @hq (@e2))) ?_|refine kp (And.intro @zU_ (And.intro @hq (@e2))) ?_
   refine⟨_,(ke @zU_),trivial, ?_⟩
   rfl
  ·rw[if_neg (by simpa using hq)]
   first|with_reducible refine ks [] (And.intro @zU_ @hq) ?_|refine kp (And.intro @zU_ @hq) ?_
   refine⟨_,(ke @zU_),trivial, ?_⟩
   rfl
end Go.Proofs
end
section
open Go Go.Proofs Go.Sx Go.StP Go.Flo
namespace Go.Proofs
set_option maxRecDepth 10000
set_option maxHeartbeats 400000
set_option linter.unusedSimpArgs false
def farV (i:Nat) (p:PartL):Int:=if p.d=true then(i:Int) - p.b else 0
def ahb_ (i:Nat) (p:PartL):List UInt8:=z3_ (zM_ (farV i p))++jM_ p.x
def ag6_:Nat→List PartL→List UInt8
 |_,[]=> []
 |i,p::r=>ahb_ i p++ag6_ (i+1) r
def magB:List UInt8:= [83,80,75,49]
def alc_ (l:List PartL):List UInt8:=magB++ (z3_ (zM_ (l.length:Int))++ag6_ 0 l)
def JB_ (s:List UInt8) (i a:Nat) (e:Int):PartL×Nat×Int:=
 (⟨decide (0< (zB_ s a e 200).1),if 0< (zB_ s a e 200).1 then(i:Int) - (zB_ s a e 200).1 else 0,(z6_ s (zB_ s a e 200).2.1 (zB_ s a e 200).2.2 65536).1⟩,(z6_ s (zB_ s a e 200).2.1 (zB_ s a e 200).2.2 65536).2)
def Xv_ (s:List UInt8):Nat→Nat→Nat→Int→List PartL×List Nat×Nat×Int
 |0,_,a,e=>([],[],a,e)
 |k+1,i,a,e=>if(JB_ s i a e).2.2=0 then((JB_ s i a e).1:: (Xv_ s k (i+1) (JB_ s i a e).2.1 0).1,a:: (Xv_ s k (i+1) (JB_ s i a e).2.1 0).2.1,(Xv_ s k (i+1) (JB_ s i a e).2.1 0).2.2) else([],[],(JB_ s i a e).2)
def aem_ (s:List UInt8):Int×Bool×Nat×Int:=
 if(qq_ s 0 0 4).1=magB then((zB_ s (qq_ s 0 0 4).2.1 (qq_ s 0 0 4).2.2 200).1,(zB_ s (qq_ s 0 0 4).2.1 (qq_ s 0 0 4).2.2 200).2.2==0,(zB_ s (qq_ s 0 0 4).2.1 (qq_ s 0 0 4).2.2 200).2) else(0,false,(qq_ s 0 0 4).2)
def W0_ (s:List UInt8):List PartL×List Nat×Nat×Int:=Xv_ s (aem_ s).1.toNat 0 (aem_ s).2.2.1 (aem_ s).2.2.2
def amg_ (b:List UInt8):Option (List PartL×List Nat×List IdL×List ObL):=
 if(zh_ b).2=true∧(aem_ (zh_ b).1).2.1=true∧wG_ (zh_ b).1 (W0_ (zh_ b).1).2.2.1 (W0_ (zh_ b).1).2.2.2=0 then(fillV (W0_ (zh_ b).1).1).map fun q=>((W0_ (zh_ b).1).1,(W0_ (zh_ b).1).2.1,q) else none
def alh_ (l:List PartL):List UInt8×Int:=match fillV l with
 |some _=>(z9_ (alc_ l),0)
 |none=>([],1)
instance:DecidableEq ObL:=fun a b=>if h:a.k=b.k∧a.t=b.t then .isTrue (by cases a;cases b;simp only at h;obtain⟨rfl,rfl⟩:=h;rfl) else .isFalse (fun e=>h (by rw[e];exact⟨rfl,rfl⟩))
def Kk_ (l:List PartL):Nat→List ObL
 |0=> []
 |k+1=>match vW_ l (k:Nat) with
  | .ok s=>if frOk s=true∧adR_ s∉Kk_ l k then Kk_ l k++ [adR_ s] else Kk_ l k
  | .error _=>Kk_ l k
def amB_ (b:List UInt8):List ObL:=if(aem_ b).2.1=true then Kk_ (W0_ b).1 (W0_ b).1.length else []
def ai1_ (i:Nat) (p:PartL):Prop:=(if p.d=true then 0≤p.b∧p.b<i∧(i:Int)≤200 else p.b=0)∧p.x.length≤65536
def ahL_:Nat→List PartL→Prop
 |_,[]=>True
 |i,p::r=>ai1_ i p∧ahL_ (i+1) r
def ajV_:Nat→Nat→List PartL→List Nat
 |_,_,[]=> []
 |i,a,p::r=>a::ajV_ (i+1) (a+ (ahb_ i p).length) r
theorem wX_ (s:List UInt8):zh_ (z9_ s)=(s,true):=by
 have hl:=Qf_ s
 have ht: (z9_ s).take ((z9_ s).length - 4)=s:=by rw[hl,Nat.add_sub_cancel];unfold z9_;rw[List.take_left]
 unfold zh_
 rw[if_neg (by omega),ht,if_pos rfl]
theorem aeA_ (s:List UInt8):wG_ s s.length 0=0:=by unfold wG_;rw[if_neg (by simp),if_neg (by omega)]
end Go.Proofs
end
section
open Go Go.Proofs Go.Sx Go.StP Go.Flo
namespace Go.Proofs
set_option maxRecDepth 10000
set_option maxHeartbeats 400000
set_option linter.unusedSimpArgs false
theorem abM_ {s:List UInt8} {a:Nat} {e:Int} (h:wG_ s a e=0):e=0∧s.length≤a:=by
 unfold wG_ at h
 split at h
 ·rename_i h0;exact absurd h h0
 ·rename_i h0
  split at h
  ·cases h
  ·exact⟨by omega,by omega⟩
end Go.Proofs
end
section
open Go Go.Proofs Go.Sx Go.StP Go.Flo
namespace Go.Proofs
set_option maxRecDepth 10000
set_option maxHeartbeats 400000
set_option linter.unusedSimpArgs false
def magI:List UInt8:= [83,73,88,49]
def rowB (r:RwL):List UInt8:=r.id.l++ (z3_ (zM_ r.place)++z3_ (zM_ r.spot))
def xa_ (l:List RwL):List UInt8:=(l.map rowB).flatten
def QE_ (F:List Nat):List Int:=F.map fun(n:Nat)=>(n:Int)
def ka_ (F:List Nat):List UInt8:=jx_ (QE_ F)
def wM_ (s:List UInt8) (l:List RwL):List UInt8:=magI++ (s++ (z3_ (zM_ (l.length:Int))++ (ka_ (ke_ l)++xa_ l)))
def q6_ (s:List UInt8) (l:List RwL):Bool:=Qw_ l l.length&& (decide (s.length=4)&&decide (l.length≤200))
def vH_ (s:List UInt8) (l:List RwL):List UInt8×Int:=if q6_ s l=true then(z9_ (wM_ s l),0) else([],1)
theorem Xd_ {l:List RwL}: ∀ {n j:Nat},Qw_ l n=true→j<n→ja_ (l.getD j rw0)=true∧(j=0∨wk_ (l.getD (j - 1) rw0).id (l.getD j rw0).id<0)
 |0,j,_,h=>absurd h (Nat.not_lt_zero _)
 |n+1,j,h,hj=>by
  unfold Qw_ at h
  simp only[Bool.and_eq_true,Bool.or_eq_true,decide_eq_true_eq] at h
  by_cases e:j=n
  ·subst e;exact⟨h.2,h.1.2⟩
  ·exact Xd_ h.1.1 (by omega)
theorem cmpI_lt {x y:IdL}:wk_ x y<0↔ltB x.l y.l=true:=by
 unfold wk_ WP_
 cases h1:ltB x.l y.l<;>cases h2:ltB y.l x.l<;>simp
theorem cmpI_ge {x y:IdL}:0≤wk_ x y↔ltB x.l y.l=false:=by
 have:=cmpI_lt (x:=x) (y:=y)
 cases h:ltB x.l y.l
 ·rw[h] at this;constructor
  ·intro _;rfl
  ·intro _;exact Int.not_lt.1 fun h'=>by have:=this.1 h';cases this
 ·rw[h] at this;constructor
  ·intro h';have:=this.2 rfl;omega
  ·intro h';cases h'
theorem aeF_ {l:List RwL} {n:Nat} (h:Qw_ l n=true) {i:Nat}: ∀ {j:Nat},i<j→j<n→ltB (l.getD i rw0).id.l (l.getD j rw0).id.l=true
 |0,hij,_=>absurd hij (Nat.not_lt_zero _)
 |j+1,hij,hj=>by
  have h2:ltB (l.getD j rw0).id.l (l.getD (j+1) rw0).id.l=true:=by
   rcases(Xd_ h hj).2 with h1|h1
   ·omega
   ·exact cmpI_lt.1 h1
  by_cases e:i=j
  ·subst e;exact h2
  ·exact jo_ (aeF_ h (by omega) (by omega)) h2
theorem Vs_ {l:List RwL} {i:Nat} (h:i<l.length):l.getD i rw0=l[i]:=by rw[List.getD_eq_getElem?_getD,List.getElem?_eq_getElem h];rfl
theorem XU_ {l:List RwL} (h:Qw_ l l.length=true):rws_SortOf l l:=by
 refine⟨rfl, ?_,St.refl _ _⟩
 refine List.pairwise_iff_getElem.2 fun i j hi hj hij=> ?_
 have:=aeF_ h hij hj
 rw[Vs_ hi,Vs_ hj] at this
 exact ZH_ this
theorem kp_ {s:List UInt8} {l:List RwL} (h:q6_ s l=true):Qw_ l l.length=true∧s.length=4∧l.length≤200:=by
 unfold q6_ at h
 simpa only[Bool.and_eq_true,decide_eq_true_eq] using h
def Qx_ (s:List UInt8) (q:Nat×Int):Int×Nat×Int:=zB_ s q.1 q.2 1099511627775
def Jp_ (s:List UInt8) (a:Nat) (e:Int):RwL×Nat×Int:=
 (⟨wu_ (idR s a e).1,(Qx_ s (idR s a e).2).1,(Qx_ s (Qx_ s (idR s a e).2).2).1⟩,(Qx_ s (Qx_ s (idR s a e).2).2).2)
def kt_ (s:List UInt8):Nat→Nat×Int→List RwL×Nat×Int
 |0,q=>([],q)
 |k+1,q=>((Jp_ s q.1 q.2).1:: (kt_ s k (Jp_ s q.1 q.2).2).1,(kt_ s k (Jp_ s q.1 q.2).2).2)
def vD_ (s:List UInt8) (m:Int):Nat→Nat×Int→Nat×Int
 |0,q=>q
 |k+1,q=>vD_ s m k (zB_ s q.1 q.2 m).2
def xU_ (s:List UInt8) (f:Int→Int):List UInt8×List RwL×Nat×Int:=
 ((qq_ s 0 0 8).1.drop 4,kt_ s (zB_ s (qq_ s 0 0 8).2.1 (qq_ s 0 0 8).2.2 200).1.toNat (vD_ s (f (zB_ s (qq_ s 0 0 8).2.1 (qq_ s 0 0 8).2.2 200).1) 16 (zB_ s (qq_ s 0 0 8).2.1 (qq_ s 0 0 8).2.2 200).2))
theorem acB_ {r:RwL} (h:ja_ r=true): ∃p q:Nat,r.place=p∧r.spot=q∧p≤1099511627775∧q≤1099511627775:=by
 unfold ja_ at h
 simp only[Bool.and_eq_true,Bool.not_eq_true',decide_eq_false_iff_not] at h
 exact⟨r.place.toNat,r.spot.toNat,by omega,by omega,by omega,by omega⟩
theorem ag3_ (A x:List UInt8) {r:RwL} (h:ja_ r=true):Jp_ (A++ (rowB r++x)) A.length 0=(r,A.length+ (rowB r).length,0):=by
 obtain⟨p,q,hp,hq,p1,q1⟩:=acB_ h
 obtain⟨i,pl,sp⟩:=r
 simp only at hp hq
 subst hp hq
 have e:rowB ⟨i,(p:Int),(q:Int)⟩=i.l++ (z3_ p++z3_ q):=by unfold rowB;rw[qs_ p1,qs_ q1]
 have e2:A++ (rowB ⟨i,(p:Int),(q:Int)⟩++x)=A++ (i.l++ (z3_ p++ (z3_ q++x))):=by rw[e];simp only[List.append_assoc]
 have h1:=aaL_ A (z3_ p++ (z3_ q++x)) i
 have h2:=qN_ (A++i.l) (z3_ q++x) p 1099511627775 p1 (by omega)
 have h3:=qN_ (A++ (i.l++z3_ p)) x q 1099511627775 q1 (by omega)
 simp only[List.append_assoc,List.length_append,i.h] at h2 h3
 unfold Jp_ Qx_
 rw[e2,h1]
 simp only
 rw[h2]
 simp only
 rw[Nat.add_assoc,h3,ad8_,e]
 simp only[List.length_append,i.h,Nat.add_assoc]
theorem KX_ (x:List UInt8): ∀ (l:List RwL) (A:List UInt8),(∀r,r∈l→ja_ r=true)→kt_ (A++ (xa_ l++x)) l.length (A.length,0)=(l,A.length+ (xa_ l).length,0)
 | [],A,_=>by simp[kt_,xa_]
 |r::l,A,h=>by
  have h1:=ag3_ A (xa_ l++x) (h r List.mem_cons_self)
  have h2:=KX_ x l (A++rowB r) fun y hy=>h y (List.mem_cons_of_mem _ hy)
  have e:xa_ (r::l)=rowB r++xa_ l:=by simp[xa_]
  simp only[List.append_assoc,List.length_append] at h2
  rw[List.length_cons,e,List.append_assoc]
  unfold kt_
  simp only
  rw[h1]
  simp only
  rw[h2,List.length_append,Nat.add_assoc]
theorem Kq_ (x:List UInt8) (m:Int): ∀ (F:List Nat) (A:List UInt8),(∀n,n∈F→(n:Int)≤m∧n≤1099511627775)→vD_ (A++ (ka_ F++x)) m F.length (A.length,0)=(A.length+ (ka_ F).length,0)
 | [],A,_=>by simp[vD_,ka_,QE_,jx_]
 |n::F,A,h=>by
  obtain⟨h0,h0'⟩:=h n List.mem_cons_self
  have h1:=qN_ A (ka_ F++x) n m h0' h0
  have h2:=Kq_ x m F (A++z3_ n) fun y hy=>h y (List.mem_cons_of_mem _ hy)
  have e:ka_ (n::F)=z3_ n++ka_ F:=by
   have:ka_ (n::F)=z3_ (zM_ (n:Int))++ka_ F:=by simp[ka_,QE_,jx_]
   rw[this,qs_ h0']
  simp only[List.append_assoc,List.length_append] at h2
  rw[List.length_cons,e,List.append_assoc]
  unfold vD_
  simp only
  rw[h1]
  simp only
  rw[h2,List.length_append,Nat.add_assoc]
theorem ajL_ {l:List RwL} {n:Nat} (h:n∈ke_ l):n≤l.length:=by
 unfold ke_ at h
 obtain⟨d,-,rfl⟩:=List.mem_map.1 h
 exact List.countP_le_length
theorem acU_ {s:List UInt8} {l:List RwL} (f:Int→Int) (h:q6_ s l=true) (hf: (l.length:Int)≤f l.length):xU_ (wM_ s l) f=(s,l,(wM_ s l).length,0):=by
 obtain⟨h1,h2,h3⟩:=kp_ h
 have hr: ∀r,r∈l→ja_ r=true:=fun r hr=>by
  obtain⟨j,hj,rfl⟩:=List.getElem_of_mem hr
  rw[←Vs_ hj]
  exact(Xd_ h1 hj).1
 have hn:zM_ (l.length:Int)=l.length:=qs_ (by omega)
 have e:wM_ s l=(magI++s)++ (z3_ l.length++ (ka_ (ke_ l)++xa_ l)):=by unfold wM_;rw[hn];simp only[List.append_assoc]
 have h8: (magI++s).length=8:=by rw[List.length_append,h2];rfl
 have a1:=kx_ [] (magI++s) (z3_ l.length++ (ka_ (ke_ l)++xa_ l))
 have a2:=qN_ (magI++s) (ka_ (ke_ l)++xa_ l) l.length 200 (by omega) (by omega)
 have a3:=Kq_ (xa_ l) (f l.length) (ke_ l) ((magI++s)++z3_ l.length) fun n hn'=>by have:=ajL_ hn';omega
 have a4:=KX_ [] l ((magI++s)++ (z3_ l.length++ka_ (ke_ l))) hr
 rw[List.nil_append,List.length_nil,Nat.zero_add,h8] at a1
 rw[h8] at a2
 rw[J4_] at a3
 simp only[List.append_assoc,List.length_append,List.append_nil] at a1 a2 a3 a4 h8 e
 unfold xU_
 rw[e]
 rw[show((8:Nat):Int)=8 from rfl] at a1
 rw[a1]
 show(List.drop 4 (magI++s),kt_ _ (zB_ _ 8 0 200).1.toNat (vD_ _ (f (zB_ _ 8 0 200).1) 16 (zB_ _ 8 0 200).2))=_
 rw[a2]
 simp only[Int.toNat_natCast]
 rw[←Nat.add_assoc,h8] at a3 a4
 rw[a3,Nat.add_assoc,a4]
 refine Prod.ext ?_ (Prod.ext rfl (Prod.ext ?_ rfl))
 ·show(magI++s).drop 4=s
  rw[show(4:Nat)=magI.length from rfl,List.drop_left]
 ·simp only[List.length_append];omega
def wc_ (b:List UInt8):Option (List UInt8×List RwL):=
 if wG_ (zh_ b).1 (xU_ (zh_ b).1 id).2.2.1 (xU_ (zh_ b).1 id).2.2.2=0∧q6_ (xU_ (zh_ b).1 id).1 (xU_ (zh_ b).1 id).2.1=true∧z9_ (wM_ (xU_ (zh_ b).1 id).1 (xU_ (zh_ b).1 id).2.1)=b then some ((xU_ (zh_ b).1 id).1,(xU_ (zh_ b).1 id).2.1) else none
theorem openI_iff {b s:List UInt8} {l:List RwL}:wc_ b=some (s,l)↔q6_ s l=true∧b=z9_ (wM_ s l):=by
 unfold wc_
 constructor
 ·intro h
  split at h
  ·rename_i hc
   simp only[Option.some.injEq,Prod.mk.injEq] at h
   obtain⟨rfl,rfl⟩:=h
   exact⟨hc.2.1,hc.2.2.symm⟩
  ·cases h
 ·rintro⟨h1,rfl⟩
  rw[wX_,acU_ id h1 (Int.le_refl _)]
  simp only
  rw[if_pos ⟨aeA_ _,h1,by trivial⟩]
theorem WA_ {s:List UInt8} {l:List RwL} (h:q6_ s l=true):wc_ (z9_ (wM_ s l))=some (s,l):=openI_iff.2 ⟨h,rfl⟩
def anh_ (b:List UInt8):Prop:=(zh_ b).2=true∧8≤ (zh_ b).1.length∧wG_ (zh_ b).1 (xU_ (zh_ b).1 fun _=>200).2.2.1 (xU_ (zh_ b).1 fun _=>200).2.2.2=0∧q6_ (xU_ (zh_ b).1 fun _=>200).1 (xU_ (zh_ b).1 fun _=>200).2.1=true∧z9_ (wM_ (xU_ (zh_ b).1 fun _=>200).1 (xU_ (zh_ b).1 fun _=>200).2.1)=b
def alI_ (l:List RwL) (x:IdL):RwL×Bool:=match l.find? (fun r=>r.id.l==x.l) with
 |some r=>(r,true)
 |none=>(rw0,false)
theorem ajf_ {x y:IdL} (h:x.l=y.l):x=y:=by cases x;cases y;simp only at h;subst h;rfl
def ami_ (l:List RwL) (d:Nat):Nat:=if d=0 then 0 else XK_ l (d - 1)
end Go.Proofs
end
section
open Go Go.Proofs Go.Sx Go.StP Go.Flo
namespace Go.Proofs
set_option maxRecDepth 10000
set_option maxHeartbeats 400000
set_option linter.unusedSimpArgs false
theorem acN_ {D:za_} {E:TypeId} {m n:Nat} {v:Value} {cs:List Value} (h:GrI D E m v n cs) (x:Bool×Nat):XL_ (.sl x) v=some (vi n):=by
 obtain⟨X,-,h⟩:=h;exact h.len x
structure FiG where
 k:Nat
 ids:List IdL
 os:List ObL
 x2:Value
 x3:Value
 D2:za_
 D3:za_
 DG:za_
set_option linter.defProp false
def amr_:=And.intro (And.intro (And.intro (@zf_) (@zg_)) (And.intro (@Sx.tup2_0) (@Sx.tup2_1))) (And.intro (And.intro (@jf_) (@qG_)) (And.intro (@qF_) (And.intro (@qT_) (@jI_))))
end Go.Proofs
end
section
open Go Go.Proofs Go.Sx Go.StP Go.Flo
namespace Go.Proofs
set_option maxRecDepth 10000
set_option maxHeartbeats 400000
set_option linter.unusedSimpArgs false
def wrO (s:List UInt8) (a:Nat) (e:Int):Obj:= .cells #[vs s,vi a,vi e] 110 (0,0)
theorem V4_ (p:PartL) (E:TypeId) (a:Bool) (x:Bool):zk_ (some (a,1)) (some (.cells (xR_ p).toArray E (0,0))) 0 (.bool x)=some (.cells (xR_ ⟨x,p.b,p.x⟩).toArray E (0,0)):=(rfl)
theorem Wd_ (p:PartL) (E:TypeId) (a:Bool) (x:Int):zk_ (some (a,1)) (some (.cells (xR_ p).toArray E (0,0))) 1 (vi x)=some (.cells (xR_ ⟨p.d,x,p.x⟩).toArray E (0,0)):=(rfl)
theorem Ju_ (p:PartL) (E:TypeId):zn_ (some (true,3)) (some (.cells (xR_ p).toArray E (0,0))) 0=some (.agg (xR_ p).toArray):=xX_ (n:=3) [] (xR_ p) [] E (0,0) rfl rfl
theorem we_ (b:Nat) (s:List UInt8) (a:Nat) (e n:Int) (w:World) (ha:a≤s.length) (hs:s.length<9223372036854775808) (ho:w.heap[b]? =some (wrO s a e)):
  Rets Tryd.prog 24 #[vp b 0,vi n] w (fun v D=> ∃o,D= [(b,o)]∧v=vs (qq_ s a e n).1∧o=wrO s (qq_ s a e n).2.1 (qq_ s a e n).2.2):=Qo_ b s a e n w ha hs ho
theorem z1_ (b:Nat) (s:List UInt8) (a:Nat) (e most:Int) (w:World) (ha:a≤s.length) (hs:s.length<9223372036854775808) (ho:w.heap[b]? =some (wrO s a e)):
  Rets Tryd.prog 25 #[vp b 0,vi most] w (fun v D=> ∃o,D= [(b,o)]∧v=vi (zB_ s a e most).1∧o=wrO s (zB_ s a e most).2.1 (zB_ s a e most).2.2):=wP_ b s a e most w ha hs ho
theorem Vt_ (b:Nat) (s:List UInt8) (a:Nat) (e most:Int) (w:World) (ha:a≤s.length) (hs:s.length<9223372036854775808) (ho:w.heap[b]? =some (wrO s a e)):
  Rets Tryd.prog 26 #[vp b 0,vi most] w (fun v D=> ∃o,D= [(b,o)]∧v=vs (z6_ s a e most).1∧o=wrO s (z6_ s a e most).2.1 (z6_ s a e most).2.2):=abe_ b s a e most w ha hs ho
set_option linter.defProp false
def amX_:=And.intro (And.intro (And.intro (@zf_) (And.intro (@zg_) (@Sx.tup2_0))) (And.intro (@Sx.tup2_1) (And.intro (@xv_) (@xD_)))) (And.intro (And.intro (@xq_) (And.intro (@Ju_) (@xF_))) (And.intro (@Jw_) (And.intro (@V4_) (@Wd_))))
structure RdG where
 lab:Nat
 l:List PartL
 sp:List Nat
 a:Nat
 e:Int
 v1:Value
 v2:Value
 b4:Nat
 q:PartL
 D1:za_
 D2:za_
 DG:za_
def RdL (g:RdG):Nat:=match g.lab with
 |1=>1
 |_=>0
end Go.Proofs
end
section
open Go Go.Proofs Go.Sx Go.StP Go.Flo
namespace Go.Proofs
set_option maxRecDepth 10000
set_option maxHeartbeats 400000
set_option linter.unusedSimpArgs false
abbrev amU_ (w:World) (v:Value) (l:List Nat):Prop:=SlV 1 natC 0 w v l
abbrev ObSl (w:World) (v:Value) (l:List ObL):Prop:=SlV 2 obC ob0 w v l
set_option linter.defProp false
def al1_:=And.intro (And.intro (@zf_) (And.intro (@zg_) (@jf_))) (And.intro (And.intro (@qG_) (@qF_)) (And.intro (@qT_) (@jI_)))
def hasV (l:List PartL) (i:Int):Bool:=decide (0≤i)&&decide (i< (l.length:Int))
end Go.Proofs
end
section
open Go Go.Proofs Go.Sx Go.StP Go.Flo
namespace Go.Proofs
set_option maxRecDepth 10000
set_option maxHeartbeats 400000
set_option linter.unusedSimpArgs false
theorem zN_ {w0:World} {L X D:za_} (hC:Came w0 L X D) (hX:New w0.heap.size X):New w0.heap.size D:=New.of_le fun c hc=>by
 rcases hC.new c hc with h| ⟨-,h⟩
 ·exact hX.le c h
 ·exact h
theorem GlobC.newP {w0 w:World} {L:za_} (hg:GlobC w0) (h:Hp w0 L w) (hn:New w0.heap.size L):GlobC w:=
 hg.of h (hn.not (by obtain⟨e,f,h⟩:=hg;exact(Array.getElem?_eq_some_iff.1 h).1))
def alk_ (l:List PartL):Prop:= ∀g,g<l.length→(l.getD g ZR_).x.length≤17000000
structure PwG where
 k:Nat
 D:za_
set_option linter.defProp false
def amb_:=And.intro (And.intro (And.intro (@zf_) (@zg_)) (And.intro (@xv_) (And.intro (@xD_) (@xq_)))) (And.intro (And.intro (@Ju_) (@xF_)) (And.intro (@Jw_) (And.intro (@Sx.tup2_0) (@Sx.tup2_1))))
end Go.Proofs
end
namespace Go.Sx
open Go
def tmpR:ResultVar→Bool
 | .tmp _=>true
 | .cell _ _=>false
theorem Zt_ {P:Program} {w0 w1:World} {L M:za_} {f:Fr}: ∀ {rs:List ResultVar},rs.all tmpR=true→xx_ P w0 L f rs=xx_ P w1 M f rs
 | [],_=>rfl
 | .tmp t::r,h=>by
  simp only[List.all_cons,Bool.and_eq_true] at h
  rw[kT_,kT_,Zt_ (w1:=w1) (M:=M) h.2];rfl
 | .cell a t::r,h=>by simp[tmpR] at h
theorem Hp.later {w0 w1 w2:World} {L D:za_} (h:Hp w0 L w1) (k:Hp w1 D w2) (hD:New w1.heap.size D):Hp w0 (L++D) w2:=
 Mrg.fresh hD.le w1 w2 rfl h k
theorem Cw.rebase {P:Program} {w0:World} {c:Code} {f:Fr} {L:za_} {K:jT_} {K1:World→jT_} (h: ∀w1,Hp w0 L w1→Cw P w1 c f [] (K1 w1)) (hK: ∀w1 e f D,Hp w0 L w1→K1 w1 e f D→New w1.heap.size D∧K e f (L++D)):Cw P w0 c f L K:=by
 intro w hw
 refine wp_mono (h w hw w (Hp.refl w)) ?_
 rintro e a w' ⟨hd,D,hp,hk⟩
 obtain⟨h1,h2⟩:=hK w e _ D hw hk
 exact⟨hd,L++D,hw.later hp h1,h2⟩
theorem Cw.rebaseV {P:Program} {w0:World} {c:Code} {f:Fr} {L:za_} {rs:List ResultVar} {S:Value→Prop} (hN:New w0.heap.size L) (ht:rs.all tmpR=true)
  (h: ∀w1,Hp w0 L w1→Cw P w1 c f [] (retV P w1 rs S)):Cw P w0 c f L (retV P w0 rs S):=by
 refine Cw.rebase (K1:=fun w1=>retV P w1 rs S) h ?_
 intro w1 e f D hw hk
 have key: (∃vs,xx_ P w1 D f rs=some vs∧New w1.heap.size D∧S (vN_ vs))→New w1.heap.size D∧ ∃vs,xx_ P w0 (L++D) f rs=some vs∧New w0.heap.size (L++D)∧S (vN_ vs):=by
  rintro⟨vs,h1,h2,h3⟩
  exact⟨h2,vs,by rw[Zt_ (w1:=w1) (M:=D) ht];exact h1,hN.app (h2.mono hw.size),h3⟩
 cases e<;>first
  |exact key hk
  |exact hk.elim
theorem Cw.rebaseX {P:Program} {w0:World} {c:Code} {f:Fr} {L X:za_} {rs:List ResultVar} {S S1:Value→za_→Prop} (ht:rs.all tmpR=true)
  (h: ∀w1,Hp w0 L w1→Cw P w1 c f [] (retK P w1 rs (XS w1 [] S1))) (hS: ∀v D,New w0.heap.size D→S1 v D→XS w0 X S v (L++D)):Cw P w0 c f L (retK P w0 rs (XS w0 X S)):=by
 refine Cw.rebase (K1:=fun w1=>retK P w1 rs (XS w1 [] S1)) h ?_
 intro w1 e f D hw hk
 have key: (∃vs,xx_ P w1 D f rs=some vs∧XS w1 [] S1 (vN_ vs) D)→New w1.heap.size D∧ ∃vs,xx_ P w0 (L++D) f rs=some vs∧XS w0 X S (vN_ vs) (L++D):=by
  rintro⟨vs,h1,h2,h3⟩
  exact⟨h2.new0,vs,by rw[Zt_ (w1:=w1) (M:=D) ht];exact h1,hS _ D (h2.new0.mono hw.size) h3⟩
 cases e<;>first
  |exact key hk
  |exact hk.elim
theorem Ow.world {P:Program} {w0:World} {ops:Array Oper} {l:List Oper} {f:Fr} {L:za_} {N:Fr→za_→Prop} (h: ∀w,Hp w0 L w→Ow P w0 ops .seq l f L N):Ow P w0 ops .seq l f L N:=fun w hw=>h w hw w hw
theorem Rets.chunk {P:Program} {k:FuncId} {args:Array Value} {w:World} {S:Value→Obj→Prop} {X:za_} {b:Nat} (hX: ∀p,p∈X→w.heap[p.1]? =some p.2) (hn: (keys X).Nodup) (hb:b∈keys X)
  (h:Rets P k args w (fun v D=> ∃o,D= [(b,o)]∧S v o)):Rets P k args w (XS w X (fun v D=> ∃o,D=setB X b o∧S v o)):=
 Calls.mono h fun e w' ⟨v,D,he,hp,o,hD,hS⟩=>⟨v,setB X b o,he,by subst hD;exact Mrg.set hb w w' rfl ((Hp.refl w).ownX hX hn) hp,(Ext.refl w X).setB,o,rfl,hS⟩
theorem Rets.chunkV {P:Program} {k:FuncId} {args:Array Value} {w:World} {S:Value→Prop} {X:za_} (hX: ∀p,p∈X→w.heap[p.1]? =some p.2) (hn: (keys X).Nodup)
  (h:Rets P k args w (fun v D=>S v∧D= [])):Rets P k args w (XS w X (fun v D=>D=X∧S v)):=
 Calls.mono h fun e w' ⟨v,D,he,hp,hS,hD⟩=>⟨v,X,he,by subst hD;exact((Hp.refl w).ownX hX hn).trans_nil hp,Ext.refl w X,rfl,hS⟩
theorem Rets.toX {P:Program} {k:FuncId} {a:Array Value} {w:World} {S:Value→Prop} (h:Rets P k a w (fun v D=>S v∧D= [])):Rets P k a w (XS w [] (fun v D=>D= []∧S v)):=
 h.mono fun v D ⟨h1,h2⟩=>⟨by subst h2;exact Ext.refl w [],h2,h1⟩
theorem Gr.rowL {α:Type} {m:Nat} {enc:α→List Value} {z:α} {w0 w:World} {v:Value} {l:List α} {L:za_} {E:TypeId} {n:Nat} (h:Gr L E m v n (l.map enc).flatten) (hn:l.length=n) (hw:Hp w0 L w) (hm: ∀x,(enc x).length=m):
  ∃b off arr F fz,RowS m enc z w v l b off arr F fz∧(0<l.length→look L b=some (.cells arr F fz)):=by
 obtain⟨b,off,c,arr,F,fz,hr,hc,⟨rfl,rfl,rfl⟩ | ⟨rfl,hb,hsz⟩⟩:=h.slV (z:=z) hw hn rfl hm
 ·exact⟨b,off,arr,F,fz,hr,fun h0=>absurd h0 (by simp)⟩
 ·refine⟨b,off,arr,F,fz,hr,fun _=> ?_⟩
  obtain⟨o,ho⟩:=aaz_ (h.key (b:=b) rfl)
  have:=hw.has _ _ (zC_ ho)
  rw[hb] at this
  rw[ho,this]
theorem GrI.rowL {α:Type} {m:Nat} {enc:α→List Value} {z:α} {w0 w:World} {v:Value} {l:List α} {D:za_} {E:TypeId} {n:Nat} (h:GrI D E m v n (l.map enc).flatten) (hn:l.length=n) (hw:Hp w0 D w) (hm: ∀x,(enc x).length=m):
  ∃b off arr F fz,RowS m enc z w v l b off arr F fz∧(0<l.length→look D b=some (.cells arr F fz)):=by
 obtain⟨X,hX,h⟩:=h
 obtain⟨b,off,c,arr,F,fz,hr,hc,⟨rfl,rfl,rfl⟩ | ⟨rfl,hb,hsz⟩⟩:=h.slM (z:=z) (fun b o hm=>hw.has b o (hX _ hm)) hn rfl hm
 ·exact⟨b,off,arr,F,fz,hr,fun h0=>absurd h0 (by simp)⟩
 ·refine⟨b,off,arr,F,fz,hr,fun _=> ?_⟩
  obtain⟨o,ho⟩:=aaz_ (h.key (b:=b) rfl)
  have hm:=hX _ (zC_ ho)
  have:=hw.has _ _ hm
  rw[hb] at this
  rw[vf_ hw.nodup hm,this]
end Go.Sx
section
open Go Go.Proofs Go.Sx Go.StP Go.Flo
namespace Go.Proofs
set_option maxRecDepth 10000
set_option maxHeartbeats 400000
set_option linter.unusedSimpArgs false
set_option linter.defProp false
def Je_:=And.intro (@zf_) (@zg_)
theorem aaU_ (b o n c:Nat):qw_ Tryd.prog .eql 50 (vsl b o n c) (.slice none 0 0)=some (.bool false):=by
 simp[qw_,eqX,qp_,qa_,Tryd.underlying50,vsl]
theorem Xw_:qw_ Tryd.prog .eql 50 (.slice none 0 0) (.slice none 0 0)=some (.bool true):=by
 simp[qw_,eqX,qp_,qa_,Tryd.underlying50]
theorem wH_ (v:Value) (ls:List RwL) (w:World) (hv:RwSl w v ls) (hl:ls.length<1000000):
  Rets Tryd.prog 37 #[v] w (XS w [] (fun v D=>Gr D 45 34 v ls.length (ls.map rwC).flatten)):=by
 obtain⟨b,off,c,arr,E,fz,hr,hc,⟨rfl,rfl,rfl⟩ | ⟨rfl,hb,hsz⟩⟩:=hv
 ·refine Rets.enterX Tryd.func37 rfl (rs:= [.tmp 2]) Tryd.results37 Tryd.ntmps37 (fun p hp=>by cases hp) (by simp[keys]) ?_
  refine kf ?_
  first|with_reducible refine ks [] (And.intro @Je_ (And.intro @aaU_ (@Xw_))) ?_|refine kp (And.intro @Je_ (And.intro @aaU_ (@Xw_))) ?_
  refine⟨_,(ke @Je_), ?_⟩
  exact⟨Ext.refl _ _,Gr.nl⟩
 ·have hbl:=(Array.getElem?_eq_some_iff.1 hb).1
  have hv:RwSl w (vsl b off ls.length c) ls:=⟨b,off,c,arr,E,fz,hr,hc, .inr ⟨rfl,hb,hsz⟩⟩
  refine Rets.enterX Tryd.func37 rfl (rs:= [.tmp 2]) Tryd.results37 Tryd.ntmps37 (fun p hp=>by cases hp) (by simp[keys]) ?_
  refine kf ?_
  first|with_reducible refine ks [] (And.intro @Je_ (And.intro @aaU_ (@Xw_))) ?_|refine kp (And.intro @Je_ (And.intro @aaU_ (@Xw_))) ?_
  refine Ow.buildSlice (e:=45) #[] rfl rfl (by kernel_rfl) fun b1 hb1 hw1=> ?_
  refine ko @Je_ ?_
  refine Ow.appendG (e:=45) (k:=ls.length) (new:=(ls.map rwC).flatten) (vsl b1 0 0 0) rfl rfl rfl Tryd.underlying50 Tryd.ag45 (by kernel_rfl) zrRw (by rw[qS_,List.size_toArray,z4_]) Tryd.underlying50 (by intro k h;cases h) (.inr ⟨rfl,rfl,b1,rfl,kU_ hb1⟩) (fun w' hw'=>(hv.oldN hw' ⟨hw1,trivial⟩).appX z4_ Xn_) (xP_ z4_ ls) (by omega) (fun v2 L2 hB hB2 hG hS=> ?_)
  rw[Nat.zero_add,List.nil_append] at hB
  refine ko @Je_ ?_
  first|with_reducible refine ks [] @Je_ ?_|refine kp @Je_ ?_
  refine⟨_,(ke @Je_), ?_⟩
  exact⟨((Ext.refl w []).app (o:=Obj.cells #[] 45 (0,0)) hw1).grew hG,hB⟩
theorem ada_ (v:Value) (X:za_) (l:List RwL) (w:World) (hG:Gr X 45 34 v l.length (l.map rwC).flatten) (hX: ∀p,p∈X→w.heap[p.1]? =some p.2) (hn: (keys X).Nodup) (hl:l.length<1000000):
  Rets Tryd.prog 38 #[v,qh_] w (XS w X (fun v' D=>v'= .tuple #[]∧ ∃Z,rws_SortOf l Z∧Gr D 45 34 v l.length (Z.map rwC).flatten)):=by
 rcases hG with hS| ⟨h0,h1,rb,rfl,hlk⟩
 ·rcases hS.inv with⟨rfl,h0,h1⟩ | ⟨rb,c,rest,rfl,hlk,-,hc,hc0,hr⟩
  ·obtain rfl:l= []:=List.eq_nil_of_length_eq_zero h0
   refine(Rets.chunkV hX hn (vx_ w)).mono ?_
   rintro v' D ⟨hE,rfl,hv⟩
   exact⟨hE,hv,[],⟨rfl,List.Pairwise.nil,StP.St.refl _ _⟩,Gr.nl⟩
  ·refine(Rets.chunk hX hn (zl_ hlk) (jX_ rb l.length c l rest w rfl hl (hX _ (zC_ hlk)))).mono ?_
   rintro v' D ⟨hE,o,rfl,hv,Z,rfl,z1,z2,z3⟩
   refine⟨hE,hv,Z,⟨z1,z2,z3⟩, .inl ?_⟩
   rw[←z1]
   exact Buf.at_ (qP_ hlk) (by rw[xP_ z4_]) (by rw[z1];exact hr) (by omega) hc0
 ·obtain rfl:l= []:=List.eq_nil_of_length_eq_zero h0
  refine(Rets.chunk hX hn (zl_ hlk) (jX_ rb 0 0 [] [] w rfl (by omega) (hX _ (zC_ hlk)))).mono ?_
  rintro v' D ⟨hE,o,rfl,hv,Z,rfl,z1,z2,z3⟩
  obtain rfl:Z= []:=List.eq_nil_of_length_eq_zero z1
  exact⟨hE,hv,[],⟨rfl,List.Pairwise.nil,StP.St.refl _ _⟩, .inr ⟨rfl,rfl,rb,rfl,qP_ hlk⟩⟩
theorem Jr_ (l:List RwL) {g:Nat} (h:g<l.length):xa_ (l.take (g+1))=xa_ (l.take g)++rowB (l.getD g rw0):=by
 rw[StP.take_snoc (z:=rw0) h];simp[xa_]
theorem aak_ (r:RwL): (rowB r).length≤44:=by
 have h1:=zo_ r.place
 have h2:=zo_ r.spot
 have h3:=r.id.h
 unfold rowB
 rw[List.length_append,List.length_append];omega
theorem Zy_ (l:List RwL): ∀g,g≤l.length→(xa_ (l.take g)).length≤g*44
 |0,_=>by simp[xa_]
 |g+1,h=>by
  rw[Jr_ l h,List.length_append]
  have:=Zy_ l g (by omega)
  have:=aak_ (l.getD g rw0)
  omega
theorem Z2_: ∀ (l:List Int),(jx_ l).length≤l.length*6
 | []=>by simp[jx_]
 |n::l=>by
  have h1:=Z2_ l
  have h2:=zo_ n
  have e:jx_ (n::l)=z3_ (zM_ n)++jx_ l:=by simp[jx_]
  rw[e,List.length_append,List.length_cons];omega
theorem kw_ (F:List Nat): (QE_ F).length=F.length:=by simp[QE_]
theorem ah1_ {w:World} {b:Nat} {s:List UInt8} {v1:Value} {F:List Nat} (h:w.heap[b]? =some (ixO s v1 F)) (c:Nat):OneS vi 0 w (vsl b 2 F.length c) (QE_ F) b 2 ([vs s,v1]++ (F.map fun(n:Nat)=>vi (n:Int))).toArray 78 (0,0):=by
 refine OneS.sl (by rw[kw_]) h fun k hk=> ?_
 rw[kw_] at hk
 rw[List.getElem?_toArray,List.getElem?_append_right (by simp),show 2+k - [vs s,v1].length=k from by simp,List.getElem?_map,List.getElem?_eq_getElem hk]
 unfold QE_
 rw[List.getD_eq_getElem?_getD,List.getElem?_map,List.getElem?_eq_getElem hk];rfl
structure IwG where
 k:Nat
 D:za_
set_option linter.defProp false
def zW_:=And.intro (And.intro (And.intro (@zf_) (@zg_)) (And.intro (@qS_) (And.intro (@x1_) (@vI_)))) (And.intro (And.intro (@vl_) (@vn_)) (And.intro (@q3_) (And.intro (@Sx.tup2_0) (@Sx.tup2_1))))
theorem ZA_ (s:List UInt8) (v:Value) (l:List RwL) (w:World) (hC:GlobC w) (hv:RwSl w v l) (hl:l.length<1000000) (_hs:s.length<1099511627776):
  Rets Tryd.prog 12 #[vs s,v] w (fun v' D=>(∃Z,rws_SortOf l Z∧v'= .tuple #[vs (vH_ s Z).1,vi (vH_ s Z).2])∧D= []):=by
 refine Rets.enterV Tryd.func12 rfl (rs:= [.tmp 4, .tmp 5]) Tryd.results12 Tryd.ntmps12 ?_
 refine kf ?_
 first|with_reducible refine ks [1000006] @zW_ ?_|refine kp @zW_ ?_
 refine Ow.callX (Y:= []) (by simp) rfl rfl Tryd.call37 (fun w' hw' hX hn=>wH_ v l w' (hv.oldN hw' trivial) hl) (fun v12 D12 hC12 hS12=> ?_)
 have hN12:New w.heap.size D12:=zN_ hC12 trivial
 rw[List.append_nil]
 refine ko @zW_ ?_
 first|with_reducible refine ks [] @zW_ ?_|refine kp @zW_ ?_
 refine Ow.callX (Y:= []) (by simp) rfl rfl Tryd.call38 (fun w' hw' hX hn=>ada_ v12 D12 l w' hS12 hX hn hl) (fun v14 D14 hC14 hS14=> ?_)
 obtain⟨rfl,Z,hZ,hG⟩:=hS14
 have hN14:New w.heap.size D14:=zN_ hC14 hN12
 have hZl:=hZ.1
 rw[List.append_nil]
 refine ko @zW_ ?_
 first|with_reducible refine ks [] @zW_ ?_|refine kp @zW_ ?_
 refine Ow.callC rfl rfl Tryd.call31 (fun w' hw'=>aa6_ s v12 Z w' (hG.slV hw' hZl rfl z4_) (by omega)) (fun B1 v18 D18 hA18 hB18 hN18 hS18=> ?_)
 have hN:New w.heap.size (D14++D18):=hN14.app (hN18.mono hB18)
 unfold OfIS at hS18
 by_cases hok:Qw_ Z Z.length=true
 ·rw[if_pos hok] at hS18
  obtain⟨bi,rfl,hbi⟩:=hS18
  have hri: (decide (s.length=4)&&decide (Z.length≤200))=q6_ s Z:=by unfold q6_;rw[hok,Bool.true_and]
  rw[hri]
  cases hr:q6_ s Z with
  |false=>
   refine ko @zW_ ?_
   first|with_reducible refine ks [] @zW_ ?_|refine kp @zW_ ?_
   refine⟨_,(ke @zW_),hN, ?_⟩
   exact⟨Z,hZ,by unfold vH_;rw[hr];rfl⟩
  |true=>
   obtain⟨-,hs4,hl2⟩:=kp_ hr
   refine ko @zW_ ?_
   refine Cw.rebaseV hN (by rfl) fun w1 hw1=> ?_
   have hC1:=hC.newP hw1 hN
   have hb1:w1.heap[bi]? =some (ixO s v12 (ke_ Z)):=hw1.has _ _ (List.mem_append_right _ hbi)
   have hv1:RwSl w1 v12 Z:=(hG.app (M:=D18)).slV hw1 hZl rfl z4_
   clear hw1 hG hbi hN hN18 hA18 hS12 hC14 hC12
   obtain⟨rb,off,arr,E,fz,hro⟩:=hv1.row
   have ln:=hv1.len
   first|with_reducible refine ks [] @zW_ ?_|refine kp @zW_ ?_
   refine Ow.alloc rfl rfl Tryd.zr93 fun b5 hb5 hw5=> ?_
   refine ko @zW_ ?_
   first|with_reducible refine ks [] @zW_ ?_|refine kp @zW_ ?_
   have hZ5:BldAt b5 [] [(b5, .cells #[.pointer none, .slice none 0 0] 93 (0,0))]:=BldAt.zeroK b5 (jm_ _ _ _)
   refine Ow.buildSlice (e:=9) #[vs [83,73,88,49],vs s] rfl rfl (by kernel_rfl) fun b15 hb15 hw15=> ?_
   have h515:b5<b15:=zz_ hb15 (by simp[keys])
   refine ko @zW_ ?_
   refine Ow.callX (Y:= [(b15, .cells #[vs [83,73,88,49],vs s] 9 (0,0))]) (by simp) rfl rfl Tryd.call40 (fun w' hw' hX hn=>kk_ b5 [(b5, .cells #[.pointer none, .slice none 0 0] 93 (0,0))] [] _ b15 0 [[83,73,88,49],s] _ _ _ w' hZ5 hX hn (StrS.lit [[83,73,88,49],s] rfl rfl (hw'.has _ _ (List.mem_cons_of_mem _ List.mem_cons_self))) (fun _ hm=>by simp[keys] at hm;omega) (by simp;omega) (by simp)) (fun v16 D16 hC16 hS16=> ?_)
   obtain⟨rfl,hB16⟩:=hS16
   have hN16:New w1.heap.size D16:=zN_ hC16 ⟨hw5,trivial⟩
   refine ko @zW_ ?_
   first|with_reducible refine ks [] (And.intro @zW_ @ln) ?_|refine kp (And.intro @zW_ @ln) ?_
   refine Ow.buildSlice (e:=3) #[vi Z.length] rfl rfl (by kernel_rfl) fun b19 hb19 hw19=> ?_
   refine ko @zW_ ?_
   rw[List.append_assoc]
   refine Ow.callX (Y:= [(b15, .cells #[vs [83,73,88,49],vs s] 9 (0,0)),(b19, .cells #[vi Z.length] 3 (0,0))]) (by simp) rfl rfl Tryd.call41 (fun w' hw' hX hn=>qB_ b5 D16 _ _ b19 0 [(Z.length:Int)] _ _ _ w' hB16 hX hn (OneS.lit [(Z.length:Int)] rfl rfl (hw'.has b19 (.cells #[vi Z.length] 3 (0,0)) (by simp))) (fun _ hm=>Nat.lt_irrefl _ (zz_ hb19 (by rw[zP_];exact List.mem_append_left _ hm))) (by simp;omega)) (fun v20 D20 hC20 hS20=> ?_)
   obtain⟨rfl,hB20⟩:=hS20
   rw[vR_] at hB20
   have hN20:New w1.heap.size D20:=zN_ hC20 hN16
   have hbil:=(Array.getElem?_eq_some_iff.1 hb1).1
   refine ko @zW_ ?_
   first|with_reducible refine ks [] @zW_ ?_|refine kp @zW_ ?_
   have hN20':New w1.heap.size (D20++ [(b15,Obj.cells #[vs [83,73,88,49],vs s] 9 (0,0)),(b19,Obj.cells #[vi Z.length] 3 (0,0))]):=hN20.app ⟨hw15,hw19,trivial⟩
   have hnl:=zo_ (Z.length:Int)
   have hfl: (ke_ Z).length=16:=J4_ Z
   have hfb:=Z2_ (QE_ (ke_ Z))
   rw[kw_,hfl] at hfb
   refine Ow.callX (Y:= [(b15, .cells #[vs [83,73,88,49],vs s] 9 (0,0)),(b19, .cells #[vi Z.length] 3 (0,0))]) (by simp) rfl rfl Tryd.call41 (fun w' hw' hX hn=>qB_ b5 D20 _ (vsl bi 2 16 16) bi 2 (QE_ (ke_ Z)) _ _ _ w' hB20 hX hn (hfl▸ah1_ (by rw[hw'.old bi hbil (hN20'.not hbil)];exact hb1) 16) (fun _ hm=>by have:=hN20.le _ hm;omega) (by rw[kw_,hfl];simp;omega)) (fun v34 D34 hC34 hS34=> ?_)
   obtain⟨rfl,hB34⟩:=hS34
   have hN34:New w1.heap.size D34:=zN_ hC34 hN20
   obtain⟨Pre,hPre⟩: ∃Pre,Pre=magI++ (s++ (z3_ (zM_ (Z.length:Int))++ka_ (ke_ Z))):=⟨_,rfl⟩
   have hidx:wM_ s Z=Pre++xa_ Z:=by rw[hPre];unfold wM_;simp only[List.append_assoc]
   have hPl:Pre.length≤200:=by rw[hPre];simp only[List.length_append];unfold ka_;rw[show magI.length=4 from rfl];omega
   have hB0:BldAt b5 (Pre++xa_ (Z.take 0)) (D34++ [(b15,Obj.cells #[vs [83,73,88,49],vs s] 9 (0,0)),(b19, .cells #[vi Z.length] 3 (0,0))]):=by
    have:=hB34.app (Y:= [(b15,Obj.cells #[vs [83,73,88,49],vs s] 9 (0,0)),(b19, .cells #[vi Z.length] 3 (0,0))])
    rw[hPre]
    simpa [magI,xa_,ka_] using this
   clear hPre
   refine ko @zW_ ?_
   first|with_reducible refine ks [] (And.intro @zW_ @ln) ?_|refine kp (And.intro @zW_ @ln) ?_
   refine Cw.loopG (G:=IwG) [38,39,40,10,41,42,43,44,45,46,47,48,49,50,51,37] (fun g=> [(37,vi g.k)]) (fun g=>g.D) (fun g=>g.k≤Z.length∧New w1.heap.size g.D∧BldAt b5 (Pre++xa_ (Z.take g.k)) g.D) (fun g=>Z.length - g.k) ⟨0,D34++ [(b15,Obj.cells #[vs [83,73,88,49],vs s] 9 (0,0)),(b19, .cells #[vi Z.length] 3 (0,0))]⟩ rfl rfl ?_ ?_
   ·exact⟨Nat.zero_le _,hN34.app ⟨hw15,hw19,trivial⟩,hB0⟩
   intro g j hg
   refine kv ?_
   obtain⟨k,D⟩:=g
   simp only at hg ⊢
   obtain⟨hk,hN,hB⟩:=hg
   have hrl:=Zy_ Z k hk
   by_cases hlt:k<Z.length
   ·have d1:decide ((k:Int)< (Z.length:Int))=true:=decide_eq_true (by omega)
    have hb1:=hro.has (by omega)
    have hb1l:=hro.lt (by omega)
    have ix:=hro.idx true k hlt
    have ld:=hro.load z4_ (by omega) hlt
    have rd:zx_ w1 D rb=some (.cells arr E fz):=by rw[qM_ (hN.not hb1l)];exact hb1
    have hsn:=Jr_ Z hlt
    generalize hp:Z.getD k rw0=r at*
    first|with_reducible refine ks [1000013] (And.intro @zW_ (And.intro @d1 (And.intro @ix (And.intro @rd (@ld))))) ?_|refine kp (And.intro @zW_ (And.intro @d1 (And.intro @ix (And.intro @rd (@ld))))) ?_
    refine Ow.alloc rfl rfl zrRw fun b7 hb7 hw7=> ?_
    simp only[ze_,List.nil_append,List.cons_append]
    refine Ow.permL (M:=(b7, .cells (rwC rw0).toArray 45 (0,0))::D) (by classical exact List.perm_iff_count.2 fun a=>by simp only[List.count_append,List.count_cons,List.count_nil]<;>omega) ?_
    refine ko @zW_ ?_
    first|with_reducible refine ks [] @zW_ ?_|refine kp @zW_ ?_
    have hrb:=aak_ r
    have hru:rowB r=r.id.l++ (z3_ (zM_ r.place)++z3_ (zM_ r.spot)):=rfl
    have hru2: (rowB r).length=32+ ((z3_ (zM_ r.place)).length+ (z3_ (zM_ r.spot)).length):=by rw[hru];simp only[List.length_append,r.id.h]
    refine Ow.buildSlice (e:=36) (a8 r.id.l) rfl rfl (KR_ r.id) fun b35 hb35 hw35=> ?_
    refine ko @zW_ ?_
    refine Ow.permL (M:=D++ [(b7,Obj.cells (rwC r).toArray 45 (0,0)),(b35, .cells (a8 r.id.l) 36 (0,0))]) (by classical exact List.perm_iff_count.2 fun a=>by simp only[List.count_append,List.count_cons,List.count_nil]<;>omega) ?_
    refine Ow.callX (Y:= [(b7,Obj.cells (rwC r).toArray 45 (0,0)),(b35, .cells (a8 r.id.l) 36 (0,0))]) (by simp) rfl rfl Tryd.call42 (fun w' hw' hX hn=>aaR_ b5 D _ _ b35 0 [r.id] _ _ _ w' hB hX hn (Kr_ r.id (hw'.has b35 (.cells (a8 r.id.l) 36 (0,0)) (by simp))) (fun _ hm=>Nat.lt_irrefl _ (zz_ hb35 (by simp[keys] at hm ⊢;exact .inr hm))) (by rw[List.length_append];simp;omega)) (fun v36 D36 hC36 hS36=> ?_)
    obtain⟨rfl,hB36⟩:=hS36
    have hN36:New w1.heap.size D36:=zN_ hC36 hN
    refine Ow.permL (M:=(b7,Obj.cells (rwC r).toArray 45 (0,0)):: (D36++ [(b35, .cells (a8 r.id.l) 36 (0,0))])) (by classical exact List.perm_iff_count.2 fun a=>by simp only[List.count_append,List.count_cons,List.count_nil]<;>omega) ?_
    refine ko @zW_ ?_
    first|with_reducible refine ks [] @zW_ ?_|refine kp @zW_ ?_
    refine Ow.buildSlice (e:=3) #[vi r.place,vi r.spot] rfl rfl (by kernel_rfl) fun b39 hb39 hw39=> ?_
    refine ko @zW_ ?_
    refine Ow.permL (M:=D36++ [(b7,Obj.cells (rwC r).toArray 45 (0,0)),(b35, .cells (a8 r.id.l) 36 (0,0)),(b39, .cells #[vi r.place,vi r.spot] 3 (0,0))]) (by classical exact List.perm_iff_count.2 fun a=>by simp only[List.count_append,List.count_cons,List.count_nil]<;>omega) ?_
    refine Ow.callX (Y:= [(b7,Obj.cells (rwC r).toArray 45 (0,0)),(b35, .cells (a8 r.id.l) 36 (0,0)),(b39, .cells #[vi r.place,vi r.spot] 3 (0,0))]) (by simp) rfl rfl Tryd.call41 (fun w' hw' hX hn=>qB_ b5 D36 _ _ b39 0 [r.place,r.spot] _ _ _ w' hB36 hX hn (OneS.lit [r.place,r.spot] rfl rfl (hw'.has b39 (.cells #[vi r.place,vi r.spot] 3 (0,0)) (by simp))) (fun _ hm=>Nat.lt_irrefl _ (zz_ hb39 (by simp[keys] at hm ⊢;exact .inr (.inl hm)))) (by simp[idsL,r.id.h];omega)) (fun v40 D40 hC40 hS40=> ?_)
    obtain⟨rfl,hB40⟩:=hS40
    have hN40:New w1.heap.size D40:=zN_ hC40 hN36
    refine ko @zW_ ?_
    first|with_reducible refine ks [] @zW_ ?_|refine kp @zW_ ?_
    refine Again.mk ⟨k+1,D40++ [(b7,Obj.cells (rwC r).toArray 45 (0,0)),(b35, .cells (a8 r.id.l) 36 (0,0)),(b39, .cells #[vi r.place,vi r.spot] 3 (0,0))]⟩ (by show Z.length - (k+1)<Z.length - k;omega) ⟨hlt,hN40.app ⟨hw7,hw35,hw39,trivial⟩, ?_⟩ rfl rfl
    show BldAt b5 (Pre++xa_ (Z.take (k+1))) _
    rw[hsn]
    have:=hB40.app (Y:= [(b7,Obj.cells (rwC r).toArray 45 (0,0)),(b35, .cells (a8 r.id.l) 36 (0,0)),(b39, .cells #[vi r.place,vi r.spot] 3 (0,0))])
    simpa [rowB,idsL,jx_] using this
   ·obtain rfl:k=Z.length:=by omega
    have d1:decide ((Z.length:Int)< (Z.length:Int))=false:=decide_eq_false (by omega)
    rw[List.take_length] at hrl hB
    rw[←hidx] at hB
    have hpl: (wM_ s Z).length<34359738368:=by rw[hidx,List.length_append];omega
    first|with_reducible refine ks [] (And.intro @zW_ @d1) ?_|refine kp (And.intro @zW_ @d1) ?_
    refine Ow.callX (Y:= []) (by simp) rfl rfl Tryd.call44 (fun w' hw' hX hn=>wB_ b5 D (wM_ s Z) w' hB hX hn hpl) (fun v42 D42 hC42 hS42=> ?_)
    subst hS42
    have hN42:New w1.heap.size D42:=zN_ hC42 hN
    rw[List.append_nil]
    refine ko @zW_ ?_
    refine Ow.callFV rfl Tryd.call43 (fun w' hw'=>wg_ (wM_ s Z) w' (hC1.newP hw' hN42) (by omega)) ?_
    refine ko @zW_ ?_
    first|with_reducible refine ks [] @zW_ ?_|refine kp @zW_ ?_
    refine⟨_,(ke @zW_),hN42, ?_⟩
    exact⟨Z,hZ,by unfold vH_;rw[hr];rfl⟩
 ·rw[if_neg hok] at hS18
  subst hS18
  refine ko @zW_ ?_
  first|with_reducible refine ks [] @zW_ ?_|refine kp @zW_ ?_
  refine⟨_,(ke @zW_),hN, ?_⟩
  exact⟨Z,hZ,by unfold vH_ q6_;rw[Bool.eq_false_iff.2 hok];rfl⟩
end Go.Proofs
end
section
open Go Go.Proofs Go.Sx Go.StP Go.Flo
namespace Go.Proofs
set_option maxRecDepth 10000
set_option maxHeartbeats 400000
set_option linter.unusedSimpArgs false
instance:DecidableEq PartL:=fun a b=>if h:a.d=b.d∧a.b=b.b∧a.x=b.x then .isTrue (by cases a;cases b;simp only at h;obtain⟨rfl,rfl,rfl⟩:=h;rfl) else .isFalse (fun e=>h (by rw[e];exact⟨rfl,rfl,rfl⟩))
def idxO (x:ObL):List ObL→Nat→Int
 | [],_=> -1
 |y::r,i=>if x=y then(i:Int) else idxO x r (i+1)
set_option linter.defProp false
def amE_:=And.intro (And.intro (@jf_) (@qG_)) (And.intro (@qF_) (And.intro (@zf_) (@zg_)))
end Go.Proofs
end
section
open Go Go.Proofs Go.Sx Go.StP Go.Flo
namespace Go.Proofs
set_option maxRecDepth 10000
set_option maxHeartbeats 400000
set_option linter.unusedSimpArgs false
theorem ab8_ (s:List UInt8) (a:Nat) (e most:Int) (hm:0≤most): ((z6_ s a e most).1.length:Int)≤most:=by
 have h1:=kG_ (s:=s) (a:=a) (e:=e) (most:=most) hm
 have h2: ∀ (b:Nat) (e n:Int),0≤n→((qq_ s b e n).1.length:Int)≤n:=by
  intro b e n hn
  unfold qq_
  split
  ·simpa using hn
  ·split
   ·simpa using hn
   ·split
    ·simpa using hn
    ·simp only[List.length_take,List.length_drop];omega
 unfold z6_
 simp only
 split
 ·simpa using hm
 ·have:=h2 (zB_ s a e most).2.1 (zB_ s a e most).2.2 (zB_ s a e most).1 h1.1
  omega
set_option linter.defProp false
def alW_:=And.intro (And.intro (@zf_) (@zg_)) (And.intro (@Sx.tup2_0) (@Sx.tup2_1))
end Go.Proofs
end
section
open Go Go.Proofs Go.Sx Go.StP Go.Flo
namespace Go.Proofs
set_option maxRecDepth 10000
set_option maxHeartbeats 400000
set_option linter.unusedSimpArgs false
theorem WG_ (r:RwL):jb_ (Jn_ Tryd.prog 45) (qb_ Tryd.prog 45) [(0,Value.agg (a8 r.id.l))]=some (.agg (rwC ⟨r.id,0,0⟩).toArray):=by
 have hp:Jn_ Tryd.prog 45=some [(0,32),(32,1),(33,1)]:=id (by kernel_rfl)
 rw[hp,zrRw]
 have e0: (rwC rw0).toArray=(([]:List Value)++ ((rw0.id.l.map v8)++ ([vi rw0.place]++ ([vi rw0.spot])))).toArray:=by congr 1<;>simp only[rwC,List.append_assoc,List.nil_append,List.append_nil]
 have q0:xL_ (([]:List Value)++ ((rw0.id.l.map v8)++ ([vi rw0.place]++ ([vi rw0.spot])))).toArray 0 (r.id.l.map v8)=(([]:List Value)++ ((r.id.l.map v8)++ ([vi rw0.place]++ ([vi rw0.spot])))).toArray:=j2_ _ _ _ _ (by simp) (by simp[rw0.id.h,r.id.h])
 have s0: (([]:List Value)++ ((rw0.id.l.map v8)++ ([vi rw0.place]++ ([vi rw0.spot])))).toArray.size=34:=by simp[r.id.h,rw0.id.h]
 have z0: (Value.cells (Value.agg (a8 r.id.l))).toList=r.id.l.map v8:=by rw[ze_];rfl
 have y0: (Value.cells (Value.agg (a8 r.id.l))).size=32:=by rw[←Array.length_toList,z0];simp[r.id.h]
 have eZ: (([]:List Value)++ ((r.id.l.map v8)++ ([vi rw0.place]++ ([vi rw0.spot])))).toArray=(rwC ⟨r.id,0,0⟩).toArray:=by congr 1
 simp only[jb_]
 rw[e0]
 unfold Sx.fillV
 simp only[List.getElem?_cons_zero,List.getElem?_cons_succ,z0,y0]
 rw[if_pos ⟨trivial,by rw[s0];decide⟩,q0]
 rw[eZ];rfl
def IxD (D:za_) (bi:Nat) (s:List UInt8) (l:List RwL):Prop:= ∃x,(bi,ixO s x (ke_ l))∈D∧GrI D 45 34 x l.length (l.map rwC).flatten
def IxIn (w:World) (bi:Nat) (s:List UInt8) (l:List RwL):Prop:= ∃x,w.heap[bi]? =some (ixO s x (ke_ l))∧RwSl w x l
theorem IxD.mono {D D':za_} {bi:Nat} {s:List UInt8} {l:List RwL} (h:IxD D bi s l) (hD: ∀p,p∈D→p∈D'):IxD D' bi s l:=by
 obtain⟨x,h1,h2⟩:=h;exact⟨x,hD _ h1,h2.mono hD⟩
theorem IxD.inW {w0 w:World} {D:za_} {bi:Nat} {s:List UInt8} {l:List RwL} (h:IxD D bi s l) (hw:Hp w0 D w):IxIn w bi s l:=by
 obtain⟨x,h1,h2⟩:=h;exact⟨x,hw.has _ _ h1,h2.slV hw rfl rfl z4_⟩
theorem IxIn.old {w w':World} {L:za_} {bi:Nat} {s:List UInt8} {l:List RwL} (h:IxIn w bi s l) (hw:Hp w L w') (hn:New w.heap.size L):IxIn w' bi s l:=by
 obtain⟨x,h1,h2⟩:=h
 exact⟨x,by rw[hw.old bi (Array.getElem?_eq_some_iff.1 h1).1 (hn.not (Array.getElem?_eq_some_iff.1 h1).1)];exact h1,h2.oldN hw hn⟩
theorem aaN_ (s:List UInt8) (v1:Value) (F:List Nat) (n:Nat):zn_ (some (false,n)) (some (ixO s v1 F)) 0=some (vs s):=by
 rfl
theorem af6_ (s:List UInt8) (v1:Value) (F:List Nat) (n:Nat):zn_ (some (false,n)) (some (ixO s v1 F)) 1=some v1:=by
 rfl
theorem X3_ (b:Nat) (s:List UInt8) (a:Nat) (e:Int) (w:World) (ha:a≤s.length) (hs:s.length<9223372036854775808) (ho:w.heap[b]? =some (wrO s a e)):
  Rets Tryd.prog 27 #[vp b 0] w (fun v D=> ∃o,D= [(b,o)]∧v= .agg (a8 (idR s a e).1)∧o=wrO s (idR s a e).2.1 (idR s a e).2.2):=agw_ b s a e w ha hs ho
def aeN_ (b:List UInt8) (v:Value) (D:za_):Prop:=match wc_ b with
 |some q=> ∃bi,v= .tuple #[vp bi 0,vi 0]∧IxD D bi q.1 q.2
 |none=>v= .tuple #[.pointer none,vi 2]
theorem Qr_ (b:List UInt8): (zh_ b).1.length≤b.length:=by
 unfold zh_
 split
 ·simp
 ·split
  ·simp only[List.length_take];omega
  ·simp
theorem adC_ {s:List UInt8} {a:Nat} {e:Int} (ha:a≤s.length): (idR s a e).2.1≤s.length:=(va_ ha).2
theorem agf_ {s:List UInt8} {l Z:List RwL} (h:q6_ s l=true) (hZ:rws_SortOf l Z):vH_ s Z=(z9_ (wM_ s l),0):=by
 have e:Z=l:=hZ.eq (XU_ (kp_ h).1)
 subst e
 unfold vH_;rw[if_pos h]
theorem agb_ {b s:List UInt8} {l:List RwL} {a:Nat} {e:Int} (h:xU_ (zh_ b).1 id=(s,l,a,e)):wc_ b=if wG_ (zh_ b).1 a e=0∧q6_ s l=true∧z9_ (wM_ s l)=b then some (s,l) else none:=by
 unfold wc_;rw[h]
theorem XX_ {s:List UInt8} {m:Int}: ∀ (k:Nat) (q:Nat×Int),q.2≠0→vD_ s m k q=q
 |0,_,_=>rfl
 |k+1,q,h=>by
  unfold vD_
  rw[aaM_ h]
  exact XX_ k (q.1,q.2) h
theorem agy_ {s:List UInt8} {a:Nat} {e:Int} (h:e≠0): (Jp_ s a e).2=(a,e):=by
 unfold Jp_ Qx_
 simp only[ajB_ h,aaM_ h]
structure OiG where
 k:Nat
 q:Nat×Int
structure OrG where
 l:List RwL
 q:Nat×Int
 v:Value
 D1:za_
 DG:za_
set_option linter.defProp false
def zJ_:=And.intro (And.intro (And.intro (@zf_) (And.intro (@zg_) (@qS_))) (And.intro (@x1_) (And.intro (@vI_) (@vl_)))) (And.intro (And.intro (@vn_) (And.intro (@q3_) (@aeq_))) (And.intro (And.intro (@ac6_) (@Sx.tup2_0)) (And.intro (@Sx.tup2_1) (@aaN_))))
theorem ach_ (b:List UInt8) (w:World) (hC:GlobC w) (hb:b.length<1099511627776):
  Rets Tryd.prog 10 #[vs b] w (XS w [] (aeN_ b)):=by
 refine Rets.enterX Tryd.func10 rfl (rs:= [.tmp 2, .tmp 3]) Tryd.results10 Tryd.ntmps10 (fun p hp=>by cases hp) (by simp[keys]) ?_
 refine kf ?_
 first|with_reducible refine ks [1000021] @zJ_ ?_|refine kp @zJ_ ?_
 refine Ow.callFV rfl Tryd.call22 (fun w' hw'=>wC_ b w' (hC.newP hw' trivial) (by omega)) ?_
 have hun: (zh_ b).1.length≤b.length:=Qr_ b
 unfold aeN_
 obtain⟨r,hr⟩: ∃r,r=xU_ (zh_ b).1 id:=⟨_,rfl⟩
 obtain⟨rs,rl,ra,re⟩:=r
 rw[agb_ hr.symm]
 generalize zh_ b=u at*
 obtain⟨s,ok⟩:=u
 simp only at hun hr ⊢
 refine ko @zJ_ ?_
 first|with_reducible refine ks [] @zJ_ ?_|refine kp @zJ_ ?_
 refine Ow.callF rfl rfl Tryd.call23 (S:=fun B v D=> ∃b',B≤b'∧v=vp b' 0∧D= [(b',wrO s 0 0)]) (fun w' hw'=>KA_ s w') ?_
 rintro B v D hab hB ⟨bw,hbw,rfl,rfl⟩
 have hww:w.heap.size≤bw:=by omega
 refine⟨_,Mrg.fresh (by intro q hq;simp only[keys,List.map_cons,List.map_nil,List.mem_singleton] at hq;omega), ?_⟩
 rw[List.nil_append]
 refine ko @zJ_ ?_
 first|with_reducible refine ks [] @zJ_ ?_|refine kp @zJ_ ?_
 refine Ow.callM rfl rfl Tryd.call24 (by simp[keys]) (fun w' hw'=>we_ bw s 0 0 8 w' (Nat.zero_le _) (by omega) (hw'.has _ _ List.mem_cons_self)) ?_
 have r1:=va_ (s:=s) (a:=0) (e:=0) (n:=8) (Nat.zero_le _)
 unfold xU_ at hr
 have hr8: (qq_ s 0 0 8).2.2=0→(qq_ s 0 0 8).1.length=8:=fun h=>(abK_ (Nat.zero_le _) h).2.1
 generalize qq_ s 0 0 8=p at*
 obtain⟨hd,a1,e1⟩:=p
 simp only at r1 hr hr8 ⊢
 refine kn ?_
 refine ko @zJ_ ?_
 first|with_reducible refine ks [] @zJ_ ?_|refine kp @zJ_ ?_
 refine Ow.callM rfl rfl Tryd.call25 (by simp[keys]) (fun w' hw'=>z1_ bw s a1 e1 200 w' r1.2 (by omega) (hw'.has _ _ List.mem_cons_self)) ?_
 have r2:=jh_ (s:=s) (a:=a1) (e:=e1) (most:=200) r1.2
 have m2:=kG_ (s:=s) (a:=a1) (e:=e1) (most:=200) (by omega)
 have f2:e1≠0→(zB_ s a1 e1 200).2.2≠0:=fun h=>by rw[aaM_ h];exact h
 generalize zB_ s a1 e1 200=p at*
 obtain⟨n0,a2,e2⟩:=p
 simp only at r2 m2 hr f2 ⊢
 obtain⟨n,rfl⟩: ∃n:Nat,n0=(n:Int):=⟨n0.toNat,by omega⟩
 rw[Int.toNat_natCast] at hr
 refine kn ?_
 refine ko @zJ_ ?_
 first|with_reducible refine ks [] @zJ_ ?_|refine kp @zJ_ ?_
 have hrq: (rs,rl,ra,re)=(hd.drop 4,kt_ s n (vD_ s (n:Int) 16 (a2,e2))):=hr
 clear hr
 refine Cw.loopG (G:=OiG) [27,28,29,30,31,26] (fun g=> [(26,vi g.k)]) (fun g=> [(bw,wrO s g.q.1 g.q.2)]) (fun g=>g.k≤16∧g.q.1≤s.length∧vD_ s (n:Int) 16 (a2,e2)=vD_ s (n:Int) (16 - g.k) g.q) (fun g=>16 - g.k) ⟨0,(a2,e2)⟩ rfl rfl ?_ ?_
 ·exact⟨Nat.zero_le _,r2.2,rfl⟩
 intro g j hg
 refine kv ?_
 obtain⟨k,q⟩:=g
 simp only at hg ⊢
 obtain⟨hk,hq,hf⟩:=hg
 by_cases hlt:k<16
 ·have d1:decide ((k:Int)<16)=true:=decide_eq_true (by omega)
  have hf2:vD_ s (n:Int) (16 - k) q=vD_ s (n:Int) (16 - (k+1)) (zB_ s q.1 q.2 n).2:=by
   rw[show 16 - k=(16 - (k+1))+1 by omega];rfl
  first|with_reducible refine ks [] (And.intro @zJ_ @d1) ?_|refine kp (And.intro @zJ_ @d1) ?_
  refine Ow.callM rfl rfl Tryd.call25 (by simp[keys]) (fun w' hw'=>z1_ bw s q.1 q.2 n w' hq (by omega) (hw'.has _ _ List.mem_cons_self)) ?_
  refine kn ?_
  refine ko @zJ_ ?_
  first|with_reducible refine ks [] @zJ_ ?_|refine kp @zJ_ ?_
  exact Again.mk ⟨k+1,(zB_ s q.1 q.2 n).2⟩ (by show 16 - (k+1)<16 - k;omega) ⟨hlt,(jh_ hq).2,hf.trans hf2⟩ rfl rfl
 obtain rfl:k=16:=by omega
 have d1:decide (((16:Nat):Int)<16)=false:=rfl
 have hf3:vD_ s (n:Int) 16 (a2,e2)=q:=hf
 have g2:q.2=0→e1=0:=fun h=>Decidable.byContradiction fun hh=>by
  have:=XX_ (s:=s) (m:=n) 16 (a2,e2) (f2 hh)
  rw[hf3] at this
  rw[this] at h
  exact f2 hh h
 rw[hf3] at hrq
 clear hf hf3 r2 f2
 obtain⟨q0,hq0⟩: ∃q0,q0=q:=⟨q,rfl⟩
 rw[←hq0] at hrq
 first|with_reducible refine ks [] (And.intro @zJ_ @d1) ?_|refine kp (And.intro @zJ_ @d1) ?_
 refine Cw.permL (M:=(bw,wrO s q.1 q.2):: ([]++ [])) (List.Perm.refl _) ?_
 refine Cw.loopG (G:=OrG) [34,35,36,37,10,38,39,40,41,42,43,44,45,46,47,9,48,33] (fun g=> [(9,g.v),(33,vi g.l.length)]) (fun g=>(bw,wrO s g.q.1 g.q.2):: (g.D1++g.DG)) (fun g=>g.l.length≤n∧g.q.1≤s.length∧New w.heap.size g.D1∧New w.heap.size g.DG∧Gr g.D1 45 34 g.v g.l.length (g.l.map rwC).flatten∧(g.q.2=0→q.2=0)∧kt_ s n q0=(g.l++ (kt_ s (n - g.l.length) g.q).1,(kt_ s (n - g.l.length) g.q).2)) (fun g=>n - g.l.length) ⟨[],q, .slice none 0 0,[],[]⟩ rfl rfl ?_ ?_
 ·exact⟨Nat.zero_le _,hq,trivial,trivial,Gr.nl,id,by rw[hq0];rfl⟩
 intro g j hg
 refine kv ?_
 obtain⟨l,qq,v,D1,DG⟩:=g
 simp only at hg ⊢
 obtain⟨hln,hqq,hN1,hNG,hG1,hez,hrr⟩:=hg
 by_cases hlt:l.length<n
 ·have d1:decide ((l.length:Int)< (n:Int))=true:=decide_eq_true (by omega)
  obtain⟨a,e⟩:=qq
  have hpr:kt_ s n q0=(l++ [(Jp_ s a e).1]++ (kt_ s (n - (l++ [(Jp_ s a e).1]).length) (Jp_ s a e).2).1,(kt_ s (n - (l++ [(Jp_ s a e).1]).length) (Jp_ s a e).2).2):=by
   rw[hrr,show n - l.length=(n - (l++ [(Jp_ s a e).1]).length)+1 by simp;omega]
   generalize n - (l++ [(Jp_ s a e).1]).length=m
   show(l++ ((Jp_ s a e).1:: (kt_ s m (Jp_ s a e).2).1),(kt_ s m (Jp_ s a e).2).2)=_
   rw[List.append_assoc];rfl
  have herr: (Jp_ s a e).2.2=0→e=0:=fun h=>Decidable.byContradiction fun hh=>by
   rw[agy_ hh] at h;exact hh h
  have hrow:Jp_ s a e=(⟨wu_ (idR s a e).1,(zB_ s (idR s a e).2.1 (idR s a e).2.2 1099511627775).1,(Qx_ s (zB_ s (idR s a e).2.1 (idR s a e).2.2 1099511627775).2).1⟩,(Qx_ s (zB_ s (idR s a e).2.1 (idR s a e).2.2 1099511627775).2).2):=rfl
  have hNr:New w.heap.size ((bw,wrO s a e):: (D1++DG)):=⟨hww,hN1.app hNG⟩
  first|with_reducible refine ks [] (And.intro @zJ_ @d1) ?_|refine kp (And.intro @zJ_ @d1) ?_
  refine Ow.callM rfl rfl Tryd.call27 (by simp[keys]) (fun w' hw'=>X3_ bw s a e w' hqq (by omega) (hw'.has _ _ List.mem_cons_self)) ?_
  obtain⟨i,hi⟩: ∃i,i=wu_ (idR s a e).1:=⟨_,rfl⟩
  have hil: (idR s a e).1=i.l:=by rw[hi];exact(aaC_ (aeG_ s a e)).symm
  have hle1:=adC_ (e:=e) hqq
  rw[←hi] at hrow
  generalize idR s a e=p at*
  obtain⟨p1,a3,e3⟩:=p
  simp only at hil hrow hle1 ⊢
  subst hil
  clear hi
  refine kn ?_
  refine ko @zJ_ ?_
  refine Ow.build (.agg (rwC ⟨i,0,0⟩).toArray) rfl (WG_ ⟨i,0,0⟩) ?_
  refine ko @zJ_ ?_
  refine Ow.alloc rfl rfl zrRw fun b10 hb10 hw10=> ?_
  simp only[ze_,List.nil_append,List.cons_append]
  have h10:bw<b10:=zz_ hb10 (by simp[keys])
  refine Ow.permL (M:=(b10, .cells (rwC rw0).toArray 45 (0,0)):: (bw,wrO s a3 e3):: (D1++DG)) (by classical exact List.perm_iff_count.2 fun a=>by simp only[List.count_append,List.count_cons,List.count_nil]<;>omega) ?_
  refine ko @zJ_ ?_
  first|with_reducible refine ks [] @zJ_ ?_|refine kp @zJ_ ?_
  refine Ow.callM rfl rfl Tryd.call25 (by simp[keys]) (fun w' hw'=>z1_ bw s a3 e3 1099511627775 w' hle1 (by omega) (hw'.has _ _ (List.mem_cons_of_mem _ List.mem_cons_self))) ?_
  have hle2:=(jh_ (e:=e3) (most:=1099511627775) hle1).2
  generalize zB_ s a3 e3 1099511627775=p at*
  obtain⟨x1,a4,e4⟩:=p
  simp only at hrow hle2 ⊢
  refine kn ?_
  refine ko @zJ_ ?_
  refine Ow.callM rfl rfl Tryd.call25 (by simp[keys]) (fun w' hw'=>z1_ bw s a4 e4 1099511627775 w' hle2 (by omega) (hw'.has _ _ (List.mem_cons_of_mem _ List.mem_cons_self))) ?_
  have hle3:=(jh_ (e:=e4) (most:=1099511627775) hle2).2
  have hrow2:Jp_ s a e=(⟨i,x1,(zB_ s a4 e4 1099511627775).1⟩,(zB_ s a4 e4 1099511627775).2):=hrow
  clear hrow
  generalize zB_ s a4 e4 1099511627775=p at*
  obtain⟨x2,a5,e5⟩:=p
  simp only at hrow2 hle3 ⊢
  rw[hrow2] at hpr herr
  simp only at hpr herr
  refine kn ?_
  refine ko @zJ_ ?_
  first|with_reducible refine ks [] @zJ_ ?_|refine kp @zJ_ ?_
  generalize (RwL.mk i x1 x2)=r at*
  refine Ow.buildSlice (e:=45) (rwC r).toArray rfl rfl (vX_ Tryd.underlying50 ajZ_ zrRw (by decide) (z4_ _)) fun ba hba hwa=> ?_
  refine ko @zJ_ ?_
  refine Ow.permL (M:=D1++ ((b10, .cells (rwC r).toArray 45 (0,0)):: (bw,wrO s a5 e5):: (DG++ [(ba, .cells (rwC r).toArray 45 (0,0))]))) (by classical exact List.perm_iff_count.2 fun a=>by simp only[List.count_append,List.count_cons,List.count_nil]<;>omega) ?_
  refine Ow.appendXG (e:=45) (k:=1) (new:=rwC r) (X:=D1) v rfl rfl rfl rfl Tryd.underlying50 ajZ_ (by kernel_rfl) zrRw (by rw[qS_,List.size_toArray,z4_]) Tryd.underlying50 (by intro k h;cases h) hG1 (fun w' hw'=>AppX.one1 (hw'.has ba (.cells (rwC r).toArray 45 (0,0)) (by simp)) (z4_ _) (Xn_ _)) (by omega) (fun B4 v4 D4 hA4 hB4 hG4 hk41 hk42 hlk4=> ?_)
  have hN4:New w.heap.size D4:=New.of_le fun q hq=>by
   rcases hk42 q hq with h|h
   ·exact hN1.le q h
   ·omega
  refine Ow.permL (M:=(bw,wrO s a5 e5):: (D4++ ((b10, .cells (rwC r).toArray 45 (0,0)):: (DG++ [(ba, .cells (rwC r).toArray 45 (0,0))])))) (by classical exact List.perm_iff_count.2 fun a=>by simp only[List.count_append,List.count_cons,List.count_nil]<;>omega) ?_
  refine ko @zJ_ ?_
  first|with_reducible refine ks [] @zJ_ ?_|refine kp @zJ_ ?_
  have hl1: (l++ [r]).length=l.length+1:=by simp
  refine Again.mk ⟨l++ [r],(a5,e5),v4,D4,(b10, .cells (rwC r).toArray 45 (0,0)):: (DG++ [(ba, .cells (rwC r).toArray 45 (0,0))])⟩ (by show n - (l++ [r]).length<n - l.length;omega) ⟨by show(l++ [r]).length≤n;omega,hle3,hN4,⟨hw10,hNG.app ⟨hwa,trivial⟩⟩,by simpa using hG4,fun h=>hez (herr h),hpr⟩ rfl (by simp only[hl1];rfl)
 ·obtain rfl:n=l.length:=by omega
  have d1:decide ((l.length:Int)< (l.length:Int))=false:=decide_eq_false (by omega)
  rw[Nat.sub_self] at hrr
  rw[hrr] at hrq
  simp only[kt_,List.append_nil,Prod.mk.injEq] at hrq
  obtain⟨hrs,hrl,hq5⟩:=hrq
  have hqa:ra=qq.1:=congrArg Prod.fst hq5
  have hqe:re=qq.2:=congrArg Prod.snd hq5
  rw[hrs,hrl,hqa,hqe]
  clear hrs hrl hqa hqe hq5 hrr
  have hNr:New w.heap.size ((bw,wrO s qq.1 qq.2):: (D1++DG)):=⟨hww,hN1.app hNG⟩
  first|with_reducible refine ks [] (And.intro @zJ_ @d1) ?_|refine kp (And.intro @zJ_ @d1) ?_
  refine Ow.callFV rfl Tryd.call28 (fun w' hw'=>JC_ bw s qq.1 qq.2 w' (hw'.has _ _ List.mem_cons_self)) ?_
  by_cases he:wG_ s qq.1 qq.2=0
  ·have e1': (wG_ s qq.1 qq.2 !=0)=false:=by rw[he];rfl
   have h8:hd.length=8:=hr8 (g2 (hez (abM_ he).1))
   have h8':decide ((0:Int)≤4∧(4:Int)≤ (hd.length:Int))=true:=decide_eq_true (by omega)
   refine ko (And.intro @zJ_ @e1') ?_
   first|with_reducible refine ks [] @zJ_ ?_|refine kp @zJ_ ?_
   refine Ow.callC rfl rfl Tryd.call31 (fun w' hw'=>aa6_ (hd.drop 4) v l w' ((Gr.i hG1 (fun c hc=>by simp[hc])).slV hw' rfl rfl z4_) (by omega)) (fun B1 v18 D18 hA18 hB18 hN18 hS18=> ?_)
   have hN:New w.heap.size ((bw,wrO s qq.1 qq.2):: (D1++DG)++D18):=New.app (L:=(bw,wrO s qq.1 qq.2):: (D1++DG)) hNr (hN18.mono hB18)
   unfold OfIS at hS18
   by_cases hok:Qw_ l l.length=true
   ·rw[if_pos hok] at hS18
    obtain⟨bi,rfl,hbi⟩:=hS18
    have hri: (decide ((hd.drop 4).length=4)&&decide (l.length≤200))=q6_ (hd.drop 4) l:=by unfold q6_;rw[hok,Bool.true_and]
    rw[hri]
    cases hr:q6_ (hd.drop 4) l with
    |false=>
     rw[if_neg (by simp)]
     refine ko @zJ_ ?_
     first|with_reducible refine ks [] @zJ_ ?_|refine kp @zJ_ ?_
     refine⟨_,(ke @zJ_), ?_⟩
     exact⟨Ext.of_new hN,rfl⟩
    |true=>
     refine ko @zJ_ ?_
     refine Cw.rebaseX (S1:=fun v D=>v=if z9_ (wM_ (hd.drop 4) l)=b then .tuple #[vp bi 0,vi 0] else .tuple #[.pointer none,vi 2]) (by rfl) (fun w1 hw1=> ?_) (fun v' D' hD' hv'=> ?_)
     ·have hC1:=hC.newP hw1 hN
      have hb1:w1.heap[bi]? =some (ixO (hd.drop 4) v (ke_ l)):=hw1.has _ _ (by simp[hbi])
      have hv1:RwSl w1 v l:=(Gr.i hG1 (fun c hc=>by simp[hc])).slV hw1 rfl rfl z4_
      obtain⟨-,h4,-⟩:=kp_ hr
      clear hw1
      first|with_reducible refine ks [] (And.intro @zJ_ @hb1) ?_|refine kp (And.intro @zJ_ @hb1) ?_
      refine Ow.callC rfl rfl Tryd.call12 (fun w' hw'=>Rets.toX (ZA_ (hd.drop 4) v l w' (hC1.newP hw' trivial) (hv1.oldN hw' trivial) (by omega) (by omega))) (fun B2 v2 D2 hA2 hB2 hN2 hS2=> ?_)
      obtain⟨rfl,Z,hZ,rfl⟩:=hS2
      rw[agf_ hr hZ,List.append_nil]
      refine ko @zJ_ ?_
      by_cases hbb:z9_ (wM_ (hd.drop 4) l)=b
      ·have d5: (z9_ (wM_ (hd.drop 4) l) !=b)=false:=bne_eq_false_iff_eq.2 hbb
       rw[if_pos hbb]
       first|with_reducible refine ks [] (And.intro @zJ_ @d5) ?_|refine kp (And.intro @zJ_ @d5) ?_
       refine⟨_,(ke @zJ_), ?_⟩
       exact⟨Ext.refl w1 [],rfl⟩
      ·have d5: (z9_ (wM_ (hd.drop 4) l) !=b)=true:=bne_iff_ne.2 hbb
       rw[if_neg hbb]
       first|with_reducible refine ks [] (And.intro @zJ_ @d5) ?_|refine kp (And.intro @zJ_ @d5) ?_
       refine⟨_,(ke @zJ_), ?_⟩
       exact⟨Ext.refl w1 [],rfl⟩
     ·refine⟨Ext.of_new (hN.app hD'), ?_⟩
      by_cases hbb:z9_ (wM_ (hd.drop 4) l)=b
      ·rw[if_pos hbb] at hv'
       rw[if_pos ⟨he,rfl,hbb⟩]
       exact⟨bi,hv',v,(by simp[hbi]),Gr.i hG1 (fun c hc=>by simp[hc])⟩
      ·rw[if_neg hbb] at hv'
       rw[if_neg (fun h=>hbb h.2.2)]
       exact hv'
   ·rw[if_neg hok] at hS18
    subst hS18
    rw[if_neg (fun h=>hok (kp_ h.2.1).1)]
    refine ko @zJ_ ?_
    first|with_reducible refine ks [] @zJ_ ?_|refine kp @zJ_ ?_
    refine⟨_,(ke @zJ_), ?_⟩
    exact⟨Ext.of_new hN,rfl⟩
  ·have e1': (wG_ s qq.1 qq.2 !=0)=true:=bne_iff_ne.2 he
   rw[if_neg (fun h=>he h.1)]
   refine ko (And.intro @zJ_ @e1') ?_
   first|with_reducible refine ks [] @zJ_ ?_|refine kp @zJ_ ?_
   refine⟨_,(ke @zJ_), ?_⟩
   exact⟨Ext.of_new hNr,rfl⟩
end Go.Proofs
end
section
open Go Go.Proofs Go.Sx Go.Dig
namespace Go.Proofs
set_option maxRecDepth 10000
set_option maxHeartbeats 1000000
set_option linter.unusedSimpArgs false
set_option linter.defProp false
def anc_:=And.intro (@zf_) (@zg_)
end Go.Proofs
end
section
open Go Go.Proofs Go.Sx Go.StP Go.Flo Go.Dig
namespace Go.Proofs
set_option maxRecDepth 10000
set_option maxHeartbeats 400000
set_option linter.unusedSimpArgs false
theorem ak2_ (b o:Nat):qw_ Tryd.prog .eql 41 (vp b o) (.pointer none)=some (.bool false):=by
 simp[qw_,eqX,qp_,qa_,Tryd.underlying41,vp]
theorem ajd_:qw_ Tryd.prog .eql 41 (.pointer none) (.pointer none)=some (.bool true):=by
 simp[qw_,eqX,qp_,qa_,Tryd.underlying41]
theorem ajQ_ (v:Value) (n:Nat) (E:TypeId) (fz:Nat×Nat):zn_ (some (false,n)) (some (.cells #[v] E fz)) 0=some v:=(rfl)
theorem agL_:Value.cells (.pointer none)= #[.pointer none]:=(rfl)
theorem afg_ (b o:Nat):Value.cells (vp b o)= #[vp b o]:=(rfl)
def XN_ (p:Nat→Bool) (i j:Nat):Nat:=if i<j then(if p ((i+j) / 2)=true then XN_ p i ((i+j) / 2) else XN_ p ((i+j) / 2+1) j) else i
termination_by j - i
decreasing_by all_goals omega
theorem vO_ (p:Nat→Bool): ∀ (n i j:Nat),j - i≤n→i≤j→i≤XN_ p i j∧XN_ p i j≤j∧(XN_ p i j=i∨p (XN_ p i j - 1)=false)∧(XN_ p i j=j∨p (XN_ p i j)=true)
 |0,i,j,h,hij=>by
  rw[XN_,if_neg (by omega)]
  exact⟨Nat.le_refl _,hij, .inl rfl, .inl (by omega)⟩
 |n+1,i,j,h,hij=>by
  rw[XN_]
  by_cases hlt:i<j
  ·rw[if_pos hlt]
   cases hp:p ((i+j) / 2) with
   |true=>
    rw[if_pos rfl]
    obtain⟨h1,h2,h3,h4⟩:=vO_ p n i ((i+j) / 2) (by omega) (by omega)
    refine⟨h1,by omega,h3, ?_⟩
    rcases h4 with h4|h4
    ·right;rw[h4];exact hp
    ·exact .inr h4
   |false=>
    rw[if_neg (by simp)]
    obtain⟨h1,h2,h3,h4⟩:=vO_ p n ((i+j) / 2+1) j (by omega) (by omega)
    refine⟨by omega,h2, ?_,h4⟩
    rcases h3 with h3|h3
    ·right;rw[h3,Nat.add_sub_cancel];exact hp
    ·exact .inr h3
  ·rw[if_neg hlt]
   exact⟨Nat.le_refl _,hij, .inl rfl, .inl (by omega)⟩
section
variable {P:Program} {w0:World} {f:Fr} {L:za_} {N:Fr→za_→Prop} {ops:Array Oper} {rest:List Oper} {md:Md} {d:Option Tmp} {ty:TypeId} {ps:String} {af:Array Edge} {g:Option (Nat×Bool)}
end
structure SrG where
 i:Nat
 j:Nat
set_option linter.defProp false
def alY_:=And.intro (@zf_) (And.intro (@zg_) (@vF_))
set_option linter.defProp false
def Xz_:=And.intro (And.intro (And.intro (And.intro (@zf_) (@zg_)) (And.intro (@ajQ_) (@agL_))) (And.intro (And.intro (@afg_) (@jI_)) (And.intro (@aaN_) (And.intro (@af6_) (@ak2_))))) (And.intro (And.intro (And.intro (@ajd_) (@x1_)) (And.intro (@vI_) (@vl_))) (And.intro (And.intro (@vn_) (@qS_)) (And.intro (@q3_) (And.intro (@Sx.tup2_0) (@Sx.tup2_1)))))
theorem abJ_ (bi:Nat) (s:List UInt8) (l:List RwL) (w:World) (h:IxIn w bi s l) (hl:l.length<1000000):
  Rets Tryd.prog 54 #[vp bi 0] w (XS w [] (fun v D=>GrI D 45 34 v l.length (l.map rwC).flatten)):=by
 obtain⟨x,h1,h2⟩:=id h
 refine Rets.enterX Tryd.func54 rfl (rs:= [.tmp 2]) Tryd.results54 Tryd.ntmps54 (fun p hp=>by cases hp) (by simp[keys]) ?_
 refine kf ?_
 first|with_reducible refine ks [] (And.intro @Xz_ @h1) ?_|refine kp (And.intro @Xz_ @h1) ?_
 refine Ow.callX (Y:= []) (by simp) rfl rfl Tryd.call37 (fun w' hw' hX hn=>wH_ x l w' (h2.oldN hw' trivial) hl) (fun v2 D2 hC2 hS2=> ?_)
 rw[List.append_nil]
 refine ko @Xz_ ?_
 first|with_reducible refine ks [] @Xz_ ?_|refine kp @Xz_ ?_
 refine⟨_,(ke @Xz_), ?_⟩
 exact⟨Ext.of_new (New.of_le fun c hc=>(hC2.new c hc).elim (fun h=>by cases h) fun h=>h.2),Gr.i hS2 fun p hp=>hp⟩
theorem adI_ (bi:Nat) (s:List UInt8) (l:List RwL) (w:World) (h:IxIn w bi s l):Rets Tryd.prog 19 #[vp bi 0] w (fun v D=>v=vs s∧D= []):=by
 obtain⟨x,h1,h2⟩:=id h
 refine Rets.enterV Tryd.func19 rfl (rs:= [.tmp 2]) Tryd.results19 Tryd.ntmps19 ?_
 refine kf ?_
 first|with_reducible refine ks [] (And.intro @Xz_ @h1) ?_|refine kp (And.intro @Xz_ @h1) ?_
 refine⟨_,(ke @Xz_),trivial, ?_⟩
 rfl
def askP (l:List RwL) (x:IdL) (from_:Nat) (k:Nat):Bool:=decide (0≤wk_ (l.getD (from_+k) rw0).id x)
def ajk_ (pre:List UInt8) (r:RwL):Bool:=decide (pre.length≤ (hexV r.id.l).length)&& ((hexV r.id.l).take pre.length==pre)
def alj_ (l:List RwL) (pre:List UInt8):List RwL:=l.filter (ajk_ pre)
structure UnG where
 k:Nat
 v:Value
 D1:za_
 DG:za_
end Go.Proofs
end
section
open Go Go.Proofs Go.Sx Go.StP Go.Flo
namespace Go.Proofs
set_option maxRecDepth 100000
set_option maxHeartbeats 1000000
set_option linter.unusedSimpArgs false
structure LnL where
 id:IdL
 share:Int
 place:Int
 spot:Int
def lnC (r:LnL):List Value:=r.id.l.map v8++ ([vi r.share]++ ([vi r.place]++ ([vi r.spot])))
def ln0:LnL:=⟨id0,0,0,0⟩
theorem z7_ (r:LnL): (lnC r).length=35:=by simp[lnC,r.id.h]
theorem q8_ (r:LnL):Value.cells (.agg (lnC r).toArray)=(lnC r).toArray:=ze_ _
theorem ZE_ (r:LnL): (lnC r).all Value.oneCell'=true:=by
 unfold lnC
 simp only[List.all_append,List.all_cons,List.all_nil,ZF_,Bool.and_true,Bool.true_and]
 rfl
theorem X8_:qb_ Tryd.prog 38=some (.agg (lnC ln0).toArray):=id (by kernel_rfl)
theorem agn_:qi_ Tryd.prog 38=some (true,35):=id (by kernel_rfl)
theorem ahn_ (r:LnL):lnC r=([]:List Value)++ ((r.id.l.map v8)++ ([vi r.share]++ ([vi r.place]++ ([vi r.spot])))):=by
 unfold lnC;simp only[List.append_assoc,List.nil_append,List.append_nil]
theorem kK_ (r:LnL) (E:TypeId) (fz:Nat×Nat):zn_ (some (true,32)) (some (.cells (lnC r).toArray E fz)) 0=some (Value.agg (a8 r.id.l)):=by
 rw[ahn_,xX_ _ _ _ E fz (by simp) (by simp[r.id.h])];rfl
theorem ady_ (r:LnL):lnC r=((r.id.l.map v8))++ (([vi r.share])++ ([vi r.place]++ ([vi r.spot]))):=by
 unfold lnC;simp only[List.append_assoc,List.nil_append,List.append_nil]
theorem vS_ (r:LnL) (n:Nat) (E:TypeId) (fz:Nat×Nat):zn_ (some (false,n)) (some (.cells (lnC r).toArray E fz)) 32=some (vi r.share):=by
 rw[ady_];exact qz_ _ _ _ n E fz (by simp[r.id.h])
theorem aeH_ (r:LnL) (x:Int) (a:Bool) (E:TypeId):zk_ (some (a,1)) (some (.cells (lnC r).toArray E (0,0))) 32 (vi x)=some (.cells (lnC {r with share:=x}).toArray E (0,0)):=by
 rw[ady_ r,ady_ {r with share:=x}];exact zV_ _ _ _ _ a _ E (by simp[r.id.h]) rfl (rfl) rfl (rfl)
theorem acY_ (r:LnL):lnC r=((r.id.l.map v8)++ ([vi r.share]))++ (([vi r.place])++ ([vi r.spot])):=by
 unfold lnC;simp only[List.append_assoc,List.nil_append,List.append_nil]
theorem w5_ (r:LnL) (n:Nat) (E:TypeId) (fz:Nat×Nat):zn_ (some (false,n)) (some (.cells (lnC r).toArray E fz)) 33=some (vi r.place):=by
 rw[acY_];exact qz_ _ _ _ n E fz (by simp[r.id.h])
theorem aeT_ (r:LnL) (x:Int) (a:Bool) (E:TypeId):zk_ (some (a,1)) (some (.cells (lnC r).toArray E (0,0))) 33 (vi x)=some (.cells (lnC {r with place:=x}).toArray E (0,0)):=by
 rw[acY_ r,acY_ {r with place:=x}];exact zV_ _ _ _ _ a _ E (by simp[r.id.h]) rfl (rfl) rfl (rfl)
theorem adk_ (r:LnL):lnC r=((r.id.l.map v8)++ ([vi r.share])++ ([vi r.place]))++ (([vi r.spot])++ (([]:List Value))):=by
 unfold lnC;simp only[List.append_assoc,List.nil_append,List.append_nil]
theorem JU_ (r:LnL) (n:Nat) (E:TypeId) (fz:Nat×Nat):zn_ (some (false,n)) (some (.cells (lnC r).toArray E fz)) 34=some (vi r.spot):=by
 rw[adk_];exact qz_ _ _ _ n E fz (by simp[r.id.h])
theorem aek_ (r:LnL) (x:Int) (a:Bool) (E:TypeId):zk_ (some (a,1)) (some (.cells (lnC r).toArray E (0,0))) 34 (vi x)=some (.cells (lnC {r with spot:=x}).toArray E (0,0)):=by
 rw[adk_ r,adk_ {r with spot:=x}];exact zV_ _ _ _ _ a _ E (by simp[r.id.h]) rfl (rfl) rfl (rfl)
theorem v9_ (r:LnL) (E:TypeId) (fz:Nat×Nat):zn_ (some (true,35)) (some (.cells (lnC r).toArray E fz)) 0=some (.agg (lnC r).toArray):=jK_ _ E fz 35 (by rw[List.size_toArray,z7_])
theorem afG_ (old:Array Value) (r:LnL) (a:Bool) (E:TypeId) (h:old.size=35):zk_ (some (a,35)) (some (.cells old E (0,0))) 0 (.agg (lnC r).toArray)=some (.cells (lnC r).toArray E (0,0)):=j6_ _ a old E (z7_ r) (ZE_ r) h
theorem xJ_ (r r':LnL) (a:Bool) (E:TypeId):zk_ (some (a,35)) (some (.cells (lnC r').toArray E (0,0))) 0 (.agg (lnC r).toArray)=some (.cells (lnC r).toArray E (0,0)):=afG_ _ r a E (by rw[List.size_toArray,z7_])
theorem agm_ (r:LnL):jb_ (Jn_ Tryd.prog 38) (qb_ Tryd.prog 38) [(0,Value.agg (a8 r.id.l)),(1,vi r.share),(2,vi r.place),(3,vi r.spot)]=some (.agg (lnC r).toArray):=by
 have hp:Jn_ Tryd.prog 38=some [(0,32),(32,1),(33,1),(34,1)]:=id (by kernel_rfl)
 rw[hp,X8_]
 have e0: (lnC ln0).toArray=(([]:List Value)++ ((ln0.id.l.map v8)++ ([vi ln0.share]++ ([vi ln0.place]++ ([vi ln0.spot]))))).toArray:=by congr 1<;>simp only[lnC,List.append_assoc,List.nil_append,List.append_nil]
 have q0:xL_ (([]:List Value)++ ((ln0.id.l.map v8)++ ([vi ln0.share]++ ([vi ln0.place]++ ([vi ln0.spot]))))).toArray 0 (r.id.l.map v8)=(([]:List Value)++ ((r.id.l.map v8)++ ([vi ln0.share]++ ([vi ln0.place]++ ([vi ln0.spot]))))).toArray:=j2_ _ _ _ _ (by simp) (by simp[ln0.id.h,r.id.h])
 have s0: (([]:List Value)++ ((ln0.id.l.map v8)++ ([vi ln0.share]++ ([vi ln0.place]++ ([vi ln0.spot]))))).toArray.size=35:=by simp[r.id.h,ln0.id.h]
 have z0: (Value.cells (Value.agg (a8 r.id.l))).toList=r.id.l.map v8:=by rw[ze_];rfl
 have y0: (Value.cells (Value.agg (a8 r.id.l))).size=32:=by rw[←Array.length_toList,z0];simp[r.id.h]
 have e1: (([]:List Value)++ ((r.id.l.map v8)++ ([vi ln0.share]++ ([vi ln0.place]++ ([vi ln0.spot]))))).toArray=(((r.id.l.map v8))++ (([vi ln0.share])++ ([vi ln0.place]++ ([vi ln0.spot])))).toArray:=by congr 1<;>simp only[lnC,List.append_assoc,List.nil_append,List.append_nil]
 have q1:xL_ (((r.id.l.map v8))++ (([vi ln0.share])++ ([vi ln0.place]++ ([vi ln0.spot])))).toArray 32 ([vi r.share])=(((r.id.l.map v8))++ (([vi r.share])++ ([vi ln0.place]++ ([vi ln0.spot])))).toArray:=j2_ _ _ _ _ (by simp[r.id.h]) (rfl)
 have s1: (((r.id.l.map v8))++ (([vi ln0.share])++ ([vi ln0.place]++ ([vi ln0.spot])))).toArray.size=35:=by simp[r.id.h,ln0.id.h]
 have z1: (Value.cells (vi r.share)).toList= [vi r.share]:=by rfl
 have y1: (Value.cells (vi r.share)).size=1:=by rw[←Array.length_toList,z1];simp
 have e2: (((r.id.l.map v8))++ (([vi r.share])++ ([vi ln0.place]++ ([vi ln0.spot])))).toArray=(((r.id.l.map v8)++ ([vi r.share]))++ (([vi ln0.place])++ ([vi ln0.spot]))).toArray:=by congr 1<;>simp only[lnC,List.append_assoc,List.nil_append,List.append_nil]
 have q2:xL_ (((r.id.l.map v8)++ ([vi r.share]))++ (([vi ln0.place])++ ([vi ln0.spot]))).toArray 33 ([vi r.place])=(((r.id.l.map v8)++ ([vi r.share]))++ (([vi r.place])++ ([vi ln0.spot]))).toArray:=j2_ _ _ _ _ (by simp[r.id.h]) (rfl)
 have s2: (((r.id.l.map v8)++ ([vi r.share]))++ (([vi ln0.place])++ ([vi ln0.spot]))).toArray.size=35:=by simp[r.id.h,ln0.id.h]
 have z2: (Value.cells (vi r.place)).toList= [vi r.place]:=by rfl
 have y2: (Value.cells (vi r.place)).size=1:=by rw[←Array.length_toList,z2];simp
 have e3: (((r.id.l.map v8)++ ([vi r.share]))++ (([vi r.place])++ ([vi ln0.spot]))).toArray=(((r.id.l.map v8)++ ([vi r.share])++ ([vi r.place]))++ (([vi ln0.spot])++ (([]:List Value)))).toArray:=by congr 1<;>simp only[lnC,List.append_assoc,List.nil_append,List.append_nil]
 have q3:xL_ (((r.id.l.map v8)++ ([vi r.share])++ ([vi r.place]))++ (([vi ln0.spot])++ (([]:List Value)))).toArray 34 ([vi r.spot])=(((r.id.l.map v8)++ ([vi r.share])++ ([vi r.place]))++ (([vi r.spot])++ (([]:List Value)))).toArray:=j2_ _ _ _ _ (by simp[r.id.h]) (rfl)
 have s3: (((r.id.l.map v8)++ ([vi r.share])++ ([vi r.place]))++ (([vi ln0.spot])++ (([]:List Value)))).toArray.size=35:=by simp[r.id.h,ln0.id.h]
 have z3: (Value.cells (vi r.spot)).toList= [vi r.spot]:=by rfl
 have y3: (Value.cells (vi r.spot)).size=1:=by rw[←Array.length_toList,z3];simp
 have e4: (((r.id.l.map v8)++ ([vi r.share])++ ([vi r.place]))++ (([vi r.spot])++ (([]:List Value)))).toArray=(lnC r).toArray:=by congr 1<;>simp only[lnC,List.append_assoc,List.nil_append,List.append_nil]
 simp only[jb_]
 rw[e0]
 unfold Sx.fillV
 simp only[List.getElem?_cons_zero,List.getElem?_cons_succ,z0,y0]
 rw[if_pos ⟨trivial,by rw[s0];decide⟩,q0]
 rw[e1]
 unfold Sx.fillV
 simp only[List.getElem?_cons_zero,List.getElem?_cons_succ,z1,y1]
 rw[if_pos ⟨trivial,by rw[s1];decide⟩,q1]
 rw[e2]
 unfold Sx.fillV
 simp only[List.getElem?_cons_zero,List.getElem?_cons_succ,z2,y2]
 rw[if_pos ⟨trivial,by rw[s2];decide⟩,q2]
 rw[e3]
 unfold Sx.fillV
 simp only[List.getElem?_cons_zero,List.getElem?_cons_succ,z3,y3]
 rw[if_pos ⟨trivial,by rw[s3];decide⟩,q3]
 rw[e4];rfl
structure ShL where
 name:List UInt8
 bytes:List UInt8
def shC (r:ShL):List Value:= [vs r.name]++ ([vs r.bytes])
def sh0:ShL:=⟨[],[]⟩
theorem qv_ (r:ShL): (shC r).length=2:=by simp[shC]
theorem jO_ (r:ShL):Value.cells (.agg (shC r).toArray)=(shC r).toArray:=ze_ _
theorem Xe_ (r:ShL): (shC r).all Value.oneCell'=true:=by
 unfold shC
 simp only[List.all_append,List.all_cons,List.all_nil,ZF_,Bool.and_true,Bool.true_and]
 rfl
theorem zrSh:qb_ Tryd.prog 26=some (.agg (shC sh0).toArray):=id (by kernel_rfl)
theorem akN_:qi_ Tryd.prog 26=some (true,2):=id (by kernel_rfl)
theorem ahf_ (r:ShL):shC r=([]:List Value)++ (([vs r.name])++ ([vs r.bytes])):=by
 unfold shC;simp only[List.append_assoc,List.nil_append,List.append_nil]
theorem aau_ (r:ShL) (n:Nat) (E:TypeId) (fz:Nat×Nat):zn_ (some (false,n)) (some (.cells (shC r).toArray E fz)) 0=some (vs r.name):=by
 rw[ahf_];exact qz_ _ _ _ n E fz (by simp)
theorem aix_ {w:World} {v:Value} {l:List ShL} {b off:Nat} {arr:Array Value} {E:TypeId} {fz:Nat×Nat} (h:RowS 2 shC sh0 w v l b off arr E fz) {k:Nat} (hk:k<l.length) (n:Nat):zn_ (some (false,n)) (some (.cells arr E fz)) (off+k*2+0)=some (vs (l.getD k sh0).name):=by
 rw[RowS.cell h hk (by omega)];generalize l.getD k sh0=r;rw[ahf_];exact aa1_ _ _ _ (by simp)
theorem ahr_ (r:ShL):shC r=(([vs r.name]))++ (([vs r.bytes])++ (([]:List Value))):=by
 unfold shC;simp only[List.append_assoc,List.nil_append,List.append_nil]
theorem agX_ (r:ShL) (n:Nat) (E:TypeId) (fz:Nat×Nat):zn_ (some (false,n)) (some (.cells (shC r).toArray E fz)) 1=some (vs r.bytes):=by
 rw[ahr_];exact qz_ _ _ _ n E fz (by simp)
theorem aim_ {w:World} {v:Value} {l:List ShL} {b off:Nat} {arr:Array Value} {E:TypeId} {fz:Nat×Nat} (h:RowS 2 shC sh0 w v l b off arr E fz) {k:Nat} (hk:k<l.length) (n:Nat):zn_ (some (false,n)) (some (.cells arr E fz)) (off+k*2+1)=some (vs (l.getD k sh0).bytes):=by
 rw[RowS.cell h hk (by omega)];generalize l.getD k sh0=r;rw[ahr_];exact aa1_ _ _ _ (by simp)
theorem wy_ (r:ShL) (E:TypeId) (fz:Nat×Nat):zn_ (some (true,2)) (some (.cells (shC r).toArray E fz)) 0=some (.agg (shC r).toArray):=jK_ _ E fz 2 (by rw[List.size_toArray,qv_])
theorem af4_ (old:Array Value) (r:ShL) (a:Bool) (E:TypeId) (h:old.size=2):zk_ (some (a,2)) (some (.cells old E (0,0))) 0 (.agg (shC r).toArray)=some (.cells (shC r).toArray E (0,0)):=j6_ _ a old E (qv_ r) (Xe_ r) h
theorem xI_ (r r':ShL) (a:Bool) (E:TypeId):zk_ (some (a,2)) (some (.cells (shC r').toArray E (0,0))) 0 (.agg (shC r).toArray)=some (.cells (shC r).toArray E (0,0)):=af4_ _ r a E (by rw[List.size_toArray,qv_])
theorem af1_ (r:ShL):jb_ (Jn_ Tryd.prog 26) (qb_ Tryd.prog 26) [(0,vs r.name),(1,vs r.bytes)]=some (.agg (shC r).toArray):=by
 have hp:Jn_ Tryd.prog 26=some [(0,1),(1,1)]:=id (by kernel_rfl)
 rw[hp,zrSh]
 have e0: (shC sh0).toArray=(([]:List Value)++ (([vs sh0.name])++ ([vs sh0.bytes]))).toArray:=by congr 1<;>simp only[shC,List.append_assoc,List.nil_append,List.append_nil]
 have q0:xL_ (([]:List Value)++ (([vs sh0.name])++ ([vs sh0.bytes]))).toArray 0 ([vs r.name])=(([]:List Value)++ (([vs r.name])++ ([vs sh0.bytes]))).toArray:=j2_ _ _ _ _ (by simp) (rfl)
 have s0: (([]:List Value)++ (([vs sh0.name])++ ([vs sh0.bytes]))).toArray.size=2:=by simp
 have z0: (Value.cells (vs r.name)).toList= [vs r.name]:=by rfl
 have y0: (Value.cells (vs r.name)).size=1:=by rw[←Array.length_toList,z0];simp
 have e1: (([]:List Value)++ (([vs r.name])++ ([vs sh0.bytes]))).toArray=((([vs r.name]))++ (([vs sh0.bytes])++ (([]:List Value)))).toArray:=by congr 1<;>simp only[shC,List.append_assoc,List.nil_append,List.append_nil]
 have q1:xL_ ((([vs r.name]))++ (([vs sh0.bytes])++ (([]:List Value)))).toArray 1 ([vs r.bytes])=((([vs r.name]))++ (([vs r.bytes])++ (([]:List Value)))).toArray:=j2_ _ _ _ _ (by simp) (rfl)
 have s1: ((([vs r.name]))++ (([vs sh0.bytes])++ (([]:List Value)))).toArray.size=2:=by simp
 have z1: (Value.cells (vs r.bytes)).toList= [vs r.bytes]:=by rfl
 have y1: (Value.cells (vs r.bytes)).size=1:=by rw[←Array.length_toList,z1];simp
 have e2: ((([vs r.name]))++ (([vs r.bytes])++ (([]:List Value)))).toArray=(shC r).toArray:=by congr 1<;>simp only[shC,List.append_assoc,List.nil_append,List.append_nil]
 simp only[jb_]
 rw[e0]
 unfold Sx.fillV
 simp only[List.getElem?_cons_zero,List.getElem?_cons_succ,z0,y0]
 rw[if_pos ⟨trivial,by rw[s0];decide⟩,q0]
 rw[e1]
 unfold Sx.fillV
 simp only[List.getElem?_cons_zero,List.getElem?_cons_succ,z1,y1]
 rw[if_pos ⟨trivial,by rw[s1];decide⟩,q1]
 rw[e2];rfl
theorem Ze_ (r:LnL):j1_ (lnC r).toArray 0 r.id.l:=by
 intro j hj
 rw[Nat.zero_add,List.getElem?_toArray,ahn_,List.nil_append,List.getElem?_append_left (by simpa using hj),List.getElem?_map,List.getElem?_eq_getElem hj,List.getD_eq_getElem?_getD,List.getElem?_eq_getElem hj]
 rfl
def xB_ (s:List UInt8):Bool:=s.all (fun c=> !(decide (c<33) ||decide (126<c)))&& (!(s== [])&&decide (s.length≤40))
def numM (n:Int):Bool:=decide (0≤n)&&decide (n≤1099511627775)
def wA_ (c:Nat→Int):Nat→Bool
 |0=>true
 |k+1=>wA_ c k&& (decide (k=0) ||decide (c k<0))
theorem kj_ {c:Nat→Int} {k:Nat}: ∀ {n:Nat},k≤n→wA_ c n=true→wA_ c k=true
 |0,h,h'=>by
  obtain rfl:k=0:=by omega
  exact h'
 |n+1,h,h'=>by
  by_cases hk:k=n+1
  ·subst hk;exact h'
  ·refine kj_ (n:=n) (by omega) ?_
   unfold wA_ at h'
   rw[Bool.and_eq_true] at h'
   exact h'.1
def v7_ (l:List (List UInt8)) (k:Nat):Int:=WP_ (l.getD (k - 1) []) (l.getD k [])
def wi_ (l:List LnL) (k:Nat):Int:=wk_ (l.getD (k - 1) ln0).id (l.getD k ln0).id
abbrev aeo_ (w:World) (v:Value) (l:List (List UInt8)):Prop:=SlV 1 Vk_ [] w v l
abbrev LnSl (w:World) (v:Value) (l:List LnL):Prop:=SlV 35 lnC ln0 w v l
theorem wj_ {w:World} {v:Value} {l:List (List UInt8)} {b off:Nat} {arr:Array Value} {E:TypeId} {fz:Nat×Nat} (h:RowS 1 Vk_ [] w v l b off arr E fz) {k:Nat} (hk:k<l.length) (n:Nat):
  zn_ (some (false,n)) (some (.cells arr E fz)) (off+k)=some (vs (l.getD k [])):=by
 have:=h.cell (j:=0) (n:=n) hk (by omega)
 rwa [Nat.mul_one,Nat.add_zero] at this
set_option linter.defProp false
def zw_:=And.intro (And.intro (@zf_) (And.intro (@zg_) (@q8_))) (And.intro (@kK_) (And.intro (@aau_) (@jO_)))
theorem vh_ (a b:LnL) (w:World):Rets Tryd.prog 30 #[.agg (lnC a).toArray, .agg (lnC b).toArray] w (fun v D=>v=vi (wk_ a.id b.id)∧D= []):=by
 refine Rets.enterV Tryd.func30 rfl (rs:= [.tmp 4]) Tryd.results30 Tryd.ntmps30 ?_
 refine kf ?_
 first|with_reducible refine ks [] @zw_ ?_|refine kp @zw_ ?_
 refine Ow.box rfl rfl fun b1 hb1 hw1=> ?_
 simp only[xs_,xf_,xg_,ze_,List.nil_append,List.cons_append]
 refine Ow.go rfl ?_
 simp(disch:=(first|assumption|omega| (simp only[kb_,kd_,UInt64.reduceToNat];try omega))) only[↓Sx.S0,Sx.S1,Tryd.fx,zw_,Nat.reduceAdd,Nat.reducePow,Int.reducePow,Nat.reduceBEq, ↓reduceIte,UInt8.reduceToNat,UInt16.reduceToNat,UInt32.reduceToNat,UInt64.reduceToNat,Int.reduceToNat]
 refine Ow.box rfl rfl fun b2 hb2 hw2=> ?_
 simp only[xs_,xf_,xg_,ze_,List.nil_append,List.cons_append]
 refine Ow.go rfl ?_
 simp(disch:=(first|assumption|omega| (simp only[kb_,kd_,UInt64.reduceToNat];try omega))) only[↓Sx.S0,Sx.S1,Tryd.fx,zw_,Nat.reduceAdd,Nat.reducePow,Int.reducePow,Nat.reduceBEq, ↓reduceIte,UInt8.reduceToNat,UInt16.reduceToNat,UInt32.reduceToNat,UInt64.reduceToNat,Int.reduceToNat]
 obtain⟨h12,-⟩:=hb2
 have hn:b1≠b2:=by omega
 first|with_reducible refine ks [] @zw_ ?_|refine kp @zw_ ?_
 refine Cw.regionS [b1,b2] [0,1,2,3,4,5] [] (by kernel_rfl) (by kernel_rfl) (by kernel_rfl) ?_
 simp only[zm_, ↓zd_, ↓zb_, ↓zE_, ↓zD_,zc_]
 refine kq @zw_ ?_
 refine Ow.soft rfl rfl rfl ?_
 refine Ow.callFV rfl Tryd.call36 (fun w' hw'=>ahs_ (x:=a.id) (y:=b.id) (hw'.has b1 (.cells (lnC a).toArray 38 (0,0)) (by simp)) (Ze_ a) (hw'.has b2 (.cells (lnC b).toArray 38 (0,0)) (by simp)) (Ze_ b)) ?_
 with_reducible refine Ow.nil ?_
 refine⟨by intro b hb;simp only[List.mem_cons,List.not_mem_nil,or_false] at hb;(try subst hb);rfl, ?_⟩
 refine kq @zw_ ?_
 refine⟨_,(ke @zw_),⟨hw1,hw2,trivial⟩, ?_⟩
 rfl
theorem abz_ (a b:ShL) (w:World):Rets Tryd.prog 16 #[.agg (shC a).toArray, .agg (shC b).toArray] w (fun v D=>v=vi (WP_ a.name b.name)∧D= []):=by
 refine Rets.enterV Tryd.func16 rfl (rs:= [.tmp 4]) Tryd.results16 Tryd.ntmps16 ?_
 refine kf ?_
 first|with_reducible refine ks [] @zw_ ?_|refine kp @zw_ ?_
 refine Ow.box rfl rfl fun b1 hb1 hw1=> ?_
 simp only[xs_,xf_,xg_,ze_,List.nil_append,List.cons_append]
 refine Ow.go rfl ?_
 simp(disch:=(first|assumption|omega| (simp only[kb_,kd_,UInt64.reduceToNat];try omega))) only[↓Sx.S0,Sx.S1,Tryd.fx,zw_,Nat.reduceAdd,Nat.reducePow,Int.reducePow,Nat.reduceBEq, ↓reduceIte,UInt8.reduceToNat,UInt16.reduceToNat,UInt32.reduceToNat,UInt64.reduceToNat,Int.reduceToNat]
 refine Ow.box rfl rfl fun b2 hb2 hw2=> ?_
 simp only[xs_,xf_,xg_,ze_,List.nil_append,List.cons_append]
 refine Ow.go rfl ?_
 simp(disch:=(first|assumption|omega| (simp only[kb_,kd_,UInt64.reduceToNat];try omega))) only[↓Sx.S0,Sx.S1,Tryd.fx,zw_,Nat.reduceAdd,Nat.reducePow,Int.reducePow,Nat.reduceBEq, ↓reduceIte,UInt8.reduceToNat,UInt16.reduceToNat,UInt32.reduceToNat,UInt64.reduceToNat,Int.reduceToNat]
 obtain⟨h12,-⟩:=hb2
 have hn:b1≠b2:=by omega
 first|with_reducible refine ks [] @zw_ ?_|refine kp @zw_ ?_
 refine Ow.callFV rfl Tryd.call17 (fun w' hw'=>wS_ a.name b.name w') ?_
 refine ko @zw_ ?_
 refine⟨_,(ke @zw_),⟨hw1,hw2,trivial⟩, ?_⟩
 rfl
theorem KI_ (s:List UInt8) (w:World) (hs:s.length<1099511627776):Rets Tryd.prog 53 #[vs s] w (fun v D=>v= .bool (xB_ s)∧D= []):=by
 refine Rets.enterV Tryd.func53 rfl (rs:= [.tmp 2]) Tryd.results53 Tryd.ntmps53 ?_
 refine kf ?_
 first|with_reducible refine ks [] @zw_ ?_|refine kp @zw_ ?_
 refine Cw.loopG (G:=Nat) [7,8,3,9,10,11,12,13,14,15,16,17,18,2,19,6] (fun g=> [(2, .bool false),(6,vi g)]) (fun g=> []) (fun g=>g≤s.length∧(s.take g).all (fun c=> !(decide (c<33) ||decide (126<c)))=true) (fun g=>s.length - g) 0 rfl rfl ?_ ?_
 ·exact⟨Nat.zero_le _,rfl⟩
 intro g j hg
 refine kv ?_
 obtain⟨hg,hal⟩:=hg
 by_cases hlt:g<s.length
 ·have d1:decide ((g:Int)< (s.length:Int))=true:=decide_eq_true (by omega)
  have hts:=StP.take_snoc (z:=(0:UInt8)) hlt
  have hbad: ∀c,c=s.getD g 0→(decide (c<33) ||decide (126<c))=true→xB_ s=false:=by
   intro c hc h
   unfold xB_
   rw[Bool.and_eq_false_iff]
   left
   rw[List.all_eq_false]
   refine⟨c, ?_,by rw[h];simp⟩
   rw[hc,List.getD_eq_getElem?_getD,List.getElem?_eq_getElem hlt]
   exact List.getElem_mem hlt
  generalize hcc:s.getD g 0=c at*
  cases h1:decide (c<33) with
  |true=>
   first|with_reducible refine ks [] (And.intro @zw_ (And.intro @d1 (And.intro @hcc (@h1)))) ?_|refine kp (And.intro @zw_ (And.intro @d1 (And.intro @hcc (@h1)))) ?_
   refine⟨_,(ke @zw_),trivial, ?_⟩
   rw[hbad c rfl (by rw[h1];rfl)];rfl
  |false=>
   cases h2:decide (126<c) with
   |true=>
    first|with_reducible refine ks [] (And.intro @zw_ (And.intro @d1 (And.intro @hcc (And.intro @h1 (@h2))))) ?_|refine kp (And.intro @zw_ (And.intro @d1 (And.intro @hcc (And.intro @h1 (@h2))))) ?_
    refine⟨_,(ke @zw_),trivial, ?_⟩
    rw[hbad c rfl (by rw[h1,h2];rfl)];rfl
   |false=>
    first|with_reducible refine ks [] (And.intro @zw_ (And.intro @d1 (And.intro @hcc (And.intro @h1 (@h2))))) ?_|refine kp (And.intro @zw_ (And.intro @d1 (And.intro @hcc (And.intro @h1 (@h2))))) ?_
    refine Again.mk (G:=Nat) (g+1) (by show s.length - (g+1)<s.length - g;omega) ⟨hlt, ?_⟩ rfl rfl
    rw[hts,List.all_append,hal,List.all_cons,h1,h2];rfl
 ·obtain rfl:g=s.length:=by omega
  have d1:decide ((s.length:Int)< (s.length:Int))=false:=decide_eq_false (by omega)
  rw[List.take_length] at hal
  cases he:s== [] with
  |true=>
   have e1: (s != [])=false:=by unfold bne;rw[he];rfl
   have en:xB_ s=false:=by unfold xB_;rw[he];simp
   first|with_reducible refine ks [] (And.intro @zw_ (And.intro @d1 (@e1))) ?_|refine kp (And.intro @zw_ (And.intro @d1 (@e1))) ?_
   refine⟨_,(ke @zw_),trivial, ?_⟩
   rw[en];rfl
  |false=>
   have e1: (s != [])=true:=by unfold bne;rw[he];rfl
   have e2:decide ((s.length:Int)≤40)=decide (s.length≤40):=decide_eq_decide.2 (by omega)
   have en:xB_ s=decide (s.length≤40):=by unfold xB_;rw[hal,he];simp
   first|with_reducible refine ks [] (And.intro @zw_ (And.intro @d1 (And.intro @e1 (@e2)))) ?_|refine kp (And.intro @zw_ (And.intro @d1 (And.intro @e1 (@e2)))) ?_
   refine⟨_,(ke @zw_),trivial, ?_⟩
   rw[en];rfl
theorem Qm_ (n:Int) (w:World):Rets Tryd.prog 50 #[vi n] w (fun v D=>v= .bool (numM n)∧D= []):=by
 refine Rets.enterV Tryd.func50 rfl (rs:= [.tmp 2]) Tryd.results50 Tryd.ntmps50 ?_
 refine kf ?_
 unfold numM
 cases h1:decide (0≤n) with
 |true=>
  first|with_reducible refine ks [] (And.intro @zw_ @h1) ?_|refine kp (And.intro @zw_ @h1) ?_
  refine⟨_,(ke @zw_),trivial, ?_⟩
  rfl
 |false=>
  first|with_reducible refine ks [] (And.intro @zw_ @h1) ?_|refine kp (And.intro @zw_ @h1) ?_
  refine⟨_,(ke @zw_),trivial, ?_⟩
  rfl
theorem W9_ (s:List UInt8) (w:World) (hs:s.length<1099511627776):Rets Tryd.prog 52 #[vs s] w (fun v D=>v= .bool (!xB_ s)∧D= []):=by
 refine Rets.enterV Tryd.func52 rfl (rs:= [.tmp 2]) Tryd.results52 Tryd.ntmps52 ?_
 refine kf ?_
 first|with_reducible refine ks [] @zw_ ?_|refine kp @zw_ ?_
 refine Ow.callFV rfl Tryd.call53 (fun w' hw'=>KI_ s w' hs) ?_
 refine ko @zw_ ?_
 first|with_reducible refine ks [] @zw_ ?_|refine kp @zw_ ?_
 refine⟨_,(ke @zw_),trivial, ?_⟩
 rfl
theorem ad1_ (v:Value) (l:List (List UInt8)) (w:World) (hv:aeo_ w v l) (hl:l.length<1000000):Rets Tryd.prog 48 #[v, .func (.func 17) #[] #[]] w (fun v D=>v= .bool (wA_ (v7_ l) l.length)∧D= []):=by
 obtain⟨rb,off,arr,E,fz,hr⟩:=hv.row
 have ln:=hv.len
 refine Rets.enterV Tryd.func48 rfl (rs:= [.tmp 4]) Tryd.results48 Tryd.ntmps48 ?_
 refine kf ?_
 first|with_reducible refine ks [] @zw_ ?_|refine kp @zw_ ?_
 refine Cw.loopG (G:=Nat) [6,7,8,9,12,13,14,15,16,17,18,19,20,21,22,23,4,10,11,5] (fun k=> [(4, .bool false),(5,vi k)]) (fun k=> []) (fun k=>1≤k∧(k≤l.length∨l.length=0)∧(k≤l.length→wA_ (v7_ l) k=true)) (fun k=>l.length+1 - k) 1 rfl rfl ?_ ?_
 ·exact⟨Nat.le_refl _,by omega,fun _=>rfl⟩
 intro k jk hk
 refine kv ?_
 obtain⟨hk1,hk2,hri⟩:=hk
 by_cases hlt:k<l.length
 ·have d1:decide ((k:Int)< (l.length:Int))=true:=decide_eq_true (by omega)
  have hb:=hr.has (by omega)
  have hki: (k:Int) - 1=((k - 1:Nat):Int):=by omega
  have ix:=hr.idx false k hlt
  have ix':=hr.idx false (k - 1) (by omega)
  have ld:=fun n=>wj_ hr hlt n
  have ld':=fun n=>wj_ hr (show k - 1<l.length by omega) n
  have hst:wA_ (v7_ l) (k+1)=decide (v7_ l k<0):=by
   show(wA_ (v7_ l) k&&_)=_
   rw[hri (by omega),decide_eq_false (show¬k=0 by omega),Bool.true_and,Bool.false_or]
  first|with_reducible refine ks [] (And.intro @zw_ (And.intro @ln (@d1))) ?_|refine kp (And.intro @zw_ (And.intro @ln (@d1))) ?_
  refine Cw.regionS [rb] [0,1,2,3,4,6,7,8,5,9,10,11] [] (by kernel_rfl) (by kernel_rfl) (by kernel_rfl) ?_
  simp only[zm_, ↓zd_, ↓zb_, ↓zE_, ↓zD_,zc_]
  refine kq (And.intro @zw_ (And.intro @hb (And.intro @hki (And.intro @ix (And.intro @ix' (And.intro @ld (@ld'))))))) ?_
  refine Ow.soft rfl rfl rfl ?_
  refine Ow.callFn2 (v:=vi (v7_ l k)) rfl rfl rfl rfl Tryd.call17 (fun w' hw'=>wS_ _ _ w') ?_
  with_reducible refine Ow.nil ?_
  refine⟨by intro b hb;simp only[List.mem_cons,List.not_mem_nil,or_false] at hb;(try subst hb);rfl, ?_⟩
  cases hc:decide (0≤v7_ l k) with
  |true=>
   have hf:wA_ (v7_ l) l.length=false:=by
    rw[Bool.eq_false_iff]
    intro h
    have:=kj_ (k:=k+1) (by omega) h
    rw[hst,decide_eq_true_eq] at this
    have:=of_decide_eq_true hc
    omega
   refine kq (And.intro @zw_ @hc) ?_
   try with_reducible refine Ow.nil ?_
   first|with_reducible refine ks [] @zw_ ?_|refine kp @zw_ ?_
   refine⟨_,(ke @zw_),trivial, ?_⟩
   rw[hf];rfl
  |false=>
   refine kq (And.intro @zw_ @hc) ?_
   try with_reducible refine Ow.nil ?_
   first|with_reducible refine ks [] @zw_ ?_|refine kp @zw_ ?_
   refine Again.mk (G:=Nat) (k+1) (by show l.length+1 - (k+1)<l.length+1 - k;omega) ⟨by omega, .inl (by omega),fun _=> ?_⟩ rfl rfl
   rw[hst,decide_eq_true_eq]
   have:=of_decide_eq_false hc
   omega
 ·have d1:decide ((k:Int)< (l.length:Int))=false:=decide_eq_false (by omega)
  have hf:wA_ (v7_ l) l.length=true:=by
   rcases Nat.eq_zero_or_pos l.length with h0|h0
   ·rw[h0];rfl
   ·by_cases hkl:k≤l.length
    ·obtain rfl:k=l.length:=by omega
     exact hri hkl
    ·omega
  first|with_reducible refine ks [] (And.intro @zw_ (And.intro @ln (@d1))) ?_|refine kp (And.intro @zw_ (And.intro @ln (@d1))) ?_
  refine⟨_,(ke @zw_),trivial, ?_⟩
  rw[hf];rfl
theorem acK_ (v:Value) (l:List LnL) (w:World) (hv:LnSl w v l) (hl:l.length<1000000):Rets Tryd.prog 49 #[v, .func (.func 30) #[] #[]] w (fun v D=>v= .bool (wA_ (wi_ l) l.length)∧D= []):=by
 obtain⟨rb,off,arr,E,fz,hr⟩:=hv.row
 have ln:=hv.len
 refine Rets.enterV Tryd.func49 rfl (rs:= [.tmp 4]) Tryd.results49 Tryd.ntmps49 ?_
 refine kf ?_
 first|with_reducible refine ks [] @zw_ ?_|refine kp @zw_ ?_
 refine Cw.loopG (G:=Nat) [6,7,8,9,12,13,14,15,16,17,18,19,20,21,22,23,4,10,11,5] (fun k=> [(4, .bool false),(5,vi k)]) (fun k=> []) (fun k=>1≤k∧(k≤l.length∨l.length=0)∧(k≤l.length→wA_ (wi_ l) k=true)) (fun k=>l.length+1 - k) 1 rfl rfl ?_ ?_
 ·exact⟨Nat.le_refl _,by omega,fun _=>rfl⟩
 intro k jk hk
 refine kv ?_
 obtain⟨hk1,hk2,hri⟩:=hk
 by_cases hlt:k<l.length
 ·have d1:decide ((k:Int)< (l.length:Int))=true:=decide_eq_true (by omega)
  have hb:=hr.has (by omega)
  have hki: (k:Int) - 1=((k - 1:Nat):Int):=by omega
  have ix:=hr.idx true k hlt
  have ix':=hr.idx true (k - 1) (by omega)
  have ld:=hr.load z7_ (by omega) hlt
  have ld':=hr.load z7_ (by omega) (show k - 1<l.length by omega)
  have hst:wA_ (wi_ l) (k+1)=decide (wi_ l k<0):=by
   show(wA_ (wi_ l) k&&_)=_
   rw[hri (by omega),decide_eq_false (show¬k=0 by omega),Bool.true_and,Bool.false_or]
  first|with_reducible refine ks [] (And.intro @zw_ (And.intro @ln (@d1))) ?_|refine kp (And.intro @zw_ (And.intro @ln (@d1))) ?_
  refine Cw.regionS [rb] [0,1,2,3,4,6,7,8,5,9,10,11] [] (by kernel_rfl) (by kernel_rfl) (by kernel_rfl) ?_
  simp only[zm_, ↓zd_, ↓zb_, ↓zE_, ↓zD_,zc_]
  refine kq (And.intro @zw_ (And.intro @hb (And.intro @hki (And.intro @ix (And.intro @ix' (And.intro @ld (@ld'))))))) ?_
  refine Ow.soft rfl rfl rfl ?_
  refine Ow.callFn2 (v:=vi (wi_ l k)) rfl rfl rfl rfl Tryd.call30 (fun w' hw'=>vh_ _ _ w') ?_
  with_reducible refine Ow.nil ?_
  refine⟨by intro b hb;simp only[List.mem_cons,List.not_mem_nil,or_false] at hb;(try subst hb);rfl, ?_⟩
  cases hc:decide (0≤wi_ l k) with
  |true=>
   have hf:wA_ (wi_ l) l.length=false:=by
    rw[Bool.eq_false_iff]
    intro h
    have:=kj_ (k:=k+1) (by omega) h
    rw[hst,decide_eq_true_eq] at this
    have:=of_decide_eq_true hc
    omega
   refine kq (And.intro @zw_ @hc) ?_
   try with_reducible refine Ow.nil ?_
   first|with_reducible refine ks [] @zw_ ?_|refine kp @zw_ ?_
   refine⟨_,(ke @zw_),trivial, ?_⟩
   rw[hf];rfl
  |false=>
   refine kq (And.intro @zw_ @hc) ?_
   try with_reducible refine Ow.nil ?_
   first|with_reducible refine ks [] @zw_ ?_|refine kp @zw_ ?_
   refine Again.mk (G:=Nat) (k+1) (by show l.length+1 - (k+1)<l.length+1 - k;omega) ⟨by omega, .inl (by omega),fun _=> ?_⟩ rfl rfl
   rw[hst,decide_eq_true_eq]
   have:=of_decide_eq_false hc
   omega
 ·have d1:decide ((k:Int)< (l.length:Int))=false:=decide_eq_false (by omega)
  have hf:wA_ (wi_ l) l.length=true:=by
   rcases Nat.eq_zero_or_pos l.length with h0|h0
   ·rw[h0];rfl
   ·by_cases hkl:k≤l.length
    ·obtain rfl:k=l.length:=by omega
     exact hri hkl
    ·omega
  first|with_reducible refine ks [] (And.intro @zw_ (And.intro @ln (@d1))) ?_|refine kp (And.intro @zw_ (And.intro @ln (@d1))) ?_
  refine⟨_,(ke @zw_),trivial, ?_⟩
  rw[hf];rfl
end Go.Proofs
end
section
open Go Go.Proofs Go.Sx Go.StP Go.Flo
namespace Go.Proofs
set_option maxRecDepth 10000
set_option maxHeartbeats 1000000
set_option linter.unusedSimpArgs false
def mgO (v0 v1 v2:Value):Obj:= .cells #[v0,v1,v2] 59 (0,0)
theorem kI_ (v0 v1 v2:Value) (n:Nat):zn_ (some (false,n)) (some (mgO v0 v1 v2)) 0=some v0:=(rfl)
theorem vt_ (v0 v1 v2:Value) (n:Nat):zn_ (some (false,n)) (some (mgO v0 v1 v2)) 1=some v1:=(rfl)
theorem kH_ (v0 v1 v2:Value) (n:Nat):zn_ (some (false,n)) (some (mgO v0 v1 v2)) 2=some v2:=(rfl)
def MgIn (w:World) (b:Nat) (names sums:List (List UInt8)) (lines:List LnL):Prop:= ∃v0 v1 v2,w.heap[b]? =some (mgO v0 v1 v2)∧aeo_ w v0 names∧aeo_ w v1 sums∧LnSl w v2 lines
theorem MgIn.old {w w':World} {L:za_} {b:Nat} {names sums:List (List UInt8)} {lines:List LnL} (h:MgIn w b names sums lines) (hw:Hp w L w') (hn:New w.heap.size L):MgIn w' b names sums lines:=by
 obtain⟨v0,v1,v2,h1,h2,h3,h4⟩:=h
 exact⟨v0,v1,v2,by rw[hw.old b (Array.getElem?_eq_some_iff.1 h1).1 (hn.not (Array.getElem?_eq_some_iff.1 h1).1)];exact h1,h2.oldN hw hn,h3.oldN hw hn,h4.oldN hw hn⟩
def js_ (n:Nat) (r:LnL):Bool:= !(decide (r.share<0))&& !(decide ((n:Int)≤r.share))&&numM r.place&&numM r.spot
def ql_ (names:List (List UInt8)) (lines:List LnL):Bool:=
 !(decide (40<names.length))&& !(decide (8000<lines.length))&&wA_ (v7_ names) names.length&&wA_ (wi_ lines) lines.length&& (lines.all (js_ names.length)&&names.all xB_)
def aeh_ (l:List (List UInt8)):Prop:= ∀s,s∈l→s.length<1099511627776
set_option linter.defProp false
def zF_:=And.intro (And.intro (And.intro (@zf_) (And.intro (@zg_) (@kI_))) (And.intro (@vt_) (And.intro (@kH_) (@q8_)))) (And.intro (And.intro (@v9_) (And.intro (@kK_) (@vS_))) (And.intro (@w5_) (And.intro (@JU_) (@xJ_))))
theorem Zw_ (v:Value) (l:List (List UInt8)) (w:World) (hv:aeo_ w v l) (hl:l.length<1000000) (hs:aeh_ l):Rets Tryd.prog 68 #[v, .func (.func 52) #[] #[]] w (fun v D=>(∃i:Int,v=vi i∧decide (0≤i)= !(l.all xB_))∧D= []):=by
 obtain⟨rb,off,arr,E,fz,hr⟩:=hv.row
 have ln:=hv.len
 refine Rets.enterV Tryd.func68 rfl (rs:= [.tmp 4]) Tryd.results68 Tryd.ntmps68 ?_
 refine kf ?_
 first|with_reducible refine ks [] (And.intro @zF_ @ln) ?_|refine kp (And.intro @zF_ @ln) ?_
 refine Cw.loopG (G:=Nat) [9,10,5,11,12,13,14,15,16,17,4,18,8] (fun k=> [(4,vi 0),(8,vi k)]) (fun k=> []) (fun k=>k≤l.length∧(l.take k).all xB_=true) (fun k=>l.length - k) 0 rfl rfl ?_ ?_
 ·exact⟨Nat.zero_le _,rfl⟩
 intro k jk hk
 refine kv ?_
 obtain⟨hk,hal⟩:=hk
 by_cases hlt:k<l.length
 ·have d1:decide ((k:Int)< (l.length:Int))=true:=decide_eq_true (by omega)
  have hb:=hr.has (by omega)
  have ix:=hr.idx false k hlt
  have ld:=fun n=>wj_ hr hlt n
  have hts:=StP.take_snoc (z:=([]:List UInt8)) hlt
  have hm:l.getD k []∈l:=by rw[List.getD_eq_getElem?_getD,List.getElem?_eq_getElem hlt];exact List.getElem_mem hlt
  have hsl:=hs _ hm
  generalize l.getD k []=s at*
  first|with_reducible refine ks [] (And.intro @zF_ (And.intro @d1 (And.intro @hb (And.intro @ix (@ld))))) ?_|refine kp (And.intro @zF_ (And.intro @d1 (And.intro @hb (And.intro @ix (@ld))))) ?_
  refine Ow.callFn1 (v:= .bool (!xB_ s)) rfl rfl rfl Tryd.call52 (fun w' hw'=>W9_ s w' hsl) ?_
  cases hn:xB_ s with
  |true=>
   refine ko @zF_ ?_
   refine Again.mk (G:=Nat) (k+1) (by show l.length - (k+1)<l.length - k;omega) ⟨hlt, ?_⟩ rfl rfl
   rw[hts,List.all_append,hal,List.all_cons,hn];rfl
  |false=>
   refine ko @zF_ ?_
   first|with_reducible refine ks [] @zF_ ?_|refine kp @zF_ ?_
   refine⟨_,(ke @zF_),trivial, ?_⟩
   refine⟨(k:Int),rfl, ?_⟩
   rw[decide_eq_true (show(0:Int)≤ (k:Int) by omega),show l.all xB_=false from List.all_eq_false.2 ⟨s,hm,by rw[hn];simp⟩];rfl
 ·obtain rfl:k=l.length:=by omega
  have d1:decide ((l.length:Int)< (l.length:Int))=false:=decide_eq_false (by omega)
  rw[List.take_length] at hal
  first|with_reducible refine ks [] (And.intro @zF_ @d1) ?_|refine kp (And.intro @zF_ @d1) ?_
  refine⟨_,(ke @zF_),trivial, ?_⟩
  exact⟨-1,rfl,by rw[hal];rfl⟩
theorem QA_ (v:Value) (l:List (List UInt8)) (w:World) (hv:aeo_ w v l) (hl:l.length<1000000) (hs:aeh_ l):Rets Tryd.prog 51 #[v, .func (.func 52) #[] #[]] w (fun v D=>v= .bool (!(l.all xB_))∧D= []):=by
 refine Rets.enterV Tryd.func51 rfl (rs:= [.tmp 4]) Tryd.results51 Tryd.ntmps51 ?_
 refine kf ?_
 first|with_reducible refine ks [] @zF_ ?_|refine kp @zF_ ?_
 refine Ow.callC rfl rfl Tryd.call68 (fun w' hw'=>Rets.toX (Zw_ v l w' (hv.oldN hw' trivial) hl hs)) (fun B1 v1 D1 hA1 hB1 hN1 hS1=> ?_)
 obtain⟨rfl,i,rfl,hi⟩:=hS1
 refine ko (And.intro @zF_ @hi) ?_
 first|with_reducible refine ks [] @zF_ ?_|refine kp @zF_ ?_
 refine⟨_,(ke @zF_),trivial, ?_⟩
 rfl
structure RtG where
 k:Nat
 DG:za_
theorem vg_ (b:Nat) (names sums:List (List UInt8)) (lines:List LnL) (w:World) (h:MgIn w b names sums lines) (hnl:names.length<1000000) (hll:lines.length<1000000) (hs:aeh_ names):Rets Tryd.prog 18 #[vp b 0] w (fun v D=>v= .bool (ql_ names lines)∧D= []):=by
 obtain⟨v0,v1,v2,h1,h2,h3,h4⟩:=id h
 have hbl:=(Array.getElem?_eq_some_iff.1 h1).1
 have ln0':=h2.len
 have ln2':=h4.len
 obtain⟨rb,off,arr,E,fz,hr⟩:=h4.row
 refine Rets.enterV Tryd.func18 rfl (rs:= [.tmp 2]) Tryd.results18 Tryd.ntmps18 ?_
 refine kf ?_
 unfold ql_
 by_cases hn4:40<names.length
 ·have d1:decide ((40:Int)< (names.length:Int))=true:=decide_eq_true (by omega)
  rw[decide_eq_true hn4]
  first|with_reducible refine ks [] (And.intro @zF_ (And.intro @h1 (And.intro @ln0' (@d1)))) ?_|refine kp (And.intro @zF_ (And.intro @h1 (And.intro @ln0' (@d1)))) ?_
  refine⟨_,(ke @zF_),trivial, ?_⟩
  rfl
 have d1:decide ((40:Int)< (names.length:Int))=false:=decide_eq_false (by omega)
 rw[decide_eq_false hn4]
 by_cases hl8:8000<lines.length
 ·have d2:decide ((8000:Int)< (lines.length:Int))=true:=decide_eq_true (by omega)
  rw[decide_eq_true hl8]
  first|with_reducible refine ks [] (And.intro @zF_ (And.intro @h1 (And.intro @ln0' (And.intro @d1 (And.intro @ln2' (@d2)))))) ?_|refine kp (And.intro @zF_ (And.intro @h1 (And.intro @ln0' (And.intro @d1 (And.intro @ln2' (@d2)))))) ?_
  refine⟨_,(ke @zF_),trivial, ?_⟩
  rfl
 have d2:decide ((8000:Int)< (lines.length:Int))=false:=decide_eq_false (by omega)
 rw[decide_eq_false hl8]
 first|with_reducible refine ks [] (And.intro @zF_ (And.intro @h1 (And.intro @ln0' (And.intro @d1 (And.intro @ln2' (@d2)))))) ?_|refine kp (And.intro @zF_ (And.intro @h1 (And.intro @ln0' (And.intro @d1 (And.intro @ln2' (@d2)))))) ?_
 refine Ow.callFV rfl Tryd.call48 (fun w' hw'=>ad1_ v0 names w' (h2.oldN hw' trivial) hnl) ?_
 cases hr1:wA_ (v7_ names) names.length with
 |false=>
  refine ko @zF_ ?_
  first|with_reducible refine ks [] @zF_ ?_|refine kp @zF_ ?_
  refine⟨_,(ke @zF_),trivial, ?_⟩
  rfl
 |true=>
  refine ko (And.intro @zF_ @h1) ?_
  refine Ow.callFV rfl Tryd.call49 (fun w' hw'=>acK_ v2 lines w' (h4.oldN hw' trivial) hll) ?_
  cases hr2:wA_ (wi_ lines) lines.length with
  |false=>
   refine ko @zF_ ?_
   first|with_reducible refine ks [] @zF_ ?_|refine kp @zF_ ?_
   refine⟨_,(ke @zF_),trivial, ?_⟩
   rfl
  |true=>
   have e0: (!false&& !false&&true&&true&& (lines.all (js_ names.length)&&names.all xB_))=(lines.all (js_ names.length)&&names.all xB_):=rfl
   rw[e0]
   refine ko (And.intro @zF_ (And.intro @h1 (@ln2'))) ?_
   refine Cw.loopG (G:=RtG) [42,43,44,5,45,46,47,48,49,50,51,52,53,54,55,56,57,58,59,60,61,62,63,64,65,66,67,68,69,70,71,2,72,41] (fun q=> [(2, .bool false),(3, .func (.func 50) #[] #[]),(41,vi q.k)]) (fun q=>q.DG) (fun q=>q.k≤lines.length∧New w.heap.size q.DG∧(lines.take q.k).all (js_ names.length)=true) (fun q=>lines.length - q.k) ⟨0,[]⟩ rfl rfl ?_ ?_
   ·exact⟨Nat.zero_le _,trivial,rfl⟩
   intro q jq hq
   refine kv ?_
   obtain⟨k,DG⟩:=q
   simp only at hq ⊢
   obtain⟨hk,hN,hal⟩:=hq
   have rd: ∀X c o,New w.heap.size X→w.heap[c]? =some o→zx_ w X c=some o:=fun X c o hX hc=>by rw[qM_ (hX.not (Array.getElem?_eq_some_iff.1 hc).1)];exact hc
   by_cases hlt:k<lines.length
   ·have d3:decide ((k:Int)< (lines.length:Int))=true:=decide_eq_true (by omega)
    have hb:=hr.has (by omega)
    have rd1:=rd _ _ _ hN hb
    have ix:=hr.idx true k hlt
    have ld:=hr.load z7_ (by omega) hlt
    have hts:=StP.take_snoc (z:=Go.Proofs.ln0) hlt
    have hm:lines.getD k Go.Proofs.ln0∈lines:=by rw[List.getD_eq_getElem?_getD,List.getElem?_eq_getElem hlt];exact List.getElem_mem hlt
    have hbad:js_ names.length (lines.getD k Go.Proofs.ln0)=false→(lines.all (js_ names.length)&&names.all xB_)=false:=fun h=>by
     rw[show lines.all (js_ names.length)=false from List.all_eq_false.2 ⟨_,hm,by rw[h];simp⟩,Bool.false_and]
    generalize lines.getD k Go.Proofs.ln0=r at*
    first|with_reducible refine ks [] (And.intro @zF_ (And.intro @d3 (And.intro @rd1 (And.intro @ix (@ld))))) ?_|refine kp (And.intro @zF_ (And.intro @d3 (And.intro @rd1 (And.intro @ix (@ld))))) ?_
    refine Ow.alloc rfl rfl X8_ fun b5 hb5 hw5=> ?_
    simp only[ze_,List.nil_append,List.cons_append]
    refine Ow.permL (M:=(b5, .cells (lnC Go.Proofs.ln0).toArray 38 (0,0))::DG) (by classical exact List.perm_iff_count.2 fun a=>by simp only[List.count_append,List.count_cons,List.count_nil]<;>omega) ?_
    refine ko @zF_ ?_
    have hN5:New w.heap.size ((b5,Obj.cells (lnC r).toArray 38 (0,0))::DG):=⟨hw5,hN⟩
    have hnb:b5≠b:=by omega
    have rdb:=rd _ _ _ hN5 h1
    first|with_reducible refine ks [] @zF_ ?_|refine kp @zF_ ?_
    refine Cw.regionS [b5,b] [0,1,2,3,4,6,7,8,5,9,10,11,12,13,14,15,16,17,18,19,20,21,22,23,24,25,26] [] (by kernel_rfl) (by kernel_rfl) (by kernel_rfl) ?_
    simp only[zm_, ↓zd_, ↓zb_, ↓zE_, ↓zD_,zc_]
    cases c1:decide (r.share<0) with
    |true=>
     refine kq (And.intro @zF_ @c1) ?_
     try with_reducible refine Ow.nil ?_
     first|with_reducible refine ks [] @zF_ ?_|refine kp @zF_ ?_
     refine⟨_,(ke @zF_),hN5, ?_⟩
     rw[hbad (by unfold js_;rw[c1];rfl)];rfl
    |false=>
     cases c2:decide ((names.length:Int)≤r.share) with
     |true=>
      refine kq (And.intro @zF_ (And.intro @c1 (And.intro @rdb (And.intro @ln0' (@c2))))) ?_
      try with_reducible refine Ow.nil ?_
      first|with_reducible refine ks [] @zF_ ?_|refine kp @zF_ ?_
      refine⟨_,(ke @zF_),hN5, ?_⟩
      rw[hbad (by unfold js_;rw[c1,c2];rfl)];rfl
     |false=>
      refine kq (And.intro @zF_ (And.intro @c1 (And.intro @rdb (And.intro @ln0' (@c2))))) ?_
      refine Ow.soft rfl rfl rfl ?_
      refine Ow.callFn1 (v:= .bool (numM r.place)) rfl rfl rfl Tryd.call50 (fun w' hw'=>Qm_ r.place w') ?_
      with_reducible refine Ow.nil ?_
      refine⟨by intro b hb;simp only[List.mem_cons,List.not_mem_nil,or_false] at hb;(try subst hb);rfl, ?_⟩
      cases c3:numM r.place with
      |false=>
       refine kq (And.intro @zF_ @c3) ?_
       try with_reducible refine Ow.nil ?_
       first|with_reducible refine ks [] @zF_ ?_|refine kp @zF_ ?_
       refine⟨_,(ke @zF_),hN5, ?_⟩
       rw[hbad (by unfold js_;rw[c1,c2,c3];rfl)];rfl
      |true=>
       refine kq @zF_ ?_
       refine Ow.soft rfl rfl rfl ?_
       refine Ow.callFn1 (v:= .bool (numM r.spot)) rfl rfl rfl Tryd.call50 (fun w' hw'=>Qm_ r.spot w') ?_
       with_reducible refine Ow.nil ?_
       refine⟨by intro b hb;simp only[List.mem_cons,List.not_mem_nil,or_false] at hb;(try subst hb);rfl, ?_⟩
       cases c4:numM r.spot with
       |false=>
        refine kq (And.intro @zF_ @c4) ?_
        try with_reducible refine Ow.nil ?_
        first|with_reducible refine ks [] @zF_ ?_|refine kp @zF_ ?_
        refine⟨_,(ke @zF_),hN5, ?_⟩
        rw[hbad (by unfold js_;rw[c1,c2,c3,c4];rfl)];rfl
       |true=>
        refine kq @zF_ ?_
        try with_reducible refine Ow.nil ?_
        first|with_reducible refine ks [] @zF_ ?_|refine kp @zF_ ?_
        refine Again.mk ⟨k+1,(b5, .cells (lnC r).toArray 38 (0,0))::DG⟩ (by show lines.length - (k+1)<lines.length - k;omega) ⟨hlt,hN5, ?_⟩ rfl rfl
        show(lines.take (k+1)).all _=true
        rw[hts,List.all_append,hal,List.all_cons]
        unfold js_;rw[c1,c2,c3,c4];rfl
   ·obtain rfl:k=lines.length:=by omega
    have d3:decide ((lines.length:Int)< (lines.length:Int))=false:=decide_eq_false (by omega)
    have rdb:=rd _ _ _ hN h1
    rw[List.take_length] at hal
    rw[hal,Bool.true_and]
    first|with_reducible refine ks [] (And.intro @zF_ (And.intro @d3 (@rdb))) ?_|refine kp (And.intro @zF_ (And.intro @d3 (@rdb))) ?_
    refine Ow.callFV rfl Tryd.call51 (fun w' hw'=>QA_ v0 names w' (h2.oldN hw' hN) hnl hs) ?_
    refine ko @zF_ ?_
    first|with_reducible refine ks [] @zF_ ?_|refine kp @zF_ ?_
    refine⟨_,(ke @zF_),hN, ?_⟩
    exact congrArg Value.bool (Bool.not_not _)
end Go.Proofs
end
section
open Go Go.Proofs Go.Sx Go.StP Go.Flo
namespace Go.Proofs
set_option maxRecDepth 10000
set_option maxHeartbeats 1000000
set_option linter.unusedSimpArgs false
def magM:List UInt8:= [83,77,88,49]
def wZ_ (r:LnL):List UInt8:=r.id.l++ (z3_ (zM_ r.share)++ (z3_ (zM_ r.place)++z3_ (zM_ r.spot)))
def qx_ (l:List LnL):List UInt8:=(l.map wZ_).flatten
def kf_ (names sums:List (List UInt8)):Nat→List UInt8
 |0=> []
 |k+1=>kf_ names sums k++ (jM_ (names.getD k [])++sums.getD k [])
def kY_ (names sums:List (List UInt8)) (lines:List LnL):List UInt8:=
 (magM++ (z3_ (zM_ (names.length:Int))++kf_ names sums names.length))++ (z3_ (zM_ (lines.length:Int))++qx_ lines)
theorem Zo_ (l:List LnL) {g:Nat} (h:g<l.length):qx_ (l.take (g+1))=qx_ (l.take g)++wZ_ (l.getD g Go.Proofs.ln0):=by
 rw[StP.take_snoc (z:=Go.Proofs.ln0) h];simp[qx_]
theorem KT_ (r:LnL): (wZ_ r).length≤50:=by
 have h1:=zo_ r.share
 have h2:=zo_ r.place
 have h3:=zo_ r.spot
 have h4:=r.id.h
 unfold wZ_
 rw[List.length_append,List.length_append,List.length_append];omega
theorem wd_ (l:List LnL): ∀g,g≤l.length→(qx_ (l.take g)).length≤g*50
 |0,_=>by simp[qx_]
 |g+1,h=>by
  rw[Zo_ l h,List.length_append]
  have:=wd_ l g (by omega)
  have:=KT_ (l.getD g Go.Proofs.ln0)
  omega
theorem JN_ (s:List UInt8): (jM_ s).length≤6+s.length:=by
 have:=zo_ (s.length:Int)
 unfold jM_
 rw[List.length_append];omega
def Most (n:Nat) (l:List (List UInt8)):Prop:= ∀s,s∈l→s.length≤n
theorem Most.at {n:Nat} {l:List (List UInt8)} (h:Most n l) (k:Nat): (l.getD k []).length≤n:=by
 by_cases hk:k<l.length
 ·rw[List.getD_eq_getElem?_getD,List.getElem?_eq_getElem hk];exact h _ (List.getElem_mem hk)
 ·rw[List.getD_eq_getElem?_getD,List.getElem?_eq_none (by omega)];simp
theorem XD_ {names sums:List (List UInt8)} (hn:Most 1000 names) (hs:Most 1000 sums): ∀k,(kf_ names sums k).length≤k*2006
 |0=>by simp[kf_]
 |k+1=>by
  have h1:=XD_ hn hs k
  have h2:=JN_ (names.getD k [])
  have h3:=hn.at k
  have h4:=hs.at k
  unfold kf_
  rw[List.length_append,List.length_append];omega
structure MwG where
 k:Nat
 D:za_
set_option linter.defProp false
def z0_:=And.intro (And.intro (And.intro (@zf_) (And.intro (@zg_) (@kI_))) (And.intro (@vt_) (And.intro (@kH_) (@q8_)))) (And.intro (And.intro (@v9_) (And.intro (@kK_) (@vS_))) (And.intro (@w5_) (And.intro (@JU_) (@xJ_))))
theorem ZU_ (b:Nat) (names sums:List (List UInt8)) (lines:List LnL) (w:World) (hC:GlobC w) (h:MgIn w b names sums lines) (hsl:sums.length=names.length) (hnl:names.length≤40) (hll:lines.length≤8000) (hns:Most 1000 names) (hss:Most 1000 sums):
  Rets Tryd.prog 21 #[vp b 0] w (fun v D=>v=vs (z9_ (kY_ names sums lines))∧D= []):=by
 obtain⟨v0,v1,v2,h1,h2,h3,h4⟩:=id h
 have hbl:=(Array.getElem?_eq_some_iff.1 h1).1
 have l0:=h2.len
 have l2:=h4.len
 obtain⟨ra,oa,aa,Ea,fa,hra⟩:=h2.row
 obtain⟨rs,os,as_,Es,fs,hrs⟩:=h3.row
 obtain⟨rb,off,arr,E,fz,hr⟩:=h4.row
 have rd: ∀X c o,New w.heap.size X→w.heap[c]? =some o→zx_ w X c=some o:=fun X c o hX hc=>by rw[qM_ (hX.not (Array.getElem?_eq_some_iff.1 hc).1)];exact hc
 have hn1:=zo_ (names.length:Int)
 have hn2:=zo_ (lines.length:Int)
 refine Rets.enterV Tryd.func21 rfl (rs:= [.tmp 2]) Tryd.results21 Tryd.ntmps21 ?_
 refine kf ?_
 first|with_reducible refine ks [] @z0_ ?_|refine kp @z0_ ?_
 refine Ow.alloc rfl rfl Tryd.zr93 fun b3 hb3 hw3=> ?_
 refine ko @z0_ ?_
 first|with_reducible refine ks [] @z0_ ?_|refine kp @z0_ ?_
 have hZ:BldAt b3 [] [(b3, .cells #[.pointer none, .slice none 0 0] 93 (0,0))]:=BldAt.zeroK b3 (jm_ _ _ _)
 refine Ow.buildSlice (e:=9) #[vs [83,77,88,49]] rfl rfl (by kernel_rfl) fun b8 hb8 hw8=> ?_
 have h38:b3<b8:=zz_ hb8 (by simp[keys])
 refine ko @z0_ ?_
 refine Ow.callX (Y:= [(b8, .cells #[vs [83,77,88,49]] 9 (0,0))]) (by simp) rfl rfl Tryd.call40 (fun w' hw' hX hn=>kk_ b3 [(b3, .cells #[.pointer none, .slice none 0 0] 93 (0,0))] [] _ b8 0 [[83,77,88,49]] _ _ _ w' hZ hX hn (StrS.lit [[83,77,88,49]] rfl rfl (hw'.has _ _ (List.mem_cons_of_mem _ List.mem_cons_self))) (fun _ hm=>by simp[keys] at hm;omega) (by simp) (by simp)) (fun v9 D9 hC9 hS9=> ?_)
 obtain⟨rfl,hB9⟩:=hS9
 have hN9:New w.heap.size D9:=zN_ hC9 ⟨hw3,trivial⟩
 have rd9:=rd (D9++ [(b8, .cells #[vs [83,77,88,49]] 9 (0,0))]) _ _ (hN9.app ⟨hw8,trivial⟩) h1
 refine ko @z0_ ?_
 first|with_reducible refine ks [] (And.intro @z0_ (And.intro @rd9 (@l0))) ?_|refine kp (And.intro @z0_ (And.intro @rd9 (@l0))) ?_
 refine Ow.buildSlice (e:=3) #[vi names.length] rfl rfl (by kernel_rfl) fun b15 hb15 hw15=> ?_
 refine ko @z0_ ?_
 refine Ow.callX (Y:= [(b8, .cells #[vs [83,77,88,49]] 9 (0,0)),(b15, .cells #[vi names.length] 3 (0,0))]) (by simp) rfl rfl Tryd.call41 (fun w' hw' hX hn=>qB_ b3 D9 _ _ b15 0 [(names.length:Int)] _ _ _ w' hB9 hX hn (OneS.lit [(names.length:Int)] rfl rfl (hw'.has b15 (.cells #[vi names.length] 3 (0,0)) (by simp))) (fun _ hm=>Nat.lt_irrefl _ (zz_ hb15 (by rw[zP_];exact List.mem_append_left _ hm))) (by simp)) (fun v16 D16 hC16 hS16=> ?_)
 obtain⟨rfl,hB16⟩:=hS16
 rw[vR_] at hB16
 have hN16:New w.heap.size D16:=zN_ hC16 hN9
 have hN16':New w.heap.size (D16++ [(b8,Obj.cells #[vs [83,77,88,49]] 9 (0,0)),(b15,Obj.cells #[vi names.length] 3 (0,0))]):=hN16.app ⟨hw8,hw15,trivial⟩
 have rd16:=rd _ _ _ hN16' h1
 refine ko @z0_ ?_
 first|with_reducible refine ks [] (And.intro @z0_ (And.intro @rd16 (@l0))) ?_|refine kp (And.intro @z0_ (And.intro @rd16 (@l0))) ?_
 obtain⟨P0,hP0⟩: ∃P,P=magM++z3_ (zM_ (names.length:Int)):=⟨_,rfl⟩
 have hP0l:P0.length≤10:=by rw[hP0,List.length_append,show magM.length=4 from rfl];omega
 have hB0:BldAt b3 (P0++kf_ names sums 0) (D16++ [(b8,Obj.cells #[vs [83,77,88,49]] 9 (0,0)),(b15, .cells #[vi names.length] 3 (0,0))]):=by
  have:=hB16.app (Y:= [(b8,Obj.cells #[vs [83,77,88,49]] 9 (0,0)),(b15, .cells #[vi names.length] 3 (0,0))])
  rw[hP0]
  simpa [magM,kf_] using this
 refine Cw.loopG (G:=MwG) [23,24,25,26,4,5,27,28,29,30,31,32,33,34,35,36,37,38,39,22] (fun g=> [(22,vi g.k)]) (fun g=>g.D) (fun g=>g.k≤names.length∧New w.heap.size g.D∧BldAt b3 (P0++kf_ names sums g.k) g.D) (fun g=>names.length - g.k) ⟨0,D16++ [(b8,Obj.cells #[vs [83,77,88,49]] 9 (0,0)),(b15, .cells #[vi names.length] 3 (0,0))]⟩ rfl rfl ?_ ?_
 ·exact⟨Nat.zero_le _,hN16',hB0⟩
 intro g j hg
 refine kv ?_
 obtain⟨k,D⟩:=g
 simp only at hg ⊢
 obtain⟨hk,hN,hB⟩:=hg
 have hnt:=XD_ hns hss k
 by_cases hlt:k<names.length
 ·have d1:decide ((k:Int)< (names.length:Int))=true:=decide_eq_true (by omega)
  have rda:=rd _ _ _ hN (hra.has (by omega))
  have ixa:=hra.idx false k hlt
  have lda:=fun n=>wj_ hra hlt n
  have ixs:=hrs.idx false k (by omega)
  have lds:=fun n=>wj_ hrs (show k<sums.length by omega) n
  have hst:kf_ names sums (k+1)=kf_ names sums k++ (jM_ (names.getD k [])++sums.getD k []):=rfl
  have hl1:=hns.at k
  have hl2:=hss.at k
  generalize names.getD k []=s at*
  generalize sums.getD k []=u at*
  have htl:=JN_ s
  have htx:xu_ [s]=jM_ s:=by simp[xu_]
  have hPn: (P0++kf_ names sums k).length≤10+k*2006:=by rw[List.length_append];omega
  first|with_reducible refine ks [] (And.intro @z0_ (And.intro @d1 (And.intro @rda (And.intro @ixa (@lda))))) ?_|refine kp (And.intro @z0_ (And.intro @d1 (And.intro @rda (And.intro @ixa (@lda))))) ?_
  refine Ow.buildSlice (e:=9) #[vs s] rfl rfl (by kernel_rfl) fun b28 hb28 hw28=> ?_
  refine ko @z0_ ?_
  refine Ow.callX (Y:= [(b28, .cells #[vs s] 9 (0,0))]) (by simp) rfl rfl Tryd.call56 (fun w' hw' hX hn=>abV_ b3 D _ _ b28 0 [s] _ _ _ w' hB hX hn (StrS.lit [s] rfl rfl (hw'.has b28 (.cells #[vs s] 9 (0,0)) (by simp))) (fun _ hm=>Nat.lt_irrefl _ (zz_ hb28 hm)) (by rw[htx];omega) (by simp)) (fun v29 D29 hC29 hS29=> ?_)
  obtain⟨rfl,hB29⟩:=hS29
  rw[htx] at hB29
  have hN29:New w.heap.size D29:=zN_ hC29 hN
  have rd29:=rd (D29++ [(b28, .cells #[vs s] 9 (0,0))]) _ _ (hN29.app ⟨hw28,trivial⟩) h1
  have rds:=rd (D29++ [(b28, .cells #[vs s] 9 (0,0))]) _ _ (hN29.app ⟨hw28,trivial⟩) (hrs.has (by omega))
  refine ko @z0_ ?_
  first|with_reducible refine ks [] (And.intro @z0_ (And.intro @rd29 (And.intro @rds (And.intro @ixs (@lds))))) ?_|refine kp (And.intro @z0_ (And.intro @rd29 (And.intro @rds (And.intro @ixs (@lds))))) ?_
  refine Ow.buildSlice (e:=9) #[vs u] rfl rfl (by kernel_rfl) fun b37 hb37 hw37=> ?_
  refine ko @z0_ ?_
  refine Ow.callX (Y:= [(b28, .cells #[vs s] 9 (0,0)),(b37, .cells #[vs u] 9 (0,0))]) (by simp) rfl rfl Tryd.call40 (fun w' hw' hX hn=>kk_ b3 D29 _ _ b37 0 [u] _ _ _ w' hB29 hX hn (StrS.lit [u] rfl rfl (hw'.has b37 (.cells #[vs u] 9 (0,0)) (by simp))) (fun _ hm=>Nat.lt_irrefl _ (zz_ hb37 (by rw[zP_];exact List.mem_append_left _ hm))) (by rw[List.length_append];simp;omega) (by simp)) (fun v38 D38 hC38 hS38=> ?_)
  obtain⟨rfl,hB38⟩:=hS38
  have hN38:New w.heap.size D38:=zN_ hC38 hN29
  refine ko @z0_ ?_
  first|with_reducible refine ks [] @z0_ ?_|refine kp @z0_ ?_
  refine Again.mk ⟨k+1,D38++ [(b28,Obj.cells #[vs s] 9 (0,0)),(b37, .cells #[vs u] 9 (0,0))]⟩ (by show names.length - (k+1)<names.length - k;omega) ⟨hlt,hN38.app ⟨hw28,hw37,trivial⟩, ?_⟩ rfl rfl
  show BldAt b3 (P0++kf_ names sums (k+1)) _
  rw[hst]
  have:=hB38.app (Y:= [(b28,Obj.cells #[vs s] 9 (0,0)),(b37, .cells #[vs u] 9 (0,0))])
  simpa using this
 ·obtain rfl:k=names.length:=by omega
  have d1:decide ((names.length:Int)< (names.length:Int))=false:=decide_eq_false (by omega)
  have rd40:=rd _ _ _ hN h1
  first|with_reducible refine ks [] (And.intro @z0_ (And.intro @d1 (And.intro @rd40 (@l2)))) ?_|refine kp (And.intro @z0_ (And.intro @d1 (And.intro @rd40 (@l2)))) ?_
  refine Ow.buildSlice (e:=3) #[vi lines.length] rfl rfl (by kernel_rfl) fun b45 hb45 hw45=> ?_
  refine ko @z0_ ?_
  have hPn: (P0++kf_ names sums names.length).length≤10+names.length*2006:=by rw[List.length_append];omega
  refine Ow.callX (Y:= [(b45, .cells #[vi lines.length] 3 (0,0))]) (by simp) rfl rfl Tryd.call41 (fun w' hw' hX hn=>qB_ b3 D _ _ b45 0 [(lines.length:Int)] _ _ _ w' hB hX hn (OneS.lit [(lines.length:Int)] rfl rfl (hw'.has b45 (.cells #[vi lines.length] 3 (0,0)) (by simp))) (fun _ hm=>Nat.lt_irrefl _ (zz_ hb45 hm)) (by simp;omega)) (fun v46 D46 hC46 hS46=> ?_)
  obtain⟨rfl,hB46⟩:=hS46
  rw[vR_] at hB46
  have hN46:New w.heap.size D46:=zN_ hC46 hN
  have hN46':New w.heap.size (D46++ [(b45,Obj.cells #[vi lines.length] 3 (0,0))]):=hN46.app ⟨hw45,trivial⟩
  have rd46:=rd _ _ _ hN46' h1
  obtain⟨P1,hP1⟩: ∃P,P=P0++kf_ names sums names.length++z3_ (zM_ (lines.length:Int)):=⟨_,rfl⟩
  have hP1l:P1.length≤100000:=by rw[hP1,List.length_append];omega
  have hmb:kY_ names sums lines=P1++qx_ lines:=by rw[hP1,hP0];unfold kY_;simp only[List.append_assoc]
  have hB1:BldAt b3 (P1++qx_ (lines.take 0)) (D46++ [(b45,Obj.cells #[vi lines.length] 3 (0,0))]):=by
   have:=hB46.app (Y:= [(b45,Obj.cells #[vi lines.length] 3 (0,0))])
   rw[hP1]
   simpa [qx_] using this
  refine ko @z0_ ?_
  first|with_reducible refine ks [] (And.intro @z0_ (And.intro @rd46 (@l2))) ?_|refine kp (And.intro @z0_ (And.intro @rd46 (@l2))) ?_
  refine Cw.loopG (G:=MwG) [53,54,55,7,56,57,58,59,60,61,62,63,64,65,66,67,68,52] (fun q=> [(52,vi q.k)]) (fun q=>q.D) (fun q=>q.k≤lines.length∧New w.heap.size q.D∧BldAt b3 (P1++qx_ (lines.take q.k)) q.D) (fun q=>lines.length - q.k) ⟨0,D46++ [(b45,Obj.cells #[vi lines.length] 3 (0,0))]⟩ rfl rfl ?_ ?_
  ·exact⟨Nat.zero_le _,hN46',hB1⟩
  intro q jq hq
  refine kv ?_
  obtain⟨k,D⟩:=q
  simp only at hq ⊢
  clear hN hB
  obtain⟨hk,hN,hB⟩:=hq
  have hrl:=wd_ lines k hk
  by_cases hlt:k<lines.length
  ·have d1:decide ((k:Int)< (lines.length:Int))=true:=decide_eq_true (by omega)
   have rdb:=rd _ _ _ hN (hr.has (by omega))
   have ix:=hr.idx true k hlt
   have ld:=hr.load z7_ (by omega) hlt
   have hsn:=Zo_ lines hlt
   generalize lines.getD k Go.Proofs.ln0=r at*
   first|with_reducible refine ks [1000014] (And.intro @z0_ (And.intro @d1 (And.intro @rdb (And.intro @ix (@ld))))) ?_|refine kp (And.intro @z0_ (And.intro @d1 (And.intro @rdb (And.intro @ix (@ld))))) ?_
   refine Ow.alloc rfl rfl X8_ fun b7 hb7 hw7=> ?_
   simp only[ze_,List.nil_append,List.cons_append]
   refine Ow.permL (M:=(b7, .cells (lnC Go.Proofs.ln0).toArray 38 (0,0))::D) (by classical exact List.perm_iff_count.2 fun a=>by simp only[List.count_append,List.count_cons,List.count_nil]<;>omega) ?_
   refine ko @z0_ ?_
   first|with_reducible refine ks [] @z0_ ?_|refine kp @z0_ ?_
   have hrb:=KT_ r
   have hil:=r.id.h
   have hPk: (P1++qx_ (lines.take k)).length≤100000+k*50:=by rw[List.length_append];omega
   refine Ow.buildSlice (e:=36) (a8 r.id.l) rfl rfl (KR_ r.id) fun b35 hb35 hw35=> ?_
   refine ko @z0_ ?_
   refine Ow.permL (M:=D++ [(b7,Obj.cells (lnC r).toArray 38 (0,0)),(b35, .cells (a8 r.id.l) 36 (0,0))]) (by classical exact List.perm_iff_count.2 fun a=>by simp only[List.count_append,List.count_cons,List.count_nil]<;>omega) ?_
   refine Ow.callX (Y:= [(b7,Obj.cells (lnC r).toArray 38 (0,0)),(b35, .cells (a8 r.id.l) 36 (0,0))]) (by simp) rfl rfl Tryd.call42 (fun w' hw' hX hn=>aaR_ b3 D _ _ b35 0 [r.id] _ _ _ w' hB hX hn (Kr_ r.id (hw'.has b35 (.cells (a8 r.id.l) 36 (0,0)) (by simp))) (fun _ hm=>Nat.lt_irrefl _ (zz_ hb35 (by simp[keys] at hm ⊢;exact .inr hm))) (by simp at hPk ⊢;omega)) (fun v36 D36 hC36 hS36=> ?_)
   obtain⟨rfl,hB36⟩:=hS36
   have hN36:New w.heap.size D36:=zN_ hC36 hN
   refine Ow.permL (M:=(b7,Obj.cells (lnC r).toArray 38 (0,0)):: (D36++ [(b35, .cells (a8 r.id.l) 36 (0,0))])) (by classical exact List.perm_iff_count.2 fun a=>by simp only[List.count_append,List.count_cons,List.count_nil]<;>omega) ?_
   refine ko @z0_ ?_
   first|with_reducible refine ks [] @z0_ ?_|refine kp @z0_ ?_
   refine Ow.buildSlice (e:=3) #[vi r.share,vi r.place,vi r.spot] rfl rfl (by kernel_rfl) fun b39 hb39 hw39=> ?_
   refine ko @z0_ ?_
   refine Ow.permL (M:=D36++ [(b7,Obj.cells (lnC r).toArray 38 (0,0)),(b35, .cells (a8 r.id.l) 36 (0,0)),(b39, .cells #[vi r.share,vi r.place,vi r.spot] 3 (0,0))]) (by classical exact List.perm_iff_count.2 fun a=>by simp only[List.count_append,List.count_cons,List.count_nil]<;>omega) ?_
   refine Ow.callX (Y:= [(b7,Obj.cells (lnC r).toArray 38 (0,0)),(b35, .cells (a8 r.id.l) 36 (0,0)),(b39, .cells #[vi r.share,vi r.place,vi r.spot] 3 (0,0))]) (by simp) rfl rfl Tryd.call41 (fun w' hw' hX hn=>qB_ b3 D36 _ _ b39 0 [r.share,r.place,r.spot] _ _ _ w' hB36 hX hn (OneS.lit [r.share,r.place,r.spot] rfl rfl (hw'.has b39 (.cells #[vi r.share,vi r.place,vi r.spot] 3 (0,0)) (by simp))) (fun _ hm=>Nat.lt_irrefl _ (zz_ hb39 (by simp[keys] at hm ⊢;exact .inr (.inl hm)))) (by simp[idsL,hil] at hPk ⊢;omega)) (fun v40 D40 hC40 hS40=> ?_)
   obtain⟨rfl,hB40⟩:=hS40
   have hN40:New w.heap.size D40:=zN_ hC40 hN36
   refine ko @z0_ ?_
   first|with_reducible refine ks [] @z0_ ?_|refine kp @z0_ ?_
   refine Again.mk ⟨k+1,D40++ [(b7,Obj.cells (lnC r).toArray 38 (0,0)),(b35, .cells (a8 r.id.l) 36 (0,0)),(b39, .cells #[vi r.share,vi r.place,vi r.spot] 3 (0,0))]⟩ (by show lines.length - (k+1)<lines.length - k;omega) ⟨hlt,hN40.app ⟨hw7,hw35,hw39,trivial⟩, ?_⟩ rfl rfl
   show BldAt b3 (P1++qx_ (lines.take (k+1))) _
   rw[hsn]
   have:=hB40.app (Y:= [(b7,Obj.cells (lnC r).toArray 38 (0,0)),(b35, .cells (a8 r.id.l) 36 (0,0)),(b39, .cells #[vi r.share,vi r.place,vi r.spot] 3 (0,0))])
   simpa [wZ_,idsL,jx_] using this
  ·obtain rfl:k=lines.length:=by omega
   have d1:decide ((lines.length:Int)< (lines.length:Int))=false:=decide_eq_false (by omega)
   rw[List.take_length] at hrl hB
   rw[←hmb] at hB
   have hpl: (kY_ names sums lines).length<34359738368:=by rw[hmb,List.length_append];omega
   first|with_reducible refine ks [] (And.intro @z0_ @d1) ?_|refine kp (And.intro @z0_ @d1) ?_
   refine Ow.callX (Y:= []) (by simp) rfl rfl Tryd.call44 (fun w' hw' hX hn=>wB_ b3 D (kY_ names sums lines) w' hB hX hn hpl) (fun v42 D42 hC42 hS42=> ?_)
   subst hS42
   have hN42:New w.heap.size D42:=zN_ hC42 hN
   rw[List.append_nil]
   refine ko @z0_ ?_
   refine Ow.callFV rfl Tryd.call43 (fun w' hw'=>wg_ (kY_ names sums lines) w' (hC.newP hw' hN42) (by omega)) ?_
   refine ko @z0_ ?_
   first|with_reducible refine ks [] @z0_ ?_|refine kp @z0_ ?_
   refine⟨_,(ke @z0_),hN42, ?_⟩
   rfl
end Go.Proofs
end
section
open Go Go.Proofs Go.Sx Go.StP Go.Flo
namespace Go.Proofs
set_option maxRecDepth 10000
set_option maxHeartbeats 1000000
set_option linter.unusedSimpArgs false
abbrev Ps:=Nat×Int
def nmR (s:List UInt8) (q:Ps):List UInt8×List UInt8×Ps:=
 ((z6_ s q.1 q.2 40).1,(qq_ s (z6_ s q.1 q.2 40).2.1 (z6_ s q.1 q.2 40).2.2 4).1,(qq_ s (z6_ s q.1 q.2 40).2.1 (z6_ s q.1 q.2 40).2.2 4).2)
def Qi_ (s:List UInt8):Nat→Ps→List (List UInt8)×List (List UInt8)×Ps
 |0,q=>([],[],q)
 |k+1,q=>((nmR s q).1:: (Qi_ s k (nmR s q).2.2).1,(nmR s q).2.1:: (Qi_ s k (nmR s q).2.2).2.1,(Qi_ s k (nmR s q).2.2).2.2)
def lnR (s:List UInt8) (q:Ps):LnL×Ps:=
 (⟨wu_ (idR s q.1 q.2).1,(zB_ s (idR s q.1 q.2).2.1 (idR s q.1 q.2).2.2 40).1,(Qx_ s (zB_ s (idR s q.1 q.2).2.1 (idR s q.1 q.2).2.2 40).2).1,(Qx_ s (Qx_ s (zB_ s (idR s q.1 q.2).2.1 (idR s q.1 q.2).2.2 40).2).2).1⟩,(Qx_ s (Qx_ s (zB_ s (idR s q.1 q.2).2.1 (idR s q.1 q.2).2.2 40).2).2).2)
def Vm_ (s:List UInt8):Nat→Ps→List LnL×Ps
 |0,q=>([],q)
 |k+1,q=>((lnR s q).1:: (Vm_ s k (lnR s q).2).1,(Vm_ s k (lnR s q).2).2)
def JK_ (s:List UInt8) (q:Ps):List (List UInt8)×List (List UInt8)×Ps:=Qi_ s (zB_ s q.1 q.2 40).1.toNat (zB_ s q.1 q.2 40).2
def aal_ (s:List UInt8) (q:Ps):List LnL×Ps:=Vm_ s (zB_ s q.1 q.2 8000).1.toNat (zB_ s q.1 q.2 8000).2
def k9_ (s:List UInt8) (q:Ps):List (List UInt8)×List (List UInt8)×List LnL×Ps:=((JK_ s q).1,(JK_ s q).2.1,aal_ s (JK_ s q).2.2)
def MgOk (b:List UInt8):Prop:=wG_ (zh_ b).1 (k9_ (zh_ b).1 (qq_ (zh_ b).1 0 0 4).2).2.2.2.1 (k9_ (zh_ b).1 (qq_ (zh_ b).1 0 0 4).2).2.2.2.2=0∧ql_ (k9_ (zh_ b).1 (qq_ (zh_ b).1 0 0 4).2).1 (k9_ (zh_ b).1 (qq_ (zh_ b).1 0 0 4).2).2.2.1=true∧z9_ (kY_ (k9_ (zh_ b).1 (qq_ (zh_ b).1 0 0 4).2).1 (k9_ (zh_ b).1 (qq_ (zh_ b).1 0 0 4).2).2.1 (k9_ (zh_ b).1 (qq_ (zh_ b).1 0 0 4).2).2.2.1)=b
noncomputable def ab4_ (b:List UInt8):Option (List (List UInt8)×List (List UInt8)×List LnL):=
 open Classical in if MgOk b then some ((k9_ (zh_ b).1 (qq_ (zh_ b).1 0 0 4).2).1,(k9_ (zh_ b).1 (qq_ (zh_ b).1 0 0 4).2).2.1,(k9_ (zh_ b).1 (qq_ (zh_ b).1 0 0 4).2).2.2.1) else none
theorem aa0_ {b s:List UInt8} {names sums:List (List UInt8)} {lines:List LnL} {q:Ps} (hs: (zh_ b).1=s) (h:k9_ s (qq_ s 0 0 4).2=(names,sums,lines,q)):
  (wG_ s q.1 q.2=0∧ql_ names lines=true∧z9_ (kY_ names sums lines)=b→ab4_ b=some (names,sums,lines))∧(¬ (wG_ s q.1 q.2=0∧ql_ names lines=true∧z9_ (kY_ names sums lines)=b)→ab4_ b=none):=by
 unfold ab4_ MgOk
 rw[hs,h]
 constructor
 ·intro hc
  rw[if_pos hc]
 ·intro hc
  rw[if_neg hc]
theorem aen_ (s:List UInt8) (a:Nat) (e n:Int) (hn:0≤n): ((qq_ s a e n).1.length:Int)≤n:=by
 unfold qq_
 split
 ·simpa using hn
 ·split
  ·simpa using hn
  ·split
   ·simpa using hn
   ·simp only[List.length_take,List.length_drop];omega
theorem KC_ (s:List UInt8): ∀ (k:Nat) (q:Ps),Most 40 (Qi_ s k q).1∧Most 4 (Qi_ s k q).2.1
 |0,_=>⟨fun _ h=>(by cases h),fun _ h=>(by cases h)⟩
 |k+1,q=>by
  obtain⟨h1,h2⟩:=KC_ s k (nmR s q).2.2
  unfold Qi_
  refine⟨fun x hx=> ?_,fun x hx=> ?_⟩
  ·rcases List.mem_cons.1 hx with rfl|hx
   ·have:=ab8_ s q.1 q.2 40 (by omega)
    show(z6_ s q.1 q.2 40).1.length≤40
    omega
   ·exact h1 x hx
  ·rcases List.mem_cons.1 hx with rfl|hx
   ·have:=aen_ s (z6_ s q.1 q.2 40).2.1 (z6_ s q.1 q.2 40).2.2 4 (by omega)
    show(qq_ s (z6_ s q.1 q.2 40).2.1 (z6_ s q.1 q.2 40).2.2 4).1.length≤4
    omega
   ·exact h2 x hx
theorem Most.mono {n m:Nat} {l:List (List UInt8)} (h:Most n l) (hm:n≤m):Most m l:=fun s hs=>Nat.le_trans (h s hs) hm
theorem Most.short {n:Nat} {l:List (List UInt8)} (h:Most n l) (hn:n<1099511627776):aeh_ l:=fun s hs=>Nat.lt_of_le_of_lt (h s hs) hn
end Go.Proofs
end
section
open Go Go.Proofs Go.Sx Go.StP Go.Flo
namespace Go.Proofs
set_option maxRecDepth 10000
set_option maxHeartbeats 1000000
set_option linter.unusedSimpArgs false
theorem Z8_ (r:LnL):jb_ (Jn_ Tryd.prog 38) (qb_ Tryd.prog 38) [(0,Value.agg (a8 r.id.l))]=some (.agg (lnC ⟨r.id,0,0,0⟩).toArray):=by
 have hp:Jn_ Tryd.prog 38=some [(0,32),(32,1),(33,1),(34,1)]:=id (by kernel_rfl)
 rw[hp,X8_]
 have e0: (lnC ln0).toArray=(([]:List Value)++ ((ln0.id.l.map v8)++ ([vi ln0.share]++ ([vi ln0.place]++ ([vi ln0.spot]))))).toArray:=by congr 1<;>simp only[lnC,List.append_assoc,List.nil_append,List.append_nil]
 have q0:xL_ (([]:List Value)++ ((ln0.id.l.map v8)++ ([vi ln0.share]++ ([vi ln0.place]++ ([vi ln0.spot]))))).toArray 0 (r.id.l.map v8)=(([]:List Value)++ ((r.id.l.map v8)++ ([vi ln0.share]++ ([vi ln0.place]++ ([vi ln0.spot]))))).toArray:=j2_ _ _ _ _ (by simp) (by simp[ln0.id.h,r.id.h])
 have s0: (([]:List Value)++ ((ln0.id.l.map v8)++ ([vi ln0.share]++ ([vi ln0.place]++ ([vi ln0.spot]))))).toArray.size=35:=by simp[r.id.h,ln0.id.h]
 have z0: (Value.cells (Value.agg (a8 r.id.l))).toList=r.id.l.map v8:=by rw[ze_];rfl
 have y0: (Value.cells (Value.agg (a8 r.id.l))).size=32:=by rw[←Array.length_toList,z0];simp[r.id.h]
 have eZ: (([]:List Value)++ ((r.id.l.map v8)++ ([vi ln0.share]++ ([vi ln0.place]++ ([vi ln0.spot]))))).toArray=(lnC ⟨r.id,0,0,0⟩).toArray:=by congr 1
 simp only[jb_]
 rw[e0]
 unfold Sx.fillV
 simp only[List.getElem?_cons_zero,List.getElem?_cons_succ,z0,y0]
 rw[if_pos ⟨trivial,by rw[s0];decide⟩,q0]
 rw[eZ];rfl
theorem zrMg:qb_ Tryd.prog 59=some (.agg #[.slice none 0 0, .slice none 0 0, .slice none 0 0]):=id (by kernel_rfl)
theorem Vb_:jb_ (Jn_ Tryd.prog 59) (qb_ Tryd.prog 59) []=some (.agg #[.slice none 0 0, .slice none 0 0, .slice none 0 0]):=by
 rw[show Jn_ Tryd.prog 59=some [(0,1),(1,1),(2,1)] from id (by kernel_rfl),zrMg];rfl
theorem Ks_ (v0 v1 v2 q:Value) (a:Bool) (hq:Value.oneCell' q=true∧q.cells= #[q]):zk_ (some (a,1)) (some (mgO v0 v1 v2)) 0 q=some (mgO q v1 v2):=
 zV_ [] [v0] [q] [v1,v2] a _ 59 rfl rfl hq.2 rfl (by simp[hq.1])
theorem X1_ (v0 v1 v2 q:Value) (a:Bool) (hq:Value.oneCell' q=true∧q.cells= #[q]):zk_ (some (a,1)) (some (mgO v0 v1 v2)) 1 q=some (mgO v0 q v2):=
 zV_ [v0] [v1] [q] [v2] a _ 59 rfl rfl hq.2 rfl (by simp[hq.1])
theorem K2_ (v0 v1 v2 q:Value) (a:Bool) (hq:Value.oneCell' q=true∧q.cells= #[q]):zk_ (some (a,1)) (some (mgO v0 v1 v2)) 2 q=some (mgO v0 v1 q):=
 zV_ [v0,v1] [v2] [q] [] a _ 59 rfl rfl hq.2 rfl (by simp[hq.1])
def MgD (D:za_) (b:Nat) (names sums:List (List UInt8)) (lines:List LnL):Prop:= ∃v0 v1 v2,(b,mgO v0 v1 v2)∈D∧GrI D 9 1 v0 names.length (names.map Vk_).flatten∧GrI D 9 1 v1 sums.length (sums.map Vk_).flatten∧GrI D 38 35 v2 lines.length (lines.map lnC).flatten
theorem MgD.mono {D D':za_} {b:Nat} {names sums:List (List UInt8)} {lines:List LnL} (h:MgD D b names sums lines) (hD: ∀p,p∈D→p∈D'):MgD D' b names sums lines:=by
 obtain⟨v0,v1,v2,h1,h2,h3,h4⟩:=h;exact⟨v0,v1,v2,hD _ h1,h2.mono hD,h3.mono hD,h4.mono hD⟩
theorem KS_ (s:List UInt8): (Vk_ s).length=1:=rfl
theorem MgD.inW {w0 w:World} {D:za_} {b:Nat} {names sums:List (List UInt8)} {lines:List LnL} (h:MgD D b names sums lines) (hw:Hp w0 D w):MgIn w b names sums lines:=by
 obtain⟨v0,v1,v2,h1,h2,h3,h4⟩:=h;exact⟨v0,v1,v2,hw.has _ _ h1,h2.slV hw rfl rfl KS_,h3.slV hw rfl rfl KS_,h4.slV hw rfl rfl z7_⟩
def aeY_ (b:List UInt8) (v:Value) (D:za_):Prop:=match ab4_ b with
 |some q=> ∃bm,v= .tuple #[vp bm 0,vi 0]∧MgD D bm q.1 q.2.1 q.2.2
 |none=>v= .tuple #[.pointer none,vi 2]
structure OmG where
 l:List (List UInt8)
 u:List (List UInt8)
 q:Ps
 v0:Value
 v1:Value
 D1:za_
 D2:za_
 DG:za_
structure OmL where
 l:List LnL
 q:Ps
 v:Value
 D3:za_
 DG:za_
set_option linter.defProp false
def zH_:=And.intro (And.intro (And.intro (And.intro (@zf_) (@zg_)) (And.intro (@kI_) (@vt_))) (And.intro (And.intro (@kH_) (@q8_)) (And.intro (@v9_) (@kK_)))) (And.intro (And.intro (And.intro (@vS_) (@w5_)) (And.intro (@JU_) (@xJ_))) (And.intro (And.intro (@aeH_) (@aeT_)) (And.intro (@aek_) (And.intro (@Sx.tup2_0) (@Sx.tup2_1)))))
theorem abm_ (b:List UInt8) (w:World) (hC:GlobC w) (hb:b.length<1099511627776):
  Rets Tryd.prog 8 #[vs b] w (XS w [] (aeY_ b)):=by
 refine Rets.enterX Tryd.func8 rfl (rs:= [.tmp 2, .tmp 3]) Tryd.results8 Tryd.ntmps8 (fun p hp=>by cases hp) (by simp[keys]) ?_
 refine kf ?_
 first|with_reducible refine ks [1000016] @zH_ ?_|refine kp @zH_ ?_
 refine Ow.callFV rfl Tryd.call22 (fun w' hw'=>wC_ b w' (hC.newP hw' trivial) (by omega)) ?_
 have hun: (zh_ b).1.length≤b.length:=Qr_ b
 obtain⟨u,hu⟩: ∃u,u=zh_ b:=⟨_,rfl⟩
 obtain⟨s,ok⟩:=u
 have hus: (zh_ b).1=s:=by rw[←hu]
 rw[hus] at hun
 rw[←hu]
 obtain⟨r,hr⟩: ∃r,k9_ s (qq_ s 0 0 4).2=r:=⟨_,rfl⟩
 obtain⟨rn,rs,rl,rq⟩:=r
 obtain⟨hyes,hno⟩:=aa0_ hus hr
 unfold aeY_
 refine ko @zH_ ?_
 refine Ow.callF rfl rfl Tryd.call23 (S:=fun B v D=> ∃b',B≤b'∧v=vp b' 0∧D= [(b',wrO s 0 0)]) (fun w' hw'=>KA_ s w') ?_
 rintro B v D hab hB ⟨bw,hbw,rfl,rfl⟩
 have hww:w.heap.size≤bw:=by omega
 refine⟨_,Mrg.fresh (by intro q hq;simp only[keys,List.map_cons,List.map_nil,List.mem_singleton] at hq;omega), ?_⟩
 rw[List.nil_append]
 refine ko @zH_ ?_
 refine Ow.build (.agg #[.slice none 0 0, .slice none 0 0, .slice none 0 0]) rfl Vb_ ?_
 refine ko @zH_ ?_
 refine Ow.box rfl rfl fun bm hbm hwm=> ?_
 simp only[xs_,xf_,xg_,ze_]
 have hwbm:bw<bm:=zz_ hbm (by simp[keys])
 refine Ow.permL (M:= [(bm,mgO (.slice none 0 0) (.slice none 0 0) (.slice none 0 0)),(bw,wrO s 0 0)]) (List.Perm.swap _ _ _) ?_
 refine ko @zH_ ?_
 refine Ow.callM rfl rfl Tryd.call24 (by simp[keys]) (fun w' hw'=>we_ bw s 0 0 4 w' (Nat.zero_le _) (by omega) (hw'.has _ _ (List.mem_cons_of_mem _ List.mem_cons_self))) ?_
 have r1:=va_ (s:=s) (a:=0) (e:=0) (n:=4) (Nat.zero_le _)
 unfold k9_ at hr
 generalize qq_ s 0 0 4=p at*
 obtain⟨hd,a1,e1⟩:=p
 simp only at r1 hr ⊢
 refine kn ?_
 refine ko @zH_ ?_
 refine Ow.callM rfl rfl Tryd.call25 (by simp[keys]) (fun w' hw'=>z1_ bw s a1 e1 40 w' r1.2 (by omega) (hw'.has _ _ (List.mem_cons_of_mem _ List.mem_cons_self))) ?_
 have r2:=jh_ (s:=s) (a:=a1) (e:=e1) (most:=40) r1.2
 have m2:=kG_ (s:=s) (a:=a1) (e:=e1) (most:=40) (by omega)
 have hnm:JK_ s (a1,e1)=Qi_ s (zB_ s a1 e1 40).1.toNat (zB_ s a1 e1 40).2:=rfl
 generalize zB_ s a1 e1 40=p at*
 obtain⟨n0,a2,e2⟩:=p
 simp only at r2 m2 hnm ⊢
 obtain⟨n,rfl⟩: ∃n:Nat,n0=(n:Int):=⟨n0.toNat,by omega⟩
 rw[Int.toNat_natCast] at hnm
 refine kn ?_
 refine ko @zH_ ?_
 refine Cw.permL (M:=(bm,mgO (.slice none 0 0) (.slice none 0 0) (.slice none 0 0)):: (bw,wrO s a2 e2):: ([]++ ([]++ []))) (List.Perm.refl _) ?_
 refine Cw.loopG (G:=OmG) [23,24,25,26,27,28,29,30,31,32,33,34,35,36,37,38,39,40,41,42,43,44,45,46,22] (fun g=> [(22,vi g.l.length)]) (fun g=>(bm,mgO g.v0 g.v1 (.slice none 0 0)):: (bw,wrO s g.q.1 g.q.2):: (g.D1++ (g.D2++g.DG))) (fun g=>g.l.length≤n∧g.u.length=g.l.length∧g.q.1≤s.length∧New w.heap.size g.D1∧New w.heap.size g.D2∧New w.heap.size g.DG∧Gr g.D1 9 1 g.v0 g.l.length (g.l.map Vk_).flatten∧Gr g.D2 9 1 g.v1 g.u.length (g.u.map Vk_).flatten∧Qi_ s n (a2,e2)=(g.l++ (Qi_ s (n - g.l.length) g.q).1,g.u++ (Qi_ s (n - g.l.length) g.q).2.1,(Qi_ s (n - g.l.length) g.q).2.2)) (fun g=>n - g.l.length) ⟨[],[],(a2,e2), .slice none 0 0, .slice none 0 0,[],[],[]⟩ rfl rfl ?_ ?_
 ·exact⟨Nat.zero_le _,rfl,r2.2,trivial,trivial,trivial,Gr.nl,Gr.nl,rfl⟩
 intro g j hg
 refine kv ?_
 obtain⟨l,u,⟨a,e⟩,v0,v1,D1,D2,DG⟩:=g
 simp only at hg ⊢
 obtain⟨hln,hul,hal,hN1,hN2,hNG,hG1,hG2,hrr⟩:=hg
 by_cases hlt:l.length<n
 ·have d1:decide ((l.length:Int)< (n:Int))=true:=decide_eq_true (by omega)
  have hpr:Qi_ s n (a2,e2)=(l++ [(nmR s (a,e)).1]++ (Qi_ s (n - (l++ [(nmR s (a,e)).1]).length) (nmR s (a,e)).2.2).1,u++ [(nmR s (a,e)).2.1]++ (Qi_ s (n - (l++ [(nmR s (a,e)).1]).length) (nmR s (a,e)).2.2).2.1,(Qi_ s (n - (l++ [(nmR s (a,e)).1]).length) (nmR s (a,e)).2.2).2.2):=by
   rw[hrr,show n - l.length=(n - (l++ [(nmR s (a,e)).1]).length)+1 by simp;omega]
   generalize n - (l++ [(nmR s (a,e)).1]).length=m
   show(l++ ((nmR s (a,e)).1:: (Qi_ s m (nmR s (a,e)).2.2).1),u++ ((nmR s (a,e)).2.1:: (Qi_ s m (nmR s (a,e)).2.2).2.1),(Qi_ s m (nmR s (a,e)).2.2).2.2)=_
   rw[List.append_assoc,List.append_assoc];rfl
  have hrow:nmR s (a,e)=((z6_ s a e 40).1,(qq_ s (z6_ s a e 40).2.1 (z6_ s a e 40).2.2 4).1,(qq_ s (z6_ s a e 40).2.1 (z6_ s a e 40).2.2 4).2):=rfl
  first|with_reducible refine ks [] (And.intro @zH_ @d1) ?_|refine kp (And.intro @zH_ @d1) ?_
  refine Cw.regionS [bm] [0,1,2,3,5,4,6,7,8,9,10,11] [11] (by kernel_rfl) (by kernel_rfl) (by kernel_rfl) ?_
  simp only[zm_, ↓zd_, ↓zb_, ↓zE_, ↓zD_,zc_]
  refine kq @zH_ ?_
  refine Ow.soft rfl rfl rfl ?_
  refine Ow.callM rfl rfl Tryd.call26 (by simp[keys]) (fun w' hw'=>Vt_ bw s a e 40 w' hal (by omega) (hw'.has _ _ (List.mem_cons_of_mem _ List.mem_cons_self))) ?_
  have t1:=(JV_ (s:=s) (a:=a) (e:=e) (most:=40) hal).2
  generalize z6_ s a e 40=p at*
  obtain⟨x,a3,e3⟩:=p
  simp only at hrow t1 ⊢
  refine kn ?_
  with_reducible refine Ow.nil ?_
  refine⟨(fun r hr=>by rw[List.mem_singleton] at hr;subst hr;simp(disch:=omega) only[List.cons_append,List.nil_append,zO_,zv_]), ?_⟩
  refine kq @zH_ ?_
  refine Ow.soft rfl rfl rfl ?_
  refine Ow.buildSlice (e:=9) #[vs x] rfl rfl (by kernel_rfl) fun ba hba hwa=> ?_
  with_reducible refine Ow.nil ?_
  refine⟨(fun r hr=>by rw[List.mem_singleton] at hr;subst hr;simp(disch:=omega) only[List.cons_append,List.nil_append,zO_,zv_]), ?_⟩
  refine kq @zH_ ?_
  refine Ow.soft rfl rfl rfl ?_
  refine Ow.permL (M:=D1++ ((bm,mgO v0 v1 (.slice none 0 0)):: (bw,wrO s a3 e3):: (D2++ (DG++ [(ba, .cells #[vs x] 9 (0,0))])))) (by classical exact List.perm_iff_count.2 fun a=>by simp only[List.count_append,List.count_cons,List.count_nil]<;>omega) ?_
  refine Ow.appendXG (e:=9) (k:=1) (new:=Vk_ x) (X:=D1) v0 rfl rfl rfl rfl Tryd.underlying57 (id (by kernel_rfl):qi_ Tryd.prog 9=some (false,1)) (by kernel_rfl) (id (by kernel_rfl):qb_ Tryd.prog 9=some (vs [])) rfl Tryd.underlying57 (by intro k h;cases h) hG1 (fun w' hw'=>AppX.one1 (hw'.has ba (.cells #[vs x] 9 (0,0)) (by simp)) rfl rfl) (by omega) (fun B4 v4 D4 hA4 hB4 hG4 hk41 hk42 hlk4=> ?_)
  have hN4:New w.heap.size D4:=New.of_le fun q hq=>by
   rcases hk42 q hq with h|h
   ·exact hN1.le q h
   ·omega
  refine Ow.permL (M:=(bm,mgO v0 v1 (.slice none 0 0)):: (bw,wrO s a3 e3):: (D4++ (D2++ (DG++ [(ba, .cells #[vs x] 9 (0,0))])))) (by classical exact List.perm_iff_count.2 fun a=>by simp only[List.count_append,List.count_cons,List.count_nil]<;>omega) ?_
  with_reducible refine Ow.nil ?_
  refine⟨(fun r hr=>by rw[List.mem_singleton] at hr;subst hr;simp(disch:=omega) only[List.cons_append,List.nil_append,zO_,zv_]), ?_⟩
  have st4: ∀a,zk_ (some (a,1)) (some (mgO v0 v1 (.slice none 0 0))) 0 v4=some (mgO v4 v1 (.slice none 0 0)):=fun a=>Ks_ v0 v1 _ v4 a hG4.cell
  refine kq @zH_ ?_
  refine Ow.store rfl rfl rfl (ke (And.intro @zH_ @st4)) ?_
  refine ko @zH_ ?_
  refine Cw.regionS [bm] [0,1,2,3,5,4,6,7,8,9,10,11] [11] (by kernel_rfl) (by kernel_rfl) (by kernel_rfl) ?_
  simp only[zm_, ↓zd_, ↓zb_, ↓zE_, ↓zD_,zc_]
  refine kq @zH_ ?_
  refine Ow.soft rfl rfl rfl ?_
  refine Ow.callM rfl rfl Tryd.call24 (by simp[keys]) (fun w' hw'=>we_ bw s a3 e3 4 w' t1 (by omega) (hw'.has _ _ (List.mem_cons_of_mem _ List.mem_cons_self))) ?_
  have t2:=(va_ (s:=s) (a:=a3) (e:=e3) (n:=4) t1).2
  generalize qq_ s a3 e3 4=p at*
  obtain⟨y,a4,e4⟩:=p
  simp only at hrow t2 ⊢
  rw[hrow] at hpr
  simp only at hpr
  refine kn ?_
  with_reducible refine Ow.nil ?_
  refine⟨(fun r hr=>by rw[List.mem_singleton] at hr;subst hr;simp(disch:=omega) only[List.cons_append,List.nil_append,zO_,zv_]), ?_⟩
  refine kq @zH_ ?_
  refine Ow.soft rfl rfl rfl ?_
  refine Ow.buildSlice (e:=9) #[vs y] rfl rfl (by kernel_rfl) fun bc hbc hwc=> ?_
  with_reducible refine Ow.nil ?_
  refine⟨(fun r hr=>by rw[List.mem_singleton] at hr;subst hr;simp(disch:=omega) only[List.cons_append,List.nil_append,zO_,zv_]), ?_⟩
  refine kq @zH_ ?_
  refine Ow.soft rfl rfl rfl ?_
  refine Ow.permL (M:=D2++ ((bm,mgO v4 v1 (.slice none 0 0)):: (bw,wrO s a4 e4):: (D4++ (DG++ [(ba, .cells #[vs x] 9 (0,0)),(bc, .cells #[vs y] 9 (0,0))])))) (by classical exact List.perm_iff_count.2 fun a=>by simp only[List.count_append,List.count_cons,List.count_nil]<;>omega) ?_
  refine Ow.appendXG (e:=9) (k:=1) (new:=Vk_ y) (X:=D2) v1 rfl rfl rfl rfl Tryd.underlying57 (id (by kernel_rfl):qi_ Tryd.prog 9=some (false,1)) (by kernel_rfl) (id (by kernel_rfl):qb_ Tryd.prog 9=some (vs [])) rfl Tryd.underlying57 (by intro k h;cases h) hG2 (fun w' hw'=>AppX.one1 (hw'.has bc (.cells #[vs y] 9 (0,0)) (by simp)) rfl rfl) (by omega) (fun B5 v5 D5 hA5 hB5 hG5 hk51 hk52 hlk5=> ?_)
  have hN5:New w.heap.size D5:=New.of_le fun q hq=>by
   rcases hk52 q hq with h|h
   ·exact hN2.le q h
   ·omega
  refine Ow.permL (M:=(bm,mgO v4 v1 (.slice none 0 0)):: (bw,wrO s a4 e4):: (D4++ (D5++ (DG++ [(ba, .cells #[vs x] 9 (0,0)),(bc, .cells #[vs y] 9 (0,0))])))) (by classical exact List.perm_iff_count.2 fun a=>by simp only[List.count_append,List.count_cons,List.count_nil]<;>omega) ?_
  with_reducible refine Ow.nil ?_
  refine⟨(fun r hr=>by rw[List.mem_singleton] at hr;subst hr;simp(disch:=omega) only[List.cons_append,List.nil_append,zO_,zv_]), ?_⟩
  have st5: ∀a,zk_ (some (a,1)) (some (mgO v4 v1 (.slice none 0 0))) 1 v5=some (mgO v4 v5 (.slice none 0 0)):=fun a=>X1_ v4 v1 _ v5 a hG5.cell
  refine kq @zH_ ?_
  refine Ow.store rfl rfl rfl (ke (And.intro @zH_ @st5)) ?_
  refine ko @zH_ ?_
  have hl1: (l++ [x]).length=l.length+1:=by simp
  refine Again.mk ⟨l++ [x],u++ [y],(a4,e4),v4,v5,D4,D5,DG++ [(ba, .cells #[vs x] 9 (0,0)),(bc, .cells #[vs y] 9 (0,0))]⟩ (by show n - (l++ [x]).length<n - l.length;omega) ⟨by show(l++ [x]).length≤n;omega,by show(u++ [y]).length=(l++ [x]).length;simp[hul],t2,hN4,hN5,hNG.app ⟨hwa,hwc,trivial⟩,by simpa using hG4,by simpa using hG5,hpr⟩ rfl (by simp only[hl1];rfl)
 ·obtain rfl:n=l.length:=by omega
  have d1:decide ((l.length:Int)< (l.length:Int))=false:=decide_eq_false (by omega)
  rw[Nat.sub_self] at hrr
  simp only[Qi_,List.append_nil] at hrr
  rw[hrr] at hnm
  rw[hnm] at hr
  simp only at hr
  have hmo:=KC_ s l.length (a2,e2)
  rw[hrr] at hmo
  simp only at hmo
  clear hrr hnm
  first|with_reducible refine ks [] (And.intro @zH_ @d1) ?_|refine kp (And.intro @zH_ @d1) ?_
  refine Ow.callM rfl rfl Tryd.call25 (by simp[keys]) (fun w' hw'=>z1_ bw s a e 8000 w' hal (by omega) (hw'.has _ _ (List.mem_cons_of_mem _ List.mem_cons_self))) ?_
  have r5:=(jh_ (s:=s) (a:=a) (e:=e) (most:=8000) hal).2
  have m5:=kG_ (s:=s) (a:=a) (e:=e) (most:=8000) (by omega)
  have hlm:aal_ s (a,e)=Vm_ s (zB_ s a e 8000).1.toNat (zB_ s a e 8000).2:=rfl
  generalize zB_ s a e 8000=p at*
  obtain⟨n0,a5,e5⟩:=p
  simp only at r5 m5 hlm ⊢
  obtain⟨n,rfl⟩: ∃n:Nat,n0=(n:Int):=⟨n0.toNat,by omega⟩
  rw[Int.toNat_natCast] at hlm
  refine kn ?_
  refine ko @zH_ ?_
  refine Cw.permL (M:=(bm,mgO v0 v1 (.slice none 0 0)):: (bw,wrO s a5 e5):: (D1++ (D2++ ([]++DG)))) (by classical exact List.perm_iff_count.2 fun a=>by simp only[List.count_append,List.count_cons,List.count_nil]<;>omega) ?_
  refine Cw.loopG (G:=OmL) [50,51,52,53,8,54,55,56,57,58,59,60,61,62,63,64,65,66,67,68,69,70,71,72,73,49] (fun q=> [(49,vi q.l.length)]) (fun q=>(bm,mgO v0 v1 q.v):: (bw,wrO s q.q.1 q.q.2):: (D1++ (D2++ (q.D3++q.DG)))) (fun q=>q.l.length≤n∧q.q.1≤s.length∧New w.heap.size q.D3∧New w.heap.size q.DG∧Gr q.D3 38 35 q.v q.l.length (q.l.map lnC).flatten∧Vm_ s n (a5,e5)=(q.l++ (Vm_ s (n - q.l.length) q.q).1,(Vm_ s (n - q.l.length) q.q).2)) (fun q=>n - q.l.length) ⟨[],(a5,e5), .slice none 0 0,[],DG⟩ rfl rfl ?_ ?_
  ·exact⟨Nat.zero_le _,r5,trivial,hNG,Gr.nl,rfl⟩
  intro q jq hq
  refine kv ?_
  clear hNG
  obtain⟨m,⟨a,e⟩,v,D3,DG⟩:=q
  simp only at hq ⊢
  obtain⟨hmn,hal,hN3,hNG,hG3,hrr⟩:=hq
  by_cases hlt:m.length<n
  ·have d1:decide ((m.length:Int)< (n:Int))=true:=decide_eq_true (by omega)
   have hpr:Vm_ s n (a5,e5)=(m++ [(lnR s (a,e)).1]++ (Vm_ s (n - (m++ [(lnR s (a,e)).1]).length) (lnR s (a,e)).2).1,(Vm_ s (n - (m++ [(lnR s (a,e)).1]).length) (lnR s (a,e)).2).2):=by
    rw[hrr,show n - m.length=(n - (m++ [(lnR s (a,e)).1]).length)+1 by simp;omega]
    generalize n - (m++ [(lnR s (a,e)).1]).length=j
    show(m++ ((lnR s (a,e)).1:: (Vm_ s j (lnR s (a,e)).2).1),(Vm_ s j (lnR s (a,e)).2).2)=_
    rw[List.append_assoc];rfl
   have hrow:lnR s (a,e)=(⟨wu_ (idR s a e).1,(zB_ s (idR s a e).2.1 (idR s a e).2.2 40).1,(Qx_ s (zB_ s (idR s a e).2.1 (idR s a e).2.2 40).2).1,(Qx_ s (Qx_ s (zB_ s (idR s a e).2.1 (idR s a e).2.2 40).2).2).1⟩,(Qx_ s (Qx_ s (zB_ s (idR s a e).2.1 (idR s a e).2.2 40).2).2).2):=rfl
   have hNr:New w.heap.size ((bm,mgO v0 v1 v):: (bw,wrO s a e):: (D1++ (D2++ (D3++DG)))):=⟨hwm,hww,hN1.app (hN2.app (hN3.app hNG))⟩
   first|with_reducible refine ks [15] (And.intro @zH_ @d1) ?_|refine kp (And.intro @zH_ @d1) ?_
   refine Ow.callM rfl rfl Tryd.call27 (by simp[keys]) (fun w' hw'=>X3_ bw s a e w' hal (by omega) (hw'.has _ _ (List.mem_cons_of_mem _ List.mem_cons_self))) ?_
   obtain⟨i,hi⟩: ∃i,i=wu_ (idR s a e).1:=⟨_,rfl⟩
   have hil: (idR s a e).1=i.l:=by rw[hi];exact(aaC_ (aeG_ s a e)).symm
   have hle1:=adC_ (e:=e) hal
   rw[←hi] at hrow
   generalize idR s a e=p at*
   obtain⟨p1,a3,e3⟩:=p
   simp only at hil hrow hle1 ⊢
   subst hil
   clear hi
   refine kn ?_
   refine ko @zH_ ?_
   refine Ow.build (.agg (lnC ⟨i,0,0,0⟩).toArray) rfl (Z8_ ⟨i,0,0,0⟩) ?_
   refine ko @zH_ ?_
   refine Ow.alloc rfl rfl X8_ fun b8 hb8 hw8=> ?_
   simp only[ze_,List.nil_append,List.cons_append]
   have h8m:bm<b8:=zz_ hb8 (by simp[keys])
   have h8w:bw<b8:=zz_ hb8 (by simp[keys])
   refine Ow.permL (M:=(b8, .cells (lnC Go.Proofs.ln0).toArray 38 (0,0)):: (bm,mgO v0 v1 v):: (bw,wrO s a3 e3):: (D1++ (D2++ (D3++DG)))) (by classical exact List.perm_iff_count.2 fun a=>by simp only[List.count_append,List.count_cons,List.count_nil]<;>omega) ?_
   refine ko @zH_ ?_
   first|with_reducible refine ks [] @zH_ ?_|refine kp @zH_ ?_
   refine Ow.callM rfl rfl Tryd.call25 (by simp[keys]) (fun w' hw'=>z1_ bw s a3 e3 40 w' hle1 (by omega) (hw'.has _ _ (List.mem_cons_of_mem _ (List.mem_cons_of_mem _ List.mem_cons_self)))) ?_
   have hle2:=(jh_ (e:=e3) (most:=40) hle1).2
   generalize zB_ s a3 e3 40=p at*
   obtain⟨x1,a4,e4⟩:=p
   simp only at hrow hle2 ⊢
   refine kn ?_
   refine ko @zH_ ?_
   refine Ow.callM rfl rfl Tryd.call25 (by simp[keys]) (fun w' hw'=>z1_ bw s a4 e4 1099511627775 w' hle2 (by omega) (hw'.has _ _ (List.mem_cons_of_mem _ (List.mem_cons_of_mem _ List.mem_cons_self)))) ?_
   have hle3:=(jh_ (e:=e4) (most:=1099511627775) hle2).2
   have hrow2:lnR s (a,e)=(⟨i,x1,(zB_ s a4 e4 1099511627775).1,(Qx_ s (zB_ s a4 e4 1099511627775).2).1⟩,(Qx_ s (zB_ s a4 e4 1099511627775).2).2):=hrow
   clear hrow
   generalize zB_ s a4 e4 1099511627775=p at*
   obtain⟨x2,a6,e6⟩:=p
   simp only at hrow2 hle3 ⊢
   refine kn ?_
   refine ko @zH_ ?_
   refine Ow.callM rfl rfl Tryd.call25 (by simp[keys]) (fun w' hw'=>z1_ bw s a6 e6 1099511627775 w' hle3 (by omega) (hw'.has _ _ (List.mem_cons_of_mem _ (List.mem_cons_of_mem _ List.mem_cons_self)))) ?_
   have hle4:=(jh_ (e:=e6) (most:=1099511627775) hle3).2
   have hrow3:lnR s (a,e)=(⟨i,x1,x2,(zB_ s a6 e6 1099511627775).1⟩,(zB_ s a6 e6 1099511627775).2):=hrow2
   clear hrow2
   generalize zB_ s a6 e6 1099511627775=p at*
   obtain⟨x3,a7,e7⟩:=p
   simp only at hrow3 hle4 ⊢
   rw[hrow3] at hpr
   simp only at hpr
   refine kn ?_
   refine ko @zH_ ?_
   generalize (LnL.mk i x1 x2 x3)=r at*
   have l3:=hG3.len
   first|with_reducible refine ks [] @zH_ ?_|refine kp @zH_ ?_
   refine Cw.regionS [bm,b8] [0,1,2,3,4,5,6,7,8,9,10] [10] (by kernel_rfl) (by kernel_rfl) (by kernel_rfl) ?_
   simp only[zm_, ↓zd_, ↓zb_, ↓zE_, ↓zD_,zc_]
   refine kq @zH_ ?_
   refine Ow.soft rfl rfl rfl ?_
   refine Ow.buildSlice (e:=38) (lnC r).toArray rfl rfl (vX_ Tryd.underlying51 agn_ X8_ (by decide) (z7_ _)) fun ba hba hwa=> ?_
   with_reducible refine Ow.nil ?_
   refine⟨(fun r hr=>by simp only[List.mem_cons,List.not_mem_nil,or_false] at hr;rcases hr with rfl|rfl<;>simp(disch:=omega) only[List.cons_append,List.nil_append,zO_,zv_]), ?_⟩
   refine kq @zH_ ?_
   refine Ow.soft rfl rfl rfl ?_
   refine Ow.permL (M:=D3++ ((b8, .cells (lnC r).toArray 38 (0,0)):: (bm,mgO v0 v1 v):: (bw,wrO s a7 e7):: (D1++ (D2++ (DG++ [(ba, .cells (lnC r).toArray 38 (0,0))]))))) (by classical exact List.perm_iff_count.2 fun a=>by simp only[List.count_append,List.count_cons,List.count_nil]<;>omega) ?_
   refine Ow.appendXG (e:=38) (k:=1) (new:=lnC r) (X:=D3) v rfl rfl rfl rfl Tryd.underlying51 agn_ (by kernel_rfl) X8_ (by rw[q8_,List.size_toArray,z7_]) Tryd.underlying51 (by intro k h;cases h) hG3 (fun w' hw'=>AppX.one1 (hw'.has ba (.cells (lnC r).toArray 38 (0,0)) (by simp)) (z7_ _) (ZE_ _)) (by omega) (fun B4 v4 D4 hA4 hB4 hG4 hk41 hk42 hlk4=> ?_)
   have hN4:New w.heap.size D4:=New.of_le fun q hq=>by
    rcases hk42 q hq with h|h
    ·exact hN3.le q h
    ·omega
   refine Ow.permL (M:=(b8, .cells (lnC r).toArray 38 (0,0)):: (bm,mgO v0 v1 v):: (bw,wrO s a7 e7):: (D1++ (D2++ (D4++ (DG++ [(ba, .cells (lnC r).toArray 38 (0,0))]))))) (by classical exact List.perm_iff_count.2 fun a=>by simp only[List.count_append,List.count_cons,List.count_nil]<;>omega) ?_
   with_reducible refine Ow.nil ?_
   refine⟨(fun r hr=>by simp only[List.mem_cons,List.not_mem_nil,or_false] at hr;rcases hr with rfl|rfl<;>simp(disch:=omega) only[List.cons_append,List.nil_append,zO_,zv_]), ?_⟩
   have st6: ∀a,zk_ (some (a,1)) (some (mgO v0 v1 v)) 2 v4=some (mgO v0 v1 v4):=fun a=>K2_ v0 v1 v v4 a hG4.cell
   refine kq @zH_ ?_
   refine Ow.store rfl rfl rfl (ke (And.intro @zH_ @st6)) ?_
   refine ko @zH_ ?_
   refine Cw.permL (M:=(bm,mgO v0 v1 v4):: (bw,wrO s a7 e7):: (D1++ (D2++ (D4++ ((b8, .cells (lnC r).toArray 38 (0,0)):: (DG++ [(ba, .cells (lnC r).toArray 38 (0,0))])))))) (by classical exact List.perm_iff_count.2 fun a=>by simp only[List.count_append,List.count_cons,List.count_nil]<;>omega) ?_
   first|with_reducible refine ks [] @zH_ ?_|refine kp @zH_ ?_
   have hl1: (m++ [r]).length=m.length+1:=by simp
   refine Again.mk ⟨m++ [r],(a7,e7),v4,D4,(b8, .cells (lnC r).toArray 38 (0,0)):: (DG++ [(ba, .cells (lnC r).toArray 38 (0,0))])⟩ (by show n - (m++ [r]).length<n - m.length;omega) ⟨by show(m++ [r]).length≤n;omega,hle4,hN4,⟨hw8,hNG.app ⟨hwa,trivial⟩⟩,by simpa using hG4,hpr⟩ rfl (by simp only[hl1];rfl)
  ·obtain rfl:n=m.length:=by omega
   have d1:decide ((m.length:Int)< (m.length:Int))=false:=decide_eq_false (by omega)
   rw[Nat.sub_self] at hrr
   rw[hrr] at hlm
   rw[hlm] at hr
   simp only[Vm_,List.append_nil,Prod.mk.injEq] at hr
   obtain⟨hr1,hr2,hr3,hr4⟩:=hr
   subst hr1 hr2 hr3 hr4
   simp only at hyes hno
   have hNr:New w.heap.size ((bm,mgO v0 v1 v):: (bw,wrO s a e):: (D1++ (D2++ (D3++DG)))):=⟨hwm,hww,hN1.app (hN2.app (hN3.app hNG))⟩
   have hMD:MgD ((bm,mgO v0 v1 v):: (bw,wrO s a e):: (D1++ (D2++ (D3++DG)))) bm l u m:=⟨v0,v1,v,by simp,Gr.i hG1 fun p hp=>by simp[hp],Gr.i hG2 fun p hp=>by simp[hp],Gr.i hG3 fun p hp=>by simp[hp]⟩
   have hnl:l.length≤40:=by omega
   have hll:m.length≤8000:=by omega
   clear hrr hlm
   first|with_reducible refine ks [] (And.intro @zH_ @d1) ?_|refine kp (And.intro @zH_ @d1) ?_
   refine Cw.rebaseX (S1:=fun v D=>((wG_ s a e=0∧ql_ l m=true∧z9_ (kY_ l u m)=b)→v= .tuple #[vp bm 0,vi 0])∧(¬ (wG_ s a e=0∧ql_ l m=true∧z9_ (kY_ l u m)=b)→v= .tuple #[.pointer none,vi 2])) (by rfl) (fun w1 hw1=> ?_) (fun v' D' hD' hv'=> ?_)
   ·have hC1:=hC.newP hw1 hNr
    have hM1:=hMD.inW hw1
    have hb1:w1.heap[bw]? =some (wrO s a e):=hw1.has _ _ (by simp)
    have hbl:=(Array.getElem?_eq_some_iff.1 hb1).1
    clear hw1 hMD hNr
    first|with_reducible refine ks [] @zH_ ?_|refine kp @zH_ ?_
    refine Ow.callFV rfl Tryd.call28 (fun w' hw'=>JC_ bw s a e w' (by rw[hw'.old bw hbl (by simp[keys])];exact hb1)) ?_
    by_cases he:wG_ s a e=0
    ·have e1': (wG_ s a e !=0)=false:=by rw[he];rfl
     refine ko (And.intro @zH_ @e1') ?_
     refine Ow.callFV rfl Tryd.call18 (fun w' hw'=>vg_ bm l u m w' (hM1.old hw' trivial) (by omega) (by omega) (hmo.1.short (by decide))) ?_
     cases hri:ql_ l m with
     |false=>
      refine ko @zH_ ?_
      first|with_reducible refine ks [] @zH_ ?_|refine kp @zH_ ?_
      refine⟨_,(ke @zH_), ?_⟩
      exact⟨Ext.refl w1 [],⟨fun h=>(by have:=h.2.1;cases this),fun _=>rfl⟩⟩
     |true=>
      refine ko @zH_ ?_
      refine Ow.callFV rfl Tryd.call21 (fun w' hw'=>ZU_ bm l u m w' (hC1.newP hw' trivial) (hM1.old hw' trivial) hul hnl hll (hmo.1.mono (by decide)) (hmo.2.mono (by decide))) ?_
      by_cases hbb:z9_ (kY_ l u m)=b
      ·have d5: (z9_ (kY_ l u m) !=b)=false:=bne_eq_false_iff_eq.2 hbb
       refine ko (And.intro @zH_ @d5) ?_
       first|with_reducible refine ks [] @zH_ ?_|refine kp @zH_ ?_
       refine⟨_,(ke @zH_), ?_⟩
       exact⟨Ext.refl w1 [],⟨fun _=>rfl,fun h=>absurd ⟨he,rfl,hbb⟩ h⟩⟩
      ·have d5: (z9_ (kY_ l u m) !=b)=true:=bne_iff_ne.2 hbb
       refine ko (And.intro @zH_ @d5) ?_
       first|with_reducible refine ks [] @zH_ ?_|refine kp @zH_ ?_
       refine⟨_,(ke @zH_), ?_⟩
       exact⟨Ext.refl w1 [],⟨fun h=>absurd h.2.2 hbb,fun _=>rfl⟩⟩
    ·have e1': (wG_ s a e !=0)=true:=bne_iff_ne.2 he
     refine ko (And.intro @zH_ @e1') ?_
     first|with_reducible refine ks [] @zH_ ?_|refine kp @zH_ ?_
     refine⟨_,(ke @zH_), ?_⟩
     exact⟨Ext.refl w1 [],⟨fun h=>absurd h.1 he,fun _=>rfl⟩⟩
   ·refine⟨Ext.of_new (hNr.app hD'), ?_⟩
    by_cases hc:wG_ s a e=0∧ql_ l m=true∧z9_ (kY_ l u m)=b
    ·rw[hyes hc]
     exact⟨bm,hv'.1 hc,hMD.mono fun p hp=>List.mem_append_left _ hp⟩
    ·rw[hno hc]
     exact hv'.2 hc
end Go.Proofs
end
section
open Go Go.Proofs Go.Sx Go.StP Go.Flo
namespace Go.Proofs
set_option maxRecDepth 10000
set_option maxHeartbeats 1000000
set_option linter.unusedSimpArgs false
theorem aka_ (b o:Nat):qw_ Tryd.prog .eql 32 (vp b o) (.pointer none)=some (.bool false):=by
 simp[qw_,eqX,qp_,qa_,Tryd.underlying32,vp]
theorem ahg_:qw_ Tryd.prog .eql 32 (.pointer none) (.pointer none)=some (.bool true):=by
 simp[qw_,eqX,qp_,qa_,Tryd.underlying32]
set_option linter.defProp false
def QM_:=And.intro (@zf_) (@zg_)
theorem aaX_ (b o n c:Nat):qw_ Tryd.prog .eql 51 (vsl b o n c) (.slice none 0 0)=some (.bool false):=by
 simp[qw_,eqX,qp_,qa_,Tryd.underlying51,vsl]
theorem Xl_:qw_ Tryd.prog .eql 51 (.slice none 0 0) (.slice none 0 0)=some (.bool true):=by
 simp[qw_,eqX,qp_,qa_,Tryd.underlying51]
theorem XV_ (v:Value) (ls:List LnL) (w:World) (hv:LnSl w v ls) (hl:ls.length<1000000):
  Rets Tryd.prog 45 #[v] w (XS w [] (fun v D=>Gr D 38 35 v ls.length (ls.map lnC).flatten)):=by
 obtain⟨b,off,c,arr,E,fz,hr,hc,⟨rfl,rfl,rfl⟩ | ⟨rfl,hb,hsz⟩⟩:=hv
 ·refine Rets.enterX Tryd.func45 rfl (rs:= [.tmp 2]) Tryd.results45 Tryd.ntmps45 (fun p hp=>by cases hp) (by simp[keys]) ?_
  refine kf ?_
  first|with_reducible refine ks [] (And.intro @QM_ (And.intro @aaX_ (@Xl_))) ?_|refine kp (And.intro @QM_ (And.intro @aaX_ (@Xl_))) ?_
  refine⟨_,(ke @QM_), ?_⟩
  exact⟨Ext.refl _ _,Gr.nl⟩
 ·have hbl:=(Array.getElem?_eq_some_iff.1 hb).1
  have hv:LnSl w (vsl b off ls.length c) ls:=⟨b,off,c,arr,E,fz,hr,hc, .inr ⟨rfl,hb,hsz⟩⟩
  refine Rets.enterX Tryd.func45 rfl (rs:= [.tmp 2]) Tryd.results45 Tryd.ntmps45 (fun p hp=>by cases hp) (by simp[keys]) ?_
  refine kf ?_
  first|with_reducible refine ks [] (And.intro @QM_ (And.intro @aaX_ (@Xl_))) ?_|refine kp (And.intro @QM_ (And.intro @aaX_ (@Xl_))) ?_
  refine Ow.buildSlice (e:=38) #[] rfl rfl (by kernel_rfl) fun b1 hb1 hw1=> ?_
  refine ko @QM_ ?_
  refine Ow.appendG (e:=38) (k:=ls.length) (new:=(ls.map lnC).flatten) (vsl b1 0 0 0) rfl rfl rfl Tryd.underlying51 Tryd.ag38 (by kernel_rfl) X8_ (by rw[q8_,List.size_toArray,z7_]) Tryd.underlying51 (by intro k h;cases h) (.inr ⟨rfl,rfl,b1,rfl,kU_ hb1⟩) (fun w' hw'=>(hv.oldN hw' ⟨hw1,trivial⟩).appX z7_ ZE_) (xP_ z7_ ls) (by omega) (fun v2 L2 hB hB2 hG hS=> ?_)
  rw[Nat.zero_add,List.nil_append] at hB
  refine ko @QM_ ?_
  first|with_reducible refine ks [] @QM_ ?_|refine kp @QM_ ?_
  refine⟨_,(ke @QM_), ?_⟩
  exact⟨((Ext.refl w []).app (o:=Obj.cells #[] 38 (0,0)) hw1).grew hG,hB⟩
set_option linter.defProp false
def abY_:=And.intro (And.intro (@zf_) (And.intro (@zg_) (@kI_))) (And.intro (And.intro (@vt_) (@kH_)) (And.intro (@aka_) (@ahg_)))
theorem VN_ (b:Nat) (names sums:List (List UInt8)) (lines:List LnL) (w:World) (h:MgIn w b names sums lines) (hl:lines.length<1000000):
  Rets Tryd.prog 13 #[vp b 0] w (XS w [] (fun v D=>GrI D 38 35 v lines.length (lines.map lnC).flatten)):=by
 obtain⟨v0,v1,v2,h1,h2,h3,h4⟩:=id h
 refine Rets.enterX Tryd.func13 rfl (rs:= [.tmp 2]) Tryd.results13 Tryd.ntmps13 (fun p hp=>by cases hp) (by simp[keys]) ?_
 refine kf ?_
 first|with_reducible refine ks [] (And.intro @abY_ @h1) ?_|refine kp (And.intro @abY_ @h1) ?_
 refine Ow.callX (Y:= []) (by simp) rfl rfl Tryd.call45 (fun w' hw' hX hn=>XV_ _ lines w' (h4.oldN hw' trivial) hl) (fun v2 D2 hC2 hS2=> ?_)
 rw[List.append_nil]
 refine ko @abY_ ?_
 first|with_reducible refine ks [] @abY_ ?_|refine kp @abY_ ?_
 refine⟨_,(ke @abY_), ?_⟩
 exact⟨Ext.of_new (New.of_le fun c hc=>(hC2.new c hc).elim (fun h=>by cases h) fun h=>h.2),Gr.i hS2 fun p hp=>hp⟩
def Zk_ (l:List LnL) (x:IdL):LnL×Bool:=match l.find? (fun r=>r.id.l==x.l) with
 |some r=>(r,true)
 |none=>(Go.Proofs.ln0,false)
theorem aaZ_ {l:List LnL} {i:Nat} (h:i<l.length):l.getD i Go.Proofs.ln0=l[i]:=by rw[List.getD_eq_getElem?_getD,List.getElem?_eq_getElem h];rfl
theorem Wr_ {l:List LnL} {n:Nat} (h:wA_ (wi_ l) n=true) {i:Nat}: ∀ {j:Nat},i<j→j<n→ltB (l.getD i Go.Proofs.ln0).id.l (l.getD j Go.Proofs.ln0).id.l=true
 |0,hij,_=>absurd hij (Nat.not_lt_zero _)
 |j+1,hij,hj=>by
  have h2:ltB (l.getD j Go.Proofs.ln0).id.l (l.getD (j+1) Go.Proofs.ln0).id.l=true:=by
   have h3:=kj_ (k:=j+2) (by omega) h
   unfold wA_ at h3
   rw[Bool.and_eq_true,Bool.or_eq_true,decide_eq_true_eq,decide_eq_true_eq] at h3
   rcases h3.2 with h4|h4
   ·omega
   ·exact cmpI_lt.1 h4
  by_cases e:i=j
  ·subst e;exact h2
  ·exact jo_ (Wr_ h (by omega) (by omega)) h2
theorem aiG_ {l:List LnL} (h:wA_ (wi_ l) l.length=true) (x:IdL) {p:Nat} (h2:p≤l.length) (h3:p=0∨ltB (l.getD (p - 1) Go.Proofs.ln0).id.l x.l=true) (h4:p=l.length∨ltB (l.getD p Go.Proofs.ln0).id.l x.l=false):
  Zk_ l x=if p<l.length∧(l.getD p Go.Proofs.ln0).id.l=x.l then(l.getD p Go.Proofs.ln0,true) else(Go.Proofs.ln0,false):=by
 have key: ∀j,j<l.length→(l.getD j Go.Proofs.ln0).id.l=x.l→j=p:=by
  intro j hj e
  rcases Nat.lt_trichotomy j p with hlt|e'|hlt
  ·rcases h3 with h3|h3
   ·omega
   ·by_cases e2:j=p - 1
    ·subst e2;rw[e,je_] at h3;cases h3
    ·have:=Wr_ h (show j<p - 1 by omega) (by omega)
     rw[e] at this
     have:=jo_ this h3
     rw[je_] at this;cases this
  ·exact e'
  ·rcases h4 with h4|h4
   ·omega
   ·have:=Wr_ h hlt hj
    rw[e,h4] at this;cases this
 unfold Zk_
 by_cases hc:p<l.length∧(l.getD p Go.Proofs.ln0).id.l=x.l
 ·rw[if_pos hc]
  have hm:l.getD p Go.Proofs.ln0∈l:=by rw[aaZ_ hc.1];exact List.getElem_mem hc.1
  cases hf:l.find? (fun r=>r.id.l==x.l) with
  |none=>
   have:=List.find?_eq_none.1 hf _ hm
   rw[hc.2] at this
   exact absurd (beq_self_eq_true x.l) this
  |some r=>
   have h5:=List.find?_some hf
   obtain⟨j,hj,rfl⟩:=List.getElem_of_mem (List.mem_of_find?_eq_some hf)
   rw[←aaZ_ hj] at h5 ⊢
   have:=key j hj (by simpa using h5)
   subst this;rfl
 ·rw[if_neg hc]
  cases hf:l.find? (fun r=>r.id.l==x.l) with
  |none=>rfl
  |some r=>
   have h5:=List.find?_some hf
   obtain⟨j,hj,rfl⟩:=List.getElem_of_mem (List.mem_of_find?_eq_some hf)
   rw[←aaZ_ hj] at h5
   have h6:=key j hj (by simpa using h5)
   refine absurd ⟨by omega, ?_⟩ hc
   rw[←h6];simpa using h5
theorem aeK_ (a b:IdL): (wk_ a b==0)=(a.l==b.l):=by
 unfold wk_ WP_
 cases h:ltB a.l b.l with
 |true=>
  have:=adB_ h
  rw[if_pos rfl,beq_eq_false_iff_ne.2 this];rfl
 |false=>
  rw[if_neg (by simp)]
  cases h2:ltB b.l a.l with
  |true=>
   have:=adB_ h2
   rw[if_pos rfl,beq_eq_false_iff_ne.2 (Ne.symm this)];rfl
  |false=>
   rw[if_neg (by simp)]
   have:a.l=b.l:=Decidable.byContradiction fun hne=>by rw[kC_ h hne] at h2;cases h2
   rw[this];exact(beq_self_eq_true _).symm
def askM (l:List LnL) (x:IdL) (k:Nat):Bool:=decide (0≤wk_ (l.getD k Go.Proofs.ln0).id x)
set_option linter.defProp false
def jd_:=And.intro (And.intro (@zf_) (@zg_)) (And.intro (@vF_) (And.intro (@q8_) (@v9_)))
theorem adY_ (v:Value) (l:List LnL) (y:LnL) (w:World) (hv:LnSl w v l) (hl:l.length<1000000):Rets Tryd.prog 29 #[v, .agg (lnC y).toArray, .func (.func 30) #[] #[]] w (fun v' D=>v'= .tuple #[vi (XN_ (askM l y.id) 0 l.length:Nat), .bool (decide (XN_ (askM l y.id) 0 l.length<l.length)&& ((l.getD (XN_ (askM l y.id) 0 l.length) Go.Proofs.ln0).id.l==y.id.l))]∧D= []):=by
 obtain⟨rb,off,arr,E,fz,hr⟩:=hv.row
 have ln:=hv.len
 refine Rets.enterV Tryd.func29 rfl (rs:= [.tmp 6, .tmp 7]) Tryd.results29 Tryd.ntmps29 ?_
 refine kf ?_
 obtain⟨R,hR⟩: ∃r,r=XN_ (askM l y.id) 0 l.length:=⟨_,rfl⟩
 have hRn:R≤l.length:=by rw[hR];exact(vO_ (askM l y.id) _ 0 l.length (Nat.le_refl _) (Nat.zero_le _)).2.1
 rw[←hR]
 first|with_reducible refine ks [] @jd_ ?_|refine kp @jd_ ?_
 refine Ow.box rfl rfl fun b4 hb4 hw4=> ?_
 simp only[xs_,xf_,xg_,ze_,List.nil_append,List.cons_append]
 refine Ow.go rfl ?_
 simp(disch:=(first|assumption|omega| (simp only[kb_,kd_,UInt64.reduceToNat];try omega))) only[↓Sx.S0,Sx.S1,Tryd.fx,jd_,Nat.reduceAdd,Nat.reducePow,Int.reducePow,Nat.reduceBEq, ↓reduceIte,UInt8.reduceToNat,UInt16.reduceToNat,UInt32.reduceToNat,UInt64.reduceToNat,Int.reduceToNat]
 have hN:New w.heap.size [(b4,Obj.cells (lnC y).toArray 38 (0,0))]:=⟨hw4,trivial⟩
 first|with_reducible refine ks [] (And.intro @jd_ @ln) ?_|refine kp (And.intro @jd_ @ln) ?_
 refine Cw.loopG (G:=SrG) [15,16,17,18,19,20,21,22,23,11,24,25,26,27,28,29,30,31,32,33,9,34,10] (fun g=> [(6,vi 0),(7, .bool false),(9,vi g.i),(10,vi g.j)]) (fun g=> [(b4, .cells (lnC y).toArray 38 (0,0))]) (fun g=>g.i≤g.j∧g.j≤l.length∧R=XN_ (askM l y.id) g.i g.j) (fun g=>g.j - g.i) ⟨0,l.length⟩ rfl rfl ?_ ?_
 ·exact⟨Nat.zero_le _,Nat.le_refl _,hR⟩
 intro g j hg
 refine kv ?_
 obtain⟨i,j⟩:=g
 simp only at hg ⊢
 obtain⟨h1,h2,h3⟩:=hg
 by_cases hlt:i<j
 ·have d1:decide ((i:Int)< (j:Int))=true:=decide_eq_true (by omega)
  rw[XN_,if_pos hlt] at h3
  have hm: (i+j) / 2<l.length:=by omega
  have hb:=hr.has (by omega)
  have hrl:=hr.lt (by omega)
  have hn4:b4≠rb:=by omega
  have ix:=hr.idx true ((i+j) / 2) hm
  have ld:=hr.load z7_ (by omega) hm
  first|with_reducible refine ks [] (And.intro @jd_ @d1) ?_|refine kp (And.intro @jd_ @d1) ?_
  refine Cw.regionS [b4,rb] [0,1,2,3,4,5,6,7] [] (by kernel_rfl) (by kernel_rfl) (by kernel_rfl) ?_
  simp only[zm_, ↓zd_, ↓zb_, ↓zE_, ↓zD_,zc_]
  refine kq (And.intro @jd_ (And.intro @hb (And.intro @ix (@ld)))) ?_
  refine Ow.soft rfl rfl rfl ?_
  refine Ow.callFn2 (v:=vi (wk_ (l.getD ((i+j) / 2) Go.Proofs.ln0).id y.id)) rfl rfl rfl rfl Tryd.call30 (fun w' hw'=>vh_ _ y w') ?_
  with_reducible refine Ow.nil ?_
  refine⟨by intro b hb;simp only[List.mem_cons,List.not_mem_nil,or_false] at hb;(try subst hb);rfl, ?_⟩
  cases hp:askM l y.id ((i+j) / 2) with
  |true=>
   rw[hp,if_pos rfl] at h3
   have hc:decide (wk_ (l.getD ((i+j) / 2) Go.Proofs.ln0).id y.id<0)=false:=decide_eq_false (by have:=of_decide_eq_true (show decide _=true from hp);omega)
   refine kq (And.intro @jd_ @hc) ?_
   try with_reducible refine Ow.nil ?_
   first|with_reducible refine ks [] @jd_ ?_|refine kp @jd_ ?_
   exact Again.mk ⟨i,(i+j) / 2⟩ (by show(i+j) / 2 - i<j - i;omega) ⟨by show i≤ (i+j) / 2;omega,by show(i+j) / 2≤l.length;omega,h3⟩ rfl rfl
  |false=>
   rw[hp,if_neg (by simp)] at h3
   have hc:decide (wk_ (l.getD ((i+j) / 2) Go.Proofs.ln0).id y.id<0)=true:=decide_eq_true (by have:=of_decide_eq_false (show decide _=false from hp);omega)
   refine kq (And.intro @jd_ @hc) ?_
   try with_reducible refine Ow.nil ?_
   first|with_reducible refine ks [] @jd_ ?_|refine kp @jd_ ?_
   exact Again.mk ⟨(i+j) / 2+1,j⟩ (by show j - ((i+j) / 2+1)<j - i;omega) ⟨by show(i+j) / 2+1≤j;omega,h2,h3⟩ rfl rfl
 ·have d1:decide ((i:Int)< (j:Int))=false:=decide_eq_false (by omega)
  rw[XN_,if_neg hlt] at h3
  subst h3
  by_cases hk:R<l.length
  ·have d2:decide ((R:Int)< (l.length:Int))=true:=decide_eq_true (by omega)
   have hb:=hr.has (by omega)
   have hrl:=hr.lt (by omega)
   have hn4:b4≠rb:=by omega
   have ix:=hr.idx true R hk
   have ld:=hr.load z7_ (by omega) hk
   rw[decide_eq_true hk,Bool.true_and,←aeK_]
   first|with_reducible refine ks [] (And.intro @jd_ @d1) ?_|refine kp (And.intro @jd_ @d1) ?_
   refine Cw.regionS [b4,rb] [0,1,2,3,4,5,6,7,8,9,10,11,12,13,14,15] [] (by kernel_rfl) (by kernel_rfl) (by kernel_rfl) ?_
   simp only[zm_, ↓zd_, ↓zb_, ↓zE_, ↓zD_,zc_]
   refine kq (And.intro @jd_ (And.intro @d2 (And.intro @hb (And.intro @ix (@ld))))) ?_
   refine Ow.soft rfl rfl rfl ?_
   refine Ow.callFn2 (v:=vi (wk_ (l.getD R Go.Proofs.ln0).id y.id)) rfl rfl rfl rfl Tryd.call30 (fun w' hw'=>vh_ _ y w') ?_
   with_reducible refine Ow.nil ?_
   refine⟨by intro b hb;simp only[List.mem_cons,List.not_mem_nil,or_false] at hb;(try subst hb);rfl, ?_⟩
   refine kq @jd_ ?_
   try with_reducible refine Ow.nil ?_
   first|with_reducible refine ks [] @jd_ ?_|refine kp @jd_ ?_
   refine⟨_,(ke @jd_),hN, ?_⟩
   rfl
  ·have d2:decide ((R:Int)< (l.length:Int))=false:=decide_eq_false (by omega)
   rw[decide_eq_false hk,Bool.false_and]
   first|with_reducible refine ks [] (And.intro @jd_ @d1) ?_|refine kp (And.intro @jd_ @d1) ?_
   refine Cw.regionS [b4] [0,1,2,3,4,5,6,7,8,9,10,11,12,13,14,15] [] (by kernel_rfl) (by kernel_rfl) (by kernel_rfl) ?_
   simp only[zm_, ↓zd_, ↓zb_, ↓zE_, ↓zD_,zc_]
   refine kq (And.intro @jd_ @d2) ?_
   try with_reducible refine Ow.nil ?_
   first|with_reducible refine ks [] @jd_ ?_|refine kp @jd_ ?_
   refine⟨_,(ke @jd_),hN, ?_⟩
   rfl
end Go.Proofs
end
section
open Go Go.Proofs Go.Sx Go.StP Go.Flo
namespace Go.Proofs
set_option maxRecDepth 10000
set_option maxHeartbeats 1000000
set_option linter.unusedSimpArgs false
def aj8_ (names:List (List UInt8)) (r:LnL×Bool):List UInt8:=if r.2 then names.getD r.1.share.toNat [] else []
def aay_ (names:List (List UInt8)) (lines:List LnL) (x:IdL):Value:= .tuple #[vs (aj8_ names (Zk_ lines x)), .agg (lnC (Zk_ lines x).1).toArray, .bool (Zk_ lines x).2]
set_option linter.defProp false
def ju_:=And.intro (And.intro (And.intro (@jI_) (And.intro (@zf_) (@zg_))) (And.intro (And.intro (@vF_) (@q8_)) (And.intro (@v9_) (@kK_)))) (And.intro (And.intro (And.intro (@vS_) (@xJ_)) (And.intro (@kI_) (@kH_))) (And.intro (And.intro (@aka_) (@ahg_)) (And.intro (@Sx.tup2_0) (@Sx.tup2_1))))
theorem abc_ (b:Nat) (names sums:List (List UInt8)) (lines:List LnL) (x:IdL) (w:World) (h:MgIn w b names sums lines) (hok:ql_ names lines=true) (hn:names.length<1000000) (hl:lines.length<1000000):
  Rets Tryd.prog 9 #[vp b 0, .agg (a8 x.l)] w (fun v D=>v=aay_ names lines x∧D= []):=by
 obtain⟨v0,v1,v2,h1,h2,h3,h4⟩:=id h
 obtain⟨rb,off,arr,E,fz,hr⟩:=h4.row
 obtain⟨sb,soff,sarr,SE,sfz,hsr⟩:=h2.row
 have hbil:=(Array.getElem?_eq_some_iff.1 h1).1
 unfold ql_ at hok
 rw[Bool.and_eq_true,Bool.and_eq_true,Bool.and_eq_true] at hok
 obtain⟨⟨-,hris⟩,hall⟩:=hok
 rw[Bool.and_eq_true] at hall
 have hlin:=hall.1
 have hbs:=vO_ (askM lines x) _ 0 lines.length (Nat.le_refl _) (Nat.zero_le _)
 generalize hat:XN_ (askM lines x) 0 lines.length=R at hbs
 have hfa:=aiG_ hris x (p:=R) hbs.2.1 (by
  rcases hbs.2.2.1 with e|e
  ·left;omega
  ·by_cases h0:R=0
   ·left;omega
   ·right
    unfold askM at e
    rw[decide_eq_false_iff_not] at e
    exact cmpI_lt.1 (Int.not_le.1 e)) (by
  rcases hbs.2.2.2 with e|e
  ·left;omega
  ·right
   unfold askM at e
   rw[decide_eq_true_eq] at e
   exact cmpI_ge.1 e)
 unfold aay_
 rw[hfa]
 refine Rets.enterV Tryd.func9 rfl (rs:= [.tmp 4, .cell 5 38, .tmp 6]) Tryd.results9 Tryd.ntmps9 ?_
 refine kf ?_
 first|with_reducible refine ks [] @ju_ ?_|refine kp @ju_ ?_
 refine Ow.box rfl rfl fun b2 hb2 hw2=> ?_
 simp only[xs_,xf_,xg_,ze_,List.nil_append,List.cons_append]
 refine Ow.go rfl ?_
 simp(disch:=(first|assumption|omega| (simp only[kb_,kd_,UInt64.reduceToNat];try omega))) only[↓Sx.S0,Sx.S1,Tryd.fx,ju_,Nat.reduceAdd,Nat.reducePow,Int.reducePow,Nat.reduceBEq, ↓reduceIte,UInt8.reduceToNat,UInt16.reduceToNat,UInt32.reduceToNat,UInt64.reduceToNat,Int.reduceToNat]
 refine Ow.alloc rfl rfl X8_ fun b3 hb3 hw3=> ?_
 simp only[ze_,List.nil_append,List.cons_append]
 obtain⟨h23,-⟩:=hb3
 refine Ow.permL (M:= [(b3, .cells (lnC Go.Proofs.ln0).toArray 38 (0,0)),(b2, .cells (a8 x.l) 36 (0,0))]) (by classical exact List.perm_iff_count.2 fun a=>by simp only[List.count_append,List.count_cons,List.count_nil]<;>omega) ?_
 refine ko @ju_ ?_
 have hN3:New w.heap.size [(b3,Obj.cells (lnC Go.Proofs.ln0).toArray 38 (0,0)),(b2, .cells (a8 x.l) 36 (0,0))]:=⟨hw3,hw2,trivial⟩
 have hn2b:b2≠b:=by omega
 have hn3b:b3≠b:=by omega
 first|with_reducible refine ks [] @ju_ ?_|refine kp @ju_ ?_
 refine Cw.regionS [b2,b] [0,1,2,3,4,5,6,7,8,9,10,11] [] (by kernel_rfl) (by kernel_rfl) (by kernel_rfl) ?_
 simp only[zm_, ↓zd_, ↓zb_, ↓zE_, ↓zD_,zc_]
 refine kq (And.intro @ju_ @h1) ?_
 refine Ow.build (.agg (lnC ⟨x,0,0,0⟩).toArray) rfl (Z8_ ⟨x,0,0,0⟩) ?_
 refine kq @ju_ ?_
 refine Ow.soft rfl rfl rfl ?_
 refine Ow.callFV rfl Tryd.call29 (fun w' hw'=>adY_ v2 lines ⟨x,0,0,0⟩ w' (h4.oldN hw' hN3) hl) ?_
 rw[hat]
 with_reducible refine Ow.nil ?_
 refine⟨by intro b hb;simp only[List.mem_cons,List.not_mem_nil,or_false] at hb;(try subst hb);rfl, ?_⟩
 refine kq @ju_ ?_
 try with_reducible refine Ow.nil ?_
 by_cases hc:R<lines.length∧(lines.getD R Go.Proofs.ln0).id.l=x.l
 ·rw[if_pos hc]
  obtain⟨hRl,hRe⟩:=hc
  have hb:=hr.has (by omega)
  have hrl:=hr.lt (by omega)
  have ix:=hr.idx true R hRl
  have ld:=hr.load z7_ (by omega) hRl
  have hmem:lines.getD R Go.Proofs.ln0∈lines:=by rw[aaZ_ hRl];exact List.getElem_mem hRl
  have hln:=List.all_eq_true.1 hlin _ hmem
  rw[decide_eq_true hRl,Bool.true_and,show((lines.getD R Go.Proofs.ln0).id.l==x.l)=true from by rw[hRe];exact beq_self_eq_true _]
  generalize lines.getD R Go.Proofs.ln0=r at*
  unfold js_ at hln
  rw[Bool.and_eq_true,Bool.and_eq_true,Bool.and_eq_true,Bool.not_eq_true',Bool.not_eq_true',decide_eq_false_iff_not,decide_eq_false_iff_not] at hln
  obtain⟨i,sh,pl,sp⟩:=r
  simp only at hln hRe
  obtain⟨sn,rfl⟩: ∃sn:Nat,sh=(sn:Int):=⟨sh.toNat,by omega⟩
  have hsn:sn<names.length:=by omega
  have hsb:=hsr.has (by omega)
  have hsl:=hsr.lt (by omega)
  have isx:=hsr.idx false sn hsn
  have sd:=fun n=>wj_ hsr hsn n
  have hn2:b2≠rb:=by omega
  have hn3:b3≠rb:=by omega
  first|with_reducible refine ks [] (And.intro @ju_ (And.intro @h1 (And.intro @ix (And.intro @hb (@ld))))) ?_|refine kp (And.intro @ju_ (And.intro @h1 (And.intro @ix (And.intro @hb (@ld))))) ?_
  refine Ow.alloc rfl rfl X8_ fun b9 hb9 hw9=> ?_
  simp only[ze_,List.nil_append,List.cons_append]
  obtain⟨h92,h93,-⟩:=hb9
  refine Ow.permL (M:= [(b9, .cells (lnC Go.Proofs.ln0).toArray 38 (0,0)),(b3, .cells (lnC Go.Proofs.ln0).toArray 38 (0,0)),(b2, .cells (a8 x.l) 36 (0,0))]) (by classical exact List.perm_iff_count.2 fun a=>by simp only[List.count_append,List.count_cons,List.count_nil]<;>omega) ?_
  refine ko @ju_ ?_
  have hn9:b9≠rb:=by omega
  have hn9b:b9≠b:=by omega
  have hn9s:b9≠sb:=by omega
  have hn3s:b3≠sb:=by omega
  have hn2s:b2≠sb:=by omega
  first|with_reducible refine ks [] @ju_ ?_|refine kp @ju_ ?_
  refine Cw.regionS [b9,b2,b3,b,sb] [0,1,2,4,3,5,6,7,9,8,10,11] [10] (by kernel_rfl) (by kernel_rfl) (by kernel_rfl) ?_
  simp only[zm_, ↓zd_, ↓zb_, ↓zE_, ↓zD_,zc_]
  refine kq (And.intro @ju_ (And.intro @h1 (And.intro @isx (And.intro @hsb (@sd))))) ?_
  refine Ow.store rfl rfl rfl (ke @ju_) ?_
  refine ko @ju_ ?_
  first|with_reducible refine ks [] @ju_ ?_|refine kp @ju_ ?_
  refine⟨_,(ke @ju_),⟨hw9,hw3,hw2,trivial⟩, ?_⟩
  (unfold aj8_;rfl)
 ·rw[if_neg hc]
  have hf: (decide (R<lines.length)&& ((lines.getD R Go.Proofs.ln0).id.l==x.l))=false:=by
   rw[Bool.and_eq_false_iff,decide_eq_false_iff_not,beq_eq_false_iff_ne]
   exact Decidable.not_and_iff_or_not.1 hc
  rw[hf]
  first|with_reducible refine ks [] @ju_ ?_|refine kp @ju_ ?_
  refine Ow.build (.agg (lnC Go.Proofs.ln0).toArray) rfl (by rw[show Jn_ Tryd.prog 38=some [(0,32),(32,1),(33,1),(34,1)] from id (by kernel_rfl),X8_];simp[jb_,Sx.fillV]) ?_
  refine ko @ju_ ?_
  first|with_reducible refine ks [] @ju_ ?_|refine kp @ju_ ?_
  refine⟨_,(ke @ju_),hN3, ?_⟩
  rfl
def x6_ (a b:ShL):Int:=WP_ a.name b.name
theorem jJ_ (a b:ShL) (w:World):Rets Tryd.prog 16 #[.agg (shC a).toArray, .agg (shC b).toArray] w (fun v D=>v=vi (x6_ a b)∧D= []):=abz_ a b w
end Go.Proofs
end
section
open Go Go.Proofs Go.Sx Go.StP
namespace Go.Proofs
set_option maxRecDepth 10000
set_option maxHeartbeats 4000000
set_option linter.unusedSimpArgs false
abbrev zq_ (rest:List Value) (d:List ShL):Obj:=rowO shC 26 rest d
theorem jR_ {rest:List Value} {d:List ShL} (k:Nat) (hk:k<d.length):zn_ (some (true,2)) (some (zq_ rest d)) (k*2)=some (.agg (shC (d.getD k sh0)).toArray):=aav_ (z:=sh0) qv_ k hk
theorem jj_ {rest:List Value} {d:List ShL} (k:Nat) (x:ShL) (a:Bool) (hk:k<d.length):zk_ (some (a,2)) (some (zq_ rest d)) (k*2) (.agg (shC x).toArray)=some (zq_ rest (d.set k x)):=XR_ qv_ Xe_ k x a hk
set_option linter.defProp false
def xb_:=And.intro (And.intro (@jR_) (@jj_)) (And.intro (@wy_) (And.intro (@xI_) (@jO_)))
theorem q2_ (rb n c:Nat) (A X M Y C:List ShL) (rest:List Value) (fv:Value) (a b k:Nat) (w:World) (hX:X.length=k) (hY:Y.length=k) (ha:A.length=a) (hb:b=a+k+M.length) (hn:n=a+k+M.length+k+C.length) (hs:n<1000000)
  (ho:w.heap[rb]? =some (zq_ rest (A++ (X++ (M++ (Y++C)))))):
  Rets Tryd.prog 89 #[vsl rb 0 n c,vi a,vi b,vi k,fv] w (fun v D=> ∃o,D= [(rb,o)]∧v= .tuple #[]∧o=zq_ rest (A++ (Y++ (M++ (X++C))))):=by
 refine Rets.enterM Tryd.func89 rfl (rs:= []) Tryd.results89 Tryd.ntmps89 ho ?_
 refine kf ?_
 first|with_reducible refine ks [] @xb_ ?_|refine kp @xb_ ?_
 subst ha hb hn
 refine Cw.loopG (G:=Nat) [11,12,13,16,17,18,19,20,21,22,23,24,25,26,27,28,29,30,31,32,33,34,35,36,37,14,15,10] (fun g=> [(10,vi g)]) (fun g=> [(rb,zq_ rest (swp A X M Y C g))]) (fun g=>g≤k) (fun g=>k - g) 0 rfl rfl ?_ ?_
 ·exact Nat.zero_le _
 ·intro g j hg
  refine kv ?_
  by_cases hlt:g<k
  ·first|with_reducible refine ks [] @xb_ ?_|refine kp @xb_ ?_
   have hl:=ad5_ (a:=A) (m:=M) (c:=C) hX hY hg
   have h1:=ajw_ (a:=A) (m:=M) (c:=C) (z:=sh0) hX hY hlt rfl
   have h2:=ajX_ (a:=A) (m:=M) (c:=C) (z:=sh0) hX hY hlt rfl
   refine Cw.regionS [rb] [0,1,2,3,4,5,6,7,8,9,10,11,12,14,15,16,17,18,13,19,20,21,22,23] [21,23] (by kernel_rfl) (by kernel_rfl) (by kernel_rfl) ?_
   simp only[zm_, ↓zd_, ↓zb_, ↓zE_, ↓zD_,zc_]
   refine kq @xb_ ?_
   refine Ow.store rfl rfl rfl (ke @xb_) ?_
   refine ko @xb_ ?_
   rw[h1,h2]
   refine Again.mk (g+1) (by omega) (by omega) ?_ rfl
   rw[aa4_ hX hY hlt rfl rfl]
  ·obtain rfl:g=k:=by omega
   first|with_reducible refine ks [] @xb_ ?_|refine kp @xb_ ?_
   refine⟨_,_,_,(ke @xb_),rfl,trivial, ?_⟩
   exact⟨rfl,by unfold swp;rw[List.take_of_length_le (by omega),List.take_of_length_le (by omega),List.drop_eq_nil_of_le (by omega),List.drop_eq_nil_of_le (by omega),List.append_nil,List.append_nil]⟩
structure shs_RotG where
 A:List ShL
 U:List ShL
 V:List ShL
 B:List ShL
theorem ZQ_ (rb n c:Nat) (A U V B:List ShL) (rest:List Value) (fv:Value) (a m b:Nat) (w:World) (hU:0<U.length) (hV:0<V.length) (ha:A.length=a) (hm:m=a+U.length) (hb:b=m+V.length) (hn:n=b+B.length) (hs:n<1000000)
  (ho:w.heap[rb]? =some (zq_ rest (A++ (U++ (V++B))))):
  Rets Tryd.prog 75 #[vsl rb 0 n c,vi a,vi m,vi b,fv] w (fun v D=> ∃o,D= [(rb,o)]∧v= .tuple #[]∧o=zq_ rest (A++ (V++ (U++B)))):=by
 have e1: (m:Int) - a=(U.length:Nat):=by omega
 have e2: (b:Int) - m=(V.length:Nat):=by omega
 refine Rets.enterM Tryd.func75 rfl (rs:= []) Tryd.results75 Tryd.ntmps75 ho ?_
 refine kf ?_
 first|with_reducible refine ks [] (And.intro @xb_ (And.intro @e1 (@e2))) ?_|refine kp (And.intro @xb_ (And.intro @e1 (@e2))) ?_
 refine Cw.loopG (G:=shs_RotG) [18,19,20,21,22,23,24,25,26,27,28,29,30,31,32,33,34,10,35,36,37,38,39,40,41,42,43,44,45,46,47,48,49,11] (fun g=> [(10,vi g.U.length),(11,vi g.V.length)]) (fun g=> [(rb,zq_ rest (g.A++ (g.U++ (g.V++g.B))))]) (fun g=>0<g.U.length∧0<g.V.length∧g.A.length+g.U.length=m∧g.A++ (g.V++ (g.U++g.B))=A++ (V++ (U++B))∧m+g.V.length+g.B.length=n) (fun g=>g.U.length+g.V.length) ⟨A,U,V,B⟩ rfl rfl ?_ ?_
 ·exact⟨hU,hV,by show A.length+U.length=m;omega,rfl,by show m+V.length+B.length=n;omega⟩
 ·intro g j hg
  refine kv ?_
  obtain⟨A',U',V',B'⟩:=g
  obtain⟨hu,hv,hA,hT,hN⟩:=hg
  dsimp only at hu hv hA hT hN ⊢
  have e3: (m:Int) - U'.length=(A'.length:Nat):=by omega
  by_cases h1:U'.length=V'.length
  ·first|with_reducible refine ks [] (And.intro @xb_ @e3) ?_|refine kp (And.intro @xb_ @e3) ?_
   refine Ow.callM rfl rfl Tryd.call89 (by simp[keys]) (fun w' hw'=>q2_ rb n c A' U' [] V' B' rest fv A'.length m U'.length w' rfl h1.symm rfl (by simp only[List.length_nil];omega) (by simp only[List.length_nil];omega) hs (hw'.has _ _ List.mem_cons_self)) ?_
   refine ko @xb_ ?_
   refine⟨_,_,_,(ke @xb_),rfl,trivial, ?_⟩
   exact⟨rfl,congrArg (zq_ rest) hT⟩
  ·by_cases h2:V'.length<U'.length
   ·obtain⟨U1,U2,rfl,hU1⟩:=JE_ U' (Nat.le_of_lt h2)
    rw[List.length_append] at hA h2 hu h1
    have e4: (m:Int) - (U1++U2).length=(A'.length:Nat):=by rw[List.length_append];omega
    first|with_reducible refine ks [] (And.intro @xb_ @e4) ?_|refine kp (And.intro @xb_ @e4) ?_
    refine Ow.callM rfl rfl Tryd.call89 (by simp[keys]) (fun w' hw'=>q2_ rb n c A' U1 U2 V' B' rest fv A'.length m V'.length w' hU1 rfl rfl (by omega) (by omega) hs (by rw[←List.append_assoc U1];exact hw'.has _ _ List.mem_cons_self)) ?_
    have e5: ((U1++U2).length:Int) - (V'.length:Int)=(U2.length:Nat):=by rw[List.length_append];omega
    refine ko (And.intro @xb_ @e5) ?_
    refine Again.mk ⟨A'++V',U2,U1,B'⟩ (by simp only[List.length_append];omega) ⟨by show 0<U2.length;omega,by show 0<U1.length;omega,by simp only[List.length_append];omega, ?_,by show m+U1.length+B'.length=n;omega⟩ ?_ ?_
    ·rw[←hT];simp only[List.append_assoc]
    ·simp only[List.append_assoc]
    ·dsimp only;rw[hU1];rfl
   ·obtain⟨V1,V2,rfl,hV1⟩:=JE_ V' (show V'.length - U'.length≤V'.length by omega)
    rw[List.length_append] at hN h2 hv h1 hV1
    have e4: (m:Int)+ (V1++V2).length - U'.length=((A'.length+U'.length+V1.length:Nat):Int):=by rw[List.length_append];omega
    first|with_reducible refine ks [] (And.intro @xb_ (And.intro @e3 (@e4))) ?_|refine kp (And.intro @xb_ (And.intro @e3 (@e4))) ?_
    refine Ow.callM rfl rfl Tryd.call89 (by simp[keys]) (fun w' hw'=>q2_ rb n c A' U' V1 V2 B' rest fv A'.length (A'.length+U'.length+V1.length) U'.length w' rfl (by omega) rfl (by omega) (by omega) hs (by rw[←List.append_assoc V1];exact hw'.has _ _ List.mem_cons_self)) ?_
    have e5: ((V1++V2).length:Int) - (U'.length:Int)=(V1.length:Nat):=by rw[List.length_append];omega
    have e6:V2.length=U'.length:=by omega
    refine ko (And.intro @xb_ @e5) ?_
    refine Again.mk ⟨A',V2,V1,U'++B'⟩ (by simp only[List.length_append];omega) ⟨by show 0<V2.length;omega,by show 0<V1.length;omega,by show A'.length+V2.length=m;omega, ?_,by simp only[List.length_append];omega⟩ ?_ ?_
    ·rw[←hT];simp only[List.append_assoc]
    ·simp only[List.append_assoc]
    ·dsimp only;rw[e6];rfl
end Go.Proofs
end
section
open Go Go.Proofs Go.Sx Go.StP
namespace Go.Proofs
set_option maxRecDepth 10000
set_option maxHeartbeats 4000000
set_option linter.unusedSimpArgs false
abbrev qC_ (a b:ShL):Bool:=StP.lt (fun r:ShL=>r.name) a b
abbrev zs_ (l:List ShL):Prop:=StP.Sorted (fun r:ShL=>r.name) l
abbrev qW_ (l l':List ShL):Prop:=StP.St (fun r:ShL=>r.name) l l'
theorem k5_ (a b:ShL):decide (x6_ a b<0)=qC_ a b:=by
 unfold x6_ WP_ qC_ StP.lt
 cases h:ltB a.name b.name
 ·rw[if_neg (by simp)]
  split<;>rfl
 ·rw[if_pos rfl];rfl
structure shs_InsG where
 S:List ShL
 R:List ShL
set_option linter.defProp false
def jn_:=And.intro (And.intro (@jR_) (And.intro (@jj_) (@wy_))) (And.intro (@xI_) (And.intro (@jO_) (@k5_)))
theorem xm_ (rb n c:Nat) (A M B:List ShL) (rest:List Value) (a b:Nat) (w:World) (ha:A.length=a) (hb:b=a+M.length) (hn:n=b+B.length) (hs:n<1000000)
  (ho:w.heap[rb]? =some (zq_ rest (A++ (M++B)))):
  Rets Tryd.prog 66 #[vsl rb 0 n c,vi a,vi b, .func (.func 16) #[] #[]] w (fun v D=> ∃o,D= [(rb,o)]∧v= .tuple #[]∧ ∃M',o=zq_ rest (A++ (M'++B))∧M'.length=M.length∧zs_ M'∧qW_ M M'):=by
 cases M with
 |nil=>
  simp only[List.length_nil,Nat.add_zero] at hb
  subst hb
  refine Rets.enterM Tryd.func66 rfl (rs:= []) Tryd.results66 Tryd.ntmps66 ho ?_
  refine kf ?_
  first|with_reducible refine ks [] @jn_ ?_|refine kp @jn_ ?_
  refine Cw.loopG (G:=Unit) [12,13,14,17,9,18,19,20,21,22,23,24,25,26,27,28,29,30,31,32,33,34,37,38,39,40,41,42,43,44,45,46,47,48,49,50,51,52,35,36,15,16,8] (fun g=> [(8,vi (b+1))]) (fun g=> [(rb,zq_ rest (A++ ([]++B)))]) (fun g=>True) (fun g=>0) () rfl rfl ?_ ?_
  ·trivial
  ·intro g j hg
   refine kv ?_
   first|with_reducible refine ks [] @jn_ ?_|refine kp @jn_ ?_
   refine⟨_,_,_,(ke @jn_),rfl,trivial, ?_⟩
   exact⟨rfl,[],rfl,rfl,List.Pairwise.nil,StP.St.refl _ _⟩
 |cons x0 M=>
  refine Rets.enterM Tryd.func66 rfl (rs:= []) Tryd.results66 Tryd.ntmps66 ho ?_
  refine kf ?_
  first|with_reducible refine ks [] @jn_ ?_|refine kp @jn_ ?_
  have e0: (a:Int)+1=((a+ [x0].length:Nat):Int):=by simp
  rw[e0]
  refine Cw.loopG (G:=shs_InsG) [12,13,14,17,9,18,19,20,21,22,23,24,25,26,27,28,29,30,31,32,33,34,37,38,39,40,41,42,43,44,45,46,47,48,49,50,51,52,35,36,15,16,8] (fun g=> [(8,vi (a+g.S.length:Nat))]) (fun g=> [(rb,zq_ rest (A++ (g.S++ (g.R++B))))]) (fun g=> ∃M1,x0::M=M1++g.R∧g.S.length=M1.length∧zs_ g.S∧qW_ M1 g.S) (fun g=>g.R.length) ⟨[x0],M⟩ rfl rfl ?_ ?_
  ·exact⟨[x0],rfl,rfl,List.pairwise_singleton _ _,StP.St.refl _ _⟩
  ·intro g j hg
   refine kv ?_
   obtain⟨S,R⟩:=g
   obtain⟨M1,hM,hS1,hS2,hS3⟩:=hg
   dsimp only at hM hS1 hS2 hS3 ⊢
   have hlen:=congrArg List.length hM
   rw[List.length_cons,List.length_append] at hlen
   rw[List.length_cons] at hb
   cases R with
   |nil=>
    rw[List.length_nil] at hlen
    first|with_reducible refine ks [] @jn_ ?_|refine kp @jn_ ?_
    refine⟨_,_,_,(ke @jn_),rfl,trivial, ?_⟩
    exact⟨rfl,S,rfl,by show S.length=M.length+1;omega,hS2,by rw[show x0::M=M1 from by rw[hM,List.append_nil]];exact hS3⟩
   |cons x R=>
    rw[List.length_cons] at hlen
    have e1:A++ (S++ (x::R++B))=zS_ A S x (R++B) S.length:=by rw[vy_ _ _ _ _ (Nat.le_refl _)];simp only[List.append_assoc,List.cons_append,List.nil_append]
    rw[e1]
    first|with_reducible refine ks [] @jn_ ?_|refine kp @jn_ ?_
    refine Cw.loopG (G:=Nat) [18,19,20,21,22,23,24,25,26,27,28,29,30,31,32,33,34,37,38,39,40,41,42,43,44,45,46,47,48,49,50,51,52,35,36,9] (fun g=> [(9,vi (a+g:Nat))]) (fun g=> [(rb,zq_ rest (zS_ A S x (R++B) g))]) (fun g=>g≤S.length∧(S.length≤g∨qC_ x (S.getD g sh0)=true)) (fun g=>g) S.length rfl rfl ?_ ?_
    ·exact⟨Nat.le_refl _, .inl (Nat.le_refl _)⟩
    ·intro k jk hk
     refine kv ?_
     obtain⟨hk1,hk2⟩:=hk
     have hl:=qQ_ A S x (R++B) k
     rw[List.length_append] at hl
     have done: (k=0∨qC_ x (S.getD (k - 1) sh0)=false)→qW_ (M1++ [x]) (S.take k++x::S.drop k)∧zs_ (S.take k++x::S.drop k):=fun h=>by
      obtain⟨q1,q2⟩:=xi_ (z:=sh0) hS2 hk1 h hk2
      exact⟨(StP.St.app hS3 (StP.St.refl _ _)).trans q2,q1⟩
     first|with_reducible refine ks [] @jn_ ?_|refine kp @jn_ ?_
     by_cases hk0:k=0
     ·have e2:decide ((a:Int)< ((a+k:Nat):Int))=false:=decide_eq_false (by omega)
      refine Cw.regionS [rb] [0,1,2,3,4,5,6,7,9,10,11,12,8,13,14,15,16] [] (by kernel_rfl) (by kernel_rfl) (by kernel_rfl) ?_
      simp only[zm_, ↓zd_, ↓zb_, ↓zE_, ↓zD_,zc_]
      refine kq (And.intro @jn_ @e2) ?_
      first|with_reducible refine ks [] @jn_ ?_|refine kp @jn_ ?_
      obtain⟨d1,d2⟩:=done (.inl hk0)
      refine Again.mk ⟨S.take k++x::S.drop k,R⟩ (by show R.length< (x::R).length;simp) ⟨M1++ [x],by rw[hM];simp,by simp only[List.length_append,List.length_cons,List.length_nil,List.length_take,List.length_drop];omega,d2,d1⟩ ?_ ?_
      ·rw[jp_]
      ·dsimp only
       rw[show(S.take k++x::S.drop k).length=S.length+1 by simp only[List.length_append,List.length_cons,List.length_take,List.length_drop];omega]
       rfl
     ·have e2:decide ((a:Int)< ((a+k:Nat):Int))=true:=decide_eq_true (by omega)
      refine Cw.regionS [rb] [0,1,2,3,4,5,6,7,9,10,11,12,8,13,14,15,16] [] (by kernel_rfl) (by kernel_rfl) (by kernel_rfl) ?_
      simp only[zm_, ↓zd_, ↓zb_, ↓zE_, ↓zD_,zc_]
      refine kq (And.intro @jn_ @e2) ?_
      refine Ow.callFn2 (v:=vi (x6_ x (S.getD (k - 1) sh0))) rfl rfl (by
       show Value.agg _=Value.agg (shC x).toArray
       rw[jC_ (z:=sh0) hk1 (by rw[ha])]) (by
       show Value.agg _=Value.agg (shC (S.getD (k - 1) sh0)).toArray
       rw[show k=(k - 1)+1 by omega,wq_ (z:=sh0) (k:=k - 1) (by omega) (by rw[ha];omega)];rfl) Tryd.call16 (fun w' hw'=>jJ_ x (S.getD (k - 1) sh0) w') ?_
      refine kq @jn_ ?_
      cases hc:qC_ x (S.getD (k - 1) sh0)
      ·first|with_reducible refine ks [] @jn_ ?_|refine kp @jn_ ?_
       obtain⟨d1,d2⟩:=done (.inr hc)
       refine Again.mk ⟨S.take k++x::S.drop k,R⟩ (by show R.length< (x::R).length;simp) ⟨M1++ [x],by rw[hM];simp,by simp only[List.length_append,List.length_cons,List.length_nil,List.length_take,List.length_drop];omega,d2,d1⟩ ?_ ?_
       ·rw[jp_]
       ·dsimp only
        rw[show(S.take k++x::S.drop k).length=S.length+1 by simp only[List.length_append,List.length_cons,List.length_take,List.length_drop];omega]
        rfl
      ·first|with_reducible refine ks [] @jn_ ?_|refine kp @jn_ ?_
       obtain⟨k,rfl⟩: ∃q,k=q+1:=⟨k - 1,by omega⟩
       have h1:=jC_ (z:=sh0) (a:=A) (b:=R++B) (x:=x) hk1 (show a+ (k+1)=A.length+ (k+1) by omega)
       have h2:=wq_ (z:=sh0) (a:=A) (b:=R++B) (x:=x) (k:=k) (s:=S) (by omega) (show a+k=A.length+k by omega)
       have e3:a+ (k+1) - 1=a+k:=by omega
       refine Cw.regionS [rb] [0,1,2,3,4,5,6,7,8,10,11,12,9,13,14,15,16,17] [15,17] (by kernel_rfl) (by kernel_rfl) (by kernel_rfl) ?_
       simp only[zm_, ↓zd_, ↓zb_, ↓zE_, ↓zD_,zc_]
       refine kq (And.intro @jn_ (And.intro @e3 (And.intro @h1 (@h2)))) ?_
       refine Ow.store rfl rfl rfl (ke (And.intro @jn_ (And.intro @e3 (And.intro @h1 (@h2))))) ?_
       refine ko (And.intro @jn_ (And.intro @e3 (And.intro @h1 (@h2)))) ?_
       rw[vv_ (by omega),←Nat.add_assoc,kR_ (z:=sh0) (by omega) (by rw[ha])]
       refine Again.mk k (by omega) ⟨by omega, .inr hc⟩ rfl ?_
       rw[show(((a+k+1:Nat):Int)) - 1=((a+k:Nat):Int) by omega]
       rfl
end Go.Proofs
end
