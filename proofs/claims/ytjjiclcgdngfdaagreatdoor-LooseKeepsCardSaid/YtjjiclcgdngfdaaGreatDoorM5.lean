/-
  Part 5 of the walk: contracts of the functions that the law reaches, and the calculus they stand on.
  No conditions.
-/
import Derived.Test.YtjjiclcgdngfdaaGreatDoorM4
import Derived.ProofKit
import Derived.OpenShut
import Derived.WideKeyArgs
import Derived.ChangeSame
import Derived.ChangeMaps5
import Derived.Lib.LaidTab
import Derived.SliceStrings
import Derived.DataReads
import Derived.Deep.Strs
section
open Go Go.Proofs Go.Sx Go.StP Go.Dig
namespace Go.Proofs
set_option maxRecDepth 10000
set_option maxHeartbeats 1000000
set_option linter.unusedSimpArgs false
structure KeG where
 i:Nat
 v:Value
 had:List ObL
 S:DiskL
 G:DkG
 X:zb_
 D:zb_
 DG:zb_
set_option linter.defProp false
def zA_:=And.intro (And.intro (And.intro (And.intro (@zp_) (@zo_)) (And.intro (@agH_) (@abr_))) (And.intro (And.intro (@abE_) (@aaM_)) (And.intro (@abF_) (And.intro (@aam_) (@aaq_))))) (And.intro (And.intro (And.intro (@abp_) (@amr_)) (And.intro (@jo_) (@qF_))) (And.intro (And.intro (@qE_) (@qD_)) (And.intro (@Sx.tup2_0) (And.intro (@Sx.tup2_1) (@xt_)))))
structure LkG where
 j:Nat
 v:Value
 D:zb_
 DG:zb_
structure TlG where
 j:Nat
 DG:zb_
theorem als_ {had:List ObL} {o:ObL} {j:Nat} (h:j<had.length): (had.take (j+1)).filter (fun p=> !decide (p=o))=(had.take j).filter (fun p=> !decide (p=o))++ (if had.getD j ob0=o then [] else [had.getD j ob0]):=by
 rw[StP.take_snoc (z:=ob0) h,List.filter_append]
 generalize had.getD j ob0=s
 by_cases hp:s=o<;>simp[hp]
theorem KeepI.up {all:List ObL} {S:DiskL} {had:List ObL} {n m:Nat} (h:KeepI all S had n) (hm:n≤m):KeepI all S had m:=⟨h.alls,h.max,Nat.le_trans h.used (by omega),h.names,h.had⟩
theorem DkA.upto {X:zb_} {G:DkG} {S:DiskL} {N M:Nat} (h:DkA X G S N) (hm:N≤M):DkA X G S M:=⟨h.P,h.H,h.B.mono hm⟩
theorem rem7 (a:Int):zr_ .rem (vi a) (vi 7)=some (vi (a.tmod 7)):=by
 unfold vi zr_
 rfl
theorem Vg_ (v:Value) (l:List A5L) (m:Nat) (w:World) (hG:GlbA w m) (hv:A5Sl w v l) (ha: ∀a,a∈l→A5Ok w a):
  Rets Tryz.prog 11 #[v] w (fun v D=>v= .bool true∧D= []):=by
 have ln:=hv.len
 obtain⟨rb,off,arr,E,fz,hr⟩:=hv.row
 refine Rets.enterV Tryz.func11 rfl (rs:= [.tmp 2]) Tryz.results11 Tryz.ntmps11 ?_
 refine kf ?_
 first|with_reducible refine ks [] @zA_ ?_|refine kp @zA_ ?_
 refine Ow.callFV rfl Tryz.call48 (fun w' hw'=>kP_ m w' (hG.new hw' trivial)) ?_
 refine ko @zA_ ?_
 first|with_reducible refine ks [] @zA_ ?_|refine kp @zA_ ?_
 refine Ow.callC rfl rfl Tryz.call58 (fun w' hw'=>V5_ v l w' (hv.oldN hw' trivial) (fun a h=>(ha a h).old hw' trivial)) (fun B1 v1 D1 hA1 hB1 hN1 hS1=> ?_)
 rw[List.nil_append]
 have hN1':New w.heap.size D1:=hN1.mono hB1
 have hol: (Xh_ l).length≤60:=Nat.le_trans (ac5_ _) (by rw[List.length_take];omega)
 refine ko @zA_ ?_
 refine Ow.callFV rfl Tryz.call57 (fun w' hw'=>ajg_ (.slice none 0 0) v1 [] (Xh_ l) w' (SlV.nil w') (by simp) (fun f hf=>by cases hf) ((hS1.mono (fun q hq=>by simp[hq])).slV (z:=ob0) hw' rfl rfl jC_) (by omega)) ?_
 rw[show QL_ []++Xh_ l=Xh_ l from rfl]
 cases hcl:J3_ (Xh_ l) with
 |true=>
  refine ko @zA_ ?_
  first|with_reducible refine ks [] @zA_ ?_|refine kp @zA_ ?_
  refine Ow.callFV rfl Tryz.call48 (fun w' hw'=>kP_ m w' (hG.new hw' hN1')) ?_
  refine ko @zA_ ?_
  first|with_reducible refine ks [] @zA_ ?_|refine kp @zA_ ?_
  refine⟨_,(ke @zA_),hN1', ?_⟩
  rfl
 |false=>
  refine ko @zA_ ?_
  first|with_reducible refine ks [] @zA_ ?_|refine kp @zA_ ?_
  refine Ow.callC rfl rfl Tryz.call28 (fun w' hw'=>ab6_ 1000000 w' (by decide) (hG.new hw' hN1').D) (fun B0 v0 D0 hA0 hB0 hN0 hS0=> ?_)
  obtain⟨G0,rfl,hP0⟩:=hS0
  have hN0':New w.heap.size D0:=hN0.mono hB0
  have hK0:=apL_ (Xh_ l) (ag3_ hP0.ok)
  have hD0:DkA D0 G0 (wt_ 1000000) 0:=⟨hP0,ahA_ 1000000,alf_ 1000000⟩
  generalize wt_ 1000000=S0 at*
  refine ko @zA_ ?_
  first|with_reducible refine ks [] @zA_ ?_|refine kp @zA_ ?_
  refine Cw.permL (M:=D0++ ([]++D1)) (by classical exact List.perm_iff_count.2 fun a=>by simp only[List.count_append,List.count_cons,List.count_nil]<;>omega) ?_
  refine Cw.loopG (G:=KeG) [23,24,25,26,27,28,29,30,33,34,35,36,6,37,38,40,41,42,43,39,44,45,7,8,46,47,48,49,50,2,51,52,53,54,55,56,57,58,9,10,59,60,61,62,65,66,67,68,69,70,71,72,73,74,75,76,77,78,63,64,79,4,81,82,83,80,84,85,11,12,86,87,88,89,90,91,92,31,32,5] (fun g=> [(4,g.v),(5,vi g.i)]) (fun g=>g.X++ (g.D++g.DG)) (fun g=>g.i≤l.length∧g.i≤25∧g.G.bd=G0.bd∧DkA g.X g.G g.S (43*g.i)∧KeepI (Xh_ l) g.S g.had g.i∧New w.heap.size g.X∧New w.heap.size g.D∧New w.heap.size g.DG∧Gr g.D 82 2 g.v g.had.length (g.had.map obC).flatten∧g.had.length≤g.i) (fun g=>l.length - g.i) ⟨0, .slice none 0 0,[],S0,G0,D0,[],D1⟩ rfl rfl ?_ ?_
  ·exact⟨Nat.zero_le _,Nat.zero_le _,rfl,hD0,hK0,hN0',trivial,hN1',Gr.nl,Nat.le_refl _⟩
  intro g j hg
  refine kv ?_
  clear hD0 hK0
  obtain⟨i,vh,had,S,G,X,D,DG⟩:=g
  simp only at hg ⊢
  obtain⟨hi,h25,hbd,hA,hK,hNX,hND,hNG,hGr,hhl⟩:=hg
  have hN:=hNX.app (hND.app hNG)
  have hkX: ∀b,b∈keys X→m≤b:=fun b hb=>Nat.le_trans hG.le (hNX.le b hb)
  rw[←hbd]
  by_cases hc:i<l.length∧i<25
  ·obtain⟨hlt,hl25⟩:=hc
   have d1:decide ((i:Int)< (l.length:Int))=true:=decide_eq_true (by omega)
   have d2:decide ((i:Int)<25)=true:=decide_eq_true (by omega)
   have hrl:=hr.lt (by omega)
   have ix:=hr.idx true i hlt
   have ld:=apM_ hr hlt
   have hhas:=hr.has (show 0<l.length by omega)
   have rd1:zz_ w (X++ (D++DG)) rb=some (.cells arr E fz):=by rw[qN_ (hN.not hrl)];exact hhas
   have hak:=ha (l.getD i a50) (xQ_ (z:=a50) hlt)
   have hmem:=fun h=>alN_ hlt (by omega) h
   generalize l.getD i a50=a at*
   have hrm:=rem7 a.kind
   first|with_reducible refine ks [27,34] (And.intro @zA_ (And.intro @d1 (And.intro @d2 (And.intro @ln (And.intro @ix (And.intro @rd1 (@ld))))))) ?_|refine kp (And.intro @zA_ (And.intro @d1 (And.intro @d2 (And.intro @ln (And.intro @ix (And.intro @rd1 (@ld))))))) ?_
   refine Ow.alloc rfl rfl zrA5 fun b6 hb6 hw6=> ?_
   simp only[za_,List.nil_append,List.cons_append]
   refine Ow.permL (M:=(b6, .cells (a5C a50).toArray 97 (0,0)):: (X++ (D++DG))) (by classical exact List.perm_iff_count.2 fun a=>by simp only[List.count_append,List.count_cons,List.count_nil]<;>omega) ?_
   have hN6:New w.heap.size ((b6, .cells (a5C a).toArray 97 (0,0)):: (X++ (D++DG))):=⟨hw6,hN⟩
   have hN6':New w.heap.size (X++ ((b6, .cells (a5C a).toArray 97 (0,0)):: (D++DG))):=hNX.app ⟨hw6,hND.app hNG⟩
   refine ko @zA_ ?_
   first|with_reducible refine ks [] @zA_ ?_|refine kp @zA_ ?_
   refine Ow.callFV rfl Tryz.call59 (fun w' hw'=>Xa_ a w' (hak.old hw' hN6)) ?_
   cases hga:w6_ a with
   |true=>
    refine Ow.permL (M:=X++ (D++ ((b6, .cells (a5C a).toArray 97 (0,0))::DG))) (by classical exact List.perm_iff_count.2 fun a=>by simp only[List.count_append,List.count_cons,List.count_nil]<;>omega) ?_
    refine ko @zA_ ?_
    first|with_reducible refine ks [] @zA_ ?_|refine kp @zA_ ?_
    exact Again.mk ⟨i+1,vh,had,S,G,X,D,(b6, .cells (a5C a).toArray 97 (0,0))::DG⟩ (by show l.length - (i+1)<l.length - i;omega) ⟨hlt,hl25,rfl,hA.upto (by show 43*i≤43* (i+1);omega),hK.up (Nat.le_succ i),hNX,hND,⟨hw6,hNG⟩,hGr,Nat.le_succ_of_le hhl⟩ rfl rfl
   |false=>
    have ho:=hmem hga
    refine ko @zA_ ?_
    first|with_reducible refine ks [] @zA_ ?_|refine kp @zA_ ?_
    refine Ow.permL (M:=X++ ((b6, .cells (a5C a).toArray 97 (0,0)):: (D++DG))) (by classical exact List.perm_iff_count.2 fun a=>by simp only[List.count_append,List.count_cons,List.count_nil]<;>omega) ?_
    refine Ow.callX (X:=X) (Y:=(b6, .cells (a5C a).toArray 97 (0,0)):: (D++DG)) rfl rfl rfl Tryz.call60 (fun w' hw' hX' hn'=>aac_ X G S (43*i) m a.ok a.ot w' hX' hn' hA (by omega) (hG.new hw' hN6') hkX) (fun v4 X2 hC4 hS4=> ?_)
    obtain⟨rfl,G2,hbd2,hA2⟩:=hS4
    have hNX2:New w.heap.size X2:=adx_ hC4 hNX
    have hkX2: ∀b,b∈keys X2→m≤b:=fun b hb=>Nat.le_trans hG.le (hNX2.le b hb)
    have hbad:=fun h=>apD_ S (k:=a.ok) (t:=a.ot) h
    have ZY_:=fun h=>an5_ hK (by omega) hcl ho (show xH_ (a5O a).k (a5O a).t=true from h)
    rw[show putL S (a5O a).k (a5O a).t=putL S a.ok a.ot from rfl] at ZY_
    generalize putL S a.ok a.ot=p at*
    obtain⟨x,pe,S2⟩:=p
    simp only at ZY_ hA2 ⊢
    have hx:=x.h
    have hi0:=id0.h
    refine ko @zA_ ?_
    refine Ow.alloc rfl rfl vO_ fun b7 hb7 hw7=> ?_
    simp only[za_,List.nil_append,List.cons_append]
    have h67:b6<b7:=zi_ hb7 (by simp[keys])
    refine Ow.permL (M:=(b7, .cells (a8 id0.l) 84 (0,0)):: (b6, .cells (a5C a).toArray 97 (0,0)):: (X2++ (D++DG))) (by classical exact List.perm_iff_count.2 fun a=>by simp only[List.count_append,List.count_cons,List.count_nil]<;>omega) ?_
    have hN7:New w.heap.size ((b7, .cells (a8 x.l) 84 (0,0)):: (b6, .cells (a5C a).toArray 97 (0,0)):: (X2++ (D++DG))):=⟨hw7,hw6,hNX2.app (hND.app hNG)⟩
    refine ko @zA_ ?_
    cases hrk:xH_ a.ok a.ot with
    |false=>
     have hb:=hbad hrk
     cases hb
     have e1: (((1:Nat):Int) !=0)=true:=rfl
     first|with_reducible refine ks [] (And.intro @zA_ @e1) ?_|refine kp (And.intro @zA_ @e1) ?_
     refine Ow.callFV rfl Tryz.call54 (fun w' hw'=>ZV_ a.ok a.ot w') ?_
     rw[←Ze_,hrk]
     refine Ow.permL (M:=X2++ (D++ ((b7, .cells (a8 id0.l) 84 (0,0)):: (b6, .cells (a5C a).toArray 97 (0,0))::DG))) (by classical exact List.perm_iff_count.2 fun a=>by simp only[List.count_append,List.count_cons,List.count_nil]<;>omega) ?_
     refine ko @zA_ ?_
     first|with_reducible refine ks [] @zA_ ?_|refine kp @zA_ ?_
     exact Again.mk ⟨i+1,vh,had,S,G2,X2,D,(b7, .cells (a8 id0.l) 84 (0,0)):: (b6, .cells (a5C a).toArray 97 (0,0))::DG⟩ (by show l.length - (i+1)<l.length - i;omega) ⟨hlt,hl25,hbd2,hA2.upto (by show 43*i+42≤43* (i+1);omega),hK.up (Nat.le_succ i),hNX2,hND,⟨hw7,hw6,hNG⟩,hGr,Nat.le_succ_of_le hhl⟩ rfl rfl
    |true=>
     obtain⟨rfl,rfl,hK2⟩:=ZY_ hrk
     have e1: (((0:Nat):Int) !=0)=false:=rfl
     by_cases k3:a.kind.tmod 7=3
     ·have e3: (a.kind.tmod 7==3)=true:=beq_iff_eq.2 k3
      obtain⟨xo,hxo⟩: ∃xo,idV (a5O a).k (a5O a).t=xo:=⟨_,rfl⟩
      have hrv:=aer_ hK2 hcl (o:=a5O a) (List.mem_append_right _ (List.mem_singleton.2 rfl)) (had.filter fun p=> !decide (p=a5O a)) (fun p hp=>by
       obtain⟨h1,h2⟩:=List.mem_filter.1 hp
       exact⟨List.mem_append_left _ h1,by simpa using h2⟩)
      rw[hxo] at hrv hx ⊢
      rw[←hbd2]
      first|with_reducible refine ks [] (And.intro @zA_ (And.intro @e1 (And.intro @hrm (@e3)))) ?_|refine kp (And.intro @zA_ (And.intro @e1 (And.intro @hrm (@e3)))) ?_
      refine Ow.permL (M:=X2++ ((b7, .cells (a8 xo.l) 84 (0,0)):: (b6, .cells (a5C a).toArray 97 (0,0)):: (D++DG))) (by classical exact List.perm_iff_count.2 fun a=>by simp only[List.count_append,List.count_cons,List.count_nil]<;>omega) ?_
      refine Ow.callX (X:=X2) (Y:=(b7, .cells (a8 xo.l) 84 (0,0)):: (b6, .cells (a5C a).toArray 97 (0,0)):: (D++DG)) rfl rfl rfl Tryz.call61 (fun w' hw' hX' hn'=>abw_ X2 G2 S2 (43*i+42) xo w' hX' hn' hA2 (by omega)) (fun v5 X3 hC5 hS5=> ?_)
      obtain⟨rfl,G3,hbd3,hA3⟩:=hS5
      have hNX3:New w.heap.size X3:=adx_ hC5 hNX2
      generalize qk_ S2 zf_ (zU_ xo.l)=q at*
      obtain⟨S3,re⟩:=q
      simp only at hrv hA3 ⊢
      obtain⟨rfl,hK3,hg6⟩:=hrv
      rw[←hbd3]
      refine Ow.permL (M:=(b7, .cells (a8 xo.l) 84 (0,0)):: (b6, .cells (a5C a).toArray 97 (0,0)):: (D++ ([]++ ([]++ (X3++DG))))) (by classical exact List.perm_iff_count.2 fun a=>by simp only[List.count_append,List.count_cons,List.count_nil]<;>omega) ?_
      refine Ow.world fun w1 hw1=> ?_
      obtain⟨hb2,hoff,harr,HE,hfz,hrD,hlkD⟩:=(hGr.i fun p hp=>hp).rowL (z:=ob0) rfl ((hw1.perm (M:=D++ ((b7, .cells (a8 xo.l) 84 (0,0)):: (b6, .cells (a5C a).toArray 97 (0,0)):: ([]++ ([]++ (X3++DG))))) (by classical exact List.perm_iff_count.2 fun a=>by simp only[List.count_append,List.count_cons,List.count_nil]<;>omega)).part) jC_
      have hnd0: (keys ([(b7,Obj.cells (a8 xo.l) 84 (0,0)),(b6,Obj.cells (a5C a).toArray 97 (0,0))]++D)).Nodup:=by
       have:=hw1.nodup
       rw[show((b7,Obj.cells (a8 xo.l) 84 (0,0)):: (b6,Obj.cells (a5C a).toArray 97 (0,0)):: (D++ ([]++ ([]++ (X3++DG)))))=([(b7,Obj.cells (a8 xo.l) 84 (0,0)),(b6,Obj.cells (a5C a).toArray 97 (0,0))]++D)++ ([]++ ([]++ (X3++DG))) from rfl,zj_] at this
       exact(List.nodup_append.1 this).1
      have rdD: ∀ (Y:zb_),0<had.length→zz_ w ((b7,Obj.cells (a8 xo.l) 84 (0,0)):: (b6,Obj.cells (a5C a).toArray 97 (0,0)):: (D++Y)) hb2=some (.cells harr HE hfz):=fun Y h0=>ze_ (zk_ (L:= [(b7,Obj.cells (a8 xo.l) 84 (0,0)),(b6,Obj.cells (a5C a).toArray 97 (0,0))]++D) (vq_ (A:= [(b7,Obj.cells (a8 xo.l) 84 (0,0)),(b6,Obj.cells (a5C a).toArray 97 (0,0))]) hnd0 (hlkD h0)))
      have lnD:=fun x=>hrD.len x
      have rd6: ∀ (Y:zb_),zz_ w ((b7,Obj.cells (a8 xo.l) 84 (0,0)):: (b6,Obj.cells (a5C a).toArray 97 (0,0))::Y) b6=some (Obj.cells (a5C a).toArray 97 (0,0)):=fun Y=>ze_ (by simp[Sx.look,show b6≠b7 by omega,show b7≠b6 by omega])
      clear hw1 hnd0 hlkD
      refine ko @zA_ ?_
      first|with_reducible refine ks [] (And.intro @zA_ @e1) ?_|refine kp (And.intro @zA_ @e1) ?_
      refine Cw.loopG (G:=LkG) [59,60,61,62,65,66,67,68,69,70,71,72,73,74,75,76,77,78,9,63,64,10] (fun g=> [(9,g.v),(10,vi g.j)]) (fun g=>(b7, .cells (a8 xo.l) 84 (0,0)):: (b6, .cells (a5C a).toArray 97 (0,0)):: (D++ (g.D++ (g.DG++ (X3++DG))))) (fun g=>g.j≤had.length∧New w.heap.size g.D∧New w.heap.size g.DG∧Gr g.D 82 2 g.v ((had.take g.j).filter fun p=> !decide (p=a5O a)).length ((((had.take g.j).filter fun p=> !decide (p=a5O a)).map obC).flatten)) (fun g=>had.length - g.j) ⟨0, .slice none 0 0,[],[]⟩ rfl rfl ?_ ?_
      ·exact⟨Nat.zero_le _,trivial,trivial,Gr.nl⟩
      intro g j hg
      refine kv ?_
      obtain⟨j,v9,D9,DG9⟩:=g
      simp only at hg ⊢
      obtain⟨hj,hN9,hNG9,hGr9⟩:=hg
      by_cases hjt:j<had.length
      ·have c1:decide ((j:Int)< (had.length:Int))=true:=decide_eq_true (by omega)
       have ixD:=hrD.idx true j hjt
       have ldD:=ae6_ hrD hjt
       have rdj:=rdD (D9++ (DG9++ (X3++DG))) (by omega)
       have rd6j:=rd6 (D++ (D9++ (DG9++ (X3++DG))))
       have hfs:=als_ (o:=a5O a) hjt
       have hfl: ((had.take j).filter fun p=> !decide (p=a5O a)).length≤25:=Nat.le_trans (List.length_filter_le _ _) (by rw[List.length_take];omega)
       generalize had.getD j ob0=ho2 at*
       generalize (had.take j).filter (fun p=> !decide (p=a5O a))=lf at*
       by_cases hq:ho2=a5O a
       ·have nq:qI_ Tryz.prog .neq 82 (obV ho2.k ho2.t) (obV a.ok a.ot)=some (.bool false):=(aoU_ ho2 (a5O a)).trans (by rw[decide_eq_true hq];rfl)
        rw[if_pos hq,List.append_nil] at hfs
        first|with_reducible refine ks [] (And.intro @zA_ (And.intro @c1 (@lnD))) ?_|refine kp (And.intro @zA_ (And.intro @c1 (@lnD))) ?_
        refine Cw.regionS [b6,hb2] [0,1,2,4,3,5,6] [] (by kernel_rfl) (by kernel_rfl) (by kernel_rfl) ?_
        simp only[zl_, ↓zg_, ↓zc_, ↓zx_, ↓zw_,zd_]
        refine kq (And.intro @zA_ (And.intro @ixD (And.intro @rdj (And.intro @ldD (And.intro @rd6j (@nq)))))) ?_
        first|with_reducible refine ks [] @zA_ ?_|refine kp @zA_ ?_
        exact Again.mk ⟨j+1,v9,D9,DG9⟩ (by show had.length - (j+1)<had.length - j;omega) ⟨hjt,hN9,hNG9,by rw[hfs];exact hGr9⟩ rfl rfl
       ·have nq:qI_ Tryz.prog .neq 82 (obV ho2.k ho2.t) (obV a.ok a.ot)=some (.bool true):=(aoU_ ho2 (a5O a)).trans (by rw[decide_eq_false hq];rfl)
        rw[if_neg hq] at hfs
        first|with_reducible refine ks [] (And.intro @zA_ (And.intro @c1 (@lnD))) ?_|refine kp (And.intro @zA_ (And.intro @c1 (@lnD))) ?_
        refine Cw.regionS [b6,hb2] [0,1,2,4,3,5,6] [] (by kernel_rfl) (by kernel_rfl) (by kernel_rfl) ?_
        simp only[zl_, ↓zg_, ↓zc_, ↓zx_, ↓zw_,zd_]
        refine kq (And.intro @zA_ (And.intro @ixD (And.intro @rdj (And.intro @ldD (And.intro @rd6j (@nq)))))) ?_
        first|with_reducible refine ks [] (And.intro @zA_ (And.intro @ixD (And.intro @rdj (@ldD)))) ?_|refine kp (And.intro @zA_ (And.intro @ixD (And.intro @rdj (@ldD)))) ?_
        refine Ow.buildSlice (e:=82) #[vi ho2.k,vs ho2.t] rfl rfl (qA_ (cs:=obC ho2) Tryz.underlying94 Tryz.ag82 ZN_ (by decide) rfl) fun bc hbc hwc=> ?_
        refine ko @zA_ ?_
        refine Ow.permL (M:=D9++ ((b7, .cells (a8 xo.l) 84 (0,0)):: (b6, .cells (a5C a).toArray 97 (0,0)):: (D++ ((bc, .cells #[vi ho2.k,vs ho2.t] 82 (0,0)):: (DG9++ (X3++DG)))))) (by classical exact List.perm_iff_count.2 fun a=>by simp only[List.count_append,List.count_cons,List.count_nil]<;>omega) ?_
        refine Ow.appendXG (e:=82) (k:=1) (new:=obC ho2) (X:=D9) v9 rfl rfl rfl rfl Tryz.underlying94 Tryz.ag82 (by kernel_rfl) ZN_ (by rw[obV,za_];rfl) Tryz.underlying94 (by intro k h;cases h) hGr9 (fun w' hw'=>AppX.one1 (hw'.has bc (.cells (obC ho2).toArray 82 (0,0)) (by simp[obC])) (jC_ _) (wZ_ _)) (by omega) (fun B5 v5 D5 hA5 hB5 hG5 hk51 hk52 hlk5=> ?_)
        have hN5:New w.heap.size D5:=New.of_le fun q hq=>by
         rcases hk52 q hq with h|h
         ·exact hN9.le q h
         ·omega
        refine Ow.permL (M:=(b7, .cells (a8 xo.l) 84 (0,0)):: (b6, .cells (a5C a).toArray 97 (0,0)):: (D++ (D5++ ((bc, .cells #[vi ho2.k,vs ho2.t] 82 (0,0)):: (DG9++ (X3++DG)))))) (by classical exact List.perm_iff_count.2 fun a=>by simp only[List.count_append,List.count_cons,List.count_nil]<;>omega) ?_
        refine ko @zA_ ?_
        first|with_reducible refine ks [] @zA_ ?_|refine kp @zA_ ?_
        exact Again.mk ⟨j+1,v5,D5,(bc, .cells #[vi ho2.k,vs ho2.t] 82 (0,0))::DG9⟩ (by show had.length - (j+1)<had.length - j;omega) ⟨hjt,hN5,⟨hwc,hNG9⟩,by rw[hfs];simpa using hG5⟩ rfl rfl
      ·obtain rfl:j=had.length:=by omega
       have c1:decide ((had.length:Int)< (had.length:Int))=false:=decide_eq_false (by omega)
       rw[List.take_length] at hGr9
       have hfl: (had.filter fun p=> !decide (p=a5O a)).length≤had.length:=List.length_filter_le _ _
       generalize had.filter (fun p=> !decide (p=a5O a))=lf at*
       have hNa:New w.heap.size ((b7, .cells (a8 xo.l) 84 (0,0)):: (b6, .cells (a5C a).toArray 97 (0,0)):: (D++ (D9++ (DG9++ (X3++DG))))):=⟨hw7,hw6,hND.app (hN9.app (hNG9.app (hNX3.app hNG)))⟩
       first|with_reducible refine ks [27] (And.intro @zA_ (And.intro @c1 (@lnD))) ?_|refine kp (And.intro @zA_ (And.intro @c1 (@lnD))) ?_
       refine Ow.callFV rfl Tryz.call62 (fun w' hw'=>kn_ w' G3 S3 xo ⟨X3,fun b o h=>hw'.has _ _ (by simp[zy_ h]),hA3.P⟩ hA3.P.ok (hG.new hw' hNa).C (hG.new hw' hNa).E) ?_
       generalize Xy_ S3 xo=gg at*
       obtain⟨gk,gt,ge⟩:=gg
       simp only at hg6
       subst hg6
       simp only
       refine ko @zA_ ?_
       refine Ow.alloc rfl rfl ZN_ fun b11 hb11 hw11=> ?_
       simp only[za_,List.nil_append,List.cons_append]
       refine Ow.permL (M:=(b11, .cells #[vi 0,vs []] 82 (0,0)):: (b7, .cells (a8 xo.l) 84 (0,0)):: (b6, .cells (a5C a).toArray 97 (0,0)):: (D++ (D9++ (DG9++ (X3++DG))))) (by classical exact List.perm_iff_count.2 fun a=>by simp only[List.count_append,List.count_cons,List.count_nil]<;>omega) ?_
       refine ko @zA_ ?_
       refine Cw.permL (M:=X3++ (D9++ ((b11, .cells #[vi gk,vs gt] 82 (0,0)):: (b7, .cells (a8 xo.l) 84 (0,0)):: (b6, .cells (a5C a).toArray 97 (0,0)):: (D++ (DG9++DG))))) (by classical exact List.perm_iff_count.2 fun a=>by simp only[List.count_append,List.count_cons,List.count_nil]<;>omega) ?_
       have e6: (((6:Nat):Int) !=6)=false:=rfl
       first|with_reducible refine ks [] (And.intro @zA_ @e6) ?_|refine kp (And.intro @zA_ @e6) ?_
       exact Again.mk ⟨i+1,v9,lf,S3,G3,X3,D9,(b11, .cells #[vi gk,vs gt] 82 (0,0)):: (b7, .cells (a8 xo.l) 84 (0,0)):: (b6, .cells (a5C a).toArray 97 (0,0)):: (D++ (DG9++DG))⟩ (by show l.length - (i+1)<l.length - i;omega) ⟨hlt,hl25,rfl,hA3.upto (by show 43*i+42+1≤43* (i+1);omega),hK3,hNX3,hN9,⟨hw11,hw7,hw6,hND.app (hNG9.app hNG)⟩,hGr9,by show lf.length≤i+1;omega⟩ rfl rfl
     ·have e3: (a.kind.tmod 7==3)=false:=beq_eq_false_iff_ne.2 k3
      first|with_reducible refine ks [] (And.intro @zA_ (And.intro @e1 (And.intro @hrm (@e3)))) ?_|refine kp (And.intro @zA_ (And.intro @e1 (And.intro @hrm (@e3)))) ?_
      refine Ow.buildSlice (e:=82) #[vi a.ok,vs a.ot] rfl rfl (qA_ (cs:=obC (a5O a)) Tryz.underlying94 Tryz.ag82 ZN_ (by decide) rfl) fun bc hbc hwc=> ?_
      refine ko @zA_ ?_
      refine Ow.permL (M:=D++ (X2++ ((b7, .cells (a8 (idV (a5O a).k (a5O a).t).l) 84 (0,0)):: (b6, .cells (a5C a).toArray 97 (0,0)):: (bc, .cells #[vi a.ok,vs a.ot] 82 (0,0))::DG))) (by classical exact List.perm_iff_count.2 fun a=>by simp only[List.count_append,List.count_cons,List.count_nil]<;>omega) ?_
      refine Ow.appendXG (e:=82) (k:=1) (new:=obC (a5O a)) (X:=D) vh rfl rfl rfl rfl Tryz.underlying94 Tryz.ag82 (by kernel_rfl) ZN_ (by rw[obV,za_];rfl) Tryz.underlying94 (by intro k h;cases h) hGr (fun w' hw'=>AppX.one1 (hw'.has bc (.cells (obC (a5O a)).toArray 82 (0,0)) (by simp[obC,a5O])) (jC_ _) (wZ_ _)) (by omega) (fun B5 v5 D5 hA5 hB5 hG5 hk51 hk52 hlk5=> ?_)
      have hN5:New w.heap.size D5:=New.of_le fun q hq=>by
       rcases hk52 q hq with h|h
       ·exact hND.le q h
       ·omega
      refine Ow.permL (M:=X2++ (D5++ ((b7, .cells (a8 (idV (a5O a).k (a5O a).t).l) 84 (0,0)):: (b6, .cells (a5C a).toArray 97 (0,0)):: (bc, .cells #[vi a.ok,vs a.ot] 82 (0,0))::DG))) (by classical exact List.perm_iff_count.2 fun a=>by simp only[List.count_append,List.count_cons,List.count_nil]<;>omega) ?_
      refine ko @zA_ ?_
      first|with_reducible refine ks [] @zA_ ?_|refine kp @zA_ ?_
      exact Again.mk ⟨i+1,v5,had++ [a5O a],S2,G2,X2,D5,(b7, .cells (a8 (idV (a5O a).k (a5O a).t).l) 84 (0,0)):: (b6, .cells (a5C a).toArray 97 (0,0)):: (bc, .cells #[vi a.ok,vs a.ot] 82 (0,0))::DG⟩ (by show l.length - (i+1)<l.length - i;omega) ⟨hlt,hl25,hbd2,hA2.upto (by show 43*i+42≤43* (i+1);omega),hK2,hNX2,hN5,⟨hw7,hw6,hwc,hNG⟩,by simpa using hG5,by show(had++ [a5O a]).length≤i+1;rw[List.length_append];simp;exact hhl⟩ rfl rfl
  ·by_cases hlt:i<l.length
   ·have d1:decide ((i:Int)< (l.length:Int))=true:=decide_eq_true (by omega)
    have d2:decide ((i:Int)<25)=false:=decide_eq_false (by omega)
    refine Cw.permL (M:=D++ (X++DG)) (by classical exact List.perm_iff_count.2 fun a=>by simp only[List.count_append,List.count_cons,List.count_nil]<;>omega) ?_
    refine Cw.world fun w1 hw1=> ?_
    obtain⟨hb2,hoff,harr,HE,hfz,hrD,hlkD⟩:=(hGr.i fun p hp=>hp).rowL (z:=ob0) rfl hw1.part jC_
    clear hw1
    have rdD: ∀ (Y:zb_),0<had.length→zz_ w (D++Y) hb2=some (.cells harr HE hfz):=fun Y h0=>ze_ (zk_ (hlkD h0))
    have lnD:=fun x=>hrD.len x
    first|with_reducible refine ks [34] (And.intro @zA_ (And.intro @d1 (And.intro @d2 (@ln)))) ?_|refine kp (And.intro @zA_ (And.intro @d1 (And.intro @d2 (@ln)))) ?_
    refine Cw.loopG (G:=TlG) [93,94,95,96,100,101,102,103,104,105,106,99,107,108,14,15,109,110,111,112,113,114,115,116,117,118,2,97,98,13] (fun g=> [(13,vi g.j)]) (fun g=>D++ (X++g.DG)) (fun g=>g.j≤had.length∧New w.heap.size g.DG) (fun g=>had.length - g.j) ⟨0,DG⟩ rfl rfl ?_ ?_
    ·exact⟨Nat.zero_le _,hNG⟩
    intro g j hg
    refine kv ?_
    obtain⟨j,DG2⟩:=g
    simp only at hg ⊢
    obtain⟨hj,hNG2⟩:=hg
    have hNt:New w.heap.size (D++ (X++DG2)):=hND.app (hNX.app hNG2)
    by_cases hjt:j<had.length
    ·have c1:decide ((j:Int)< (had.length:Int))=true:=decide_eq_true (by omega)
     have ixD:=hrD.idx true j hjt
     have ldD:=ae6_ hrD hjt
     have rdj:=rdD (X++DG2) (by omega)
     obtain⟨ho1,ho2⟩:=ahC_ hK (xQ_ (z:=ob0) hjt)
     generalize had.getD j ob0=o at*
     have hol2:=aat_ ho1
     have hid:Dig.shaR (wl_ o.k o.t)=(idV o.k o.t).l:=by
      have e:idV o.k o.t=⟨Dig.shaR (qw_ o.k o.t),vX_ _⟩:=if_pos ho1
      rw[e]
      exact congrArg Dig.shaR (KC_ ho1)
     first|with_reducible refine ks [34] (And.intro @zA_ (And.intro @c1 (And.intro @lnD (And.intro @ixD (And.intro @rdj (@ldD)))))) ?_|refine kp (And.intro @zA_ (And.intro @c1 (And.intro @lnD (And.intro @ixD (And.intro @rdj (@ldD)))))) ?_
     refine Ow.callFV rfl Tryz.call55 (fun w' hw'=>abi_ o.k o.t w' (by omega)) ?_
     rw[hid]
     refine ko @zA_ ?_
     refine Ow.callFV rfl Tryz.call62 (fun w' hw'=>kn_ w' G S (idV o.k o.t) ⟨X,fun b o h=>hw'.has _ _ (by simp[zy_ h]),hA.P⟩ hA.P.ok (hG.new hw' hNt).C (hG.new hw' hNt).E) ?_
     rw[ho2]
     simp only
     refine ko @zA_ ?_
     refine Ow.alloc rfl rfl ZN_ fun b14 hb14 hw14=> ?_
     simp only[za_,List.nil_append,List.cons_append]
     refine Ow.permL (M:=(b14, .cells #[vi 0,vs []] 82 (0,0)):: (D++ (X++DG2))) (by classical exact List.perm_iff_count.2 fun a=>by simp only[List.count_append,List.count_cons,List.count_nil]<;>omega) ?_
     have n14: ∀c,c∈keys (D++ (X++DG2))→c<b14:=fun c hc=>zi_ hb14 hc
     have n14D:b14∉keys D:=fun hm=>by
      have:=n14 b14 (by rw[zj_];exact List.mem_append_left _ hm)
      omega
     have n14X:b14∉keys X:=fun hm=>by
      have:=n14 b14 (by rw[zj_,zj_];exact List.mem_append_right _ (List.mem_append_left _ hm))
      omega
     refine ko @zA_ ?_
     refine Cw.permL (M:=D++ (X++ ((b14, .cells #[vi o.k,vs o.t] 82 (0,0))::DG2))) (by classical exact List.perm_iff_count.2 fun a=>by simp only[List.count_append,List.count_cons,List.count_nil]<;>omega) ?_
     have nq:qI_ Tryz.prog .neq 82 (obV o.k o.t) (obV o.k o.t)=some (.bool false):=(aoU_ o o).trans (by rw[decide_eq_true rfl];rfl)
     have e0: (((0:Nat):Int) !=0)=false:=rfl
     have rdk:=rdD (X++ ((b14, .cells #[vi o.k,vs o.t] 82 (0,0))::DG2)) (by omega)
     have rd14:zz_ w (D++ (X++ ((b14, .cells #[vi o.k,vs o.t] 82 (0,0))::DG2))) b14=some (.cells #[vi o.k,vs o.t] 82 (0,0)):=ze_ (by rw[zG_ n14D,zG_ n14X];simp[Sx.look])
     refine Cw.regionS [b14,hb2] [0,1,2,4,5,6,3,7,8,9] [] (by kernel_rfl) (by kernel_rfl) (by kernel_rfl) ?_
     simp only[zl_, ↓zg_, ↓zc_, ↓zx_, ↓zw_,zd_]
     refine kq (And.intro @zA_ (And.intro @e0 (And.intro @rd14 (And.intro @ixD (And.intro @rdk (And.intro @ldD (@nq))))))) ?_
     first|with_reducible refine ks [] @zA_ ?_|refine kp @zA_ ?_
     exact Again.mk ⟨j+1,(b14, .cells #[vi o.k,vs o.t] 82 (0,0))::DG2⟩ (by show had.length - (j+1)<had.length - j;omega) ⟨hjt,hw14,hNG2⟩ rfl rfl
    ·obtain rfl:j=had.length:=by omega
     have c1:decide ((had.length:Int)< (had.length:Int))=false:=decide_eq_false (by omega)
     first|with_reducible refine ks [] (And.intro @zA_ (And.intro @c1 (@lnD))) ?_|refine kp (And.intro @zA_ (And.intro @c1 (@lnD))) ?_
     refine Ow.callFV rfl Tryz.call48 (fun w' hw'=>kP_ m w' (hG.new hw' hNt)) ?_
     refine ko @zA_ ?_
     first|with_reducible refine ks [] @zA_ ?_|refine kp @zA_ ?_
     refine⟨_,(ke @zA_),hNt, ?_⟩
     rfl
   ·have d1:decide ((i:Int)< (l.length:Int))=false:=decide_eq_false (by omega)
    refine Cw.permL (M:=D++ (X++DG)) (by classical exact List.perm_iff_count.2 fun a=>by simp only[List.count_append,List.count_cons,List.count_nil]<;>omega) ?_
    refine Cw.world fun w1 hw1=> ?_
    obtain⟨hb2,hoff,harr,HE,hfz,hrD,hlkD⟩:=(hGr.i fun p hp=>hp).rowL (z:=ob0) rfl hw1.part jC_
    clear hw1
    have rdD: ∀ (Y:zb_),0<had.length→zz_ w (D++Y) hb2=some (.cells harr HE hfz):=fun Y h0=>ze_ (zk_ (hlkD h0))
    have lnD:=fun x=>hrD.len x
    first|with_reducible refine ks [34] (And.intro @zA_ (And.intro @d1 (@ln))) ?_|refine kp (And.intro @zA_ (And.intro @d1 (@ln))) ?_
    refine Cw.loopG (G:=TlG) [93,94,95,96,100,101,102,103,104,105,106,99,107,108,14,15,109,110,111,112,113,114,115,116,117,118,2,97,98,13] (fun g=> [(13,vi g.j)]) (fun g=>D++ (X++g.DG)) (fun g=>g.j≤had.length∧New w.heap.size g.DG) (fun g=>had.length - g.j) ⟨0,DG⟩ rfl rfl ?_ ?_
    ·exact⟨Nat.zero_le _,hNG⟩
    intro g j hg
    refine kv ?_
    obtain⟨j,DG2⟩:=g
    simp only at hg ⊢
    obtain⟨hj,hNG2⟩:=hg
    have hNt:New w.heap.size (D++ (X++DG2)):=hND.app (hNX.app hNG2)
    by_cases hjt:j<had.length
    ·have c1:decide ((j:Int)< (had.length:Int))=true:=decide_eq_true (by omega)
     have ixD:=hrD.idx true j hjt
     have ldD:=ae6_ hrD hjt
     have rdj:=rdD (X++DG2) (by omega)
     obtain⟨ho1,ho2⟩:=ahC_ hK (xQ_ (z:=ob0) hjt)
     generalize had.getD j ob0=o at*
     have hol2:=aat_ ho1
     have hid:Dig.shaR (wl_ o.k o.t)=(idV o.k o.t).l:=by
      have e:idV o.k o.t=⟨Dig.shaR (qw_ o.k o.t),vX_ _⟩:=if_pos ho1
      rw[e]
      exact congrArg Dig.shaR (KC_ ho1)
     first|with_reducible refine ks [34] (And.intro @zA_ (And.intro @c1 (And.intro @lnD (And.intro @ixD (And.intro @rdj (@ldD)))))) ?_|refine kp (And.intro @zA_ (And.intro @c1 (And.intro @lnD (And.intro @ixD (And.intro @rdj (@ldD)))))) ?_
     refine Ow.callFV rfl Tryz.call55 (fun w' hw'=>abi_ o.k o.t w' (by omega)) ?_
     rw[hid]
     refine ko @zA_ ?_
     refine Ow.callFV rfl Tryz.call62 (fun w' hw'=>kn_ w' G S (idV o.k o.t) ⟨X,fun b o h=>hw'.has _ _ (by simp[zy_ h]),hA.P⟩ hA.P.ok (hG.new hw' hNt).C (hG.new hw' hNt).E) ?_
     rw[ho2]
     simp only
     refine ko @zA_ ?_
     refine Ow.alloc rfl rfl ZN_ fun b14 hb14 hw14=> ?_
     simp only[za_,List.nil_append,List.cons_append]
     refine Ow.permL (M:=(b14, .cells #[vi 0,vs []] 82 (0,0)):: (D++ (X++DG2))) (by classical exact List.perm_iff_count.2 fun a=>by simp only[List.count_append,List.count_cons,List.count_nil]<;>omega) ?_
     have n14: ∀c,c∈keys (D++ (X++DG2))→c<b14:=fun c hc=>zi_ hb14 hc
     have n14D:b14∉keys D:=fun hm=>by
      have:=n14 b14 (by rw[zj_];exact List.mem_append_left _ hm)
      omega
     have n14X:b14∉keys X:=fun hm=>by
      have:=n14 b14 (by rw[zj_,zj_];exact List.mem_append_right _ (List.mem_append_left _ hm))
      omega
     refine ko @zA_ ?_
     refine Cw.permL (M:=D++ (X++ ((b14, .cells #[vi o.k,vs o.t] 82 (0,0))::DG2))) (by classical exact List.perm_iff_count.2 fun a=>by simp only[List.count_append,List.count_cons,List.count_nil]<;>omega) ?_
     have nq:qI_ Tryz.prog .neq 82 (obV o.k o.t) (obV o.k o.t)=some (.bool false):=(aoU_ o o).trans (by rw[decide_eq_true rfl];rfl)
     have e0: (((0:Nat):Int) !=0)=false:=rfl
     have rdk:=rdD (X++ ((b14, .cells #[vi o.k,vs o.t] 82 (0,0))::DG2)) (by omega)
     have rd14:zz_ w (D++ (X++ ((b14, .cells #[vi o.k,vs o.t] 82 (0,0))::DG2))) b14=some (.cells #[vi o.k,vs o.t] 82 (0,0)):=ze_ (by rw[zG_ n14D,zG_ n14X];simp[Sx.look])
     refine Cw.regionS [b14,hb2] [0,1,2,4,5,6,3,7,8,9] [] (by kernel_rfl) (by kernel_rfl) (by kernel_rfl) ?_
     simp only[zl_, ↓zg_, ↓zc_, ↓zx_, ↓zw_,zd_]
     refine kq (And.intro @zA_ (And.intro @e0 (And.intro @rd14 (And.intro @ixD (And.intro @rdk (And.intro @ldD (@nq))))))) ?_
     first|with_reducible refine ks [] @zA_ ?_|refine kp @zA_ ?_
     exact Again.mk ⟨j+1,(b14, .cells #[vi o.k,vs o.t] 82 (0,0))::DG2⟩ (by show had.length - (j+1)<had.length - j;omega) ⟨hjt,hw14,hNG2⟩ rfl rfl
    ·obtain rfl:j=had.length:=by omega
     have c1:decide ((had.length:Int)< (had.length:Int))=false:=decide_eq_false (by omega)
     first|with_reducible refine ks [] (And.intro @zA_ (And.intro @c1 (@lnD))) ?_|refine kp (And.intro @zA_ (And.intro @c1 (@lnD))) ?_
     refine Ow.callFV rfl Tryz.call48 (fun w' hw'=>kP_ m w' (hG.new hw' hNt)) ?_
     refine ko @zA_ ?_
     first|with_reducible refine ks [] @zA_ ?_|refine kp @zA_ ?_
     refine⟨_,(ke @zA_),hNt, ?_⟩
     rfl
end Go.Proofs
end
section
open Go Go.Proofs Go.Sx Go.StP Go.Flo
namespace Go.Proofs
set_option maxRecDepth 10000
set_option maxHeartbeats 1000000
set_option linter.unusedSimpArgs false
set_option linter.defProp false
end Go.Proofs
end
section
open Go Go.Proofs Go.Sx Go.StP Go.Flo
namespace Go.Proofs
set_option maxRecDepth 10000
set_option maxHeartbeats 1000000
set_option linter.unusedSimpArgs false
set_option linter.defProp false
end Go.Proofs
end
namespace Go.Sx
open Go Go.ChangeShapes Go.WideShapes Go.RowKit
theorem Hp.same0 {W W':World} (h:Hp W [] W') {b:Nat} (hb:b<W.heap.size):W'.heap[b]? =W.heap[b]? :=h.old b hb (fun hm=>by cases hm)
theorem Hp.kept {W W':World} (h:Hp W [] W') (may:MemPlace→Prop):W.keptBut W' may:=by
 refine⟨h.os,h.output,fun i hi=> ?_⟩
 rw[h.same0 hi]
 cases ho:W.heap[i]? with
 |none=>rfl
 |some o=>
  cases o<;>first
   |exact⟨rfl,rfl,rfl,fun _ _=>rfl⟩
   |exact .inr ⟨rfl,rfl⟩
   |rfl
theorem Hp.sameAt {W W':World} (h:Hp W [] W') {p:MemPlace} (hp:p.block<W.heap.size):W.sameAt W' p:=by
 cases p with
 |cell b off=>
  have:=h.same0 (b:=b) hp
  simp only[World.sameAt,World.cell?,this]
 |map b=>exact h.same0 hp
theorem Hp.frozen {W W':World} (h:Hp W [] W') {a:Addr} (ha:a.block<W.heap.size):W'.frozen? a=W.frozen? a:=by
 simp only[World.frozen?,h.same0 ha]
section
variable {H:Type} {enc:TypeId×Value→H} {P:Program}
theorem Q0_ (hl:laidOutB P=true) {W W':World} {sp:Nat→Bool} (hp:Hp W [] W'): ∀ {ts:List TypeId} {vs:List Value} {ds:List (DataW H)} {ps:List MemPlace},
  (∀t∈ts,P.readableRec t=true∧t<P.types.size)→(∀p∈ps,p.block<W.heap.size)→(∀p∈ps,sp p.block=true)→
  DataW.TrodAll enc P W 0 (fun _=>true) true ts vs ds ps→DataW.TrodAll enc P W' 0 sp true ts vs ds ps
 | [],_,_,_,_,_,_,h=>by
  obtain⟨rfl,rfl,rfl⟩:=trodAll_nil h
  exact trodAll_mk0
 |t::ts,_,_,_,ht,hlt,hs,h=>by
  obtain⟨v,vs,d,ds,p,q,rfl,rfl,rfl,h1,h2⟩:=trodAll_cons h
  have hlt1: ∀x∈p,x.block<W.heap.size:=fun x hx=>hlt x (List.mem_append_left _ hx)
  exact trodAll_cons_mk (WideElems.Trod_stays hl (ht t List.mem_cons_self).1 (ht t List.mem_cons_self).2 h1 (fun x hx=>hp.sameAt (hlt1 x hx)) (fun x hx=>hs x (List.mem_append_left _ hx)))
   (Q0_ hl hp (fun u hu=>ht u (List.mem_cons_of_mem _ hu)) (fun x hx=>hlt x (List.mem_append_right _ hx)) (fun x hx=>hs x (List.mem_append_right _ hx)) h2)
theorem amg_ {f:Func} {s:ChangeSpec} {W W':World} {args:Array Value} {ds gs:List (DataW H)} {before:List MemPlace} {tb:TypeId} (hl:laidOutB P=true)
  (hW:DataW.Whole enc P f.params.toList s.vars false W args.toList ds gs before) (hv:s.vars= []) (hpar: ∀t∈f.params.toList,P.readableRec t=true∧t<P.types.size)
  (hr:f.resultTypes= #[tb]) (htb:P.underlying tb=some .bool) (hfn:s.fn H ds={results:= [.lit (.bool true)],args:=ds}) (hp:Hp W [] W'):
  s.post enc P f false true false false W args (.bool true) W':=by
 have hlt:=hW.lt
 have hW0:=hW
 obtain⟨p,q,hA,hV,rfl,hz,hn⟩:=hW
 rw[hv] at hV
 obtain⟨rfl,rfl⟩:=trodVars_none hV
 rw[List.append_nil] at hW0 hlt hz
 have hargs: ∀sp:Nat→Bool,(∀x∈p,sp x.block=true)→DataW.TrodAll enc P W' 0 sp true f.params.toList args.toList (s.fn H (ds++ [])).args p:=fun sp hs=>by
  rw[List.append_nil,hfn]
  exact Q0_ hl hp hpar hlt hs hA
 have hvars: ∀sp:Nat→Bool,DataW.TrodVars enc P W' sp s.vars (s.fn H (ds++ [])).vars []:=fun sp=>by
  rw[List.append_nil,hfn,hv];rfl
 have hres: ∀ (b:Nat) (sp:Nat→Bool) (hd:Bool),DataW.TrodAll enc P W' b sp hd f.resultTypes.toList ((Value.bool true).resultList f.resultTypes.size) (s.fn H (ds++ [])).results []:=fun b sp hd=>by
  rw[List.append_nil,hfn,hr]
  exact trodAll_cons_mk (shut_bool htb true) trodAll_mk0
 have hold: ∀x∈p,(fun b=>decide (b<W.heap.size)) x.block=true:=fun x hx=>by simpa using hlt x hx
 refine⟨ds,[],p,[],p,[],hW0,hres _ _ _,hargs _ hold,hvars _,hp.kept _,fun _=> ?_⟩
 refine⟨ok_one hr rfl (okWide_bool_mk htb true),_,_,([]++p)++ [],⟨[]++p,[],trodAll_append (hargs _ (fun _ _=>rfl)) (hres _ _ _),hvars _,rfl, ?_,fun h=>by cases h⟩, ?_⟩
 ·intro b off hx
  have hx':MemPlace.cell b off∈p:=by simpa using hx
  rw[hp.frozen (hlt _ hx')]
  exact hz b off hx'
 ·intro x hx _
  simpa using hx
end
section
variable {P:Program} {W:World} {name:String} {k:IntKind} {zs:List Int}
theorem v6_ {t e:TypeId} {g n:Nat} (hg:P.globalNamed name=some g) (hty: (P.globals[g]?).map (·.type)=some t) (ht:P.underlying t=some (.array n e)) (he:P.underlying e=some (.int k)) (hce:P.cellsOf e=1) (hct:P.cellsOf t=n):
  ∀ {laid:List (String×DataW Unit)} {ps:List MemPlace},DataW.LaidVars P W laid ps→(name,Lib.tabData k zs)∈laid→Lib.TabIs P W name k zs
 | [],_,_,hm=>by cases hm
 | (n',d')::rest,ps,h,hm=>by
  obtain⟨g',t',cs,fuel,p,q,hg',ht',hvar,hd,hr,-⟩:=h
  rcases List.mem_cons.1 hm with hm|hm
  ·cases hm
   obtain rfl:=Option.some.inj (hg.symm.trans hg')
   obtain rfl:=Option.some.inj (hty.symm.trans ht')
   unfold Lib.TabIs
   rw[hvar,←Lib.cells_of_tab ht he hce hct hd]
  ·exact v6_ hg hty ht he hce hct hr hm
theorem ZR_ {g:Nat} (hg:P.globalNamed name=some g) (h:Lib.TabIs P W name k zs): ∃e f,W.heap[g]? =some (.cells (zs.map fun z=>Value.int k z).toArray e f):=by
 unfold Lib.TabIs at h
 simp only[World.var?,hg,Option.bind_some] at h
 split at h
 ·rename_i cs e f hb
  cases h
  exact⟨e,f,hb⟩
 ·cases h
end
section
variable {H:Type} {enc:TypeId×Value→H} {P:Program}
end
end Go.Sx
namespace Go.Sx
open Go
section
variable {P:Program}
theorem an2_ {fits:TypeId→Bool} {d:Nat} {e:TypeId} {count off n:Nat} (h:rowAt P fits d e count off n=true):off≤count*P.cellsOf e:=by
 cases d with
 |zero=>simp[rowAt] at h
 |succ d=>
  unfold rowAt at h
  simp only at h
  split at h
  ·cases h
  ·rename_i hs
   have hs':0<P.cellsOf e:=Nat.pos_of_ne_zero hs
   have hd:=Nat.div_add_mod off (P.cellsOf e)
   have hm:=Nat.mod_lt off hs'
   rw[Bool.or_eq_true] at h
   rcases h with h|h
   ·simp only[Bool.and_eq_true,beq_iff_eq,decide_eq_true_eq] at h
    have:off / P.cellsOf e*P.cellsOf e≤count*P.cellsOf e:=Nat.mul_le_mul_right _ (by omega)
    rw[Nat.mul_comm (P.cellsOf e)] at hd
    omega
   ·simp only[Bool.and_eq_true,decide_eq_true_eq] at h
    have: (off / P.cellsOf e+1)*P.cellsOf e≤count*P.cellsOf e:=Nat.mul_le_mul_right _ (by omega)
    rw[Nat.add_mul,Nat.one_mul] at this
    rw[Nat.mul_comm (P.cellsOf e)] at hd
    omega
theorem adC_ {e:TypeId} {count off:Nat}: ∀ {d:Nat} {u:TypeId} {n:Nat},liesAt P d e count off u n=true→off≤count*P.cellsOf e
 |0,u,n,h=>by simp[liesAt] at h
 |d+1,u,n,h=>by
  unfold liesAt at h
  rw[Bool.or_eq_true] at h
  rcases h with h|h
  ·exact an2_ h
  ·split at h
   ·exact adC_ h
   ·cases h
theorem asR_ {W:World} {r:Reach} {base:Nat} {a:Addr} {e:TypeId} {n:Nat} (h:W.has P r base a e n):a.spot=none∧ ∃arr E fz,W.heap[a.block]? =some (.cells arr E fz)∧a.off≤arr.size:=by
 obtain⟨-,hs,row,cells,hsh,hl⟩:=h
 refine⟨hs, ?_⟩
 unfold World.shape? at hsh
 split at hsh
 ·rename_i c el fz hh
  cases hsh
  refine⟨c,_,fz,hh,Nat.le_trans (adC_ hl) ?_⟩
  exact Nat.div_mul_le_self _ _
 ·cases hsh
theorem alK_ {W:World} {r:Reach} {base:Nat} {t e:TypeId} {v:Value} (ht:P.underlying t=some (.slice e)) (h:Value.okWide P W r base t v):
  v= .slice none 0 0∨ ∃b off len cap arr E fz,v=vsl b off len cap∧len≤cap∧W.heap[b]? =some (.cells arr E fz)∧off≤arr.size:=by
 obtain⟨a,len,cap,rfl⟩:=Go.WideShapes.okWide_slice ht h
 unfold Value.okWide at h
 rw[ht] at h
 unfold Cell.okWide at h
 rw[ht] at h
 simp only at h
 unfold Cell.ok at h
 rw[ht] at h
 cases a with
 |none=>
  left
  simp only at h
  split at h
  all_goals first| (cases h;done) |simp_all
 |some a=>
  right
  simp only at h
  obtain⟨hle,-,hh⟩:=h
  obtain⟨hs,arr,E,fz,hb,ho⟩:=asR_ hh
  obtain⟨b,off,sp⟩:=a
  simp only at hs
  subst hs
  exact⟨b,off,len,cap,arr,E,fz,rfl,hle,hb,ho⟩
theorem aqa_ {α:Type} {enc:α→List Value} {z:α} {m:Nat} {W:World} {base b off c:Nat} {l:List α} {arr:Array Value} {E:TypeId} {fz:Nat×Nat} (hm0:0<m) (hm: ∀x,(enc x).length=m)
  (hcells: ∀i,i<l.length→W.cells? base ((Addr.mk b off none).add (i*m)) m=some (enc (l.getD i z))) (hheap:W.heap[b]? =some (.cells arr E fz)) (hoff:off≤arr.size) (hc:l.length≤c):SlV m enc z W (vsl b off l.length c) l:=by
 have get: ∀k,k<l.length→ ∀j,j<m→arr[off+k*m+j]? =(enc (l.getD k z))[j]? :=by
  intro k hk j hj
  obtain⟨-,hl,hg⟩:=World.cells?_some (hcells k hk)
  have:=hg j (by omega)
  rw[jK_,jK_] at this
  simp only[World.cell?,hheap,Option.isSome_none,Bool.false_eq_true,if_false] at this
  exact this
 refine SlV.sl hheap get hc ?_
 by_cases h0:l.length=0
 ·rw[h0];omega
 ·have h1:=get (l.length - 1) (by omega) (m - 1) (by omega)
  rw[List.getElem?_eq_getElem (by rw[hm];omega)] at h1
  have h2:=(Array.getElem?_eq_some_iff.1 h1).1
  have h3: (l.length - 1)*m+m=l.length*m:=by
   rw[←Nat.succ_mul];congr 1;omega
  omega
end
end Go.Sx
section
open Go Go.Proofs Go.Sx Go.StP Go.Flo
open Go.ChangeShapes Go.WideShapes Go.ChangeAt Go.RowKit Go.ChangeMaps
namespace Go.Proofs
set_option maxRecDepth 10000
set_option maxHeartbeats 1000000
set_option linter.unusedSimpArgs false
theorem aps_ {H:Type} {tell:TypeId×Value→H} {α:Type} {enc:α→List Value} {z:α} {m:Nat} {W:World} {r:Reach} {base b0:Nat} {sp:Nat→Bool} {held:Bool} {fuel:Nat} {t e:TypeId} {v:Value} {x:DataW H×List MemPlace} {R:α→DataW H→Prop}
  (ht: (Tryz.prog).underlying t=some (.slice e)) (he: (Tryz.prog).cellsOf e=m) (hm0:0<m) (hm: ∀x,(enc x).length=m) (hval:Value.okWide Tryz.prog W r b0 t v)
  (hdec: ∀n cs y,DataW.trod tell Tryz.prog W base sp held n e cs=some y→ ∃a,cs=enc a∧R a y.1) (hd:DataW.trod tell Tryz.prog W base sp held fuel t [v]=some x):
  ∃l,SlV m enc z W v l∧(l= []∨ ∃es sp',x.1= .slice es sp'∧ ∀i,i<l.length→ ∃d,d∈es∧R (l.getD i z) d):=by
 rcases DataW.trod_slice ht hd with⟨hcs,-⟩ | ⟨a,len,cap,elems,rest,n,-,hcs,hx,-,hl,-,hlen,hel,-,-⟩
 ·simp only[List.cons.injEq,and_true] at hcs
  subst hcs
  exact⟨[],SlV.nil W, .inl rfl⟩
 ·simp only[List.cons.injEq,and_true] at hcs
  subst hcs
  rcases alK_ ht hval with h0| ⟨b,off,len',cap',arr,E,fz,h1,-,hb,ho⟩
  ·cases h0
  ·unfold vsl at h1
   cases h1
   rw[he] at hel
   have hex: ∀i,i<len→ ∃q,W.cells? base ((Addr.mk b off none).add (i*m)) m=some (enc q)∧ ∃d,d∈elems.map (·.1)∧R q d:=by
    intro i hi
    have h2:=hel i hi
    rw[List.getElem?_eq_getElem (by omega)] at h2
    cases hc:W.cells? base ((Addr.mk b off none).add (i*m)) m with
    |none=>rw[hc] at h2;cases h2
    |some cs=>
     rw[hc] at h2
     obtain⟨q,rfl,hR⟩:=hdec _ _ _ h2
     exact⟨q,rfl,_,List.mem_map_of_mem (List.getElem_mem (by omega)),hR⟩
   obtain⟨f,hf⟩: ∃f:Nat→α,∀i,i<len→W.cells? base ((Addr.mk b off none).add (i*m)) m=some (enc (f i))∧ ∃d,d∈elems.map (·.1)∧R (f i) d:=by
    classical
    refine⟨fun i=>if h:i<len then Classical.choose (hex i h) else z,fun i hi=> ?_⟩
    simp only[dif_pos hi]
    exact Classical.choose_spec (hex i hi)
   have hll: ((List.range len).map f).length=len:=by simp
   have hgd: ∀i,i<len→((List.range len).map f).getD i z=f i:=fun i hi=>by
    rw[List.getD_eq_getElem?_getD,List.getElem?_map,List.getElem?_range hi];rfl
   refine⟨(List.range len).map f, ?_, .inr ⟨_,_,by rw[hx],fun i hi=> ?_⟩⟩
   ·have:=aqa_ (W:=W) (base:=base) (b:=b) (off:=off) (c:=cap) (l:=(List.range len).map f) (z:=z) hm0 hm (fun i hi=>by
     rw[hll] at hi
     rw[(hf i hi).1,hgd i hi]) hb ho (by rw[hll];exact hl)
    rw[hll] at this
    exact this
   ·rw[hll] at hi
    rw[hgd i hi]
    exact(hf i hi).2
theorem arL_ {n:Int} (h: (Lit.int .u16 n).wf=true): ∃x:UInt16,Value.int .u16 n=v16 x:=by
 simp only[Lit.wf,Bool.and_eq_true,decide_eq_true_eq] at h
 have h1: (0:Int)≤n:=h.1
 have h2:n≤65535:=h.2
 refine⟨UInt16.ofNat n.toNat, ?_⟩
 unfold v16
 rw[UInt16.toNat_ofNat',Nat.mod_eq_of_lt (by omega),Int.toNat_of_nonneg h1]
theorem atD_ {H:Type} {tell:TypeId×Value→H} {W:World} {base:Nat} {sp:Nat→Bool} {held:Bool} {n:Nat} {cs:List Value} {y:DataW H×List MemPlace}
  (h:DataW.trod tell Tryz.prog W base sp held n 24 cs=some y): ∃p:PkL,cs= [p.v]∧PkS W p.v p.l:=by
 have h1: (Tryz.prog).cellsOf 119=1:=by kernel_rfl
 rcases DataW.trod_slice Tryz.underlying24 h with⟨rfl,-⟩ | ⟨a,len,cap,elems,rest,m,-,rfl,-,-,hl,-,hlen,hel,-,-⟩
 ·exact⟨pk0,rfl, .inl (SlV.nil W)⟩
 ·rw[h1] at hel
  by_cases h0:len=0
  ·subst h0
   exact⟨⟨.slice (some a) 0 cap,[],rfl,rfl⟩,rfl, .inr ⟨rfl,a,cap,rfl⟩⟩
  ·have hex: ∀i,i<len→ ∃q:UInt16,W.cells? base (a.add (i*1)) 1=some (u16C q):=by
    intro i hi
    have h2:=hel i hi
    rw[List.getElem?_eq_getElem (by omega)] at h2
    cases hc:W.cells? base (a.add (i*1)) 1 with
    |none=>rw[hc] at h2;cases h2
    |some cs=>
     rw[hc] at h2
     obtain⟨z,hz,-,hw⟩:=DataW.trod_int Tryz.underlying119 h2
     obtain⟨q,hq⟩:=arL_ hw
     exact⟨q,by rw[hz,hq];rfl⟩
   obtain⟨f,hf⟩: ∃f:Nat→UInt16,∀i,i<len→W.cells? base (a.add (i*1)) 1=some (u16C (f i)):=by
    classical
    refine⟨fun i=>if h:i<len then Classical.choose (hex i h) else 0,fun i hi=> ?_⟩
    simp only[dif_pos hi]
    exact Classical.choose_spec (hex i hi)
   obtain⟨-,-,hg⟩:=World.cells?_some (hf 0 (by omega))
   have hg0:=hg 0 (by omega)
   obtain⟨blk,off,spt⟩:=a
   have hcell:W.cell? ((Addr.mk blk off spt).add (0*1) |>.add 0)=some (v16 (f 0)):=hg0
   unfold World.cell? at hcell
   have hb: ((Addr.mk blk off spt).add (0*1) |>.add 0).block=blk:=rfl
   rw[hb] at hcell
   split at hcell
   ·rename_i arr E fz hh
    split at hcell
    ·cases hcell
    ·rename_i hsp
     have hspt:spt=none:=by
      cases spt with
      |none=>rfl
      |some q=>exact absurd rfl hsp
     subst hspt
     have hoff:off<arr.size:=(Array.getElem?_eq_some_iff.1 hcell).1
     have hll: ((List.range len).map f).length=len:=by simp
     have hgd: ∀i,i<len→((List.range len).map f).getD i 0=f i:=fun i hi=>by
      rw[List.getD_eq_getElem?_getD,List.getElem?_map,List.getElem?_range hi];rfl
     have hs:=aqa_ (W:=W) (base:=base) (b:=blk) (off:=off) (c:=cap) (l:=(List.range len).map f) (enc:=u16C) (z:=0) (by decide) aoR_ (fun i hi=>by
      rw[hll] at hi
      rw[hf i hi,hgd i hi]) hh (by omega) (by rw[hll];exact hl)
     rw[hll] at hs
     exact⟨⟨.slice (some ⟨blk,off,none⟩) len cap,(List.range len).map f,rfl,rfl⟩,rfl, .inl hs⟩
   ·cases hcell
end Go.Proofs
end
section
open Go Go.Proofs Go.Sx Go.StP Go.Flo
namespace Go.Proofs
set_option maxRecDepth 10000
set_option maxHeartbeats 1000000
set_option linter.unusedSimpArgs false
def aan_:DataW Unit:= .agg [.lit (.string zf_), .lit (.string Qc_), .lit (.string refD)]
theorem VN_ {W:World} {base:Nat} {sp:Nat→Bool} {held:Bool} {fuel:Nat} {cs:List Value} {p:List MemPlace}
  (hd:DataW.trod (fun _=>()) Tryz.prog W base sp held fuel 131 cs=some (aan_,p)):cs= [vs zf_,vs Qc_,vs refD]:=by
 obtain⟨xs,m,-,hx,hlen,hxl,hel⟩:=DataW.trod_array Tryz.underlying131 hd
 have hc: (Tryz.prog).cellsOf 131=3:=by kernel_rfl
 have h1: (Tryz.prog).cellsOf 9=1:=by kernel_rfl
 rw[hc] at hlen
 rw[h1] at hel
 have hm:xs.map (·.1)= [.lit (.string zf_), .lit (.string Qc_), .lit (.string refD)]:=by
  have:=congrArg Prod.fst hx
  unfold aan_ at this
  simp only[DataW.agg.injEq] at this
  exact this.symm
 have h0:=hel 0 (by omega)
 have h2:=hel 1 (by omega)
 have h3:=hel 2 (by omega)
 rw[List.getElem?_eq_getElem (by omega)] at h0 h2 h3
 obtain⟨s0,hs0,hy0,-⟩:=DataW.trod_string Tryz.underlying9 h0
 obtain⟨s1,hs1,hy1,-⟩:=DataW.trod_string Tryz.underlying9 h2
 obtain⟨s2,hs2,hy2,-⟩:=DataW.trod_string Tryz.underlying9 h3
 match xs,hxl,hm,hy0,hy1,hy2 with
 | [x0,x1,x2],_,hm,hy0,hy1,hy2=>
  simp only[List.map_cons,List.map_nil,List.cons.injEq,and_true] at hm
  simp only[List.getElem_cons_zero,List.getElem_cons_succ] at hy0 hy1 hy2
  obtain⟨m0,m1,m2⟩:=hm
  rw[hy0] at m0
  rw[hy1] at m1
  rw[hy2] at m2
  simp only[DataW.lit.injEq,Lit.string.injEq] at m0 m1 m2
  match cs,hlen with
  | [c0,c1,c2],_=>
   simp only[Nat.zero_mul,List.drop_zero,List.take_succ_cons,List.take_zero,List.cons.injEq,and_true,Nat.one_mul,List.drop_succ_cons,Nat.reduceMul] at hs0 hs1 hs2
   rw[hs0,hs1,hs2,←m0,←m1,←m2]
   rfl
theorem Qv_ {W:World}: ∀ {laid:List (String×DataW Unit)} {ps:List MemPlace},DataW.LaidVars Tryz.prog W laid ps→("sediment/disk.order",aan_)∈laid→ame_ W
 | [],_,_,hm=>by cases hm
 | (n',d')::rest,ps,h,hm=>by
  obtain⟨g',t',cs,fuel,p,q,hg',ht',hvar,hd,hr,-⟩:=h
  rcases List.mem_cons.1 hm with hm|hm
  ·cases hm
   have hg: (Tryz.prog).globalNamed "sediment/disk.order" =some 0:=by kernel_rfl
   have hty: ((Tryz.prog).globals[(0:Nat)]?).map (·.type)=some 131:=by kernel_rfl
   obtain rfl:=Option.some.inj (hg.symm.trans hg')
   obtain rfl:=Option.some.inj (hty.symm.trans ht')
   have hcs:=VN_ hd
   simp only[World.var?,hg,Option.bind_some] at hvar
   split at hvar
   ·rename_i cs' e f hb
    cases hvar
    refine⟨e,f, ?_⟩
    rw[hb]
    congr 2
    apply Array.ext'
    rw[hcs]
   ·cases hvar
  ·exact Qv_ hr hm
end Go.Proofs
end
section
open Go Go.Proofs Go.Sx Go.StP Go.Flo
open Go.ChangeShapes Go.WideShapes Go.ChangeAt Go.RowKit Go.ChangeMaps
namespace Go.Proofs
set_option maxRecDepth 10000
set_option maxHeartbeats 1000000
set_option linter.unusedSimpArgs false
end Go.Proofs
end
section
open Go Go.Proofs Go.Sx Go.StP Go.ChangeShapes
namespace Go.Proofs
set_option maxRecDepth 10000
set_option maxHeartbeats 1000000
set_option linter.unusedSimpArgs false
end Go.Proofs
end
section
open Go Go.Proofs Go.Sx Go.StP Go.Flo
open Go.ChangeShapes Go.WideShapes Go.ChangeAt Go.RowKit Go.ChangeMaps
namespace Go.Proofs
set_option maxRecDepth 10000
set_option maxHeartbeats 1000000
set_option linter.unusedSimpArgs false
theorem atv_ {H:Type} {tell:TypeId×Value→H} {W:World} {base:Nat} {sp:Nat→Bool} {held:Bool} {n:Nat} {cs:List Value} {y:DataW H×List MemPlace}
  (h:DataW.trod tell Tryz.prog W base sp held n 82 cs=some y): ∃o:ObL,cs=obC o:=by
 have hc: (Tryz.prog).cellsOf 82=2:=by kernel_rfl
 have hc3: (Tryz.prog).cellsOf 3=1:=by kernel_rfl
 have hcT: (Tryz.prog).cellsOf 9=1:=by kernel_rfl
 obtain⟨y0,y1,n',-,hlen,h0,h1⟩:=ChangeShapes.trod_struct2 Tryz.underlying82 h
 simp only at h0 h1 hlen
 rw[hc3,List.drop_zero] at h0
 rw[hcT] at h1
 rw[hc] at hlen
 obtain⟨z,hz,-,-⟩:=DataW.trod_int Tryz.underlying3 h0
 obtain⟨s,hs2,-,-⟩:=DataW.trod_string Tryz.underlying9 h1
 have hd:cs=cs.take 1++ (cs.drop 1).take 1:=by
  rw[show(cs.drop 1).take 1=cs.drop 1 from List.take_of_length_le (by rw[List.length_drop];omega),List.take_append_drop]
 rw[hz,hs2] at hd
 exact⟨⟨z,s.data.toList⟩,by rw[hd];rfl⟩
theorem ate_ {H:Type} {tell:TypeId×Value→H} {W:World} {base:Nat} {sp:Nat→Bool} {held:Bool} (n:Nat) (cs:List Value) (y:DataW H×List MemPlace)
  (h:DataW.trod tell Tryz.prog W base sp held n 97 cs=some y): ∃a:A5L,cs=a5C a∧A5Ok W a:=by
 obtain⟨xs,m,-,-,hlen,hxl,hel⟩:=DataW.trod_struct Tryz.underlying97 h
 have hc: (Tryz.prog).cellsOf 97=5:=by kernel_rfl
 have hci: (Tryz.prog).cellsOf 3=1:=by kernel_rfl
 have hco: (Tryz.prog).cellsOf 82=2:=by kernel_rfl
 have hcp: (Tryz.prog).cellsOf 24=1:=by kernel_rfl
 rw[hc] at hlen
 have hxl:xs.length=4:=hxl
 have h0:DataW.trod tell Tryz.prog W base sp held m 3 ((cs.drop 0).take ((Tryz.prog).cellsOf 3))=xs[0]? :=hel 0 _ rfl
 rw[hci,List.getElem?_eq_getElem (by omega)] at h0
 have h1:DataW.trod tell Tryz.prog W base sp held m 3 ((cs.drop 1).take ((Tryz.prog).cellsOf 3))=xs[1]? :=hel 1 _ rfl
 rw[hci,List.getElem?_eq_getElem (by omega)] at h1
 have h2:DataW.trod tell Tryz.prog W base sp held m 82 ((cs.drop 2).take ((Tryz.prog).cellsOf 82))=xs[2]? :=hel 2 _ rfl
 rw[hco,List.getElem?_eq_getElem (by omega)] at h2
 have h3:DataW.trod tell Tryz.prog W base sp held m 24 ((cs.drop 4).take ((Tryz.prog).cellsOf 24))=xs[3]? :=hel 3 _ rfl
 rw[hcp,List.getElem?_eq_getElem (by omega)] at h3
 obtain⟨k,hk,-,-⟩:=DataW.trod_int Tryz.underlying3 h0
 obtain⟨i,hi,-,hiw⟩:=DataW.trod_int Tryz.underlying3 h1
 obtain⟨q,hq⟩:=atv_ h2
 obtain⟨p,hp,hpk⟩:=atD_ h3
 refine⟨⟨k,i,q.k,q.t,p⟩, ?_,hpk, ?_⟩
 ·have hd5:cs=(cs.drop 0).take 1++ ((cs.drop 1).take 1++ ((cs.drop 2).take 2++ (cs.drop 4).take 1)):=by
   match cs,hlen with
   | [c0,c1,c2,c3,c4],_=>rfl
  rw[hd5,hk,hi,hq,hp]
  rfl
 ·simp only[Lit.wf,Bool.and_eq_true,decide_eq_true_eq] at hiw
  have g1: (-9223372036854775808:Int)≤i:=by simpa [IntKind.min,IntKind.bits,IntKind.signed] using hiw.1
  have g2:i≤9223372036854775807:=by simpa [IntKind.max,IntKind.bits,IntKind.signed] using hiw.2
  exact⟨g1,by show i<9223372036854775808;omega⟩
theorem afe_ {H:Type} {enc:TypeId×Value→H} {W:World} {r:Reach} {b0 base:Nat} {sp:Nat→Bool} {held:Bool} {v:Value} {d:DataW H} {p:List MemPlace}
  (hval:Value.okWide Tryz.prog W r b0 93 v) (hd:DataW.Trod enc Tryz.prog W base sp held 93 v d p):
  ∃l,A5Sl W v l∧ ∀a,a∈l→A5Ok W a:=by
 obtain⟨a0,len,cap,rfl⟩:=WideShapes.okWide_slice Tryz.underlying93 hval
 obtain⟨fu,hf⟩:=hd
 obtain⟨l,h1,h2⟩:=aps_ (z:=a50) (R:=fun a _=>A5Ok W a) Tryz.underlying93 (by kernel_rfl) (by decide) JP_ hval (fun n cs y h=>ate_ n cs y h) hf
 refine⟨l,h1,fun a ha=> ?_⟩
 rcases h2 with rfl| ⟨es,sp',-,h3⟩
 ·cases ha
 ·obtain⟨i,hi,rfl⟩:=List.getElem_of_mem ha
  obtain⟨-,-,h4⟩:=h3 i hi
  rw[List.getD_eq_getElem?_getD,List.getElem?_eq_getElem hi] at h4
  exact h4
end Go.Proofs
end
namespace Go.Sx
open Go
theorem anx_ {P:Program} {f:FuncId} {fn:Func} {s:ChangeSpec} {c:OpenClaim}
  (h1: (c.wf (OpenSpec.ofChange s))=true)
  (h2: (laidOutB P)=true)
  (h3: (mapsRowed P)=true)
  (h4: (fn.params.all (P.readableRec ·))=true)
  (h5: (namedTie P c.named s.vars)=true)
  (h6: ((c.stops== []))=true)
  (h7: ((P.stops== []))=true)
  (h8: ((c.knobs== []))=true)
  (h9: ((P.stopKnobs== []))=true)
  (h10: ((c.inPlace==P.inPlace f))=true)
  (h11: ((c.unfollowed==P.unfollowed f))=true)
  (h12: ((c.recurses==P.recurses f))=true)
  (h13: ((c.named==P.varsNamed f))=true)
  (h14: ((c.maps==(fn.params.toList++s.plain.varTypes P).any (P.mapsRec ·)))=true)
  (h15: ((c.ifaces==(fn.params.toList++s.plain.varTypes P).any (P.ifacesRec ·)))=true)
  (h16: ((c.mapsOut==P.mapsAmong fn.resultTypes.toList))=true)
  (h17: ((c.loops==(fn.params.toList++s.plain.varTypes P).any (P.loopsFrom ·)))=true)
  (h18: ((c.wideKeys==(fn.params.toList++s.plain.varTypes P++fn.resultTypes.toList).any (P.wideKeysFrom ·)))=true)
  (h19: (s.vars.all (P.varReadable ·))=true)
  (h20: (fn.resultTypes.all (fun t=>P.readableRec t&&decide (t<P.types.size)))=true)
  (h21: ((c.ifacesOut==fn.resultTypes.toList.any (P.ifacesRec ·)))=true)
  (h22: ((c.loopsOut==fn.resultTypes.toList.any (P.loopsFrom ·)))=true)
  (h23: ((c.plainKeys==P.plainKeys))=true)
  (h24: (c.shortTexts.isNone)=true)
  (h25: (P.stopsHeard)=true)
  (h26: (P.mayEnter)=true)
  (h27: ((c.lifted==P.liftsFinal))=true)
  (h28: ((P.make==some c.make))=true)
  (h29: ((c.kinds==(if c.domain.isEmpty then [] else fn.params.toList.map fun t=>match P.underlying t with|some (.int k)=>some k|_=>none)))=true)
  (h30: ((c.pinned==c.pinnedBy))=true)
  (h31: ((c.veiled==(fn.params.toList++s.plain.varTypes P++fn.resultTypes.toList).any (P.veiledRec ·)))=true)
  (h32: (c.veiledFits P fn.params.toList (fn.params.toList++s.plain.varTypes P++fn.resultTypes.toList))=true):
  joinedFacts P f fn s c=true:=by
 unfold joinedFacts
 exact(Bool.and_eq_true_iff.2 ⟨(Bool.and_eq_true_iff.2 ⟨(Bool.and_eq_true_iff.2 ⟨(Bool.and_eq_true_iff.2 ⟨(Bool.and_eq_true_iff.2 ⟨(Bool.and_eq_true_iff.2 ⟨(Bool.and_eq_true_iff.2 ⟨(Bool.and_eq_true_iff.2 ⟨(Bool.and_eq_true_iff.2 ⟨(Bool.and_eq_true_iff.2 ⟨(Bool.and_eq_true_iff.2 ⟨(Bool.and_eq_true_iff.2 ⟨(Bool.and_eq_true_iff.2 ⟨(Bool.and_eq_true_iff.2 ⟨(Bool.and_eq_true_iff.2 ⟨(Bool.and_eq_true_iff.2 ⟨(Bool.and_eq_true_iff.2 ⟨(Bool.and_eq_true_iff.2 ⟨(Bool.and_eq_true_iff.2 ⟨(Bool.and_eq_true_iff.2 ⟨(Bool.and_eq_true_iff.2 ⟨(Bool.and_eq_true_iff.2 ⟨(Bool.and_eq_true_iff.2 ⟨(Bool.and_eq_true_iff.2 ⟨(Bool.and_eq_true_iff.2 ⟨(Bool.and_eq_true_iff.2 ⟨(Bool.and_eq_true_iff.2 ⟨(Bool.and_eq_true_iff.2 ⟨(Bool.and_eq_true_iff.2 ⟨(Bool.and_eq_true_iff.2 ⟨(Bool.and_eq_true_iff.2 ⟨h1,h2⟩),h3⟩),h4⟩),h5⟩),h6⟩),h7⟩),h8⟩),h9⟩),h10⟩),h11⟩),h12⟩),h13⟩),h14⟩),h15⟩),h16⟩),h17⟩),h18⟩),h19⟩),h20⟩),h21⟩),h22⟩),h23⟩),h24⟩),h25⟩),h26⟩),h27⟩),h28⟩),h29⟩),h30⟩),h31⟩),h32⟩)
end Go.Sx
