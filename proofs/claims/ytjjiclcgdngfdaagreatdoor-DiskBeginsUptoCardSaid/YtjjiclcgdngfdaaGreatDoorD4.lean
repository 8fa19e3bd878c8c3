/-
  Part 4 of the walk: contracts of the functions that the law reaches, and the calculus they stand on.
  No conditions.
-/
import Derived.Test.YtjjiclcgdngfdaaGreatDoorD3
import Derived.ProofKit
import Derived.OpenShut
import Derived.WideKeyArgs
import Derived.ChangeSame
import Derived.ChangeMaps5
import Derived.Lib.LaidTab
import Derived.SliceStrings
import Derived.DataReads
import Derived.Deep.Strs
section
open Go Go.Proofs Go.Sx Go.StP Go.Flo
namespace Go.Proofs
set_option maxRecDepth 10000
set_option maxHeartbeats 400000
set_option linter.unusedSimpArgs false
def magO:List UInt8:= [83,76,79,49]
def aa6_ (b:List UInt8):List ObL:=if(zB_ b).2=true∧4≤ (zB_ b).1.length∧(zB_ b).1.take 4=magO∧We_ ((zB_ b).1.drop 4)=true then [wa_ ((zB_ b).1.drop 4)] else []
def ahH_ (b:List UInt8):List ObL:=aa6_ b++VI_ b
def wW_ (l:List FiL):List ObL:=(l.map fun f=>ahH_ f.data).flatten
theorem abL_ (b:List UInt8): (VI_ b).length≤200:=by
 unfold VI_
 split
 ·exact Nat.le_trans (Qp_ _ _) (aab_ b).1
 ·exact Nat.zero_le _
theorem JN_ (b:List UInt8): (ahH_ b).length≤201:=by
 have:=abL_ b
 unfold ahH_ aa6_
 split
 ·simp;omega
 ·simp;omega
theorem K8_ (l:List FiL) {k:Nat} (h:k<l.length):wW_ (l.take (k+1))=wW_ (l.take k)++ahH_ (l.getD k fi0).data:=by
 unfold wW_
 rw[StP.take_snoc (z:=fi0) h,List.map_append,List.flatten_append]
 simp
theorem Kc_ (l:List FiL): ∀k,k≤l.length→(wW_ (l.take k)).length≤k*201
 |0,_=>by simp[wW_]
 |k+1,h=>by
  have h1:=Kc_ l k (by omega)
  have h2:=JN_ (l.getD k fi0).data
  rw[K8_ l (by omega),List.length_append]
  omega
theorem alX_ (s:List UInt8): (zB_ s).1.length≤s.length:=by
 unfold zB_
 split
 ·simp
 ·split
  ·simp only[List.length_take];omega
  ·simp
structure ObjC where
 os:List ObL
 v:Value
 D:za_
 DG:za_
structure ObjG where
 k:Nat
 v:Value
 D:za_
 DG:za_
set_option linter.defProp false
def jG_:=And.intro (And.intro (And.intro (@zc_) (@zd_)) (And.intro (@Sx.tup2_0) (@Sx.tup2_1))) (And.intro (And.intro (@q2_) (@qo_)) (And.intro (@qn_) (@qA_)))
theorem aaw_ (v:Value) (l:List FiL) (w:World) (hv:FiSl w v l) (hl:l.length≤1000) (hb:FiB l):
  Rets Tryz.prog 113 #[v] w (XS w [] (fun v D=> ∃D1 D2,D=D1++D2∧Gr D1 82 2 v (wW_ l).length ((wW_ l).map obC).flatten)):=by
 have ln:=hv.len
 obtain⟨rb,off,arr,E,fz,hr⟩:=hv.row
 refine Rets.enterX Tryz.func113 rfl (rs:= [.tmp 2]) Tryz.results113 Tryz.ntmps113 (fun p hp=>by cases hp) (by simp[keys]) ?_
 refine kf ?_
 first|with_reducible refine ks [] (And.intro @jG_ @ln) ?_|refine kp (And.intro @jG_ @ln) ?_
 refine Cw.permL (M:= []++ []) (List.Perm.refl _) ?_
 refine Cw.loopG (G:=ObjG) [9,10,11,12,16,17,18,19,20,21,15,22,23,5,6,24,25,26,27,28,29,30,31,32,33,34,36,37,38,35,39,40,7,8,41,42,43,44,45,3,46,47,48,49,50,51,52,53,13,14,4] (fun g=> [(3,g.v),(4,vi g.k)]) (fun g=>g.D++g.DG) (fun g=>g.k≤l.length∧New w.heap.size g.D∧New w.heap.size g.DG∧Gr g.D 82 2 g.v (wW_ (l.take g.k)).length ((wW_ (l.take g.k)).map obC).flatten) (fun g=>l.length - g.k) ⟨0, .slice none 0 0,[],[]⟩ rfl rfl ?_ ?_
 ·exact⟨Nat.zero_le _,trivial,trivial,Gr.nl⟩
 intro g j hg
 refine kv ?_
 obtain⟨k,v3,D,DG⟩:=g
 simp only at hg ⊢
 obtain⟨hk,hN,hNG,hG⟩:=hg
 have hol:=Kc_ l k hk
 by_cases hlt:k<l.length
 ·have d1:decide ((k:Int)< (l.length:Int))=true:=decide_eq_true (by omega)
  have hrl:=hr.lt (by omega)
  have ixl:=hr.idx true k hlt
  have ld2: ∀n,zm_ (some (false,n)) (some (.cells arr E fz)) (off+k*3+2)=some (vs (l.getD k fi0).data):=fun n=>Wi_ hr hlt n
  have hhas:=hr.has (show 0<l.length by omega)
  have rdl: ∀L,New w.heap.size L→zx_ w L rb=some (.cells arr E fz):=fun L hL=>by rw[z5_ (hL.not hrl)];exact hhas
  have hfb:=(hb (l.getD k fi0) (by rw[List.getD_eq_getElem?_getD,List.getElem?_eq_getElem hlt];exact List.getElem_mem _)).2
  have hnx:=K8_ l hlt
  have hfl:=JN_ (l.getD k fi0).data
  generalize (l.getD k fi0).data=b at*
  generalize hosE:wW_ (l.take k)=os at*
  have rd1:=rdl _ (hN.app hNG)
  have hun:=alX_ b
  have hfo:ahH_ b=aa6_ b++VI_ b:=rfl
  have hlo:aa6_ b=if(zB_ b).2=true∧4≤ (zB_ b).1.length∧(zB_ b).1.take 4=magO∧We_ ((zB_ b).1.drop 4)=true then [wa_ ((zB_ b).1.drop 4)] else []:=rfl
  have hsl:=abL_ b
  first|with_reducible refine ks [8,1000006] (And.intro @jG_ (And.intro @d1 (And.intro @ln (And.intro @ixl (And.intro @rd1 (@ld2)))))) ?_|refine kp (And.intro @jG_ (And.intro @d1 (And.intro @ln (And.intro @ixl (And.intro @rd1 (@ld2)))))) ?_
  refine Ow.callFV rfl Tryz.call105 (fun w' hw'=>Kq_ b w' hfb) ?_
  generalize zB_ b=u at*
  obtain⟨s,ok⟩:=u
  simp only at hun hlo ⊢
  refine ko @jG_ ?_
  refine Cw.cutO (G:=ObjC) [3,7,8,24,25,26,27,28,29,30,31,32,33,34,35,36,37,38,39,40,41,42,43,44,45] (fun g=> [(3,g.v)]) (fun g=>g.D++g.DG) (fun g=>New w.heap.size g.D∧New w.heap.size g.DG∧Gr g.D 82 2 g.v g.os.length (g.os.map obC).flatten∧g.os=os++aa6_ b) ?_ ?_
  ·cases ok with
   |false=>
    rw[if_neg (by simp)] at hlo
    first|with_reducible refine ks [] @jG_ ?_|refine kp @jG_ ?_
    exact CutO.mk ⟨os,v3,D,DG⟩ ⟨hN,hNG,hG,by rw[hlo,List.append_nil]⟩ rfl rfl
   |true=>
    by_cases h4:4≤s.length
    ·have d4:decide ((4:Int)≤ (s.length:Int))=true:=decide_eq_true (by omega)
     have d4':decide ((0:Int)≤4∧(4:Int)≤ (s.length:Int))=true:=decide_eq_true (by omega)
     have d4'':decide ((4:Int)≤ (s.length:Int)∧(s.length:Int)≤ (s.length:Int))=true:=decide_eq_true (by omega)
     by_cases hm:s.take 4=magO
     ·have d5: (s.take 4== [83,76,79,49])=true:=beq_iff_eq.2 hm
      first|with_reducible refine ks [8] (And.intro @jG_ (And.intro @d4 (And.intro @d4' (@d5)))) ?_|refine kp (And.intro @jG_ (And.intro @d4 (And.intro @d4' (@d5)))) ?_
      refine Ow.callFV rfl Tryz.call106 (fun w' hw'=>Vk_ (s.drop 4) w' (by rw[List.length_drop];omega)) ?_
      have hrd1: (if lfOk (s.drop 4) then lfK (s.drop 4) else 0)=(wa_ (s.drop 4)).k:=by rw[Jq_]
      have hrd2: (if lfOk (s.drop 4) then(lfT ((s.drop 4).drop 1)).1 else [])=(wa_ (s.drop 4)).t:=by rw[Jq_]
      have hfl2:=(aop_ (s.drop 4)).1
      rw[hrd1,hrd2,←hfl2]
      refine ko @jG_ ?_
      refine Ow.alloc rfl rfl zrOb fun b7 hb7 hw7=> ?_
      simp only[zf_,List.nil_append,List.cons_append]
      refine Ow.permL (M:=(b7, .cells #[vi 0,vs []] 82 (0,0)):: (D++DG)) (by classical exact List.perm_iff_count.2 fun a=>by simp only[List.count_append,List.count_cons,List.count_nil]<;>omega) ?_
      refine ko @jG_ ?_
      generalize wa_ (s.drop 4)=o at*
      obtain⟨ok,ot⟩:=o
      cases hfr:We_ (s.drop 4) with
      |false=>
       rw[if_neg (fun h=>by rw[hfr] at h;cases h.2.2.2)] at hlo
       refine Cw.permL (M:=D++ ((b7, .cells #[vi ok,vs ot] 82 (0,0))::DG)) (by classical exact List.perm_iff_count.2 fun a=>by simp only[List.count_append,List.count_cons,List.count_nil]<;>omega) ?_
       first|with_reducible refine ks [] (And.intro @jG_ @hfr) ?_|refine kp (And.intro @jG_ @hfr) ?_
       exact CutO.mk ⟨os,v3,D,(b7, .cells #[vi ok,vs ot] 82 (0,0))::DG⟩ ⟨hN,⟨hw7,hNG⟩,hG,by rw[hlo,List.append_nil]⟩ rfl rfl
      |true=>
       rw[if_pos ⟨rfl,h4,hm,hfr⟩] at hlo
       first|with_reducible refine ks [] (And.intro @jG_ @hfr) ?_|refine kp (And.intro @jG_ @hfr) ?_
       refine Ow.buildSlice (e:=82) #[vi ok,vs ot] rfl rfl (j3_ (cs:=obC ⟨ok,ot⟩) Tryz.underlying94 Tryz.ag82 zrOb (by decide) rfl) fun bc hbc hwc=> ?_
       refine ko @jG_ ?_
       refine Ow.permL (M:=D++ ((b7, .cells #[vi ok,vs ot] 82 (0,0)):: (DG++ [(bc, .cells #[vi ok,vs ot] 82 (0,0))]))) (by classical exact List.perm_iff_count.2 fun a=>by simp only[List.count_append,List.count_cons,List.count_nil]<;>omega) ?_
       refine Ow.appendXG (e:=82) (k:=1) (new:=obC ⟨ok,ot⟩) (X:=D) v3 rfl rfl rfl rfl Tryz.underlying94 Tryz.ag82 (by kernel_rfl) zrOb (by rw[obV,zf_];rfl) Tryz.underlying94 (by intro k h;cases h) hG (fun w' hw'=>AppX.one1 (hw'.has bc (.cells (obC ⟨ok,ot⟩).toArray 82 (0,0)) (by simp[obC])) (vp_ _) (X8_ _)) (by omega) (fun B5 v5 D5 hA5 hB5 hG5 hk51 hk52 hlk5=> ?_)
       have hN5:New w.heap.size D5:=New.of_le fun q hq=>by
        rcases hk52 q hq with h|h
        ·exact hN.le q h
        ·omega
       refine ko @jG_ ?_
       first|with_reducible refine ks [] @jG_ ?_|refine kp @jG_ ?_
       exact CutO.mk ⟨os++ [⟨ok,ot⟩],v5,D5,(b7, .cells #[vi ok,vs ot] 82 (0,0)):: (DG++ [(bc, .cells #[vi ok,vs ot] 82 (0,0))])⟩ ⟨hN5,⟨hw7,hNG.app ⟨hwc,trivial⟩⟩,by simpa using hG5,by rw[hlo]⟩ rfl rfl
     ·have d5: (s.take 4== [83,76,79,49])=false:=beq_eq_false_iff_ne.2 hm
      rw[if_neg (fun h=>hm h.2.2.1)] at hlo
      first|with_reducible refine ks [] (And.intro @jG_ (And.intro @d4 (And.intro @d4' (@d5)))) ?_|refine kp (And.intro @jG_ (And.intro @d4 (And.intro @d4' (@d5)))) ?_
      exact CutO.mk ⟨os,v3,D,DG⟩ ⟨hN,hNG,hG,by rw[hlo,List.append_nil]⟩ rfl rfl
    ·have d4:decide ((4:Int)≤ (s.length:Int))=false:=decide_eq_false (by omega)
     rw[if_neg (fun h=>h4 h.2.1)] at hlo
     first|with_reducible refine ks [] (And.intro @jG_ @d4) ?_|refine kp (And.intro @jG_ @d4) ?_
     exact CutO.mk ⟨os,v3,D,DG⟩ ⟨hN,hNG,hG,by rw[hlo,List.append_nil]⟩ rfl rfl
  ·intro g j hg
   refine kv ?_
   obtain⟨os2,v4,D4,DG4⟩:=g
   simp only at hg ⊢
   obtain⟨hN4,hNG4,hG4,hos4⟩:=hg
   have hol2:os2.length≤k*201+201:=by
    have:=JN_ b
    rw[hfo,List.length_append] at this
    rw[hos4,List.length_append]
    omega
   have rd2:=rdl _ (hN4.app hNG4)
   first|with_reducible refine ks [] (And.intro @jG_ (And.intro @ln (And.intro @ixl (And.intro @rd2 (@ld2))))) ?_|refine kp (And.intro @jG_ (And.intro @ln (And.intro @ixl (And.intro @rd2 (@ld2))))) ?_
   refine Ow.callC rfl rfl Tryz.call156 (fun w' hw'=>afX_ b w' hfb) (fun B9 v9 D9 hA9 hB9 hN9 hS9=> ?_)
   have hN9':New w.heap.size D9:=hN9.mono hB9
   refine ko @jG_ ?_
   refine Ow.permL (M:=D4++ (DG4++D9)) (by classical exact List.perm_iff_count.2 fun a=>by simp only[List.count_append,List.count_cons,List.count_nil]<;>omega) ?_
   refine Ow.appendXG (e:=82) (k:=(VI_ b).length) (new:=((VI_ b).map obC).flatten) (X:=D4) v4 rfl rfl rfl rfl Tryz.underlying94 Tryz.ag82 (by kernel_rfl) zrOb (by rw[obV,zf_];rfl) Tryz.underlying94 (by intro k h;cases h) hG4 (fun w' hw'=>((hS9.mono (fun q hq=>by simp[hq])).slV (z:=ob0) hw' rfl rfl vp_).appX vp_ X8_) (by omega) (fun B5 v5 D5 hA5 hB5 hG5 hk51 hk52 hlk5=> ?_)
   have hN5:New w.heap.size D5:=New.of_le fun q hq=>by
    rcases hk52 q hq with h|h
    ·exact hN4.le q h
    ·omega
   refine ko @jG_ ?_
   first|with_reducible refine ks [] @jG_ ?_|refine kp @jG_ ?_
   exact Again.mk ⟨k+1,v5,D5,DG4++D9⟩ (by show l.length - (k+1)<l.length - k;omega) ⟨hlt,hN5,hNG4.app hN9',by rw[hnx,hfo,←List.append_assoc,←hos4,List.length_append,List.map_append,List.flatten_append];exact hG5⟩ rfl rfl
 ·obtain rfl:k=l.length:=by omega
  have d1:decide ((l.length:Int)< (l.length:Int))=false:=decide_eq_false (by omega)
  rw[List.take_length] at hG
  first|with_reducible refine ks [] (And.intro @jG_ (And.intro @d1 (@ln))) ?_|refine kp (And.intro @jG_ (And.intro @d1 (@ln))) ?_
  refine⟨_,(ke @jG_), ?_⟩
  exact⟨Ext.of_new (hN.app hNG),D,DG,rfl,hG⟩
end Go.Proofs
end
section
open Go Go.Proofs Go.Sx Go.StP Go.Flo
namespace Go.Proofs
set_option maxRecDepth 10000
set_option maxHeartbeats 400000
set_option linter.unusedSimpArgs false
def idQ (o:ObL):IdL:=⟨Dig.shaR (QL_ o.k o.t),Wo_ _⟩
def wt_ (all:List ObL):Nat→Option (List ObL)
 |0=>some []
 |i+1=>match wt_ all i with
  |none=>none
  |some had=>if ki_ (all.getD i ob0).k (all.getD i ob0).t=true∧all.getD i ob0∉had then(if had.any (fun h=>(idQ h).l==(idQ (all.getD i ob0)).l)=true then none else some (had++ [all.getD i ob0])) else some had
def aaq_ (all:List ObL):Bool:=(wt_ all all.length).isNone
theorem X6_ {all:List ObL}: ∀ {j i:Nat},wt_ all i=none→i≤j→wt_ all j=none
 |0,i,h,hij=>by
  obtain rfl:i=0:=by omega
  exact h
 |j+1,i,h,hij=>by
  by_cases e:i=j+1
  ·subst e;exact h
  ·have:=X6_ (j:=j) h (by omega)
   unfold wt_
   rw[this]
theorem Vc_ {all:List ObL}: ∀ {i:Nat} {had:List ObL},wt_ all i=some had→had.length≤i
 |0,had,h=>by cases h;exact Nat.le_refl _
 |i+1,had,h=>by
  unfold wt_ at h
  cases hc:wt_ all i with
  |none=>rw[hc] at h;cases h
  |some had'=>
   have h1:=Vc_ hc
   rw[hc] at h
   simp only at h
   split at h
   ·split at h
    ·cases h
    ·cases h;rw[List.length_append];simp;omega
   ·cases h;omega
structure ThG where
 j:Nat
 c:Bool
structure ClG where
 i:Nat
 had:List ObL
 v6:Value
 v7:Value
 D6:za_
 D7:za_
 DG:za_
set_option linter.defProp false
def qi_:=And.intro (And.intro (And.intro (@zc_) (@zd_)) (And.intro (@Sx.tup2_0) (And.intro (@Sx.tup2_1) (@q2_)))) (And.intro (And.intro (@qo_) (And.intro (@qn_) (@qA_))) (And.intro (@aor_) (And.intro (@agy_) (@xr_))))
theorem afZ_ (v1 v2:Value) (l:List FiL) (more:List ObL) (w:World) (hv:FiSl w v1 l) (hl:l.length≤1000) (hb:FiB l) (hm:ObSl w v2 more) (hml:more.length≤1000000):
  Rets Tryz.prog 57 #[v1,v2] w (fun v D=>v= .bool (aaq_ (wW_ l++more))∧D= []):=by
 have ln2:=hm.len
 have hol:=Kc_ l l.length (Nat.le_refl _)
 rw[List.take_length] at hol
 refine Rets.enterV Tryz.func57 rfl (rs:= [.tmp 4]) Tryz.results57 Tryz.ntmps57 ?_
 refine kf ?_
 first|with_reducible refine ks [] @qi_ ?_|refine kp @qi_ ?_
 refine Ow.callC rfl rfl Tryz.call113 (fun w' hw'=>aaw_ v1 l w' (hv.oldN hw' trivial) hl hb) (fun B1 v4 D0 hA1 hB1 hN1 hS1=> ?_)
 obtain⟨D1,DG1,rfl,hG1⟩:=hS1
 have hN1':=hN1.mono hB1
 rw[List.nil_append]
 refine ko @qi_ ?_
 refine Ow.appendXG (e:=82) (k:=more.length) (new:=(more.map obC).flatten) (X:=D1) v4 rfl rfl rfl rfl Tryz.underlying94 Tryz.ag82 (by kernel_rfl) zrOb (by rw[obV,zf_];rfl) Tryz.underlying94 (by intro k h;cases h) hG1 (fun w' hw'=>(hm.oldN hw' hN1').appX vp_ X8_) (by omega) (fun B5 v5 D5 hA5 hB5 hG5 hk51 hk52 hlk5=> ?_)
 have hN5:New w.heap.size D5:=New.of_le fun q hq=>by
  rcases hk52 q hq with h|h
  ·exact hN1'.le q (by rw[zr_];exact List.mem_append_left _ h)
  ·omega
 rw[←List.flatten_append,←List.map_append,←List.length_append] at hG5
 have hal: (wW_ l++more).length≤1300000:=by rw[List.length_append];omega
 have hNG1:New w.heap.size DG1:=New.of_le fun q hq=>hN1'.le q (by rw[zr_];exact List.mem_append_right _ hq)
 generalize wW_ l++more=all at*
 have hGi:=Gr.i hG5 (fun p hp=>hp)
 have lna: ∀m,QO_ (.sl m) v5=some (vi all.length):=fun m=>km_ hGi m
 refine ko @qi_ ?_
 first|with_reducible refine ks [] (And.intro @qi_ @lna) ?_|refine kp (And.intro @qi_ @lna) ?_
 refine Cw.permL (M:=D5++ ([]++ ([]++DG1))) (by classical exact List.perm_iff_count.2 fun a=>by simp only[List.count_append,List.count_cons,List.count_nil]<;>omega) ?_
 refine Cw.loopG (G:=ClG) [18,19,20,21,24,25,26,27,28,29,9,10,30,31,32,33,34,35,36,37,40,41,42,43,44,45,46,47,48,38,39,49,50,51,52,53,54,11,12,55,56,57,58,61,62,63,64,65,66,4,59,60,67,68,69,70,71,72,73,6,74,75,76,77,7,22,23,8] (fun g=> [(6,g.v6),(7,g.v7),(8,vi g.i)]) (fun g=>D5++ (g.D6++ (g.D7++g.DG))) (fun g=>g.i≤all.length∧wt_ all g.i=some g.had∧New w.heap.size g.D6∧New w.heap.size g.D7∧New w.heap.size g.DG∧Gr g.D6 82 2 g.v6 g.had.length (g.had.map obC).flatten∧Gr g.D7 84 32 g.v7 g.had.length ((g.had.map idQ).map JA_).flatten) (fun g=>all.length - g.i) ⟨0,[], .slice none 0 0, .slice none 0 0,[],[],DG1⟩ rfl rfl ?_ ?_
 ·exact⟨Nat.zero_le _,rfl,trivial,trivial,hNG1,Gr.nl,Gr.nl⟩
 intro g j hg
 refine kv ?_
 obtain⟨i,had,v6,v7,D6,D7,DG⟩:=g
 simp only at hg ⊢
 obtain⟨hi,hcl,hN6,hN7,hNG,hG6,hG7⟩:=hg
 have hhl:=Vc_ hcl
 have hNr:New w.heap.size (D5++ (D6++ (D7++DG))):=hN5.app (hN6.app (hN7.app hNG))
 by_cases hlt:i<all.length
 ·have d1:decide ((i:Int)< (all.length:Int))=true:=decide_eq_true (by omega)
  have hcs:wt_ all (i+1)=if ki_ (all.getD i ob0).k (all.getD i ob0).t=true∧all.getD i ob0∉had then(if had.any (fun h=>(idQ h).l==(idQ (all.getD i ob0)).l)=true then none else some (had++ [all.getD i ob0])) else some had:=by
   show(match wt_ all i with|none=>none|some had=>_)=_
   rw[hcl]
  refine Cw.world fun wz hwz=> ?_
  have hnd:=hwz.nodup
  clear hwz wz
  simp only[zr_,List.nodup_append,List.mem_append] at hnd
  obtain h0| ⟨ra,ca,resta,rfl,hka,hlka⟩:=Zr_ hGi hnd.1
  ·omega
  have rda: ∀Y,zx_ w (D5++Y) ra=some (Wc_ obC 82 resta all):=fun Y=>zb_ (zi_ hlka)
  have lda:zm_ (some (true,2)) (some (Wc_ obC 82 resta all)) (i*2)=some (obV (all.getD i ob0).k (all.getD i ob0).t):=Zz_ (E:=82) (rest:=resta) (z:=ob0) vp_ i hlt
  have lnh: ∀m,QO_ (.sl m) v6=some (vi had.length):=fun m=>km_ (Gr.i hG6 (fun p hp=>hp)) m
  have lni: ∀m,QO_ (.sl m) v7=some (vi had.length):=fun m=>km_ (Gr.i hG7 (fun p hp=>hp)) m
  generalize all.getD i ob0=o at*
  obtain⟨ok,ot⟩:=o
  simp only at lda hcs
  first|with_reducible refine ks [7] (And.intro @qi_ (And.intro @d1 (And.intro @lna (And.intro @lda (@rda))))) ?_|refine kp (And.intro @qi_ (And.intro @d1 (And.intro @lna (And.intro @lda (@rda))))) ?_
  refine Ow.callFV rfl Tryz.call54 (fun w' hw'=>XB_ ok ot w') ?_
  refine ko @qi_ ?_
  first|with_reducible refine ks [] (And.intro @qi_ @lnh) ?_|refine kp (And.intro @qi_ @lnh) ?_
  refine Cw.loopG (G:=ThG) [30,31,32,33,34,35,36,37,40,41,42,43,44,45,46,47,48,9,38,39,10] (fun g=> [(9, .bool g.c),(10,vi g.j)]) (fun g=>D5++ (D6++ (D7++DG))) (fun g=>g.j≤had.length∧g.c=(!ki_ ok ot||decide ((⟨ok,ot⟩:ObL)∈had.take g.j))) (fun g=>had.length - g.j) ⟨0, !ki_ ok ot⟩ rfl rfl ?_ ?_
  ·exact⟨Nat.zero_le _,by simp⟩
  intro g j hg
  refine kv ?_
  obtain⟨j,c⟩:=g
  simp only at hg ⊢
  obtain⟨hj,hc⟩:=hg
  by_cases hjt:j<had.length
  ·have d2:decide ((j:Int)< (had.length:Int))=true:=decide_eq_true (by omega)
   cases c with
   |true=>
    have hno: ¬ (ki_ ok ot=true∧(⟨ok,ot⟩:ObL)∉had):=by
     rintro⟨h1,h2⟩
     rw[h1,decide_eq_false (fun h=>h2 (List.mem_of_mem_take h))] at hc
     cases hc
    first|with_reducible refine ks [] (And.intro @qi_ (And.intro @d2 (@lnh))) ?_|refine kp (And.intro @qi_ (And.intro @d2 (@lnh))) ?_
    rw[if_neg hno] at hcs
    first|with_reducible refine ks [] @qi_ ?_|refine kp @qi_ ?_
    exact Again.mk ⟨i+1,had,v6,v7,D6,D7,DG⟩ (by show all.length - (i+1)<all.length - i;omega) ⟨hlt,hcs,hN6,hN7,hNG,hG6,hG7⟩ rfl rfl
   |false=>
    have hc':=hc.symm
    rw[Bool.or_eq_false_iff] at hc'
    have hnx:=ZQ_ (o:=⟨ok,ot⟩) hjt
    rw[hc'.2,Bool.false_or] at hnx
    obtain h0| ⟨rh,ch,resth,rfl,hkh,hlkh⟩:=Zr_ (Gr.i hG6 (fun p hp=>hp)) hnd.2.1.1
    ·omega
    have hn1:rh∉keys D5:=fun hm=>hnd.2.2 rh hm rh (.inl hkh) rfl
    have rdh:zx_ w (D5++ (D6++ (D7++DG))) rh=some (Wc_ obC 82 resth had):=zb_ (by rw[qc_ hn1];exact zi_ hlkh)
    have ldh:zm_ (some (true,2)) (some (Wc_ obC 82 resth had)) (j*2)=some (obV (had.getD j ob0).k (had.getD j ob0).t):=Zz_ (E:=82) (rest:=resth) (z:=ob0) vp_ j hjt
    generalize had.getD j ob0=p at*
    first|with_reducible refine ks [] (And.intro @qi_ (And.intro @d2 (@lnh))) ?_|refine kp (And.intro @qi_ (And.intro @d2 (@lnh))) ?_
    refine Cw.regionS [rh,ra] [0,1,2,4,5,6,3,7,8,9] [] (by kernel_rfl) (by kernel_rfl) (by kernel_rfl) ?_
    simp only[zz_, ↓zk_, ↓zg_, ↓zK_, ↓zJ_,zh_]
    refine kq (And.intro @qi_ (And.intro @rdh (And.intro @ldh (And.intro @rda (@lda))))) ?_
    first|with_reducible refine ks [] @qi_ ?_|refine kp @qi_ ?_
    exact Again.mk ⟨j+1,_⟩ (by show had.length - (j+1)<had.length - j;omega) ⟨hjt,by rw[hc'.1,Bool.false_or];exact hnx.symm⟩ rfl rfl
  ·obtain rfl:j=had.length:=by omega
   have d2:decide ((had.length:Int)< (had.length:Int))=false:=decide_eq_false (by omega)
   rw[List.take_length] at hc
   cases c with
   |true=>
    have hno: ¬ (ki_ ok ot=true∧(⟨ok,ot⟩:ObL)∉had):=by
     rintro⟨h1,h2⟩
     rw[h1,decide_eq_false h2] at hc
     cases hc
    first|with_reducible refine ks [] (And.intro @qi_ (And.intro @d2 (@lnh))) ?_|refine kp (And.intro @qi_ (And.intro @d2 (@lnh))) ?_
    rw[if_neg hno] at hcs
    first|with_reducible refine ks [] @qi_ ?_|refine kp @qi_ ?_
    exact Again.mk ⟨i+1,had,v6,v7,D6,D7,DG⟩ (by show all.length - (i+1)<all.length - i;omega) ⟨hlt,hcs,hN6,hN7,hNG,hG6,hG7⟩ rfl rfl
   |false=>
    have hc':=hc.symm
    rw[Bool.or_eq_false_iff] at hc'
    have hrt:ki_ ok ot=true:=by simpa using hc'.1
    have htl:ot.length<100000:=by have:=akD_ (k:=ok) (t:=ot) (by rw[Vr_];exact hrt);omega
    rw[if_pos ⟨hrt,of_decide_eq_false hc'.2⟩] at hcs
    first|with_reducible refine ks [] (And.intro @qi_ (And.intro @d2 (And.intro @lnh (And.intro @rda (@lda))))) ?_|refine kp (And.intro @qi_ (And.intro @d2 (And.intro @lnh (And.intro @rda (@lda))))) ?_
    refine Ow.callFV rfl Tryz.call55 (fun w' hw'=>alt_ ok ot w' htl) ?_
    have hid:Dig.shaR (QL_ ok ot)=(idQ ⟨ok,ot⟩).l:=rfl
    rw[hid] at*
    have hil:=(idQ ⟨ok,ot⟩).h
    have hi0:=id0.h
    generalize hx:idQ ⟨ok,ot⟩=x at*
    refine ko @qi_ ?_
    refine Ow.alloc rfl rfl afq_ fun b11 hb11 hw11=> ?_
    simp only[zf_,List.nil_append,List.cons_append]
    refine Ow.permL (M:=(b11, .cells (a8 id0.l) 84 (0,0)):: (D5++ (D6++ (D7++DG)))) (by classical exact List.perm_iff_count.2 fun a=>by simp only[List.count_append,List.count_cons,List.count_nil]<;>omega) ?_
    refine ko @qi_ ?_
    first|with_reducible refine ks [] (And.intro @qi_ @lni) ?_|refine kp (And.intro @qi_ @lni) ?_
    refine Cw.loopG (G:=Nat) [55,56,57,58,61,62,63,64,65,66,4,59,60,12] (fun g=> [(12,vi g)]) (fun g=>(b11, .cells (a8 x.l) 84 (0,0)):: (D5++ (D6++ (D7++DG)))) (fun g=>g≤had.length∧(had.take g).any (fun h=>(idQ h).l==x.l)=false) (fun g=>had.length - g) 0 rfl rfl ?_ ?_
    ·exact⟨Nat.zero_le _,rfl⟩
    intro m jm hm
    refine kv ?_
    obtain⟨hm1,hm2⟩:=hm
    by_cases hmt:m<had.length
    ·have d3:decide ((m:Int)< (had.length:Int))=true:=decide_eq_true (by omega)
     obtain h0| ⟨rq,cq,restq,rfl,hkq,hlkq⟩:=Zr_ (l:=had.map idQ) (enc:=JA_) (by rw[List.length_map];exact Gr.i hG7 (fun p hp=>hp)) hnd.2.1.2.1.1
     ·rw[List.length_map] at h0;omega
     rw[List.length_map] at*
     have hn1:rq∉keys D5:=fun hm=>hnd.2.2 rq hm rq (.inr (.inl hkq)) rfl
     have hn2:rq∉keys D6:=fun hm=>hnd.2.1.2.2 rq hm rq (.inl hkq) rfl
     have hq11:rq<b11:=zu_ hb11 (by simp only[zr_,List.mem_append];exact .inr (.inr (.inl hkq)))
     have rdq:zx_ w ((b11, .cells (a8 x.l) 84 (0,0)):: (D5++ (D6++ (D7++DG)))) rq=some (Wc_ JA_ 84 restq (had.map idQ)):=zb_ (by rw[kV_ _ _ _ _ (by omega),qc_ hn1,qc_ hn2];exact zi_ hlkq)
     have ldq:zm_ (some (true,32)) (some (Wc_ JA_ 84 restq (had.map idQ))) (m*32)=some (.agg (a8 (idQ (had.getD m ob0)).l)):=by
      have:=Zz_ (E:=84) (rest:=restq) (z:=id0) v9_ m (show m< (had.map idQ).length by rw[List.length_map];exact hmt)
      rw[ahL_,show(had.map idQ).getD m id0=idQ (had.getD m ob0) from by rw[List.getD_eq_getElem?_getD,List.getD_eq_getElem?_getD,List.getElem?_map,List.getElem?_eq_getElem hmt];rfl] at this
      exact this
     have hpm:had.getD m ob0∈had:=jL_ hmt
     have hnx: (had.take (m+1)).any (fun h=>(idQ h).l==x.l)=((idQ (had.getD m ob0)).l==x.l):=by
      rw[StP.take_snoc (z:=ob0) hmt,List.any_append,hm2];simp
     generalize had.getD m ob0=p at*
     first|with_reducible refine ks [] (And.intro @qi_ (And.intro @d3 (@lni))) ?_|refine kp (And.intro @qi_ (And.intro @d3 (@lni))) ?_
     refine Cw.regionS [rq,b11] [0,1,2,3,4,5] [] (by kernel_rfl) (by kernel_rfl) (by kernel_rfl) ?_
     simp only[zz_, ↓zk_, ↓zg_, ↓zK_, ↓zJ_,zh_]
     refine kq (And.intro @qi_ (And.intro @rdq (@ldq))) ?_
     cases hq: ((idQ p).l==x.l) with
     |true=>
      have hany:had.any (fun h=>(idQ h).l==x.l)=true:=List.any_eq_true.2 ⟨p,hpm,hq⟩
      rw[if_pos hany] at hcs
      have hnn:=X6_ hcs (show i+1≤all.length by omega)
      first|with_reducible refine ks [] (And.intro @qi_ @hq) ?_|refine kp (And.intro @qi_ @hq) ?_
      refine⟨_,(ke @qi_),(show New w.heap.size ((b11,_):: (D5++ (D6++ (D7++DG)))) from⟨hw11,hNr⟩), ?_⟩
      (unfold aaq_;rw[hnn];rfl)
     |false=>
      rw[hq] at hnx
      first|with_reducible refine ks [] (And.intro @qi_ @hq) ?_|refine kp (And.intro @qi_ @hq) ?_
      exact Again.mk (m+1) (by omega) ⟨hmt,hnx⟩ rfl rfl
    ·obtain rfl:m=had.length:=by omega
     have d3:decide ((had.length:Int)< (had.length:Int))=false:=decide_eq_false (by omega)
     rw[List.take_length] at hm2
     rw[if_neg (by rw[hm2];simp)] at hcs
     have ha11:ra<b11:=zu_ hb11 (by simp only[zr_,List.mem_append];exact .inl hka)
     have rda2: ∀O Y,zx_ w ((b11,O):: (D5++Y)) ra=some (Wc_ obC 82 resta all):=fun O Y=>zb_ (by rw[kV_ _ _ _ _ (by omega)];exact zi_ hlka)
     first|with_reducible refine ks [] (And.intro @qi_ (And.intro @d3 (And.intro @lni (And.intro @rda2 (@lda))))) ?_|refine kp (And.intro @qi_ (And.intro @d3 (And.intro @lni (And.intro @rda2 (@lda))))) ?_
     refine Ow.buildSlice (e:=82) #[vi ok,vs ot] rfl rfl (j3_ (cs:=obC ⟨ok,ot⟩) Tryz.underlying94 Tryz.ag82 zrOb (by decide) rfl) fun bc hbc hwc=> ?_
     refine ko @qi_ ?_
     refine Ow.permL (M:=D6++ ((b11, .cells (a8 x.l) 84 (0,0)):: (D5++ (D7++ (DG++ [(bc, .cells #[vi ok,vs ot] 82 (0,0))]))))) (by classical exact List.perm_iff_count.2 fun a=>by simp only[List.count_append,List.count_cons,List.count_nil]<;>omega) ?_
     refine Ow.appendXG (e:=82) (k:=1) (new:=obC ⟨ok,ot⟩) (X:=D6) v6 rfl rfl rfl rfl Tryz.underlying94 Tryz.ag82 (by kernel_rfl) zrOb (by rw[obV,zf_];rfl) Tryz.underlying94 (by intro k h;cases h) hG6 (fun w' hw'=>AppX.one1 (hw'.has bc (.cells (obC ⟨ok,ot⟩).toArray 82 (0,0)) (by simp[obC])) (vp_ _) (X8_ _)) (by omega) (fun B8 va8 D8 hA8 hB8 hG8 hk81 hk82 hlk8=> ?_)
     have hN8:New w.heap.size D8:=New.of_le fun q hq=>by
      rcases hk82 q hq with h|h
      ·exact hN6.le q h
      ·omega
     refine Ow.permL (M:=(b11, .cells (a8 x.l) 84 (0,0)):: (D5++ (D8++ (D7++ (DG++ [(bc, .cells #[vi ok,vs ot] 82 (0,0))]))))) (by classical exact List.perm_iff_count.2 fun a=>by simp only[List.count_append,List.count_cons,List.count_nil]<;>omega) ?_
     refine ko @qi_ ?_
     first|with_reducible refine ks [] @qi_ ?_|refine kp @qi_ ?_
     refine Ow.buildSlice (e:=84) (a8 x.l) rfl rfl (j3_ (cs:=x.l.map v8) Tryz.underlying106 aeL_ afq_ (by decide) (by simp[x.h])) fun ba hba hwa=> ?_
     refine ko @qi_ ?_
     refine Ow.permL (M:=D7++ ((b11, .cells (a8 x.l) 84 (0,0)):: (D5++ (D8++ (DG++ [(bc, .cells #[vi ok,vs ot] 82 (0,0)),(ba, .cells (a8 x.l) 84 (0,0))]))))) (by classical exact List.perm_iff_count.2 fun a=>by simp only[List.count_append,List.count_cons,List.count_nil]<;>omega) ?_
     refine Ow.appendXG (e:=84) (k:=1) (new:=JA_ x) (X:=D7) v7 rfl rfl rfl rfl Tryz.underlying106 aeL_ (by kernel_rfl) afq_ (by rw[zf_,QD_,id0.h]) Tryz.underlying106 (by intro k h;cases h) hG7 (fun w' hw'=>AppX.one1 (by rw[ahL_];exact hw'.has ba (.cells (a8 x.l) 84 (0,0)) (by simp)) (v9_ _) (aa9_ _)) (by omega) (fun B9 va9 D9 hA9 hB9 hG9 hk91 hk92 hlk9=> ?_)
     have hN9:New w.heap.size D9:=New.of_le fun q hq=>by
      rcases hk92 q hq with h|h
      ·exact hN7.le q h
      ·omega
     refine ko @qi_ ?_
     refine Cw.permL (M:=D5++ (D8++ (D9++ ((b11, .cells (a8 x.l) 84 (0,0)):: (DG++ [(bc, .cells #[vi ok,vs ot] 82 (0,0)),(ba, .cells (a8 x.l) 84 (0,0))]))))) (by classical exact List.perm_iff_count.2 fun a=>by simp only[List.count_append,List.count_cons,List.count_nil]<;>omega) ?_
     first|with_reducible refine ks [] @qi_ ?_|refine kp @qi_ ?_
     have hl1: (had++ [(⟨ok,ot⟩:ObL)]).length=had.length+1:=by simp
     exact Again.mk ⟨i+1,had++ [⟨ok,ot⟩],va8,va9,D8,D9,(b11, .cells (a8 x.l) 84 (0,0)):: (DG++ [(bc, .cells #[vi ok,vs ot] 82 (0,0)),(ba, .cells (a8 x.l) 84 (0,0))])⟩ (by show all.length - (i+1)<all.length - i;omega) ⟨hlt,hcs,hN8,hN9,⟨hw11,hNG.app ⟨hwc,hwa,trivial⟩⟩,by simpa using hG8,by rw[←hx] at hG9;simpa using hG9⟩ rfl rfl
 ·obtain rfl:i=all.length:=by omega
  have d1:decide ((all.length:Int)< (all.length:Int))=false:=decide_eq_false (by omega)
  first|with_reducible refine ks [] (And.intro @qi_ (And.intro @d1 (@lna))) ?_|refine kp (And.intro @qi_ (And.intro @d1 (@lna))) ?_
  refine⟨_,(ke @qi_),hNr, ?_⟩
  (unfold aaq_;rw[hcl];rfl)
end Go.Proofs
end
section
open Go Go.Proofs Go.Sx Go.StP Go.Flo
namespace Go.Proofs
set_option maxRecDepth 10000
set_option maxHeartbeats 400000
set_option linter.unusedSimpArgs false
def sumF (l:List FiL):Nat:=(l.map fun f=>f.data.length / 100+f.name.length).sum
def Zj_ (l:List FiL) (more:List ObL):Bool:=decide (60<l.length) ||decide (1000<sumF l) ||aaq_ (wW_ l++more)
theorem ahw_ (l:List FiL) {k:Nat} (h:k<l.length):sumF (l.take (k+1))=sumF (l.take k)+ (l.getD k fi0).data.length / 100+ (l.getD k fi0).name.length:=by
 unfold sumF
 rw[StP.take_snoc (z:=fi0) h,List.map_append,List.sum_append,List.map_singleton,List.sum_singleton,Nat.add_assoc]
theorem anE_ (l:List FiL) (k:Nat):sumF (l.take k)≤sumF l:=by
 have:sumF l=sumF (l.take k)+sumF (l.drop k):=by
  unfold sumF
  rw[←List.sum_append,←List.map_append,List.take_append_drop]
 omega
theorem amm_ {l:List FiL} {f:FiL} (h:f∈l):f.data.length / 100+f.name.length≤sumF l:=by
 unfold sumF
 induction l with
 |nil=>cases h
 |cons g l ih=>
  rw[List.map_cons,List.sum_cons]
  rcases List.mem_cons.1 h with rfl|h
  ·omega
  ·have:=ih h;omega
theorem XM_ {l:List FiL} {more:List ObL} (h:Zj_ l more=false):l.length≤60∧aaq_ (wW_ l++more)=false∧ ∀f,f∈l→f.name.length≤1000∧f.data.length<100100:=by
 unfold Zj_ at h
 simp only[Bool.or_eq_false_iff,decide_eq_false_iff_not] at h
 refine⟨by omega,h.2,fun f hf=> ?_⟩
 have:=amm_ hf
 omega
structure GfG where
 n:Nat
 k:Nat
set_option linter.defProp false
def vG_:=And.intro (@zc_) (@zd_)
theorem v8_ (v1 v2:Value) (l:List FiL) (more:List ObL) (w:World) (hv:FiSl w v1 l) (hb:FiB l) (hm:ObSl w v2 more) (hml:more.length≤1000000):
  Rets Tryz.prog 15 #[v1,v2] w (fun v D=>v= .bool (Zj_ l more)∧D= []):=by
 have ln:=hv.len
 obtain⟨rb,off,arr,E,fz,hr⟩:=hv.row
 refine Rets.enterV Tryz.func15 rfl (rs:= [.tmp 4]) Tryz.results15 Tryz.ntmps15 ?_
 refine kf ?_
 by_cases h60:60<l.length
 ·have d1:decide ((60:Int)< (l.length:Int))=true:=decide_eq_true (by omega)
  first|with_reducible refine ks [] (And.intro @vG_ (And.intro @ln (@d1))) ?_|refine kp (And.intro @vG_ (And.intro @ln (@d1))) ?_
  refine⟨_,(ke @vG_),trivial, ?_⟩
  (unfold Zj_;rw[decide_eq_true h60];rfl)
 ·have d1:decide ((60:Int)< (l.length:Int))=false:=decide_eq_false (by omega)
  first|with_reducible refine ks [] (And.intro @vG_ (And.intro @ln (@d1))) ?_|refine kp (And.intro @vG_ (And.intro @ln (@d1))) ?_
  refine Cw.loopG (G:=GfG) [10,11,12,13,16,17,18,19,20,21,22,23,24,25,26,27,28,29,30,31,5,32,33,4,14,15,6] (fun g=> [(5,vi g.n),(6,vi g.k)]) (fun g=> []) (fun g=>g.k≤l.length∧g.n≤1000∧g.n=sumF (l.take g.k)) (fun g=>l.length - g.k) ⟨0,0⟩ rfl rfl ?_ ?_
  ·exact⟨Nat.zero_le _,Nat.zero_le _,rfl⟩
  intro g j hg
  refine kv ?_
  obtain⟨n,k⟩:=g
  simp only at hg ⊢
  obtain⟨hk,hn,hs⟩:=hg
  by_cases hlt:k<l.length
  ·have d2:decide ((k:Int)< (l.length:Int))=true:=decide_eq_true (by omega)
   have ix:=hr.idx true k hlt
   have hh:=hr.has (by omega)
   have ld1: ∀n,zm_ (some (false,n)) (some (.cells arr E fz)) (off+k*3+1)=some (vs (l.getD k fi0).name):=fun n=>anP_ hr hlt n
   have ld2: ∀n,zm_ (some (false,n)) (some (.cells arr E fz)) (off+k*3+2)=some (vs (l.getD k fi0).data):=fun n=>Wi_ hr hlt n
   have hbs:=hb (l.getD k fi0) (by rw[List.getD_eq_getElem?_getD,List.getElem?_eq_getElem hlt];exact List.getElem_mem _)
   have hsn:=ahw_ l hlt
   have hsl:=anE_ l (k+1)
   generalize l.getD k fi0=r at*
   have es: ((n:Int)+ (r.data.length:Int).tdiv 100)+ (r.name.length:Int)=((n+r.data.length / 100+r.name.length:Nat):Int):=by
    rw[Int.tdiv_eq_ediv_of_nonneg (by omega)];omega
   have es2: ((n:Int)+ (r.data.length:Int) / 100)+ (r.name.length:Int)=((n+r.data.length / 100+r.name.length:Nat):Int):=by omega
   first|with_reducible refine ks [] (And.intro @vG_ (And.intro @ln (@d2))) ?_|refine kp (And.intro @vG_ (And.intro @ln (@d2))) ?_
   refine Cw.regionS [rb] [0,1,2,3,4,9,10,11,12,5,6,7,8,13,14,15,16] [] (by kernel_rfl) (by kernel_rfl) (by kernel_rfl) ?_
   simp only[zz_, ↓zk_, ↓zg_, ↓zK_, ↓zJ_,zh_]
   refine kq (And.intro @vG_ (And.intro @ln (And.intro @ix (And.intro @hh (And.intro @ld1 (And.intro @ld2 (And.intro @es (@es2)))))))) ?_
   by_cases hgt:1000<n+r.data.length / 100+r.name.length
   ·have d3:decide ((1000:Int)< ((n+r.data.length / 100+r.name.length:Nat):Int))=true:=decide_eq_true (by omega)
    first|with_reducible refine ks [] (And.intro @vG_ @d3) ?_|refine kp (And.intro @vG_ @d3) ?_
    refine⟨_,(ke @vG_),trivial, ?_⟩
    (unfold Zj_;rw[decide_eq_true (show 1000<sumF l by omega),Bool.or_true];rfl)
   ·have d3:decide ((1000:Int)< ((n+r.data.length / 100+r.name.length:Nat):Int))=false:=decide_eq_false (by omega)
    first|with_reducible refine ks [] (And.intro @vG_ @d3) ?_|refine kp (And.intro @vG_ @d3) ?_
    exact Again.mk ⟨n+r.data.length / 100+r.name.length,k+1⟩ (by show l.length - (k+1)<l.length - k;omega) ⟨hlt,by show n+r.data.length / 100+r.name.length≤1000;omega,by show n+r.data.length / 100+r.name.length=sumF (l.take (k+1));omega⟩ rfl rfl
  ·have d2:decide ((k:Int)< (l.length:Int))=false:=decide_eq_false (by omega)
   rw[show l.take k=l from List.take_of_length_le (by omega)] at hs
   first|with_reducible refine ks [] (And.intro @vG_ (And.intro @ln (@d2))) ?_|refine kp (And.intro @vG_ (And.intro @ln (@d2))) ?_
   refine Ow.callFV rfl Tryz.call57 (fun w' hw'=>afZ_ v1 v2 l more w' (hv.oldN hw' trivial) (by omega) hb (hm.oldN hw' trivial) hml) ?_
   refine ko @vG_ ?_
   first|with_reducible refine ks [] @vG_ ?_|refine kp @vG_ ?_
   refine⟨_,(ke @vG_),trivial, ?_⟩
   (unfold Zj_;rw[decide_eq_false h60,decide_eq_false (show¬1000<sumF l by omega)];rfl)
instance:DecidableEq FiL:=fun a b=>if h:a.dir=b.dir∧a.name=b.name∧a.data=b.data then .isTrue (by cases a;cases b;simp only at h;obtain⟨rfl,rfl,rfl⟩:=h;rfl) else .isFalse (fun e=>h (by rw[e];exact⟨rfl,rfl,rfl⟩))
set_option linter.defProp false
def wQ_:=And.intro (And.intro (@zc_) (@zd_)) (And.intro (@acW_) (@neFi))
theorem wV_ (v1 v2:Value) (a b:List FiL) (w:World) (ha:FiSl w v1 a) (hb:FiSl w v2 b) (hal:a.length<1000000000):
  Rets Tryz.prog 25 #[v1,v2] w (fun v D=>v= .bool (decide (a=b))∧D= []):=by
 have ln1:=ha.len
 have ln2:=hb.len
 obtain⟨ra,offa,arra,Ea,fza,hra⟩:=ha.row
 obtain⟨rb,offb,arrb,Eb,fzb,hrb⟩:=hb.row
 refine Rets.enterV Tryz.func25 rfl (rs:= [.tmp 4]) Tryz.results25 Tryz.ntmps25 ?_
 refine kf ?_
 by_cases hll:a.length=b.length
 ·have d1: ((a.length:Int) !=(b.length:Int))=false:=by rw[hll];exact bne_self_eq_false _
  first|with_reducible refine ks [] (And.intro @wQ_ (And.intro @ln1 (And.intro @ln2 (@d1)))) ?_|refine kp (And.intro @wQ_ (And.intro @ln1 (And.intro @ln2 (@d1)))) ?_
  refine Cw.loopG (G:=Nat) [11,12,13,14,17,18,19,20,21,22,23,24,25,4,15,16,5] (fun g=> [(5,vi g)]) (fun g=> []) (fun g=>g≤a.length∧a.take g=b.take g) (fun g=>a.length - g) 0 rfl rfl ?_ ?_
  ·exact⟨Nat.zero_le _,rfl⟩
  intro k jk hk
  refine kv ?_
  obtain⟨hk1,hk2⟩:=hk
  by_cases hlt:k<a.length
  ·have hltb:k<b.length:=by omega
   have d2:decide ((k:Int)< (a.length:Int))=true:=decide_eq_true (by omega)
   have ixa:=hra.idx true k hlt
   have ixb:=hrb.idx true k hltb
   have rda:=hra.has (show 0<a.length by omega)
   have rdb:=hrb.has (show 0<b.length by omega)
   have lda:=aj0_ hra hlt
   have ldb:=aj0_ hrb hltb
   have hnx:a.take (k+1)=b.take (k+1)↔a.getD k fi0=b.getD k fi0:=by
    rw[StP.take_snoc (z:=fi0) hlt,StP.take_snoc (z:=fi0) hltb,hk2]
    constructor
    ·intro h;simpa using h
    ·intro h;rw[h]
   have hgo:a=b→a.getD k fi0=b.getD k fi0:=fun h=>by rw[h]
   generalize a.getD k fi0=x at*
   generalize b.getD k fi0=y at*
   first|with_reducible refine ks [] (And.intro @wQ_ (And.intro @ln1 (@d2))) ?_|refine kp (And.intro @wQ_ (And.intro @ln1 (@d2))) ?_
   refine Cw.regionS [ra,rb] [0,1,2,4,5,6,3,7,8] [] (by kernel_rfl) (by kernel_rfl) (by kernel_rfl) ?_
   simp only[zz_, ↓zk_, ↓zg_, ↓zK_, ↓zJ_,zh_]
   refine kq (And.intro @wQ_ (And.intro @ixa (And.intro @ixb (And.intro @rda (And.intro @rdb (And.intro @lda (@ldb))))))) ?_
   cases hq: (x.dir==y.dir&&x.name==y.name&&x.data==y.data) with
   |true=>
    have e:x=y:=by
     simp only[Bool.and_eq_true,beq_iff_eq] at hq
     cases x;cases y;simp only at hq;obtain⟨⟨rfl,rfl⟩,rfl⟩:=hq;rfl
    first|with_reducible refine ks [] (And.intro @wQ_ @hq) ?_|refine kp (And.intro @wQ_ @hq) ?_
    exact Again.mk (k+1) (by omega) ⟨hlt,hnx.2 e⟩ rfl rfl
   |false=>
    first|with_reducible refine ks [] (And.intro @wQ_ @hq) ?_|refine kp (And.intro @wQ_ @hq) ?_
    refine⟨_,(ke @wQ_),trivial, ?_⟩
    (rw[decide_eq_false (fun h=>by have e:=hgo h;rw[e] at hq;simp at hq)];rfl)
  ·obtain rfl:k=a.length:=by omega
   have d2:decide ((a.length:Int)< (a.length:Int))=false:=decide_eq_false (by omega)
   first|with_reducible refine ks [] (And.intro @wQ_ (And.intro @ln1 (@d2))) ?_|refine kp (And.intro @wQ_ (And.intro @ln1 (@d2))) ?_
   refine⟨_,(ke @wQ_),trivial, ?_⟩
   (rw[List.take_length,hll,List.take_length] at hk2;rw[decide_eq_true hk2];rfl)
 ·have d1: ((a.length:Int) !=(b.length:Int))=true:=bne_iff_ne.2 (by omega)
  first|with_reducible refine ks [] (And.intro @wQ_ (And.intro @ln1 (And.intro @ln2 (@d1)))) ?_|refine kp (And.intro @wQ_ (And.intro @ln1 (And.intro @ln2 (@d1)))) ?_
  refine⟨_,(ke @wQ_),trivial, ?_⟩
  (rw[decide_eq_false (fun h=>hll (by rw[h]))];rfl)
end Go.Proofs
end
section
open Go Go.Proofs Go.Sx Go.StP Go.Flo
namespace Go.Proofs
set_option maxRecDepth 10000
set_option maxHeartbeats 1000000
set_option linter.unusedSimpArgs false
theorem acI_ {S:DiskL} {a:ActL} (ok:DkOk S) (hu:x8_ S) (h6: ¬6<a.kind.tmod 9):x8_ (doA S a).1∧(doA S a).1.max=S.max∧(qX_ (doA S a).1≤qX_ S∨(qX_ (doA S a).1:Int)≤S.max)∧((doA S a).2≠0→(doA S a).2≠9→(doA S a).1=S):=by
 unfold doA
 split
 ·exact⟨xd_ hu fun _ _=>rfl,rfl, .inl (Nat.le_of_eq (kX_ (fun _=>rfl) fun _=>rfl)),fun h=>absurd rfl h⟩
 ·rw[if_neg (by omega),if_neg (by omega)]
  have h:=Qc_ S (a.kind.tmod 9) a.dir a.name a.s
  exact⟨wl_ ok hu h,akL_ h,ahO_ ok hu h,fun h0 h9=>WT_ h h0 h9⟩
structure RfG where
 i:Nat
 S:DiskL
 G:DkG
 X:za_
 DG:za_
theorem ActOk.old {w w':World} {L:za_} {a:ActL} (h:ActOk w a) (hw:Hp w L w') (hn:New w.heap.size L):ActOk w' a:=
 ⟨h.pk.old hw fun hl _b hb=>hn.not (h.pk.blk hl hb),h.n⟩
theorem ActOk.pkb {w w':World} {X:za_} {a:ActL} (h:ActOk w a) (hs:w.heap.size≤w'.heap.size) (hn:New w.heap.size X):PkB w' X a.picks.l a.picks.v:=fun hl _b hb=>
 ⟨Nat.lt_of_lt_of_le (h.pk.blk hl hb) hs,hn.not (h.pk.blk hl hb)⟩
set_option linter.defProp false
def zD_:=And.intro (And.intro (@zc_) (And.intro (@zd_) (@XZ_))) (And.intro (@Zv_) (And.intro (@aaZ_) (@ZA_)))
theorem Jg_ (quota:Int) (v1 v2:Value) (l:List FiL) (acts:List ActL) (w:World) (hG:wR_ w) (hq: -9223372036854775808≤quota∧quota<9223372036854775808) (hv:FiSl w v1 l) (hb:FiB l) (hva:AcSl w v2 acts) (hao: ∀a,a∈acts→ActOk w a):
  Rets Tryz.prog 4 #[vi quota,v1,v2] w (fun v D=>v= .bool true∧D= []):=by
 have ln:=hva.len
 obtain⟨rb,off,arr,E,fz,hr⟩:=hva.row
 refine Rets.enterV Tryz.func4 rfl (rs:= [.tmp 6]) Tryz.results4 Tryz.ntmps4 ?_
 refine kf ?_
 first|with_reducible refine ks [] @zD_ ?_|refine kp @zD_ ?_
 refine Ow.callFV rfl Tryz.call14 (fun w' hw'=>zN_ w' (zw_ hG hw' trivial)) ?_
 refine ko @zD_ ?_
 first|with_reducible refine ks [] @zD_ ?_|refine kp @zD_ ?_
 refine Ow.callFV rfl Tryz.call15 (fun w' hw'=>v8_ v1 (.slice none 0 0) l [] w' (hv.oldN hw' trivial) hb (SlV.nil w') (by simp)) ?_
 cases hgt:Zj_ l [] with
 |true=>
  refine ko @zD_ ?_
  first|with_reducible refine ks [] @zD_ ?_|refine kp @zD_ ?_
  refine Ow.callFV rfl Tryz.call14 (fun w' hw'=>zN_ w' (zw_ hG hw' trivial)) ?_
  refine ko @zD_ ?_
  first|with_reducible refine ks [] @zD_ ?_|refine kp @zD_ ?_
  refine⟨_,(ke @zD_),trivial, ?_⟩
  rfl
 |false=>
  obtain⟨hll,-,hlb⟩:=XM_ hgt
  refine ko @zD_ ?_
  first|with_reducible refine ks [] @zD_ ?_|refine kp @zD_ ?_
  refine Ow.callC rfl rfl Tryz.call16 (fun w' hw'=>Wr_ quota v1 l w' hq (zw_ hG hw' trivial) (hv.oldN hw' trivial) (by omega) hb) (fun B0 v0 D0 hA0 hB0 hN0 hS0=> ?_)
  obtain⟨G0,rfl,hP0⟩:=hS0
  rw[List.nil_append]
  have hN0':New w.heap.size D0:=hN0.mono hB0
  have hD0:DkA D0 G0 (ofD quota l) l.length:=⟨hP0,acb_ quota l,ajD_ quota l fun f hf=>by have:=(hlb f hf).1;omega⟩
  refine ko @zD_ ?_
  first|with_reducible refine ks [] (And.intro @zD_ @ln) ?_|refine kp (And.intro @zD_ @ln) ?_
  refine Cw.permL (M:=D0++ []) (by rw[List.append_nil]) ?_
  refine Cw.loopG (G:=RfG) [21,22,23,24,25,26,27,28,31,32,33,34,9,35,36,37,38,39,40,41,42,43,44,45,46,10,11,47,48,49,12,50,51,52,53,54,55,56,57,58,59,60,61,62,63,64,65,66,67,68,69,70,71,72,73,74,6,29,30,8] (fun g=> [(8,vi g.i)]) (fun g=>g.X++g.DG) (fun g=>g.i≤acts.length∧g.i≤60∧DkA g.X g.G g.S (l.length+g.i)∧x8_ g.S∧g.S.max=quota∧g.G.bd=G0.bd∧New w.heap.size g.X∧New w.heap.size g.DG) (fun g=>acts.length - g.i) ⟨0,ofD quota l,G0,D0,[]⟩ rfl rfl ?_ ?_
  ·exact⟨Nat.zero_le _,Nat.zero_le _,hD0,acF_ quota l,(VT_ quota l).2,rfl,hN0',trivial⟩
  intro g j hg
  refine kv ?_
  clear hD0 hN0' hP0
  obtain⟨i,S,G,X,DG⟩:=g
  simp only at hg ⊢
  obtain⟨hi,hi6,hA,hU,hmx,hbd,hN,hNG⟩:=hg
  rw[←hbd]
  have hNr:New w.heap.size (X++DG):=hN.app hNG
  by_cases hlt:i<acts.length∧i<60
  ·have d1:decide ((i:Int)< (acts.length:Int))=true:=decide_eq_true (by omega)
   have d2:decide ((i:Int)<60)=true:=decide_eq_true (by omega)
   have ix:=hr.idx true i hlt.1
   have rda:zx_ w (X++DG) rb=some (.cells arr E fz):=by rw[z5_ (hNr.not (hr.lt (by omega)))];exact hr.has (by omega)
   have lda:=aet_ hr hlt.1
   have hok:=hao (acts.getD i ac0) (jL_ hlt.1)
   generalize acts.getD i ac0=a at*
   first|with_reducible refine ks [8,12] (And.intro @zD_ (And.intro @ln (And.intro @d1 (And.intro @d2 (And.intro @ix (And.intro @rda (@lda))))))) ?_|refine kp (And.intro @zD_ (And.intro @ln (And.intro @d1 (And.intro @d2 (And.intro @ix (And.intro @rda (@lda))))))) ?_
   refine Ow.alloc rfl rfl zrAc fun b9 hb9 hw9=> ?_
   simp only[zf_,List.nil_append,List.cons_append]
   refine Ow.permL (M:=(b9, .cells (acC ac0).toArray 31 (0,0)):: (X++DG)) (by classical exact List.perm_iff_count.2 fun a=>by simp only[List.count_append,List.count_cons,List.count_nil]<;>omega) ?_
   have hN9:New w.heap.size ((b9,Obj.cells (acC a).toArray 31 (0,0)):: (X++DG)):=⟨hw9,hNr⟩
   refine ko @zD_ ?_
   first|with_reducible refine ks [] @zD_ ?_|refine kp @zD_ ?_
   refine Ow.callFV rfl Tryz.call17 (fun w' hw'=>vu_ a w' (hok.old hw' hN9)) ?_
   have hup:DkA X G S (l.length+ (i+1)):=⟨hA.P,hA.H,hA.B.mono (by omega)⟩
   cases hga:Zt_ a with
   |true=>
    refine ko @zD_ ?_
    refine Cw.permL (M:=X++ ((b9, .cells (acC a).toArray 31 (0,0))::DG)) (by classical exact List.perm_iff_count.2 fun a=>by simp only[List.count_append,List.count_cons,List.count_nil]<;>omega) ?_
    first|with_reducible refine ks [] @zD_ ?_|refine kp @zD_ ?_
    exact Again.mk ⟨i+1,S,G,X,(b9, .cells (acC a).toArray 31 (0,0))::DG⟩ (by show acts.length - (i+1)<acts.length - i;omega) ⟨hlt.1,hlt.2,hup,hU,hmx,rfl,hN,⟨hw9,hNG⟩⟩ rfl rfl
   |false=>
    have hrem:=rem9 a.kind
    by_cases h6:6<a.kind.tmod 9
    ·have d6:decide (6<a.kind.tmod 9)=true:=decide_eq_true h6
     refine ko (And.intro @zD_ (And.intro @hrem (@d6))) ?_
     refine Cw.permL (M:=X++ ((b9, .cells (acC a).toArray 31 (0,0))::DG)) (by classical exact List.perm_iff_count.2 fun a=>by simp only[List.count_append,List.count_cons,List.count_nil]<;>omega) ?_
     first|with_reducible refine ks [] @zD_ ?_|refine kp @zD_ ?_
     exact Again.mk ⟨i+1,S,G,X,(b9, .cells (acC a).toArray 31 (0,0))::DG⟩ (by show acts.length - (i+1)<acts.length - i;omega) ⟨hlt.1,hlt.2,hup,hU,hmx,rfl,hN,⟨hw9,hNG⟩⟩ rfl rfl
    ·have d6:decide (6<a.kind.tmod 9)=false:=decide_eq_false h6
     obtain⟨hU',hm',hus,hrf⟩:=acI_ hA.P.ok hU h6
     have hP9:DkP ((b9,Obj.cells (acC a).toArray 31 (0,0)):: (X++DG)) G S:=hA.P.mono fun b o h=>QC_ hb9 (zi_ h)
     have h9X:b9∉keys X:=fun hm=>by have:=zu_ hb9 (b:=b9) (by rw[zr_];exact List.mem_append_left _ hm);omega
     refine ko (And.intro @zD_ (And.intro @hrem (@d6))) ?_
     first|with_reducible refine ks [] @zD_ ?_|refine kp @zD_ ?_
     refine Ow.callC rfl rfl Tryz.call19 (fun w' hw'=>jO_ w' G S (hP9.world hw') (zw_ hG hw' hN9) (hA.b (by omega))) (fun B1 v1' D1 hA1 hB1 hN1 hS1=> ?_)
     have hN1':New w.heap.size D1:=hN1.mono hB1
     refine ko @zD_ ?_
     refine Ow.callFV rfl Tryz.call24 (fun w' hw'=>jc_ w' G S ((hP9.mono fun b o h=>zi_ h).world hw') (hA.used (by omega))) ?_
     have rd9:zx_ w (X++ ((b9, .cells (acC a).toArray 31 (0,0)):: (DG++D1))) b9=some (.cells (acC a).toArray 31 (0,0)):=zb_ (by rw[qc_ h9X];simp[Sx.look])
     refine ko @zD_ ?_
     refine Cw.permL (M:=X++ ((b9, .cells (acC a).toArray 31 (0,0)):: (DG++D1))) (by classical exact List.perm_iff_count.2 fun a=>by simp only[List.count_append,List.count_cons,List.count_nil]<;>omega) ?_
     first|with_reducible refine ks [] (And.intro @zD_ @rd9) ?_|refine kp (And.intro @zD_ @rd9) ?_
     refine Ow.callX (X:=X) (Y:=(b9, .cells (acC a).toArray 31 (0,0)):: (DG++D1)) rfl rfl rfl Tryz.call18 (fun w' hw' hX' hn'=>ZP_ X G S (l.length+i) a w' hX' hn' hA (by omega) (zw_ hG hw' (hN.app (show New w.heap.size ((b9,_):: (DG++D1)) from⟨hw9,hNG.app hN1'⟩))) (xS_ hG hN) (hok.old hw' (hN.app (show New w.heap.size ((b9,_):: (DG++D1)) from⟨hw9,hNG.app hN1'⟩))) hga (hok.pkb hw'.size hN)) (fun v2' D2 hC2 hS2=> ?_)
     obtain⟨rfl,G2,hbd2,hA2⟩:=hS2
     have hN2:New w.heap.size D2:=jE_ hC2 hN
     have hA2':DkA D2 G2 (doA S a).1 (l.length+ (i+1)):=hA2
     rw[←hbd2] at*
     have hmx':=hm'.trans hmx
     clear hA2
     generalize doA S a=q at*
     obtain⟨S',e⟩:=q
     simp only at hU' hm' hus hrf hA2' hmx' ⊢
     have hNy:New w.heap.size ((b9,Obj.cells (acC a).toArray 31 (0,0)):: (DG++D1)):=⟨hw9,hNG.app hN1'⟩
     refine ko @zD_ ?_
     by_cases h0:e≠0∧e≠9
     ·have e1: ((e:Int) !=0)=true:=bne_iff_ne.2 (by omega)
      have e2: ((e:Int) !=9)=true:=bne_iff_ne.2 (by omega)
      obtain rfl:=hrf h0.1 h0.2
      first|with_reducible refine ks [] (And.intro @zD_ (And.intro @e1 (@e2))) ?_|refine kp (And.intro @zD_ (And.intro @e1 (@e2))) ?_
      refine Ow.callC rfl rfl Tryz.call19 (fun w' hw'=>jO_ w' G2 S' ((hA2'.P.mono fun b o h=>zi_ h).world hw') (zw_ hG hw' (hN2.app hNy)) (hA2'.b (by omega))) (fun B5 v5 D5 hA5 hB5 hN5 hS5=> ?_)
      have hN5':New w.heap.size D5:=hN5.mono hB5
      refine ko @zD_ ?_
      refine Ow.callFV rfl Tryz.call25 (fun w' hw'=>wV_ v1' v5 (zM_ S') (zM_ S') w' ((hS1.mono (fun q hq=>by simp[hq])).slV (z:=fi0) hw' rfl rfl q4_) ((hS5.mono (fun q hq=>by simp[hq])).slV (z:=fi0) hw' rfl rfl q4_) (by have:=xm_ (hA2'.b (by omega)) 3 (Nat.le_refl _);exact Nat.lt_of_le_of_lt this (by decide))) ?_
      refine ko (And.intro @zD_ @decide_true) ?_
      refine Ow.callFV rfl Tryz.call24 (fun w' hw'=>jc_ w' G2 S' ((hA2'.P.mono fun b o h=>zi_ (zi_ h)).world hw') (hA2'.used (by omega))) ?_
      have e3:decide ((qX_ S':Int)< (qX_ S':Int))=false:=decide_eq_false (by omega)
      refine ko (And.intro @zD_ @e3) ?_
      refine Cw.permL (M:=D2++ ((b9, .cells (acC a).toArray 31 (0,0)):: (DG++ (D1++D5)))) (by classical exact List.perm_iff_count.2 fun a=>by simp only[List.count_append,List.count_cons,List.count_nil]<;>omega) ?_
      first|with_reducible refine ks [] @zD_ ?_|refine kp @zD_ ?_
      exact Again.mk ⟨i+1,S',G2,D2,(b9, .cells (acC a).toArray 31 (0,0)):: (DG++ (D1++D5))⟩ (by show acts.length - (i+1)<acts.length - i;omega) ⟨hlt.1,hlt.2,hA2',hU',hmx',rfl,hN2,⟨hw9,hNG.app (hN1'.app hN5')⟩⟩ rfl rfl
     ·have e0: ((e:Int) !=0)=false∨(((e:Int) !=0)=true∧((e:Int) !=9)=false):=by
       by_cases h1:e=0
       ·exact .inl (by rw[h1];rfl)
       ·exact .inr ⟨bne_iff_ne.2 (by omega),by rw[show e=9 by omega];rfl⟩
      by_cases hgt2:qX_ S<qX_ S'
      ·have e3:decide ((qX_ S:Int)< (qX_ S':Int))=true:=decide_eq_true (by omega)
       have e4:decide (quota< (qX_ S':Int))=false:=decide_eq_false (by rw[hmx] at hus;omega)
       rcases e0 with e1| ⟨e1,e2⟩
       ·first|with_reducible refine ks [] (And.intro @zD_ @e1) ?_|refine kp (And.intro @zD_ @e1) ?_
        refine Ow.callFV rfl Tryz.call24 (fun w' hw'=>jc_ w' G2 S' ((hA2'.P.mono fun b o h=>zi_ h).world hw') (hA2'.used (by omega))) ?_
        refine ko (And.intro @zD_ @e3) ?_
        refine Ow.callFV rfl Tryz.call24 (fun w' hw'=>jc_ w' G2 S' ((hA2'.P.mono fun b o h=>zi_ h).world hw') (hA2'.used (by omega))) ?_
        refine ko (And.intro @zD_ @e4) ?_
        first|with_reducible refine ks [] @zD_ ?_|refine kp @zD_ ?_
        exact Again.mk ⟨i+1,S',G2,D2,(b9, .cells (acC a).toArray 31 (0,0)):: (DG++D1)⟩ (by show acts.length - (i+1)<acts.length - i;omega) ⟨hlt.1,hlt.2,hA2',hU',hmx',rfl,hN2,⟨hw9,hNG.app hN1'⟩⟩ rfl rfl
       ·first|with_reducible refine ks [] (And.intro @zD_ (And.intro @e1 (@e2))) ?_|refine kp (And.intro @zD_ (And.intro @e1 (@e2))) ?_
        refine Ow.callFV rfl Tryz.call24 (fun w' hw'=>jc_ w' G2 S' ((hA2'.P.mono fun b o h=>zi_ h).world hw') (hA2'.used (by omega))) ?_
        refine ko (And.intro @zD_ @e3) ?_
        refine Ow.callFV rfl Tryz.call24 (fun w' hw'=>jc_ w' G2 S' ((hA2'.P.mono fun b o h=>zi_ h).world hw') (hA2'.used (by omega))) ?_
        refine ko (And.intro @zD_ @e4) ?_
        first|with_reducible refine ks [] @zD_ ?_|refine kp @zD_ ?_
        exact Again.mk ⟨i+1,S',G2,D2,(b9, .cells (acC a).toArray 31 (0,0)):: (DG++D1)⟩ (by show acts.length - (i+1)<acts.length - i;omega) ⟨hlt.1,hlt.2,hA2',hU',hmx',rfl,hN2,⟨hw9,hNG.app hN1'⟩⟩ rfl rfl
      ·have e3:decide ((qX_ S:Int)< (qX_ S':Int))=false:=decide_eq_false (by omega)
       rcases e0 with e1| ⟨e1,e2⟩
       ·first|with_reducible refine ks [] (And.intro @zD_ @e1) ?_|refine kp (And.intro @zD_ @e1) ?_
        refine Ow.callFV rfl Tryz.call24 (fun w' hw'=>jc_ w' G2 S' ((hA2'.P.mono fun b o h=>zi_ h).world hw') (hA2'.used (by omega))) ?_
        refine ko (And.intro @zD_ @e3) ?_
        first|with_reducible refine ks [] @zD_ ?_|refine kp @zD_ ?_
        exact Again.mk ⟨i+1,S',G2,D2,(b9, .cells (acC a).toArray 31 (0,0)):: (DG++D1)⟩ (by show acts.length - (i+1)<acts.length - i;omega) ⟨hlt.1,hlt.2,hA2',hU',hmx',rfl,hN2,⟨hw9,hNG.app hN1'⟩⟩ rfl rfl
       ·first|with_reducible refine ks [] (And.intro @zD_ (And.intro @e1 (@e2))) ?_|refine kp (And.intro @zD_ (And.intro @e1 (@e2))) ?_
        refine Ow.callFV rfl Tryz.call24 (fun w' hw'=>jc_ w' G2 S' ((hA2'.P.mono fun b o h=>zi_ h).world hw') (hA2'.used (by omega))) ?_
        refine ko (And.intro @zD_ @e3) ?_
        first|with_reducible refine ks [] @zD_ ?_|refine kp @zD_ ?_
        exact Again.mk ⟨i+1,S',G2,D2,(b9, .cells (acC a).toArray 31 (0,0)):: (DG++D1)⟩ (by show acts.length - (i+1)<acts.length - i;omega) ⟨hlt.1,hlt.2,hA2',hU',hmx',rfl,hN2,⟨hw9,hNG.app hN1'⟩⟩ rfl rfl
  ·have d1: (decide ((i:Int)< (acts.length:Int))=true∧decide ((i:Int)<60)=false)∨decide ((i:Int)< (acts.length:Int))=false:=by
    by_cases h1:i<acts.length
    ·exact .inl ⟨decide_eq_true (by omega),decide_eq_false (by omega)⟩
    ·exact .inr (decide_eq_false (by omega))
   rcases d1 with⟨d1,d2⟩ |d1
   ·first|with_reducible refine ks [] (And.intro @zD_ (And.intro @ln (And.intro @d1 (@d2)))) ?_|refine kp (And.intro @zD_ (And.intro @ln (And.intro @d1 (@d2)))) ?_
    refine Ow.callFV rfl Tryz.call14 (fun w' hw'=>zN_ w' (zw_ hG hw' hNr)) ?_
    refine ko @zD_ ?_
    first|with_reducible refine ks [] @zD_ ?_|refine kp @zD_ ?_
    refine⟨_,(ke @zD_),hNr, ?_⟩
    rfl
   ·first|with_reducible refine ks [] (And.intro @zD_ (And.intro @ln (@d1))) ?_|refine kp (And.intro @zD_ (And.intro @ln (@d1))) ?_
    refine Ow.callFV rfl Tryz.call14 (fun w' hw'=>zN_ w' (zw_ hG hw' hNr)) ?_
    refine ko @zD_ ?_
    first|with_reducible refine ks [] @zD_ ?_|refine kp @zD_ ?_
    refine⟨_,(ke @zD_),hNr, ?_⟩
    rfl
end Go.Proofs
end
namespace Go.Sx
open Go Go.ChangeShapes Go.WideShapes Go.RowKit
theorem Hp.same0 {W W':World} (h:Hp W [] W') {b:Nat} (hb:b<W.heap.size):W'.heap[b]? =W.heap[b]? :=h.old b hb (fun hm=>by cases hm)
theorem Hp.kept {W W':World} (h:Hp W [] W') (may:MemPlace→Prop):W.keptBut W' may:=by
 refine⟨h.os,h.output,fun i hi=> ?_⟩
 rw[h.same0 hi]
 cases ho:W.heap[i]? with
 |none=>rfl
 |some o=>
  cases o<;>first
   |exact⟨rfl,rfl,rfl,fun _ _=>rfl⟩
   |exact .inr ⟨rfl,rfl⟩
   |rfl
theorem Hp.sameAt {W W':World} (h:Hp W [] W') {p:MemPlace} (hp:p.block<W.heap.size):W.sameAt W' p:=by
 cases p with
 |cell b off=>
  have:=h.same0 (b:=b) hp
  simp only[World.sameAt,World.cell?,this]
 |map b=>exact h.same0 hp
theorem Hp.frozen {W W':World} (h:Hp W [] W') {a:Addr} (ha:a.block<W.heap.size):W'.frozen? a=W.frozen? a:=by
 simp only[World.frozen?,h.same0 ha]
section
variable {H:Type} {enc:TypeId×Value→H} {P:Program}
theorem ZY_ (hl:laidOutB P=true) {W W':World} {sp:Nat→Bool} (hp:Hp W [] W'): ∀ {ts:List TypeId} {vs:List Value} {ds:List (DataW H)} {ps:List MemPlace},
  (∀t∈ts,P.readableRec t=true∧t<P.types.size)→(∀p∈ps,p.block<W.heap.size)→(∀p∈ps,sp p.block=true)→
  DataW.TrodAll enc P W 0 (fun _=>true) true ts vs ds ps→DataW.TrodAll enc P W' 0 sp true ts vs ds ps
 | [],_,_,_,_,_,_,h=>by
  obtain⟨rfl,rfl,rfl⟩:=trodAll_nil h
  exact trodAll_mk0
 |t::ts,_,_,_,ht,hlt,hs,h=>by
  obtain⟨v,vs,d,ds,p,q,rfl,rfl,rfl,h1,h2⟩:=trodAll_cons h
  have hlt1: ∀x∈p,x.block<W.heap.size:=fun x hx=>hlt x (List.mem_append_left _ hx)
  exact trodAll_cons_mk (WideElems.Trod_stays hl (ht t List.mem_cons_self).1 (ht t List.mem_cons_self).2 h1 (fun x hx=>hp.sameAt (hlt1 x hx)) (fun x hx=>hs x (List.mem_append_left _ hx)))
   (ZY_ hl hp (fun u hu=>ht u (List.mem_cons_of_mem _ hu)) (fun x hx=>hlt x (List.mem_append_right _ hx)) (fun x hx=>hs x (List.mem_append_right _ hx)) h2)
theorem JX_ {f:Func} {s:ChangeSpec} {W W':World} {args:Array Value} {ds gs:List (DataW H)} {before:List MemPlace} {tb:TypeId} (hl:laidOutB P=true)
  (hW:DataW.Whole enc P f.params.toList s.vars false W args.toList ds gs before) (hv:s.vars= []) (hpar: ∀t∈f.params.toList,P.readableRec t=true∧t<P.types.size)
  (hr:f.resultTypes= #[tb]) (htb:P.underlying tb=some .bool) (hfn:s.fn H ds={results:= [.lit (.bool true)],args:=ds}) (hp:Hp W [] W'):
  s.post enc P f false true false false W args (.bool true) W':=by
 have hlt:=hW.lt
 have hW0:=hW
 obtain⟨p,q,hA,hV,rfl,hz,hn⟩:=hW
 rw[hv] at hV
 obtain⟨rfl,rfl⟩:=trodVars_none hV
 rw[List.append_nil] at hW0 hlt hz
 have hargs: ∀sp:Nat→Bool,(∀x∈p,sp x.block=true)→DataW.TrodAll enc P W' 0 sp true f.params.toList args.toList (s.fn H (ds++ [])).args p:=fun sp hs=>by
  rw[List.append_nil,hfn]
  exact ZY_ hl hp hpar hlt hs hA
 have hvars: ∀sp:Nat→Bool,DataW.TrodVars enc P W' sp s.vars (s.fn H (ds++ [])).vars []:=fun sp=>by
  rw[List.append_nil,hfn,hv];rfl
 have hres: ∀ (b:Nat) (sp:Nat→Bool) (hd:Bool),DataW.TrodAll enc P W' b sp hd f.resultTypes.toList ((Value.bool true).resultList f.resultTypes.size) (s.fn H (ds++ [])).results []:=fun b sp hd=>by
  rw[List.append_nil,hfn,hr]
  exact trodAll_cons_mk (shut_bool htb true) trodAll_mk0
 have hold: ∀x∈p,(fun b=>decide (b<W.heap.size)) x.block=true:=fun x hx=>by simpa using hlt x hx
 refine⟨ds,[],p,[],p,[],hW0,hres _ _ _,hargs _ hold,hvars _,hp.kept _,fun _=> ?_⟩
 refine⟨ok_one hr rfl (okWide_bool_mk htb true),_,_,([]++p)++ [],⟨[]++p,[],trodAll_append (hargs _ (fun _ _=>rfl)) (hres _ _ _),hvars _,rfl, ?_,fun h=>by cases h⟩, ?_⟩
 ·intro b off hx
  have hx':MemPlace.cell b off∈p:=by simpa using hx
  rw[hp.frozen (hlt _ hx')]
  exact hz b off hx'
 ·intro x hx _
  simpa using hx
end
section
variable {P:Program} {W:World} {name:String} {k:IntKind} {zs:List Int}
end
section
variable {H:Type} {enc:TypeId×Value→H} {P:Program}
end
end Go.Sx
namespace Go.Sx
open Go
section
variable {P:Program}
theorem alr_ {fits:TypeId→Bool} {d:Nat} {e:TypeId} {count off n:Nat} (h:rowAt P fits d e count off n=true):off≤count*P.cellsOf e:=by
 cases d with
 |zero=>simp[rowAt] at h
 |succ d=>
  unfold rowAt at h
  simp only at h
  split at h
  ·cases h
  ·rename_i hs
   have hs':0<P.cellsOf e:=Nat.pos_of_ne_zero hs
   have hd:=Nat.div_add_mod off (P.cellsOf e)
   have hm:=Nat.mod_lt off hs'
   rw[Bool.or_eq_true] at h
   rcases h with h|h
   ·simp only[Bool.and_eq_true,beq_iff_eq,decide_eq_true_eq] at h
    have:off / P.cellsOf e*P.cellsOf e≤count*P.cellsOf e:=Nat.mul_le_mul_right _ (by omega)
    rw[Nat.mul_comm (P.cellsOf e)] at hd
    omega
   ·simp only[Bool.and_eq_true,decide_eq_true_eq] at h
    have: (off / P.cellsOf e+1)*P.cellsOf e≤count*P.cellsOf e:=Nat.mul_le_mul_right _ (by omega)
    rw[Nat.add_mul,Nat.one_mul] at this
    rw[Nat.mul_comm (P.cellsOf e)] at hd
    omega
theorem aaT_ {e:TypeId} {count off:Nat}: ∀ {d:Nat} {u:TypeId} {n:Nat},liesAt P d e count off u n=true→off≤count*P.cellsOf e
 |0,u,n,h=>by simp[liesAt] at h
 |d+1,u,n,h=>by
  unfold liesAt at h
  rw[Bool.or_eq_true] at h
  rcases h with h|h
  ·exact alr_ h
  ·split at h
   ·exact aaT_ h
   ·cases h
theorem api_ {W:World} {r:Reach} {base:Nat} {a:Addr} {e:TypeId} {n:Nat} (h:W.has P r base a e n):a.spot=none∧ ∃arr E fz,W.heap[a.block]? =some (.cells arr E fz)∧a.off≤arr.size:=by
 obtain⟨-,hs,row,cells,hsh,hl⟩:=h
 refine⟨hs, ?_⟩
 unfold World.shape? at hsh
 split at hsh
 ·rename_i c el fz hh
  cases hsh
  refine⟨c,_,fz,hh,Nat.le_trans (aaT_ hl) ?_⟩
  exact Nat.div_mul_le_self _ _
 ·cases hsh
theorem aiD_ {W:World} {r:Reach} {base:Nat} {t e:TypeId} {v:Value} (ht:P.underlying t=some (.slice e)) (h:Value.okWide P W r base t v):
  v= .slice none 0 0∨ ∃b off len cap arr E fz,v=vsl b off len cap∧len≤cap∧W.heap[b]? =some (.cells arr E fz)∧off≤arr.size:=by
 obtain⟨a,len,cap,rfl⟩:=Go.WideShapes.okWide_slice ht h
 unfold Value.okWide at h
 rw[ht] at h
 unfold Cell.okWide at h
 rw[ht] at h
 simp only at h
 unfold Cell.ok at h
 rw[ht] at h
 cases a with
 |none=>
  left
  simp only at h
  split at h
  all_goals first| (cases h;done) |simp_all
 |some a=>
  right
  simp only at h
  obtain⟨hle,-,hh⟩:=h
  obtain⟨hs,arr,E,fz,hb,ho⟩:=api_ hh
  obtain⟨b,off,sp⟩:=a
  simp only at hs
  subst hs
  exact⟨b,off,len,cap,arr,E,fz,rfl,hle,hb,ho⟩
theorem amH_ {α:Type} {enc:α→List Value} {z:α} {m:Nat} {W:World} {base b off c:Nat} {l:List α} {arr:Array Value} {E:TypeId} {fz:Nat×Nat} (hm0:0<m) (hm: ∀x,(enc x).length=m)
  (hcells: ∀i,i<l.length→W.cells? base ((Addr.mk b off none).add (i*m)) m=some (enc (l.getD i z))) (hheap:W.heap[b]? =some (.cells arr E fz)) (hoff:off≤arr.size) (hc:l.length≤c):SlV m enc z W (vsl b off l.length c) l:=by
 have get: ∀k,k<l.length→ ∀j,j<m→arr[off+k*m+j]? =(enc (l.getD k z))[j]? :=by
  intro k hk j hj
  obtain⟨-,hl,hg⟩:=World.cells?_some (hcells k hk)
  have:=hg j (by omega)
  rw[js_,js_] at this
  simp only[World.cell?,hheap,Option.isSome_none,Bool.false_eq_true,if_false] at this
  exact this
 refine SlV.sl hheap get hc ?_
 by_cases h0:l.length=0
 ·rw[h0];omega
 ·have h1:=get (l.length - 1) (by omega) (m - 1) (by omega)
  rw[List.getElem?_eq_getElem (by rw[hm];omega)] at h1
  have h2:=(Array.getElem?_eq_some_iff.1 h1).1
  have h3: (l.length - 1)*m+m=l.length*m:=by
   rw[←Nat.succ_mul];congr 1;omega
  omega
end
end Go.Sx
section
open Go Go.Proofs Go.Sx Go.StP Go.Flo
open Go.ChangeShapes Go.WideShapes Go.ChangeAt Go.RowKit Go.ChangeMaps
namespace Go.Proofs
set_option maxRecDepth 10000
set_option maxHeartbeats 1000000
set_option linter.unusedSimpArgs false
theorem aeB_ {H:Type} {tell:TypeId×Value→H} {α:Type} {enc:α→List Value} {z:α} {m:Nat} {W:World} {r:Reach} {base b0:Nat} {sp:Nat→Bool} {held:Bool} {fuel:Nat} {t e:TypeId} {v:Value} {x:DataW H×List MemPlace} {R:α→DataW H→Prop}
  (ht: (Tryz.prog).underlying t=some (.slice e)) (he: (Tryz.prog).cellsOf e=m) (hm0:0<m) (hm: ∀x,(enc x).length=m) (hval:Value.okWide Tryz.prog W r b0 t v)
  (hdec: ∀n cs y,DataW.trod tell Tryz.prog W base sp held n e cs=some y→ ∃a,cs=enc a∧R a y.1) (hd:DataW.trod tell Tryz.prog W base sp held fuel t [v]=some x):
  ∃l,SlV m enc z W v l∧(l= []∨ ∃es sp',x.1= .slice es sp'∧ ∀i,i<l.length→ ∃d,d∈es∧R (l.getD i z) d):=by
 rcases DataW.trod_slice ht hd with⟨hcs,-⟩ | ⟨a,len,cap,elems,rest,n,-,hcs,hx,-,hl,-,hlen,hel,-,-⟩
 ·simp only[List.cons.injEq,and_true] at hcs
  subst hcs
  exact⟨[],SlV.nil W, .inl rfl⟩
 ·simp only[List.cons.injEq,and_true] at hcs
  subst hcs
  rcases aiD_ ht hval with h0| ⟨b,off,len',cap',arr,E,fz,h1,-,hb,ho⟩
  ·cases h0
  ·unfold vsl at h1
   cases h1
   rw[he] at hel
   have hex: ∀i,i<len→ ∃q,W.cells? base ((Addr.mk b off none).add (i*m)) m=some (enc q)∧ ∃d,d∈elems.map (·.1)∧R q d:=by
    intro i hi
    have h2:=hel i hi
    rw[List.getElem?_eq_getElem (by omega)] at h2
    cases hc:W.cells? base ((Addr.mk b off none).add (i*m)) m with
    |none=>rw[hc] at h2;cases h2
    |some cs=>
     rw[hc] at h2
     obtain⟨q,rfl,hR⟩:=hdec _ _ _ h2
     exact⟨q,rfl,_,List.mem_map_of_mem (List.getElem_mem (by omega)),hR⟩
   obtain⟨f,hf⟩: ∃f:Nat→α,∀i,i<len→W.cells? base ((Addr.mk b off none).add (i*m)) m=some (enc (f i))∧ ∃d,d∈elems.map (·.1)∧R (f i) d:=by
    classical
    refine⟨fun i=>if h:i<len then Classical.choose (hex i h) else z,fun i hi=> ?_⟩
    simp only[dif_pos hi]
    exact Classical.choose_spec (hex i hi)
   have hll: ((List.range len).map f).length=len:=by simp
   have hgd: ∀i,i<len→((List.range len).map f).getD i z=f i:=fun i hi=>by
    rw[List.getD_eq_getElem?_getD,List.getElem?_map,List.getElem?_range hi];rfl
   refine⟨(List.range len).map f, ?_, .inr ⟨_,_,by rw[hx],fun i hi=> ?_⟩⟩
   ·have:=amH_ (W:=W) (base:=base) (b:=b) (off:=off) (c:=cap) (l:=(List.range len).map f) (z:=z) hm0 hm (fun i hi=>by
     rw[hll] at hi
     rw[(hf i hi).1,hgd i hi]) hb ho (by rw[hll];exact hl)
    rw[hll] at this
    exact this
   ·rw[hll] at hi
    rw[hgd i hi]
    exact(hf i hi).2
theorem am1_ {H:Type} {tell:TypeId×Value→H} {W:World} {base:Nat} {sp:Nat→Bool} {held:Bool} (n:Nat) (cs:List Value) (y:DataW H×List MemPlace)
  (h:DataW.trod tell Tryz.prog W base sp held n 36 cs=some y): ∃a:FiL,cs=fiC a∧y.1= .agg [.lit (.string a.dir), .lit (.string a.name), .lit (.string a.data)]:=by
 obtain⟨y0,y1,y2,n',hy,hlen,h0,h1,h2⟩:=Deep.trod_struct3 Tryz.underlying36 h
 have hc: (Tryz.prog).cellsOf 36=3:=by kernel_rfl
 have hc0: (Tryz.prog).cellsOf 9=1:=by kernel_rfl
 simp only at h0 h1 h2
 rw[hc0,List.drop_zero] at h0
 rw[hc0] at h1 h2
 rw[hc] at hlen
 obtain⟨s,hs,hys,-⟩:=DataW.trod_string Tryz.underlying9 h0
 obtain⟨u,hu,hyu,-⟩:=DataW.trod_string Tryz.underlying9 h1
 obtain⟨x,hx,hyx,-⟩:=DataW.trod_string Tryz.underlying9 h2
 refine⟨⟨s.data.toList,u.data.toList,x.data.toList⟩, ?_,by rw[hy,hys,hyu,hyx]⟩
 have hd:cs=cs.take 1++ ((cs.drop 1).take 1++ (cs.drop 2).take 1):=by
  rw[show(cs.drop 2).take 1=cs.drop 2 from List.take_of_length_le (by rw[List.length_drop];omega),show cs.drop 2=(cs.drop 1).drop 1 by rw[List.drop_drop],List.take_append_drop,List.take_append_drop]
 rw[hd,hs,hu,hx]
 rfl
theorem w6_ {H:Type} {enc:TypeId×Value→H} {W:World} {r:Reach} {b0 base:Nat} {sp:Nat→Bool} {held:Bool} {v:Value} {d:DataW H} {p:List MemPlace}
  (hval:Value.okWide Tryz.prog W r b0 22 v) (hd:DataW.Trod enc Tryz.prog W base sp held 22 v d p):
  ∃l,FiSl W v l∧(l= []∨ ∃es sp',d= .slice es sp'∧ ∀i,i<l.length→ ∃e,e∈es∧e= .agg [.lit (.string (l.getD i fi0).dir), .lit (.string (l.getD i fi0).name), .lit (.string (l.getD i fi0).data)]):=by
 obtain⟨a0,len,cap,rfl⟩:=WideShapes.okWide_slice Tryz.underlying22 hval
 obtain⟨fu,hf⟩:=hd
 exact aeB_ (z:=fi0) (R:=fun a e=>e= .agg [.lit (.string a.dir), .lit (.string a.name), .lit (.string a.data)]) Tryz.underlying22 (by kernel_rfl) (by decide) q4_ hval am1_ hf
theorem anw_ {n:Int} (h: (Lit.int .u16 n).wf=true): ∃x:UInt16,Value.int .u16 n=v16 x:=by
 simp only[Lit.wf,Bool.and_eq_true,decide_eq_true_eq] at h
 have h1: (0:Int)≤n:=h.1
 have h2:n≤65535:=h.2
 refine⟨UInt16.ofNat n.toNat, ?_⟩
 unfold v16
 rw[UInt16.toNat_ofNat',Nat.mod_eq_of_lt (by omega),Int.toNat_of_nonneg h1]
theorem amJ_ {H:Type} {tell:TypeId×Value→H} {W:World} {base:Nat} {sp:Nat→Bool} {held:Bool} {n:Nat} {cs:List Value} {y:DataW H×List MemPlace}
  (h:DataW.trod tell Tryz.prog W base sp held n 24 cs=some y): ∃p:PkL,cs= [p.v]∧PkS W p.v p.l:=by
 have h1: (Tryz.prog).cellsOf 119=1:=by kernel_rfl
 rcases DataW.trod_slice Tryz.underlying24 h with⟨rfl,-⟩ | ⟨a,len,cap,elems,rest,m,-,rfl,-,-,hl,-,hlen,hel,-,-⟩
 ·exact⟨pk0,rfl, .inl (SlV.nil W)⟩
 ·rw[h1] at hel
  by_cases h0:len=0
  ·subst h0
   exact⟨⟨.slice (some a) 0 cap,[],rfl,rfl⟩,rfl, .inr ⟨rfl,a,cap,rfl⟩⟩
  ·have hex: ∀i,i<len→ ∃q:UInt16,W.cells? base (a.add (i*1)) 1=some (u16C q):=by
    intro i hi
    have h2:=hel i hi
    rw[List.getElem?_eq_getElem (by omega)] at h2
    cases hc:W.cells? base (a.add (i*1)) 1 with
    |none=>rw[hc] at h2;cases h2
    |some cs=>
     rw[hc] at h2
     obtain⟨z,hz,-,hw⟩:=DataW.trod_int Tryz.underlying119 h2
     obtain⟨q,hq⟩:=anw_ hw
     exact⟨q,by rw[hz,hq];rfl⟩
   obtain⟨f,hf⟩: ∃f:Nat→UInt16,∀i,i<len→W.cells? base (a.add (i*1)) 1=some (u16C (f i)):=by
    classical
    refine⟨fun i=>if h:i<len then Classical.choose (hex i h) else 0,fun i hi=> ?_⟩
    simp only[dif_pos hi]
    exact Classical.choose_spec (hex i hi)
   obtain⟨-,-,hg⟩:=World.cells?_some (hf 0 (by omega))
   have hg0:=hg 0 (by omega)
   obtain⟨blk,off,spt⟩:=a
   have hcell:W.cell? ((Addr.mk blk off spt).add (0*1) |>.add 0)=some (v16 (f 0)):=hg0
   unfold World.cell? at hcell
   have hb: ((Addr.mk blk off spt).add (0*1) |>.add 0).block=blk:=rfl
   rw[hb] at hcell
   split at hcell
   ·rename_i arr E fz hh
    split at hcell
    ·cases hcell
    ·rename_i hsp
     have hspt:spt=none:=by
      cases spt with
      |none=>rfl
      |some q=>exact absurd rfl hsp
     subst hspt
     have hoff:off<arr.size:=(Array.getElem?_eq_some_iff.1 hcell).1
     have hll: ((List.range len).map f).length=len:=by simp
     have hgd: ∀i,i<len→((List.range len).map f).getD i 0=f i:=fun i hi=>by
      rw[List.getD_eq_getElem?_getD,List.getElem?_map,List.getElem?_range hi];rfl
     have hs:=amH_ (W:=W) (base:=base) (b:=blk) (off:=off) (c:=cap) (l:=(List.range len).map f) (enc:=u16C) (z:=0) (by decide) akK_ (fun i hi=>by
      rw[hll] at hi
      rw[hf i hi,hgd i hi]) hh (by omega) (by rw[hll];exact hl)
     rw[hll] at hs
     exact⟨⟨.slice (some ⟨blk,off,none⟩) len cap,(List.range len).map f,rfl,rfl⟩,rfl, .inl hs⟩
   ·cases hcell
theorem apj_ {H:Type} {tell:TypeId×Value→H} {W:World} {base:Nat} {sp:Nat→Bool} {held:Bool} (n:Nat) (cs:List Value) (y:DataW H×List MemPlace)
  (h:DataW.trod tell Tryz.prog W base sp held n 31 cs=some y): ∃a:ActL,cs=acC a∧ActOk W a:=by
 obtain⟨xs,m,-,-,hlen,hxl,hel⟩:=DataW.trod_struct Tryz.underlying31 h
 have hc: (Tryz.prog).cellsOf 31=6:=by kernel_rfl
 have hci: (Tryz.prog).cellsOf 3=1:=by kernel_rfl
 have hcs: (Tryz.prog).cellsOf 9=1:=by kernel_rfl
 have hcp: (Tryz.prog).cellsOf 24=1:=by kernel_rfl
 rw[hc] at hlen
 have hxl:xs.length=6:=hxl
 have h0:DataW.trod tell Tryz.prog W base sp held m 3 ((cs.drop 0).take ((Tryz.prog).cellsOf 3))=xs[0]? :=hel 0 _ rfl
 rw[hci,List.getElem?_eq_getElem (by omega)] at h0
 have h1:DataW.trod tell Tryz.prog W base sp held m 3 ((cs.drop 1).take ((Tryz.prog).cellsOf 3))=xs[1]? :=hel 1 _ rfl
 rw[hci,List.getElem?_eq_getElem (by omega)] at h1
 have h2:DataW.trod tell Tryz.prog W base sp held m 9 ((cs.drop 2).take ((Tryz.prog).cellsOf 9))=xs[2]? :=hel 2 _ rfl
 rw[hcs,List.getElem?_eq_getElem (by omega)] at h2
 have h3:DataW.trod tell Tryz.prog W base sp held m 9 ((cs.drop 3).take ((Tryz.prog).cellsOf 9))=xs[3]? :=hel 3 _ rfl
 rw[hcs,List.getElem?_eq_getElem (by omega)] at h3
 have h4:DataW.trod tell Tryz.prog W base sp held m 9 ((cs.drop 4).take ((Tryz.prog).cellsOf 9))=xs[4]? :=hel 4 _ rfl
 rw[hcs,List.getElem?_eq_getElem (by omega)] at h4
 have h5:DataW.trod tell Tryz.prog W base sp held m 24 ((cs.drop 5).take ((Tryz.prog).cellsOf 24))=xs[5]? :=hel 5 _ rfl
 rw[hcp,List.getElem?_eq_getElem (by omega)] at h5
 obtain⟨k,hk,-,-⟩:=DataW.trod_int Tryz.underlying3 h0
 obtain⟨i,hi,-,hiw⟩:=DataW.trod_int Tryz.underlying3 h1
 obtain⟨d,hd,-,-⟩:=DataW.trod_string Tryz.underlying9 h2
 obtain⟨u,hu,-,-⟩:=DataW.trod_string Tryz.underlying9 h3
 obtain⟨s,hs,-,-⟩:=DataW.trod_string Tryz.underlying9 h4
 obtain⟨p,hp,hpk⟩:=amJ_ h5
 refine⟨⟨k,i,d.data.toList,u.data.toList,s.data.toList,p⟩, ?_,hpk, ?_⟩
 ·have hd6:cs=(cs.drop 0).take 1++ ((cs.drop 1).take 1++ ((cs.drop 2).take 1++ ((cs.drop 3).take 1++ ((cs.drop 4).take 1++ (cs.drop 5).take 1)))):=by
   match cs,hlen with
   | [c0,c1,c2,c3,c4,c5],_=>rfl
  rw[hd6,hk,hi,hd,hu,hs,hp]
  rfl
 ·simp only[Lit.wf,Bool.and_eq_true,decide_eq_true_eq] at hiw
  have g1: (-9223372036854775808:Int)≤i:=by simpa [IntKind.min,IntKind.bits,IntKind.signed] using hiw.1
  have g2:i≤9223372036854775807:=by simpa [IntKind.max,IntKind.bits,IntKind.signed] using hiw.2
  exact⟨g1,by show i<9223372036854775808;omega⟩
theorem Zm_ {H:Type} {enc:TypeId×Value→H} {W:World} {r:Reach} {b0 base:Nat} {sp:Nat→Bool} {held:Bool} {v:Value} {d:DataW H} {p:List MemPlace}
  (hval:Value.okWide Tryz.prog W r b0 23 v) (hd:DataW.Trod enc Tryz.prog W base sp held 23 v d p):
  ∃l,AcSl W v l∧ ∀a,a∈l→ActOk W a:=by
 obtain⟨a0,len,cap,rfl⟩:=WideShapes.okWide_slice Tryz.underlying23 hval
 obtain⟨fu,hf⟩:=hd
 obtain⟨l,h1,h2⟩:=aeB_ (z:=ac0) (R:=fun a _=>ActOk W a) Tryz.underlying23 (by kernel_rfl) (by decide) JK_ hval (fun n cs y h=>apj_ n cs y h) hf
 refine⟨l,h1,fun a ha=> ?_⟩
 rcases h2 with rfl| ⟨es,sp',-,h3⟩
 ·cases ha
 ·obtain⟨i,hi,rfl⟩:=List.getElem_of_mem ha
  obtain⟨-,-,h4⟩:=h3 i hi
  rw[List.getD_eq_getElem?_getD,List.getElem?_eq_getElem hi] at h4
  exact h4
theorem JF_ {H:Type} {enc:TypeId×Value→H} {W:World} {base:Nat} {sp:Nat→Bool} {held:Bool} {v:Value} {d:DataW H} {p:List MemPlace}
  (hd:DataW.Trod enc Tryz.prog W base sp held 24 v d p) (hv:v.cells.toList= [v]): ∃p:PkL,v=p.v∧PkS W p.v p.l:=by
 obtain⟨fu,hf⟩:=hd
 rw[hv] at hf
 obtain⟨p,hp,h⟩:=amJ_ hf
 exact⟨p,by simpa using hp,h⟩
end Go.Proofs
end
section
open Go Go.Proofs Go.Sx Go.StP Go.Flo
namespace Go.Proofs
set_option maxRecDepth 10000
set_option maxHeartbeats 1000000
set_option linter.unusedSimpArgs false
def WM_:DataW Unit:= .agg [.lit (.string z1_), .lit (.string kI_), .lit (.string WL_)]
theorem Ky_ {W:World} {base:Nat} {sp:Nat→Bool} {held:Bool} {fuel:Nat} {cs:List Value} {p:List MemPlace}
  (hd:DataW.trod (fun _=>()) Tryz.prog W base sp held fuel 131 cs=some (WM_,p)):cs= [vs z1_,vs kI_,vs WL_]:=by
 obtain⟨xs,m,-,hx,hlen,hxl,hel⟩:=DataW.trod_array Tryz.underlying131 hd
 have hc: (Tryz.prog).cellsOf 131=3:=by kernel_rfl
 have h1: (Tryz.prog).cellsOf 9=1:=by kernel_rfl
 rw[hc] at hlen
 rw[h1] at hel
 have hm:xs.map (·.1)= [.lit (.string z1_), .lit (.string kI_), .lit (.string WL_)]:=by
  have:=congrArg Prod.fst hx
  unfold WM_ at this
  simp only[DataW.agg.injEq] at this
  exact this.symm
 have h0:=hel 0 (by omega)
 have h2:=hel 1 (by omega)
 have h3:=hel 2 (by omega)
 rw[List.getElem?_eq_getElem (by omega)] at h0 h2 h3
 obtain⟨s0,hs0,hy0,-⟩:=DataW.trod_string Tryz.underlying9 h0
 obtain⟨s1,hs1,hy1,-⟩:=DataW.trod_string Tryz.underlying9 h2
 obtain⟨s2,hs2,hy2,-⟩:=DataW.trod_string Tryz.underlying9 h3
 match xs,hxl,hm,hy0,hy1,hy2 with
 | [x0,x1,x2],_,hm,hy0,hy1,hy2=>
  simp only[List.map_cons,List.map_nil,List.cons.injEq,and_true] at hm
  simp only[List.getElem_cons_zero,List.getElem_cons_succ] at hy0 hy1 hy2
  obtain⟨m0,m1,m2⟩:=hm
  rw[hy0] at m0
  rw[hy1] at m1
  rw[hy2] at m2
  simp only[DataW.lit.injEq,Lit.string.injEq] at m0 m1 m2
  match cs,hlen with
  | [c0,c1,c2],_=>
   simp only[Nat.zero_mul,List.drop_zero,List.take_succ_cons,List.take_zero,List.cons.injEq,and_true,Nat.one_mul,List.drop_succ_cons,Nat.reduceMul] at hs0 hs1 hs2
   rw[hs0,hs1,hs2,←m0,←m1,←m2]
   rfl
theorem xU_ {W:World}: ∀ {laid:List (String×DataW Unit)} {ps:List MemPlace},DataW.LaidVars Tryz.prog W laid ps→("sediment/disk.order",WM_)∈laid→wR_ W
 | [],_,_,hm=>by cases hm
 | (n',d')::rest,ps,h,hm=>by
  obtain⟨g',t',cs,fuel,p,q,hg',ht',hvar,hd,hr,-⟩:=h
  rcases List.mem_cons.1 hm with hm|hm
  ·cases hm
   have hg: (Tryz.prog).globalNamed "sediment/disk.order" =some 0:=by kernel_rfl
   have hty: ((Tryz.prog).globals[(0:Nat)]?).map (·.type)=some 131:=by kernel_rfl
   obtain rfl:=Option.some.inj (hg.symm.trans hg')
   obtain rfl:=Option.some.inj (hty.symm.trans ht')
   have hcs:=Ky_ hd
   simp only[World.var?,hg,Option.bind_some] at hvar
   split at hvar
   ·rename_i cs' e f hb
    cases hvar
    refine⟨e,f, ?_⟩
    rw[hb]
    congr 2
    apply Array.ext'
    rw[hcs]
   ·cases hvar
  ·exact xU_ hr hm
end Go.Proofs
end
namespace Go.Sx
open Go
theorem Kd_ {P:Program} {f:FuncId} {fn:Func} {s:ChangeSpec} {c:OpenClaim}
  (h1: (c.wf (OpenSpec.ofChange s))=true)
  (h2: (laidOutB P)=true)
  (h3: (mapsRowed P)=true)
  (h4: (fn.params.all (P.readableRec ·))=true)
  (h5: (namedTie P c.named s.vars)=true)
  (h6: ((c.stops== []))=true)
  (h7: ((P.stops== []))=true)
  (h8: ((c.knobs== []))=true)
  (h9: ((P.stopKnobs== []))=true)
  (h10: ((c.inPlace==P.inPlace f))=true)
  (h11: ((c.unfollowed==P.unfollowed f))=true)
  (h12: ((c.recurses==P.recurses f))=true)
  (h13: ((c.named==P.varsNamed f))=true)
  (h14: ((c.maps==(fn.params.toList++s.plain.varTypes P).any (P.mapsRec ·)))=true)
  (h15: ((c.ifaces==(fn.params.toList++s.plain.varTypes P).any (P.ifacesRec ·)))=true)
  (h16: ((c.mapsOut==P.mapsAmong fn.resultTypes.toList))=true)
  (h17: ((c.loops==(fn.params.toList++s.plain.varTypes P).any (P.loopsFrom ·)))=true)
  (h18: ((c.wideKeys==(fn.params.toList++s.plain.varTypes P++fn.resultTypes.toList).any (P.wideKeysFrom ·)))=true)
  (h19: (s.vars.all (P.varReadable ·))=true)
  (h20: (fn.resultTypes.all (fun t=>P.readableRec t&&decide (t<P.types.size)))=true)
  (h21: ((c.ifacesOut==fn.resultTypes.toList.any (P.ifacesRec ·)))=true)
  (h22: ((c.loopsOut==fn.resultTypes.toList.any (P.loopsFrom ·)))=true)
  (h23: ((c.plainKeys==P.plainKeys))=true)
  (h24: (c.shortTexts.isNone)=true)
  (h25: (P.stopsHeard)=true)
  (h26: (P.mayEnter)=true)
  (h27: ((c.lifted==P.liftsFinal))=true)
  (h28: ((P.make==some c.make))=true)
  (h29: ((c.kinds==(if c.domain.isEmpty then [] else fn.params.toList.map fun t=>match P.underlying t with|some (.int k)=>some k|_=>none)))=true)
  (h30: ((c.pinned==c.pinnedBy))=true)
  (h31: ((c.veiled==(fn.params.toList++s.plain.varTypes P++fn.resultTypes.toList).any (P.veiledRec ·)))=true)
  (h32: (c.veiledFits P fn.params.toList (fn.params.toList++s.plain.varTypes P++fn.resultTypes.toList))=true):
  joinedFacts P f fn s c=true:=by
 unfold joinedFacts
 exact(Bool.and_eq_true_iff.2 ⟨(Bool.and_eq_true_iff.2 ⟨(Bool.and_eq_true_iff.2 ⟨(Bool.and_eq_true_iff.2 ⟨(Bool.and_eq_true_iff.2 ⟨(Bool.and_eq_true_iff.2 ⟨(Bool.and_eq_true_iff.2 ⟨(Bool.and_eq_true_iff.2 ⟨(Bool.and_eq_true_iff.2 ⟨(Bool.and_eq_true_iff.2 ⟨(Bool.and_eq_true_iff.2 ⟨(Bool.and_eq_true_iff.2 ⟨(Bool.and_eq_true_iff.2 ⟨(Bool.and_eq_true_iff.2 ⟨(Bool.and_eq_true_iff.2 ⟨(Bool.and_eq_true_iff.2 ⟨(Bool.and_eq_true_iff.2 ⟨(Bool.and_eq_true_iff.2 ⟨(Bool.and_eq_true_iff.2 ⟨(Bool.and_eq_true_iff.2 ⟨(Bool.and_eq_true_iff.2 ⟨(Bool.and_eq_true_iff.2 ⟨(Bool.and_eq_true_iff.2 ⟨(Bool.and_eq_true_iff.2 ⟨(Bool.and_eq_true_iff.2 ⟨(Bool.and_eq_true_iff.2 ⟨(Bool.and_eq_true_iff.2 ⟨(Bool.and_eq_true_iff.2 ⟨(Bool.and_eq_true_iff.2 ⟨(Bool.and_eq_true_iff.2 ⟨(Bool.and_eq_true_iff.2 ⟨h1,h2⟩),h3⟩),h4⟩),h5⟩),h6⟩),h7⟩),h8⟩),h9⟩),h10⟩),h11⟩),h12⟩),h13⟩),h14⟩),h15⟩),h16⟩),h17⟩),h18⟩),h19⟩),h20⟩),h21⟩),h22⟩),h23⟩),h24⟩),h25⟩),h26⟩),h27⟩),h28⟩),h29⟩),h30⟩),h31⟩),h32⟩)
end Go.Sx
section
open Go Go.Proofs Go.Sx Go.StP Go.Flo
namespace Go.Proofs
set_option maxRecDepth 10000
set_option maxHeartbeats 1000000
set_option linter.unusedSimpArgs false
theorem aiH_ {D:za_} {E:TypeId} {m n:Nat} {v:Value} {cs:List Value} (h:GrI D E m v n cs): ∃D1 D2,D.Perm (D1++D2)∧Gr D1 E m v n cs:=by
 obtain⟨X,hX,hg⟩:=h
 cases hs:slB v with
 |none=>exact⟨[],D,List.Perm.refl _,hg.keep fun b o hb=>by rw[hs] at hb;cases hb⟩
 |some b=>
  obtain⟨arr,ha⟩:=ZU_ hg hs
  obtain⟨s,t,rfl⟩:=List.append_of_mem (hX _ (zv_ ha))
  refine⟨[(b, .cells arr E (0,0))],s++t,List.perm_middle,hg.keep fun b' o hb ho=> ?_⟩
  rw[hs] at hb
  cases hb
  rw[ha] at ho
  cases ho
  simp[Sx.look]
theorem als_ {n:Nat} {L M:za_} (h:New n L) (p:L.Perm M):New n M:=New.of_le fun c hc=>h.le c ((p.map Prod.fst).mem_iff.2 hc)
theorem V6_ {S:DiskL} {a:ActL} (h6: ¬6≤a.kind.tmod 9):doA S a=doV S (a.kind.tmod 9) a.dir a.name a.s:=by
 unfold doA
 rw[if_neg (by omega),if_neg (by omega),if_neg (by omega)]
def HadL (n i:Nat):Prop:=n≤3000000* (i+1)
theorem ao9_ {n:Nat} (h:n≤3000000):HadL n 0:=Nat.le_trans h (Nat.le_of_eq (Nat.mul_one 3000000).symm)
theorem ai3_ {n i:Nat} (h:HadL n i):HadL n (i+1):=Nat.le_trans h (Nat.mul_le_mul_left 3000000 (Nat.le_succ _))
theorem amf_ {n i m:Nat} (h:HadL n i) (hm:m≤3000000):HadL (n+m) (i+1):=Nat.le_trans (Nat.add_le_add h hm) (Nat.le_of_eq (Nat.mul_succ 3000000 (i+1)).symm)
theorem ajW_ {n i:Nat} (h:HadL n i) (hi:i≤100):n≤303000000:=Nat.le_trans h (Nat.mul_le_mul_left 3000000 (show i+1≤101 by omega))
structure BgG where
 i:Nat
 S:DiskL
 G:DkG
 X:za_
 had:List FiL
 v:Value
 D:za_
 DG:za_
def inF (had:List FiL) (f:FiL):Bool:=had.any fun h=>h.dir==f.dir&& (decide (f.data.length≤h.data.length)&&h.data.take f.data.length==f.data)
theorem alw_ {had:List FiL} {f:FiL} {k:Nat} (h:k<had.length):inF (had.take (k+1)) f=(inF (had.take k) f|| ((had.getD k fi0).dir==f.dir&& (decide (f.data.length≤ (had.getD k fi0).data.length)&& (had.getD k fi0).data.take f.data.length==f.data))):=by
 unfold inF
 rw[StP.take_snoc (z:=fi0) h,List.any_append]
 simp
theorem amg_ {had:List FiL} {f:FiL} (h: ∃g,g∈had∧g.dir=f.dir∧f.data.length≤g.data.length∧g.data.take f.data.length=f.data):inF had f=true:=by
 obtain⟨g,h1,h2,h3,h4⟩:=h
 exact List.any_eq_true.2 ⟨g,h1,by rw[h2,h4,decide_eq_true h3];simp⟩
structure InG where
 k:Nat
 c:Bool
set_option linter.defProp false
def zt_:=And.intro (And.intro (@zc_) (And.intro (@zd_) (@XZ_))) (And.intro (@Zv_) (And.intro (@ZA_) (@wF_)))
theorem Xx_ (v1 v2:Value) (l:List FiL) (acts:List ActL) (p q:PkL) (w:World) (hG:wR_ w) (hv:FiSl w v1 l) (hb:FiB l) (hva:AcSl w v2 acts) (hao: ∀a,a∈acts→ActOk w a) (hp:PkS w p.v p.l) (hq:PkS w q.v q.l):
  Rets Tryz.prog 6 #[v1,v2,p.v,q.v] w (fun v D=>v= .bool true∧D= []):=by
 have ln:=hva.len
 have lnp:=hp.len
 have lnq:=hq.len
 obtain⟨rb,off,arr,E,fz,hr⟩:=hva.row
 refine Rets.enterV Tryz.func6 rfl (rs:= [.tmp 8]) Tryz.results6 Tryz.ntmps6 ?_
 refine kf ?_
 first|with_reducible refine ks [1000007] @zt_ ?_|refine kp @zt_ ?_
 refine Ow.callFV rfl Tryz.call14 (fun w' hw'=>zN_ w' (zw_ hG hw' trivial)) ?_
 refine ko @zt_ ?_
 first|with_reducible refine ks [] @zt_ ?_|refine kp @zt_ ?_
 refine Ow.callFV rfl Tryz.call15 (fun w' hw'=>v8_ v1 (.slice none 0 0) l [] w' (hv.oldN hw' trivial) hb (SlV.nil w') (by simp)) ?_
 cases hgt:Zj_ l [] with
 |true=>
  refine ko @zt_ ?_
  first|with_reducible refine ks [] @zt_ ?_|refine kp @zt_ ?_
  refine Ow.callFV rfl Tryz.call14 (fun w' hw'=>zN_ w' (zw_ hG hw' trivial)) ?_
  refine ko @zt_ ?_
  first|with_reducible refine ks [] @zt_ ?_|refine kp @zt_ ?_
  refine⟨_,(ke @zt_),trivial, ?_⟩
  rfl
 |false=>
  obtain⟨hll,-,hlb⟩:=XM_ hgt
  cases hp1:decide ((100:Int)< (p.l.length:Int)) with
  |true=>
   refine ko (And.intro @zt_ (And.intro @lnp (@hp1))) ?_
   first|with_reducible refine ks [] @zt_ ?_|refine kp @zt_ ?_
   refine Ow.callFV rfl Tryz.call14 (fun w' hw'=>zN_ w' (zw_ hG hw' trivial)) ?_
   refine ko @zt_ ?_
   first|with_reducible refine ks [] @zt_ ?_|refine kp @zt_ ?_
   refine⟨_,(ke @zt_),trivial, ?_⟩
   rfl
  |false=>
   cases hq1:decide ((100:Int)< (q.l.length:Int)) with
   |true=>
    refine ko (And.intro @zt_ (And.intro @lnp (And.intro @hp1 (And.intro @lnq (@hq1))))) ?_
    first|with_reducible refine ks [] @zt_ ?_|refine kp @zt_ ?_
    refine Ow.callFV rfl Tryz.call14 (fun w' hw'=>zN_ w' (zw_ hG hw' trivial)) ?_
    refine ko @zt_ ?_
    first|with_reducible refine ks [] @zt_ ?_|refine kp @zt_ ?_
    refine⟨_,(ke @zt_),trivial, ?_⟩
    rfl
   |false=>
    have hpl:=of_decide_eq_false hp1
    have hql:=of_decide_eq_false hq1
    refine ko (And.intro @zt_ (And.intro @lnp (And.intro @hp1 (And.intro @lnq (@hq1))))) ?_
    first|with_reducible refine ks [] @zt_ ?_|refine kp @zt_ ?_
    refine Ow.callC rfl rfl Tryz.call16 (fun w' hw'=>Wr_ 1000000 v1 l w' (by decide) (zw_ hG hw' trivial) (hv.oldN hw' trivial) (by omega) hb) (fun B0 v0 D0 hA0 hB0 hN0 hS0=> ?_)
    obtain⟨G0,rfl,hP0⟩:=hS0
    rw[List.nil_append]
    have hN0':New w.heap.size D0:=hN0.mono hB0
    have hD0:DkA D0 G0 (ofD 1000000 l) l.length:=⟨hP0,acb_ _ l,ajD_ _ l fun f hf=>by have:=(hlb f hf).1;omega⟩
    have hfl0: (zM_ (ofD 1000000 l)).length≤3000000:=xm_ (hD0.b (by omega)) 3 (Nat.le_refl _)
    refine ko @zt_ ?_
    first|with_reducible refine ks [] @zt_ ?_|refine kp @zt_ ?_
    refine Ow.callC rfl rfl Tryz.call19 (fun w' hw'=>jO_ w' G0 (ofD 1000000 l) (hP0.world hw') (zw_ hG hw' hN0') (hD0.b (by omega))) (fun B1 v10 D1 hA1 hB1 hN1 hS1=> ?_)
    obtain⟨D1a,D1b,hp1',hG1⟩:=aiH_ hS1
    have hN1':=als_ (hN1.mono hB1) hp1'
    refine ko @zt_ ?_
    first|with_reducible refine ks [1000007] (And.intro @zt_ @ln) ?_|refine kp (And.intro @zt_ @ln) ?_
    refine Cw.permL (M:=D0++ (D1a++D1b)) (List.Perm.append_left D0 hp1'.symm) ?_
    refine Cw.cutO (G:=BgG) [10,11,36,37,38,39,40,41,42,43,44,45,46,47,48,49,50,51,52,53,54,55,56,57,58,59,60,61,62,63,64,65,66,67,68,69] (fun g=> [(10,g.v)]) (fun g=>g.X++ (g.D++g.DG)) (fun g=>g.i≤40∧DkA g.X g.G g.S (l.length+g.i)∧HadS g.S g.had∧g.G.bd=G0.bd∧New w.heap.size g.X∧New w.heap.size (g.D++g.DG)∧Gr g.D 36 3 g.v g.had.length (g.had.map fiC).flatten∧HadL g.had.length g.i) ?_ ?_
    ·first|with_reducible refine ks [] (And.intro @zt_ @ln) ?_|refine kp (And.intro @zt_ @ln) ?_
     refine Cw.loopG (G:=BgG) [36,37,38,39,40,41,42,43,46,47,48,49,50,51,52,53,54,55,56,57,58,59,60,61,62,63,64,65,66,67,68,69,10,44,45,11] (fun g=> [(10,g.v),(11,vi g.i)]) (fun g=>g.X++ (g.D++g.DG)) (fun g=>g.i≤acts.length∧g.i≤40∧DkA g.X g.G g.S (l.length+g.i)∧vx_ g.S∧af9_ g.S∧HadS g.S g.had∧g.G.bd=G0.bd∧New w.heap.size g.X∧New w.heap.size (g.D++g.DG)∧Gr g.D 36 3 g.v g.had.length (g.had.map fiC).flatten∧HadL g.had.length g.i) (fun g=>acts.length - g.i) ⟨0,ofD 1000000 l,G0,D0,zM_ (ofD 1000000 l),v10,D1a,D1b⟩ rfl rfl ?_ ?_
     ·exact⟨Nat.zero_le _,Nat.zero_le _,hD0,(VT_ _ l).1,am5_ _ l,apW_ _ l,rfl,hN0',hN1',hG1,ao9_ hfl0⟩
     intro g j hg
     refine kv ?_
     clear hD0 hN0' hP0 hG1 hN1' hfl0 hp1'
     obtain⟨i,S,G,X,had,v10,D,DG⟩:=g
     simp only at hg ⊢
     obtain⟨hi,hi4,hA,hC,hDj,hHd,hbd,hN,hNG,hG1,hhl⟩:=hg
     rw[←hbd]
     have hNr:New w.heap.size (X++ (D++DG)):=hN.app hNG
     by_cases hlt:i<acts.length∧i<40
     ·have d1:decide ((i:Int)< (acts.length:Int))=true:=decide_eq_true (by omega)
      have d2:decide ((i:Int)<40)=true:=decide_eq_true (by omega)
      have ix:=hr.idx true i hlt.1
      have rda: ∀L,New w.heap.size L→zx_ w L rb=some (.cells arr E fz):=fun L hL=>by rw[z5_ (hL.not (hr.lt (by omega)))];exact hr.has (by omega)
      have rd1:=rda _ hNr
      have lda:=aet_ hr hlt.1
      have ld0:=fun n=>ajE_ hr hlt.1 n
      simp only[Nat.add_zero] at ld0
      have hok:=hao (acts.getD i ac0) (jL_ hlt.1)
      generalize acts.getD i ac0=a at*
      have hup:DkA X G S (l.length+ (i+1)):=⟨hA.P,hA.H,hA.B.mono (by omega)⟩
      first|with_reducible refine ks [9] (And.intro @zt_ (And.intro @ln (And.intro @d1 (And.intro @d2 (And.intro @ix (And.intro @rd1 (@lda))))))) ?_|refine kp (And.intro @zt_ (And.intro @ln (And.intro @d1 (And.intro @d2 (And.intro @ix (And.intro @rd1 (@lda))))))) ?_
      refine Ow.callFV rfl Tryz.call17 (fun w' hw'=>vu_ a w' (hok.old hw' hNr)) ?_
      cases hga:Zt_ a with
      |true=>
       refine ko @zt_ ?_
       first|with_reducible refine ks [] @zt_ ?_|refine kp @zt_ ?_
       exact Again.mk ⟨i+1,S,G,X,had,v10,D,DG⟩ (by show acts.length - (i+1)<acts.length - i;omega) ⟨hlt.1,hlt.2,hup,hC,hDj,hHd,rfl,hN,hNG,hG1,ai3_ hhl⟩ rfl rfl
      |false=>
       have hrem:=rem9 a.kind
       by_cases h6:6≤a.kind.tmod 9
       ·have d6:decide (6≤a.kind.tmod 9)=true:=decide_eq_true h6
        refine ko (And.intro @zt_ (And.intro @ln (And.intro @ix (And.intro @rd1 (And.intro @ld0 (And.intro @hrem (@d6))))))) ?_
        first|with_reducible refine ks [] @zt_ ?_|refine kp @zt_ ?_
        exact Again.mk ⟨i+1,S,G,X,had,v10,D,DG⟩ (by show acts.length - (i+1)<acts.length - i;omega) ⟨hlt.1,hlt.2,hup,hC,hDj,hHd,rfl,hN,hNG,hG1,ai3_ hhl⟩ rfl rfl
       ·have d6:decide (6≤a.kind.tmod 9)=false:=decide_eq_false h6
        have hda:=V6_ (S:=S) h6
        have hst:=Qc_ S (a.kind.tmod 9) a.dir a.name a.s
        refine ko (And.intro @zt_ (And.intro @ln (And.intro @ix (And.intro @rd1 (And.intro @ld0 (And.intro @hrem (@d6))))))) ?_
        first|with_reducible refine ks [] (And.intro @zt_ (And.intro @ix (And.intro @rd1 (@lda)))) ?_|refine kp (And.intro @zt_ (And.intro @ix (And.intro @rd1 (@lda)))) ?_
        refine Ow.callX (X:=X) (Y:=D++DG) rfl rfl rfl Tryz.call18 (fun w' hw' hX' hn'=>ZP_ X G S (l.length+i) a w' hX' hn' hA (by omega) (zw_ hG hw' hNr) (xS_ hG hN) (hok.old hw' hNr) hga (hok.pkb hw'.size hN)) (fun v2' D2 hC2 hS2=> ?_)
        obtain⟨rfl,G2,hbd2,hA2⟩:=hS2
        have hN2:New w.heap.size D2:=jE_ hC2 hN
        have hA2':DkA D2 G2 (doA S a).1 (l.length+ (i+1)):=hA2
        clear hA2
        rw[hda] at*
        have hC':=vf_ hC hst
        have hDj':=air_ hA.P.ok hA.H hC hDj hst
        have hHd':=alG_ hA.P.ok hA.H hC hDj hHd hst
        rw[←hbd2] at*
        generalize doV S (a.kind.tmod 9) a.dir a.name a.s=q' at*
        obtain⟨S',e⟩:=q'
        simp only at hA2' hC' hDj' hHd' ⊢
        have hfl:=xm_ (hA2'.b (by omega)) 3 (Nat.le_refl _)
        have hfl': (zM_ S').length≤3000000:=hfl
        refine ko @zt_ ?_
        first|with_reducible refine ks [] @zt_ ?_|refine kp @zt_ ?_
        refine Ow.callC rfl rfl Tryz.call19 (fun w' hw'=>jO_ w' G2 S' ((hA2'.P.mono fun b o h=>zi_ h).world hw') (zw_ hG hw' (hN2.app hNG)) (hA2'.b (by omega))) (fun B3 v3 D3 hA3 hB3 hN3 hS3=> ?_)
        have hN3':New w.heap.size D3:=hN3.mono hB3
        refine ko @zt_ ?_
        have hhs:=ajW_ hhl (by omega)
        refine Ow.permL (M:=D++ (D2++ (DG++D3))) (by classical exact List.perm_iff_count.2 fun a=>by simp only[List.count_append,List.count_cons,List.count_nil]<;>omega) ?_
        refine Ow.appendXG (e:=36) (k:=(zM_ S').length) (new:=((zM_ S').map fiC).flatten) (X:=D) v10 rfl rfl rfl rfl Tryz.underlying22 an8_ (by kernel_rfl) zrFi (by rw[wF_,List.size_toArray,q4_]) Tryz.underlying22 (by intro k h;cases h) hG1 (fun w' hw'=>((hS3.mono (fun q hq=>by simp[hq])).slV (z:=fi0) hw' rfl rfl q4_).appX q4_ adu_) (by omega) (fun B5 v5 D5 hA5 hB5 hG5 hk51 hk52 hlk5=> ?_)
        have hN5:New w.heap.size D5:=New.of_le fun q hq=>by
         rcases hk52 q hq with h|h
         ·exact hNG.le q (by rw[zr_];exact List.mem_append_left _ h)
         ·omega
        have hNG2:New w.heap.size DG:=New.of_le fun q hq=>hNG.le q (by rw[zr_];exact List.mem_append_right _ hq)
        refine ko @zt_ ?_
        refine Cw.permL (M:=D2++ (D5++ (DG++D3))) (by classical exact List.perm_iff_count.2 fun a=>by simp only[List.count_append,List.count_cons,List.count_nil]<;>omega) ?_
        first|with_reducible refine ks [] @zt_ ?_|refine kp @zt_ ?_
        exact Again.mk ⟨i+1,S',G2,D2,had++zM_ S',v5,D5,DG++D3⟩ (by show acts.length - (i+1)<acts.length - i;omega) ⟨hlt.1,hlt.2,hA2',hC',hDj',hHd',rfl,hN2,hN5.app (hNG2.app hN3'),by rw[List.length_append,List.map_append,List.flatten_append];exact hG5,by rw[List.length_append];exact amf_ hhl hfl'⟩ rfl rfl
     ·have d1: (decide ((i:Int)< (acts.length:Int))=true∧decide ((i:Int)<40)=false)∨decide ((i:Int)< (acts.length:Int))=false:=by
       by_cases h1:i<acts.length
       ·exact .inl ⟨decide_eq_true (by omega),decide_eq_false (by omega)⟩
       ·exact .inr (decide_eq_false (by omega))
      rcases d1 with⟨d1,d2⟩ |d1
      ·first|with_reducible refine ks [] (And.intro @zt_ (And.intro @ln (And.intro @d1 (@d2)))) ?_|refine kp (And.intro @zt_ (And.intro @ln (And.intro @d1 (@d2)))) ?_
       exact CutO.mk ⟨i,S,G,X,had,v10,D,DG⟩ ⟨hi4,hA,hHd,rfl,hN,hNG,hG1,hhl⟩ rfl rfl
      ·first|with_reducible refine ks [] (And.intro @zt_ (And.intro @ln (@d1))) ?_|refine kp (And.intro @zt_ (And.intro @ln (@d1))) ?_
       exact CutO.mk ⟨i,S,G,X,had,v10,D,DG⟩ ⟨hi4,hA,hHd,rfl,hN,hNG,hG1,hhl⟩ rfl rfl
    ·intro g j hg
     refine kv ?_
     clear hD0 hN0' hP0 hG1 hN1' hfl0 hp1'
     obtain⟨i,S,G,X,had,v10,D,DG⟩:=g
     simp only at hg ⊢
     obtain⟨hi4,hA,hHd,hbd,hN,hNG,hG1,hhl⟩:=hg
     rw[←hbd]
     have hhs:=ajW_ hhl (by omega)
     have hNr:New w.heap.size (X++ (D++DG)):=hN.app hNG
     have hcd: ∀f,f∈zM_ (zT_ S p.l)→inF had f=true:=fun f hf=>amg_ (aiP_ hA.H hHd p.l hf)
     first|with_reducible refine ks [] @zt_ ?_|refine kp @zt_ ?_
     refine Ow.callX (X:=X) (Y:=D++DG) rfl rfl rfl Tryz.call22 (fun w' hw' hX' hn'=>kj_ X G S p.v p.l w' hX' hn' hA.P (zw_ hG hw' hNr) (xS_ hG hN) ((xk_ (q:=(S,p.l)) hA.B 3).b (by omega)) (hp.old hw' fun hl b hb=>hNr.not (hp.blk hl hb)) (fun hl b hb=>⟨Nat.lt_of_lt_of_le (hp.blk hl hb) hw'.size,hN.not (hp.blk hl hb)⟩) (by omega) (fun k hk=>⟨(hA.H k).2,hA.pend (by omega) k hk⟩)) (fun v72 X2 hC2 hS2=> ?_)
     obtain⟨G2,hbd2,hP2⟩:=hS2
     have hN2:New w.heap.size X2:=jE_ hC2 hN
     have hA2:DkA X2 G2 (zT_ S p.l) (l.length+i):=⟨hP2,Qe_ hA.H _,Zn_ hA.B _⟩
     have hag:=ab6_ S p.l q.l
     have hof:=Zx_ (zT_ S p.l) q.l
     rw[←hbd2] at*
     generalize zT_ S p.l=S2 at*
     have hfl2: (zM_ S2).length≤3000000:=xm_ (hA2.b (by omega)) 3 (Nat.le_refl _)
     refine ko @zt_ ?_
     first|with_reducible refine ks [] @zt_ ?_|refine kp @zt_ ?_
     refine Ow.callC rfl rfl Tryz.call19 (fun w' hw'=>jO_ w' G2 S2 ((hA2.P.mono fun b o h=>zi_ h).world hw') (zw_ hG hw' (hN2.app hNG)) (hA2.b (by omega))) (fun B3 v12 D3 hA3 hB3 hN3 hS3=> ?_)
     have hN3':New w.heap.size D3:=hN3.mono hB3
     have hNa:New w.heap.size ((X2++ (D++DG))++D3):=(hN2.app hNG).app hN3'
     have hPa:DkP ((X2++ (D++DG))++D3) G2 S2:=hA2.P.mono fun b o h=>zi_ (zi_ h)
     refine ko @zt_ ?_
     have ln12: ∀m,QO_ (.sl m) v12=some (vi (zM_ S2).length):=fun m=>km_ hS3 m
     have ln10: ∀m,QO_ (.sl m) v10=some (vi had.length):=fun m=>km_ (Gr.i hG1 (fun p hp=>hp)) m
     refine Cw.world fun wz hwz=> ?_
     obtain⟨r2,o2,a2,E2,z2,hr2,hl2⟩:=(hS3.mono (D':=(X2++ (D++DG))++D3) (fun q hq=>by simp[hq])).rowL (z:=fi0) rfl hwz q4_
     obtain⟨r1,o1,a1,E1,z1,hr1,hl1⟩:=(Gr.i hG1 (D:=(X2++ (D++DG))++D3) (fun q hq=>by simp[hq])).rowL (z:=fi0) rfl hwz q4_
     clear hwz
     have rd2:0< (zM_ S2).length→zx_ w ((X2++ (D++DG))++D3) r2=some (.cells a2 E2 z2):=fun h=>zb_ (hl2 h)
     have rd1:0<had.length→zx_ w ((X2++ (D++DG))++D3) r1=some (.cells a1 E1 z1):=fun h=>zb_ (hl1 h)
     generalize hLe: (X2++ (D++DG))++D3=L at*
     first|with_reducible refine ks [] (And.intro @zt_ @ln12) ?_|refine kp (And.intro @zt_ @ln12) ?_
     refine Cw.loopG (G:=Nat) [75,76,77,78,14,15,81,82,83,84,87,88,89,90,91,92,16,93,94,95,96,97,98,99,100,101,102,103,104,105,106,107,108,109,110,111,112,113,114,115,116,117,118,119,120,121,122,123,124,125,126,127,128,129,130,131,85,86,132,133,8,79,80,13] (fun g=> [(13,vi g)]) (fun g=>L) (fun g=>g≤ (zM_ S2).length) (fun g=>(zM_ S2).length - g) 0 rfl rfl ?_ ?_
     ·exact Nat.zero_le _
     intro i2 ji2 hi2
     refine kv ?_
     by_cases hi2:i2< (zM_ S2).length
     ·have d1:decide ((i2:Int)< ((zM_ S2).length:Int))=true:=decide_eq_true (by omega)
      have ix2:=hr2.idx true i2 hi2
      have e20: ∀n,zm_ (some (false,n)) (some (.cells a2 E2 z2)) (o2+i2*3)=some (vs ((zM_ S2).getD i2 fi0).dir):=fun n=>by have:=aiz_ hr2 hi2 n;rwa [Nat.add_zero] at this
      have e22:=fun n=>Wi_ hr2 hi2 n
      have rd2':=rd2 (by omega)
      have hin:=hcd ((zM_ S2).getD i2 fi0) (jL_ hi2)
      generalize (zM_ S2).getD i2 fi0=f at*
      first|with_reducible refine ks [] (And.intro @zt_ (And.intro @d1 (And.intro @ln12 (@ln10)))) ?_|refine kp (And.intro @zt_ (And.intro @d1 (And.intro @ln12 (@ln10)))) ?_
      refine Cw.loopG (G:=InG) [81,82,83,84,87,88,89,90,91,92,16,93,94,95,96,97,98,99,100,101,102,103,104,105,106,107,108,109,110,111,112,113,114,115,116,117,118,119,120,121,122,123,124,125,126,127,128,129,130,131,14,85,86,15] (fun g=> [(14, .bool g.c),(15,vi g.k)]) (fun g=>L) (fun g=>g.k≤had.length∧g.c=inF (had.take g.k) f) (fun g=>had.length - g.k) ⟨0,false⟩ rfl rfl ?_ ?_
      ·exact⟨Nat.zero_le _,rfl⟩
      intro g j hg
      refine kv ?_
      obtain⟨k,c⟩:=g
      simp only at hg ⊢
      obtain⟨hk,hc⟩:=hg
      by_cases hkt:k<had.length
      ·have d2:decide ((k:Int)< (had.length:Int))=true:=decide_eq_true (by omega)
       have ix1:=hr1.idx true k hkt
       have e10: ∀n,zm_ (some (false,n)) (some (.cells a1 E1 z1)) (o1+k*3)=some (vs (had.getD k fi0).dir):=fun n=>by have:=aiz_ hr1 hkt n;rwa [Nat.add_zero] at this
       have e12:=fun n=>Wi_ hr1 hkt n
       have rd1':=rd1 (by omega)
       have hnx:=alw_ (f:=f) hkt
       rw[←hc] at hnx
       generalize had.getD k fi0=h at*
       cases c with
       |true=>
        rw[Bool.true_or] at hnx
        first|with_reducible refine ks [] (And.intro @zt_ (And.intro @d2 (And.intro @ln10 (And.intro @ix2 (And.intro @rd2' (@e22)))))) ?_|refine kp (And.intro @zt_ (And.intro @d2 (And.intro @ln10 (And.intro @ix2 (And.intro @rd2' (@e22)))))) ?_
        refine Cw.regionS [r1,r2] [0,1,2,3,4,5,7,8,9,10,6,11,12,13,14,15,16,17,20,18,19,21,22,23,24,25,26,27,29,31,32,33,34,28,30,35,36,37,38,39] [] (by kernel_rfl) (by kernel_rfl) (by kernel_rfl) ?_
        simp only[zz_, ↓zk_, ↓zg_, ↓zK_, ↓zJ_,zh_]
        refine kq @zt_ ?_
        first|with_reducible refine ks [] @zt_ ?_|refine kp @zt_ ?_
        exact Again.mk ⟨k+1,true⟩ (by show had.length - (k+1)<had.length - k;omega) ⟨hkt,hnx.symm⟩ rfl rfl
       |false=>
        rw[Bool.false_or] at hnx
        cases hdr: (h.dir==f.dir) with
        |false=>
         rw[hdr,Bool.false_and] at hnx
         first|with_reducible refine ks [] (And.intro @zt_ (And.intro @d2 (And.intro @ln10 (And.intro @ix2 (And.intro @rd2' (@e22)))))) ?_|refine kp (And.intro @zt_ (And.intro @d2 (And.intro @ln10 (And.intro @ix2 (And.intro @rd2' (@e22)))))) ?_
         refine Cw.regionS [r1,r2] [0,1,2,3,4,5,7,8,9,10,6,11,12,13,14,15,16,17,20,18,19,21,22,23,24,25,26,27,29,31,32,33,34,28,30,35,36,37,38,39] [] (by kernel_rfl) (by kernel_rfl) (by kernel_rfl) ?_
         simp only[zz_, ↓zk_, ↓zg_, ↓zK_, ↓zJ_,zh_]
         refine kq (And.intro @zt_ (And.intro @ix1 (And.intro @ix2 (And.intro @rd1' (And.intro @rd2' (And.intro @e10 (And.intro @e12 (And.intro @e20 (And.intro @e22 (@hdr)))))))))) ?_
         first|with_reducible refine ks [] @zt_ ?_|refine kp @zt_ ?_
         exact Again.mk ⟨k+1,false⟩ (by show had.length - (k+1)<had.length - k;omega) ⟨hkt,hnx.symm⟩ rfl rfl
        |true=>
         rw[hdr,Bool.true_and] at hnx
         by_cases hle:f.data.length≤h.data.length
         ·have d3:decide ((f.data.length:Int)≤ (h.data.length:Int))=true:=decide_eq_true (by omega)
          have d4:decide ((0:Int)≤ (f.data.length:Int)∧(f.data.length:Int)≤ (h.data.length:Int))=true:=decide_eq_true (by omega)
          rw[decide_eq_true hle,Bool.true_and] at hnx
          first|with_reducible refine ks [] (And.intro @zt_ (And.intro @d2 (And.intro @ln10 (And.intro @ix2 (And.intro @rd2' (@e22)))))) ?_|refine kp (And.intro @zt_ (And.intro @d2 (And.intro @ln10 (And.intro @ix2 (And.intro @rd2' (@e22)))))) ?_
          refine Cw.regionS [r1,r2] [0,1,2,3,4,5,7,8,9,10,6,11,12,13,14,15,16,17,20,18,19,21,22,23,24,25,26,27,29,31,32,33,34,28,30,35,36,37,38,39] [] (by kernel_rfl) (by kernel_rfl) (by kernel_rfl) ?_
          simp only[zz_, ↓zk_, ↓zg_, ↓zK_, ↓zJ_,zh_]
          refine kq (And.intro @zt_ (And.intro @ix1 (And.intro @ix2 (And.intro @rd1' (And.intro @rd2' (And.intro @e10 (And.intro @e12 (And.intro @e20 (And.intro @e22 (And.intro @hdr (And.intro @d3 (@d4)))))))))))) ?_
          first|with_reducible refine ks [] @zt_ ?_|refine kp @zt_ ?_
          exact Again.mk ⟨k+1,_⟩ (by show had.length - (k+1)<had.length - k;omega) ⟨hkt,hnx.symm⟩ rfl rfl
         ·have d3:decide ((f.data.length:Int)≤ (h.data.length:Int))=false:=decide_eq_false (by omega)
          rw[decide_eq_false hle,Bool.false_and] at hnx
          first|with_reducible refine ks [] (And.intro @zt_ (And.intro @d2 (And.intro @ln10 (And.intro @ix2 (And.intro @rd2' (@e22)))))) ?_|refine kp (And.intro @zt_ (And.intro @d2 (And.intro @ln10 (And.intro @ix2 (And.intro @rd2' (@e22)))))) ?_
          refine Cw.regionS [r1,r2] [0,1,2,3,4,5,7,8,9,10,6,11,12,13,14,15,16,17,20,18,19,21,22,23,24,25,26,27,29,31,32,33,34,28,30,35,36,37,38,39] [] (by kernel_rfl) (by kernel_rfl) (by kernel_rfl) ?_
          simp only[zz_, ↓zk_, ↓zg_, ↓zK_, ↓zJ_,zh_]
          refine kq (And.intro @zt_ (And.intro @ix1 (And.intro @ix2 (And.intro @rd1' (And.intro @rd2' (And.intro @e10 (And.intro @e12 (And.intro @e20 (And.intro @e22 (And.intro @hdr (@d3))))))))))) ?_
          first|with_reducible refine ks [] @zt_ ?_|refine kp @zt_ ?_
          exact Again.mk ⟨k+1,false⟩ (by show had.length - (k+1)<had.length - k;omega) ⟨hkt,hnx.symm⟩ rfl rfl
      ·obtain rfl:k=had.length:=by omega
       have d2:decide ((had.length:Int)< (had.length:Int))=false:=decide_eq_false (by omega)
       rw[List.take_length,hin] at hc
       subst hc
       first|with_reducible refine ks [] (And.intro @zt_ (And.intro @d2 (@ln10))) ?_|refine kp (And.intro @zt_ (And.intro @d2 (@ln10))) ?_
       exact Again.mk (i2+1) (by omega) (by omega) rfl rfl
     ·obtain rfl:i2=(zM_ S2).length:=by omega
      have d1:decide (((zM_ S2).length:Int)< ((zM_ S2).length:Int))=false:=decide_eq_false (by omega)
      subst hLe
      first|with_reducible refine ks [] (And.intro @zt_ (And.intro @d1 (@ln12))) ?_|refine kp (And.intro @zt_ (And.intro @d1 (@ln12))) ?_
      refine Ow.permL (M:=X2++ ((D++DG)++D3)) (by classical exact List.perm_iff_count.2 fun a=>by simp only[List.count_append,List.count_cons,List.count_nil]<;>omega) ?_
      refine Ow.callX (X:=X2) (Y:=(D++DG)++D3) rfl rfl rfl Tryz.call22 (fun w' hw' hX' hn'=>kj_ X2 G2 S2 q.v q.l w' hX' hn' hA2.P (zw_ hG hw' (hN2.app (hNG.app hN3'))) (xS_ hG hN2) ((xk_ (q:=(S2,q.l)) hA2.B 3).b (by omega)) (hq.old hw' fun hl b hb=>(hN2.app (hNG.app hN3')).not (hq.blk hl hb)) (fun hl b hb=>⟨Nat.lt_of_lt_of_le (hq.blk hl hb) hw'.size,hN2.not (hq.blk hl hb)⟩) (by omega) (fun k hk=>⟨(hA2.H k).2,hA2.pend (by omega) k hk⟩)) (fun v136 X6 hC6 hS6=> ?_)
      obtain⟨G6,hbd6,hP6⟩:=hS6
      have hN6:New w.heap.size X6:=jE_ hC6 hN2
      have hB6:DkN (l.length+i) (zT_ S2 q.l):=Zn_ hA2.B _
      rw[←hbd6] at*
      generalize zT_ S2 q.l=S6 at*
      have hNf:New w.heap.size (X6++ ((D++DG)++D3)):=hN6.app (hNG.app hN3')
      refine ko @zt_ ?_
      first|with_reducible refine ks [] @zt_ ?_|refine kp @zt_ ?_
      refine Ow.callFV rfl Tryz.call14 (fun w' hw'=>zN_ w' (zw_ hG hw' hNf)) ?_
      refine ko @zt_ ?_
      refine Ow.callC rfl rfl Tryz.call19 (fun w' hw'=>jO_ w' G6 S6 ((hP6.mono fun b o h=>zi_ h).world hw') (zw_ hG hw' hNf) (hB6.b (by omega))) (fun B7 v7 D7 hA7 hB7 hN7 hS7=> ?_)
      rw[hag] at hS7
      refine ko @zt_ ?_
      refine Ow.callFV rfl Tryz.call25 (fun w' hw'=>wV_ v12 v7 (zM_ S2) (zM_ S2) w' ((hS3.mono (fun q hq=>by simp[hq])).slV (z:=fi0) hw' rfl rfl q4_) ((hS7.mono (fun q hq=>by simp[hq])).slV (z:=fi0) hw' rfl rfl q4_) (by omega)) ?_
      refine ko (And.intro @zt_ @decide_true) ?_
      refine Ow.callFV rfl Tryz.call34 (fun w' hw'=>ajy_ w' G6 S6 ((hP6.mono fun b o h=>zi_ (zi_ h)).world hw')) ?_
      rw[hof]
      refine ko @zt_ ?_
      first|with_reducible refine ks [] @zt_ ?_|refine kp @zt_ ?_
      refine⟨_,(ke @zt_),(hNf.app (hN7.mono hB7)), ?_⟩
      rfl
end Go.Proofs
end
section
open Go Go.Proofs Go.Sx Go.StP Go.Flo
namespace Go.Proofs
set_option maxRecDepth 10000
set_option maxHeartbeats 1000000
set_option linter.unusedSimpArgs false
def JP_ (f:FiL) (a:ActL):Bool:=a.dir==f.dir&& (a.name==f.name|| (a.kind.tmod 9==4&&a.s==f.name))
theorem ajt_ {k:Nat} {f:FiL} {a:ActL} (hf:f.dir=j5_ k) (h:JP_ f a=false): ¬ (a.dir=j5_ k∧(a.name=f.name∨a.kind.tmod 9=4∧a.s=f.name)):=by
 rintro⟨h1,h2⟩
 unfold JP_ at h
 rw[h1,hf,beq_self_eq_true,Bool.true_and] at h
 rcases h2 with h2| ⟨h2,h3⟩
 ·rw[h2,beq_self_eq_true,Bool.true_or] at h;cases h
 ·rw[h2,h3,beq_self_eq_true,beq_self_eq_true,Bool.and_true,Bool.or_true] at h;cases h
structure SeG where
 i:Nat
 S:DiskL
 G:DkG
 X:za_
 DG:za_
set_option linter.defProp false
def zs_:=And.intro (And.intro (And.intro (And.intro (@zc_) (@zd_)) (And.intro (@XZ_) (@Zv_))) (And.intro (And.intro (@VY_) (@VZ_)) (And.intro (@WN_) (And.intro (@WD_) (@aaZ_))))) (And.intro (And.intro (And.intro (@ZA_) (@acW_)) (And.intro (@aeV_) (@ae4_))) (And.intro (And.intro (@aen_) (@aaz_)) (And.intro (@wF_) (And.intro (@Sx.tup2_0) (@Sx.tup2_1)))))
theorem Q9_ (v1 v2 v3:Value) (l:List FiL) (acts more:List ActL) (c:UInt8) (p:PkL) (w:World) (hG:wR_ w) (hv:FiSl w v1 l) (hb:FiB l) (hva:AcSl w v2 acts) (hao: ∀a,a∈acts→ActOk w a) (hvm:AcSl w v3 more) (hmo: ∀a,a∈more→ActOk w a) (hp:PkS w p.v p.l):
  Rets Tryz.prog 3 #[v1,v2,v3,v8 c,p.v] w (fun v D=>v= .bool true∧D= []):=by
 have ln:=hva.len
 have lnm:=hvm.len
 have lnp:=hp.len
 obtain⟨rb,off,arr,E,fz,hr⟩:=hva.row
 obtain⟨rm,offm,arrm,Em,fzm,hrm⟩:=hvm.row
 refine Rets.enterV Tryz.func3 rfl (rs:= [.tmp 10]) Tryz.results3 Tryz.ntmps3 ?_
 refine kf ?_
 first|with_reducible refine ks [1000006,1000017,1000021] @zs_ ?_|refine kp @zs_ ?_
 refine Ow.callFV rfl Tryz.call14 (fun w' hw'=>zN_ w' (zw_ hG hw' trivial)) ?_
 refine ko @zs_ ?_
 first|with_reducible refine ks [] @zs_ ?_|refine kp @zs_ ?_
 refine Ow.callFV rfl Tryz.call15 (fun w' hw'=>v8_ v1 (.slice none 0 0) l [] w' (hv.oldN hw' trivial) hb (SlV.nil w') (by simp)) ?_
 cases hgt:Zj_ l [] with
 |true=>
  refine ko @zs_ ?_
  first|with_reducible refine ks [] @zs_ ?_|refine kp @zs_ ?_
  refine Ow.callFV rfl Tryz.call14 (fun w' hw'=>zN_ w' (zw_ hG hw' trivial)) ?_
  refine ko @zs_ ?_
  first|with_reducible refine ks [] @zs_ ?_|refine kp @zs_ ?_
  refine⟨_,(ke @zs_),trivial, ?_⟩
  rfl
 |false=>
  obtain⟨hll,-,hlb⟩:=XM_ hgt
  cases hp1:decide ((100:Int)< (p.l.length:Int)) with
  |true=>
   refine ko (And.intro @zs_ (And.intro @lnp (@hp1))) ?_
   first|with_reducible refine ks [] @zs_ ?_|refine kp @zs_ ?_
   refine Ow.callFV rfl Tryz.call14 (fun w' hw'=>zN_ w' (zw_ hG hw' trivial)) ?_
   refine ko @zs_ ?_
   first|with_reducible refine ks [] @zs_ ?_|refine kp @zs_ ?_
   refine⟨_,(ke @zs_),trivial, ?_⟩
   rfl
  |false=>
   have hpl:=of_decide_eq_false hp1
   refine ko (And.intro @zs_ (And.intro @lnp (@hp1))) ?_
   first|with_reducible refine ks [] @zs_ ?_|refine kp @zs_ ?_
   refine Ow.callC rfl rfl Tryz.call16 (fun w' hw'=>Wr_ 1000000 v1 l w' (by decide) (zw_ hG hw' trivial) (hv.oldN hw' trivial) (by omega) hb) (fun B0 v0 D0 hA0 hB0 hN0 hS0=> ?_)
   obtain⟨G0,rfl,hP0⟩:=hS0
   rw[List.nil_append]
   have hN0':New w.heap.size D0:=hN0.mono hB0
   have hD0:DkA D0 G0 (ofD 1000000 l) l.length:=⟨hP0,acb_ _ l,ajD_ _ l fun f hf=>by have:=(hlb f hf).1;omega⟩
   refine ko @zs_ ?_
   refine Cw.permL (M:=D0++ []) (by rw[List.append_nil]) ?_
   refine Cw.cutO (G:=SeG) [12,32,33,34,35,36,37,38,39,40,41,42,43,44,45,46,47,48,49,50,51,52,53,54,55,56,57,58,59,60,61,62] (fun g=> []) (fun g=>g.X++g.DG) (fun g=>g.i≤40∧DkA g.X g.G g.S (l.length+g.i)∧vx_ g.S∧x8_ g.S∧Zc_ g.S∧g.G.bd=G0.bd∧New w.heap.size g.X∧New w.heap.size g.DG) ?_ ?_
   ·first|with_reducible refine ks [] (And.intro @zs_ @ln) ?_|refine kp (And.intro @zs_ @ln) ?_
    refine Cw.loopG (G:=SeG) [32,33,34,35,36,37,38,39,42,43,44,45,46,47,48,49,50,51,52,53,54,55,56,57,58,59,60,61,62,40,41,12] (fun g=> [(12,vi g.i)]) (fun g=>g.X++g.DG) (fun g=>g.i≤acts.length∧g.i≤40∧DkA g.X g.G g.S (l.length+g.i)∧vx_ g.S∧x8_ g.S∧Zc_ g.S∧g.G.bd=G0.bd∧New w.heap.size g.X∧New w.heap.size g.DG) (fun g=>acts.length - g.i) ⟨0,ofD 1000000 l,G0,D0,[]⟩ rfl rfl ?_ ?_
    ·exact⟨Nat.zero_le _,Nat.zero_le _,hD0,(VT_ _ l).1,acF_ _ l,aoC_ _ l,rfl,hN0',trivial⟩
    intro g j hg
    refine kv ?_
    clear hD0 hN0' hP0
    obtain⟨i,S,G,X,DG⟩:=g
    simp only at hg ⊢
    obtain⟨hi,hi4,hA,hC,hU,hF,hbd,hN,hNG⟩:=hg
    rw[←hbd]
    have hNr:New w.heap.size (X++DG):=hN.app hNG
    by_cases hlt:i<acts.length∧i<40
    ·have d1:decide ((i:Int)< (acts.length:Int))=true:=decide_eq_true (by omega)
     have d2:decide ((i:Int)<40)=true:=decide_eq_true (by omega)
     have ix:=hr.idx true i hlt.1
     have rd1:zx_ w (X++DG) rb=some (.cells arr E fz):=by rw[z5_ (hNr.not (hr.lt (by omega)))];exact hr.has (by omega)
     have lda:=aet_ hr hlt.1
     have ld0:=fun n=>ajE_ hr hlt.1 n
     simp only[Nat.add_zero] at ld0
     have hok:=hao (acts.getD i ac0) (jL_ hlt.1)
     generalize acts.getD i ac0=a at*
     have hup:DkA X G S (l.length+ (i+1)):=⟨hA.P,hA.H,hA.B.mono (by omega)⟩
     first|with_reducible refine ks [] (And.intro @zs_ (And.intro @ln (And.intro @d1 (And.intro @d2 (And.intro @ix (And.intro @rd1 (@lda))))))) ?_|refine kp (And.intro @zs_ (And.intro @ln (And.intro @d1 (And.intro @d2 (And.intro @ix (And.intro @rd1 (@lda))))))) ?_
     refine Ow.callFV rfl Tryz.call17 (fun w' hw'=>vu_ a w' (hok.old hw' hNr)) ?_
     cases hga:Zt_ a with
     |true=>
      refine ko @zs_ ?_
      first|with_reducible refine ks [] @zs_ ?_|refine kp @zs_ ?_
      exact Again.mk ⟨i+1,S,G,X,DG⟩ (by show acts.length - (i+1)<acts.length - i;omega) ⟨hlt.1,hlt.2,hup,hC,hU,hF,rfl,hN,hNG⟩ rfl rfl
     |false=>
      have hrem:=rem9 a.kind
      by_cases h6:6≤a.kind.tmod 9
      ·have d6:decide (a.kind.tmod 9<6)=false:=decide_eq_false (by omega)
       refine ko (And.intro @zs_ (And.intro @ln (And.intro @ix (And.intro @rd1 (And.intro @ld0 (And.intro @hrem (@d6))))))) ?_
       first|with_reducible refine ks [] @zs_ ?_|refine kp @zs_ ?_
       exact Again.mk ⟨i+1,S,G,X,DG⟩ (by show acts.length - (i+1)<acts.length - i;omega) ⟨hlt.1,hlt.2,hup,hC,hU,hF,rfl,hN,hNG⟩ rfl rfl
      ·have d6:decide (a.kind.tmod 9<6)=true:=decide_eq_true (by omega)
       have hda:=V6_ (S:=S) h6
       have hst:=Qc_ S (a.kind.tmod 9) a.dir a.name a.s
       refine ko (And.intro @zs_ (And.intro @ln (And.intro @ix (And.intro @rd1 (And.intro @ld0 (And.intro @hrem (@d6))))))) ?_
       first|with_reducible refine ks [] (And.intro @zs_ (And.intro @ix (And.intro @rd1 (@lda)))) ?_|refine kp (And.intro @zs_ (And.intro @ix (And.intro @rd1 (@lda)))) ?_
       refine Ow.callX (X:=X) (Y:=DG) rfl rfl rfl Tryz.call18 (fun w' hw' hX' hn'=>ZP_ X G S (l.length+i) a w' hX' hn' hA (by omega) (zw_ hG hw' hNr) (xS_ hG hN) (hok.old hw' hNr) hga (hok.pkb hw'.size hN)) (fun v2' D2 hC2 hS2=> ?_)
       obtain⟨rfl,G2,hbd2,hA2⟩:=hS2
       have hN2:New w.heap.size D2:=jE_ hC2 hN
       have hA2':DkA D2 G2 (doA S a).1 (l.length+ (i+1)):=hA2
       clear hA2
       rw[hda] at*
       have hC':=vf_ hC hst
       have hU':=wl_ hA.P.ok hU hst
       have hF':=aix_ hF hst
       rw[←hbd2] at*
       generalize doV S (a.kind.tmod 9) a.dir a.name a.s=q' at*
       obtain⟨S',e⟩:=q'
       simp only at hA2' hC' hU' hF' ⊢
       refine ko @zs_ ?_
       first|with_reducible refine ks [] @zs_ ?_|refine kp @zs_ ?_
       exact Again.mk ⟨i+1,S',G2,D2,DG⟩ (by show acts.length - (i+1)<acts.length - i;omega) ⟨hlt.1,hlt.2,hA2',hC',hU',hF',rfl,hN2,hNG⟩ rfl rfl
    ·have d1: (decide ((i:Int)< (acts.length:Int))=true∧decide ((i:Int)<40)=false)∨decide ((i:Int)< (acts.length:Int))=false:=by
      by_cases h1:i<acts.length
      ·exact .inl ⟨decide_eq_true (by omega),decide_eq_false (by omega)⟩
      ·exact .inr (decide_eq_false (by omega))
     rcases d1 with⟨d1,d2⟩ |d1
     ·first|with_reducible refine ks [] (And.intro @zs_ (And.intro @ln (And.intro @d1 (@d2)))) ?_|refine kp (And.intro @zs_ (And.intro @ln (And.intro @d1 (@d2)))) ?_
      exact CutO.mk ⟨i,S,G,X,DG⟩ ⟨hi4,hA,hC,hU,hF,rfl,hN,hNG⟩ rfl rfl
     ·first|with_reducible refine ks [] (And.intro @zs_ (And.intro @ln (@d1))) ?_|refine kp (And.intro @zs_ (And.intro @ln (@d1))) ?_
      exact CutO.mk ⟨i,S,G,X,DG⟩ ⟨hi4,hA,hC,hU,hF,rfl,hN,hNG⟩ rfl rfl
   ·intro g j hg
    refine kv ?_
    clear hD0 hN0' hP0
    obtain⟨i0,S,G,X,DG⟩:=g
    simp only at hg ⊢
    obtain⟨hi4,hA,hC,hU,hF,hbd,hN,hNG⟩:=hg
    rw[←hbd]
    have hNr:New w.heap.size (X++DG):=hN.app hNG
    have hfl: (zM_ S).length≤3000000:=xm_ (hA.b (by omega)) 3 (Nat.le_refl _)
    first|with_reducible refine ks [12,1000017,1000021] @zs_ ?_|refine kp @zs_ ?_
    refine Ow.callC rfl rfl Tryz.call19 (fun w' hw'=>jO_ w' G S ((hA.P.mono fun b o h=>zi_ h).world hw') (zw_ hG hw' hNr) (hA.b (by omega))) (fun B3 v13 D3 hA3 hB3 hN3 hS3=> ?_)
    have hN3':New w.heap.size D3:=hN3.mono hB3
    have ln13: ∀m,QO_ (.sl m) v13=some (vi (zM_ S).length):=fun m=>km_ hS3 m
    have hNa:New w.heap.size ((X++DG)++D3):=hNr.app hN3'
    refine ko @zs_ ?_
    by_cases h0: (zM_ S).length=0
    ·have e0: (((zM_ S).length:Int)==0)=true:=by rw[h0];rfl
     first|with_reducible refine ks [] (And.intro @zs_ (And.intro @ln13 (@e0))) ?_|refine kp (And.intro @zs_ (And.intro @ln13 (@e0))) ?_
     refine Ow.callFV rfl Tryz.call14 (fun w' hw'=>zN_ w' (zw_ hG hw' hNa)) ?_
     refine ko @zs_ ?_
     first|with_reducible refine ks [] @zs_ ?_|refine kp @zs_ ?_
     refine⟨_,(ke @zs_),hNa, ?_⟩
     rfl
    ·have e0: (((zM_ S).length:Int)==0)=false:=beq_eq_false_iff_ne.2 (by omega)
     have em: (c.toNat:Int)% ((zM_ S).length:Int)=((c.toNat% (zM_ S).length:Nat):Int):=by omega
     have hk:=Nat.mod_lt c.toNat (show 0< (zM_ S).length by omega)
     generalize c.toNat% (zM_ S).length=kk at*
     refine Cw.world fun wz hwz=> ?_
     obtain⟨r2,o2,a2,E2,z2,hr2,hl2⟩:=(hS3.mono (D':=(X++DG)++D3) (fun q hq=>by simp[hq])).rowL (z:=fi0) rfl hwz q4_
     clear hwz
     have rd2:zx_ w ((X++DG)++D3) r2=some (.cells a2 E2 z2):=zb_ (hl2 (by omega))
     have ix2:=hr2.idx true kk hk
     have ld2:=aj0_ hr2 hk
     have hmf:=jL_ (z:=fi0) hk
     generalize (zM_ S).getD kk fi0=f at*
     obtain⟨-,k0,hk0,pt,hpt,hfe⟩:=mem_files.1 hmf
     have hfd:f.dir=j5_ k0:=by rw[hfe]
     have hfn:f.name=pt.1:=by rw[hfe]
     have hfx:f.data=(zl_ S pt.2).data:=by rw[hfe]
     clear hfe hmf
     have hfl1:f.name.length≤1000000:=by rw[hfn];exact(hA.B k0).seenB pt hpt
     have hfine:=hF k0 hk0 pt hpt
     have kb:=afD_ hA.P.ok hA.H hC hF hk0 hpt
     rw[←hfd,←hfn,←hfx] at kb
     obtain⟨kb1,kb2,hK⟩:=kb
     have st1:=abF_ S f.dir f.name []
     have hU1:=wl_ hA.P.ok hU st1
     have hC1:=vf_ hC st1
     have hH1:=aaf_ hA.H f.dir f.name
     have hB1:=aeQ_ hA.B f.dir f.name
     first|with_reducible refine ks [] (And.intro @zs_ (And.intro @ln13 (And.intro @e0 (And.intro @em (And.intro @ix2 (And.intro @rd2 (@ld2))))))) ?_|refine kp (And.intro @zs_ (And.intro @ln13 (And.intro @e0 (And.intro @em (And.intro @ix2 (And.intro @rd2 (@ld2))))))) ?_
     refine Ow.alloc rfl rfl zrFi fun b14 hb14 hw14=> ?_
     simp only[zf_,List.nil_append,List.cons_append]
     refine Ow.permL (M:=(b14, .cells (fiC fi0).toArray 36 (0,0)):: ((X++DG)++D3)) (by classical exact List.perm_iff_count.2 fun a=>by simp only[List.count_append,List.count_cons,List.count_nil]<;>omega) ?_
     refine ko @zs_ ?_
     first|with_reducible refine ks [] @zs_ ?_|refine kp @zs_ ?_
     refine Ow.permL (M:=X++ ((b14, .cells (fiC f).toArray 36 (0,0)):: (DG++D3))) (by classical exact List.perm_iff_count.2 fun a=>by simp only[List.count_append,List.count_cons,List.count_nil]<;>omega) ?_
     refine Ow.callX (X:=X) (Y:=(b14, .cells (fiC f).toArray 36 (0,0)):: (DG++D3)) rfl rfl rfl Tryz.call20 (fun w' hw' hX' hn'=>QB_ X G S f.dir f.name w' hX' hn' hA.P (by omega)) (fun v82 X1 hC82 hS82=> ?_)
     obtain⟨rfl,hP1⟩:=hS82
     have hN1:New w.heap.size X1:=jE_ hC82 hN
     generalize hq1:vb_ S f.dir f.name=q1 at*
     obtain⟨S1,e1⟩:=q1
     simp only at kb1 kb2 hK hU1 hC1 hH1 hB1 hP1 ⊢
     subst kb1
     have z0: (((0:Nat):Int) !=0)=false:=rfl
     refine Ow.permL (M:=(b14, .cells (fiC f).toArray 36 (0,0)):: (X1++ (DG++D3))) (by classical exact List.perm_iff_count.2 fun a=>by simp only[List.count_append,List.count_cons,List.count_nil]<;>omega) ?_
     have st2:=Q1_ S1 f.dir f.name []
     have hU2:=wl_ hP1.ok hU1 st2
     have hC2':=vf_ hC1 st2
     have hH2:=QN_ hH1 f.dir
     have hB2:=Xi_ hB1 f.dir
     refine ko (And.intro @zs_ @z0) ?_
     refine Ow.permL (M:=X1++ ((b14, .cells (fiC f).toArray 36 (0,0)):: (DG++D3))) (by classical exact List.perm_iff_count.2 fun a=>by simp only[List.count_append,List.count_cons,List.count_nil]<;>omega) ?_
     refine Ow.callX (X:=X1) (Y:=(b14, .cells (fiC f).toArray 36 (0,0)):: (DG++D3)) rfl rfl rfl Tryz.call21 (fun w' hw' hX' hn'=>vj_ X1 G S1 f.dir w' hX' hn' hP1) (fun v88 X2 hC88 hS88=> ?_)
     obtain⟨rfl,G2,hbd2,hP2⟩:=hS88
     have hN2:New w.heap.size X2:=jE_ hC88 hN1
     generalize hq2:qr_ S1 f.dir=q2 at*
     obtain⟨S2,e2⟩:=q2
     simp only at kb2 hK hU2 hC2' hH2 hB2 hP2 ⊢
     subst kb2
     have hA2:DkA X2 G2 S2 (l.length+i0):=⟨hP2,hH2,hB2⟩
     rw[←hbd2]
     have hNG2:New w.heap.size (DG++D3):=hNG.app hN3'
     generalize DG++D3=DG2 at*
     refine Ow.permL (M:=(b14, .cells (fiC f).toArray 36 (0,0)):: (X2++DG2)) (by classical exact List.perm_iff_count.2 fun a=>by simp only[List.count_append,List.count_cons,List.count_nil]<;>omega) ?_
     refine ko (And.intro @zs_ @z0) ?_
     refine Cw.cutO (G:=SeG) [15,16,17,91,92,93,94,95,96,97,98,99,100,101,102,103,104,105,106,107,108,109,110,111,112,113,114,115,116,117,118,119,120,121,122,123,124,125,126,127,128,129,130,131,132,133,134,135,136,137,138,139,140,141,142,143,144,145] (fun g=> []) (fun g=>(b14, .cells (fiC f).toArray 36 (0,0)):: (g.X++g.DG)) (fun g=>g.i≤40∧DkA g.X g.G g.S (l.length+i0+g.i)∧KeepS g.S k0 f.name pt.2 f.data∧g.G.bd=G2.bd∧New w.heap.size g.X∧New w.heap.size g.DG) ?_ ?_
     ·first|with_reducible refine ks [] (And.intro @zs_ @lnm) ?_|refine kp (And.intro @zs_ @lnm) ?_
      refine Cw.loopG (G:=SeG) [91,92,93,94,95,96,97,98,101,102,103,104,16,105,106,107,108,109,110,111,112,113,114,115,116,117,118,119,120,121,122,123,124,125,126,127,128,129,17,130,131,132,133,134,135,136,137,138,139,140,141,142,143,144,145,99,100,15] (fun g=> [(15,vi g.i)]) (fun g=>(b14, .cells (fiC f).toArray 36 (0,0)):: (g.X++g.DG)) (fun g=>g.i≤more.length∧g.i≤40∧DkA g.X g.G g.S (l.length+i0+g.i)∧vx_ g.S∧x8_ g.S∧KeepS g.S k0 f.name pt.2 f.data∧g.G.bd=G2.bd∧New w.heap.size g.X∧New w.heap.size g.DG) (fun g=>more.length - g.i) ⟨0,S2,G2,X2,DG2⟩ rfl rfl ?_ ?_
      ·exact⟨Nat.zero_le _,Nat.zero_le _,hA2,hC2',hU2,hK,rfl,hN2,hNG2⟩
      intro g j hg
      refine kv ?_
      clear hA2 hC2' hU2 hK hN2 hNG2 hA hC hU hF hNr hNa hN hNG hP2 hP1 hH1 hB1 hU1 hC1
      obtain⟨i,S,G,X,DG⟩:=g
      simp only at hg ⊢
      obtain⟨hi,hi4',hA,hC,hU,hK,hbd',hN,hNG⟩:=hg
      rw[←hbd']
      have hNr:New w.heap.size ((b14,Obj.cells (fiC f).toArray 36 (0,0)):: (X++DG)):=⟨hw14,hN.app hNG⟩
      by_cases hlt:i<more.length∧i<40
      ·have d1:decide ((i:Int)< (more.length:Int))=true:=decide_eq_true (by omega)
       have d2:decide ((i:Int)<40)=true:=decide_eq_true (by omega)
       have ix:=hrm.idx true i hlt.1
       have rd1:zx_ w ((b14, .cells (fiC f).toArray 36 (0,0)):: (X++DG)) rm=some (.cells arrm Em fzm):=by rw[z5_ (hNr.not (hrm.lt (by omega)))];exact hrm.has (by omega)
       have lda:=aet_ hrm hlt.1
       have hok:=hmo (more.getD i ac0) (jL_ hlt.1)
       generalize more.getD i ac0=a at*
       have hup:DkA X G S (l.length+i0+ (i+1)):=⟨hA.P,hA.H,hA.B.mono (by omega)⟩
       have hrem:=rem9 a.kind
       first|with_reducible refine ks [19,1000021] (And.intro @zs_ (And.intro @lnm (And.intro @d1 (And.intro @d2 (And.intro @ix (And.intro @rd1 (@lda))))))) ?_|refine kp (And.intro @zs_ (And.intro @lnm (And.intro @d1 (And.intro @d2 (And.intro @ix (And.intro @rd1 (@lda))))))) ?_
       refine Ow.alloc rfl rfl zrAc fun b16 hb16 hw16=> ?_
       simp only[zf_,List.nil_append,List.cons_append]
       have h1416:b14<b16:=zu_ hb16 (by simp[keys])
       refine Ow.permL (M:=(b16, .cells (acC ac0).toArray 31 (0,0)):: (b14, .cells (fiC f).toArray 36 (0,0)):: (X++DG)) (by classical exact List.perm_iff_count.2 fun a=>by simp only[List.count_append,List.count_cons,List.count_nil]<;>omega) ?_
       have hN16:New w.heap.size ((b16,Obj.cells (acC a).toArray 31 (0,0)):: (b14,Obj.cells (fiC f).toArray 36 (0,0)):: (X++DG)):=⟨hw16,hNr⟩
       refine ko @zs_ ?_
       refine Cw.cutO (G:=Bool) [17,105,106,107,108,109,110,111,112,113,114,115,116,117,118,119,120,121,122,123,124,125,126,127,128,129] (fun g=> [(17, .bool g)]) (fun g=>(b16, .cells (acC a).toArray 31 (0,0)):: (b14, .cells (fiC f).toArray 36 (0,0)):: (X++DG)) (fun g=>g=JP_ f a) ?_ ?_
       ·cases hdr: (a.dir==f.dir) with
        |false=>
         first|with_reducible refine ks [] (And.intro @zs_ @hdr) ?_|refine kp (And.intro @zs_ @hdr) ?_
         exact CutO.mk false (by unfold JP_;rw[hdr];rfl) rfl rfl
        |true=>
         cases hnn: (a.name==f.name) with
         |true=>
          first|with_reducible refine ks [] (And.intro @zs_ (And.intro @hdr (@hnn))) ?_|refine kp (And.intro @zs_ (And.intro @hdr (@hnn))) ?_
          exact CutO.mk true (by unfold JP_;rw[hdr,hnn];rfl) rfl rfl
         |false=>
          cases h4: (a.kind.tmod 9==4) with
          |false=>
           first|with_reducible refine ks [] (And.intro @zs_ (And.intro @hdr (And.intro @hnn (And.intro @hrem (@h4))))) ?_|refine kp (And.intro @zs_ (And.intro @hdr (And.intro @hnn (And.intro @hrem (@h4))))) ?_
           exact CutO.mk false (by unfold JP_;rw[hdr,hnn,h4];rfl) rfl rfl
          |true=>
           first|with_reducible refine ks [] (And.intro @zs_ (And.intro @hdr (And.intro @hnn (And.intro @hrem (@h4))))) ?_|refine kp (And.intro @zs_ (And.intro @hdr (And.intro @hnn (And.intro @hrem (@h4))))) ?_
           exact CutO.mk (a.s==f.name) (by unfold JP_;rw[hdr,hnn,h4];rfl) rfl rfl
       ·intro tb jtb htb
        refine kv ?_
        first|with_reducible refine ks [19] @zs_ ?_|refine kp @zs_ ?_
        refine Ow.callFV rfl Tryz.call17 (fun w' hw'=>vu_ a w' (hok.old hw' hN16)) ?_
        cases hga:Zt_ a with
        |true=>
         refine ko @zs_ ?_
         refine Cw.permL (M:=(b14, .cells (fiC f).toArray 36 (0,0)):: (X++ ((b16, .cells (acC a).toArray 31 (0,0))::DG))) (by classical exact List.perm_iff_count.2 fun a=>by simp only[List.count_append,List.count_cons,List.count_nil]<;>omega) ?_
         first|with_reducible refine ks [] @zs_ ?_|refine kp @zs_ ?_
         exact Again.mk ⟨i+1,S,G,X,(b16, .cells (acC a).toArray 31 (0,0))::DG⟩ (by show more.length - (i+1)<more.length - i;omega) ⟨hlt.1,hlt.2,hup,hC,hU,hK,rfl,hN,⟨hw16,hNG⟩⟩ rfl rfl
        |false=>
         by_cases h6:6≤a.kind.tmod 9
         ·have d6:decide (a.kind.tmod 9<6)=false:=decide_eq_false (by omega)
          refine ko (And.intro @zs_ (And.intro @hrem (@d6))) ?_
          refine Cw.permL (M:=(b14, .cells (fiC f).toArray 36 (0,0)):: (X++ ((b16, .cells (acC a).toArray 31 (0,0))::DG))) (by classical exact List.perm_iff_count.2 fun a=>by simp only[List.count_append,List.count_cons,List.count_nil]<;>omega) ?_
          first|with_reducible refine ks [] @zs_ ?_|refine kp @zs_ ?_
          exact Again.mk ⟨i+1,S,G,X,(b16, .cells (acC a).toArray 31 (0,0))::DG⟩ (by show more.length - (i+1)<more.length - i;omega) ⟨hlt.1,hlt.2,hup,hC,hU,hK,rfl,hN,⟨hw16,hNG⟩⟩ rfl rfl
         ·have d6:decide (a.kind.tmod 9<6)=true:=decide_eq_true (by omega)
          cases tb with
          |true=>
           refine ko (And.intro @zs_ (And.intro @hrem (@d6))) ?_
           refine Cw.permL (M:=(b14, .cells (fiC f).toArray 36 (0,0)):: (X++ ((b16, .cells (acC a).toArray 31 (0,0))::DG))) (by classical exact List.perm_iff_count.2 fun a=>by simp only[List.count_append,List.count_cons,List.count_nil]<;>omega) ?_
           first|with_reducible refine ks [] @zs_ ?_|refine kp @zs_ ?_
           exact Again.mk ⟨i+1,S,G,X,(b16, .cells (acC a).toArray 31 (0,0))::DG⟩ (by show more.length - (i+1)<more.length - i;omega) ⟨hlt.1,hlt.2,hup,hC,hU,hK,rfl,hN,⟨hw16,hNG⟩⟩ rfl rfl
          |false=>
           have hnt:=ajt_ hfd htb.symm
           have hda:=V6_ (S:=S) h6
           have hst:=Qc_ S (a.kind.tmod 9) a.dir a.name a.s
           have hK':=aiK_ hA.P.ok hA.H hU hC hk0 hK hnt hst
           have hC':=vf_ hC hst
           have hU':=wl_ hA.P.ok hU hst
           have hNy:New w.heap.size ((b16,Obj.cells (acC a).toArray 31 (0,0)):: (b14,Obj.cells (fiC f).toArray 36 (0,0))::DG):=⟨hw16,hw14,hNG⟩
           refine ko (And.intro @zs_ (And.intro @hrem (@d6))) ?_
           first|with_reducible refine ks [] @zs_ ?_|refine kp @zs_ ?_
           refine Ow.permL (M:=X++ ((b16, .cells (acC a).toArray 31 (0,0)):: (b14, .cells (fiC f).toArray 36 (0,0))::DG)) (by classical exact List.perm_iff_count.2 fun a=>by simp only[List.count_append,List.count_cons,List.count_nil]<;>omega) ?_
           refine Ow.callX (X:=X) (Y:=(b16, .cells (acC a).toArray 31 (0,0)):: (b14, .cells (fiC f).toArray 36 (0,0))::DG) rfl rfl rfl Tryz.call18 (fun w' hw' hX' hn'=>ZP_ X G S (l.length+i0+i) a w' hX' hn' hA (by omega) (zw_ hG hw' (hN.app hNy)) (xS_ hG hN) (hok.old hw' (hN.app hNy)) hga (hok.pkb hw'.size hN)) (fun v2' X5 hC5 hS5=> ?_)
           obtain⟨rfl,G5,hbd5,hA5⟩:=hS5
           have hN5:New w.heap.size X5:=jE_ hC5 hN
           have hA5':DkA X5 G5 (doA S a).1 (l.length+i0+ (i+1)):=hA5
           clear hA5
           rw[hda] at*
           rw[←hbd5] at*
           generalize doV S (a.kind.tmod 9) a.dir a.name a.s=q' at*
           obtain⟨S',e⟩:=q'
           simp only at hA5' hK' hC' hU' ⊢
           refine ko @zs_ ?_
           refine Cw.permL (M:=(b14, .cells (fiC f).toArray 36 (0,0)):: (X5++ ((b16, .cells (acC a).toArray 31 (0,0))::DG))) (by classical exact List.perm_iff_count.2 fun a=>by simp only[List.count_append,List.count_cons,List.count_nil]<;>omega) ?_
           first|with_reducible refine ks [] @zs_ ?_|refine kp @zs_ ?_
           exact Again.mk ⟨i+1,S',G5,X5,(b16, .cells (acC a).toArray 31 (0,0))::DG⟩ (by show more.length - (i+1)<more.length - i;omega) ⟨hlt.1,hlt.2,hA5',hC',hU',hK',rfl,hN5,⟨hw16,hNG⟩⟩ rfl rfl
      ·have d1: (decide ((i:Int)< (more.length:Int))=true∧decide ((i:Int)<40)=false)∨decide ((i:Int)< (more.length:Int))=false:=by
        by_cases h1:i<more.length
        ·exact .inl ⟨decide_eq_true (by omega),decide_eq_false (by omega)⟩
        ·exact .inr (decide_eq_false (by omega))
       rcases d1 with⟨d1,d2⟩ |d1
       ·first|with_reducible refine ks [] (And.intro @zs_ (And.intro @lnm (And.intro @d1 (@d2)))) ?_|refine kp (And.intro @zs_ (And.intro @lnm (And.intro @d1 (@d2)))) ?_
        exact CutO.mk ⟨i,S,G,X,DG⟩ ⟨hi4',hA,hK,rfl,hN,hNG⟩ rfl rfl
       ·first|with_reducible refine ks [] (And.intro @zs_ (And.intro @lnm (@d1))) ?_|refine kp (And.intro @zs_ (And.intro @lnm (@d1))) ?_
        exact CutO.mk ⟨i,S,G,X,DG⟩ ⟨hi4',hA,hK,rfl,hN,hNG⟩ rfl rfl
     ·intro g j hg
      refine kv ?_
      clear hA2 hC2' hU2 hK hN2 hNG2 hA hC hU hF hNr hNa hN hNG hP2 hP1 hH1 hB1 hU1 hC1
      obtain⟨i,S,G,X,DG⟩:=g
      simp only at hg ⊢
      obtain⟨hi4',hA,hK,hbd',hN,hNG⟩:=hg
      rw[←hbd']
      have hNy:New w.heap.size ((b14,Obj.cells (fiC f).toArray 36 (0,0))::DG):=⟨hw14,hNG⟩
      have hrd:=agE_ hk0 (by rw[hfn];exact hfine) hK p.l
      rw[←hfd] at hrd
      first|with_reducible refine ks [] @zs_ ?_|refine kp @zs_ ?_
      refine Ow.permL (M:=X++ ((b14, .cells (fiC f).toArray 36 (0,0))::DG)) (by classical exact List.perm_iff_count.2 fun a=>by simp only[List.count_append,List.count_cons,List.count_nil]<;>omega) ?_
      refine Ow.callX (X:=X) (Y:=(b14, .cells (fiC f).toArray 36 (0,0))::DG) rfl rfl rfl Tryz.call22 (fun w' hw' hX' hn'=>kj_ X G S p.v p.l w' hX' hn' hA.P (zw_ hG hw' (hN.app hNy)) (xS_ hG hN) ((xk_ (q:=(S,p.l)) hA.B 3).b (by omega)) (hp.old hw' fun hl b hb=>(hN.app hNy).not (hp.blk hl hb)) (fun hl b hb=>⟨Nat.lt_of_lt_of_le (hp.blk hl hb) hw'.size,hN.not (hp.blk hl hb)⟩) (by omega) (fun k hk=>⟨(hA.H k).2,hA.pend (by omega) k hk⟩)) (fun v148 X6 hC6 hS6=> ?_)
      obtain⟨G6,hbd6,hP6⟩:=hS6
      have hN6:New w.heap.size X6:=jE_ hC6 hN
      rw[←hbd6] at*
      generalize zT_ S p.l=S6 at*
      refine Ow.permL (M:=(b14, .cells (fiC f).toArray 36 (0,0)):: (X6++DG)) (by classical exact List.perm_iff_count.2 fun a=>by simp only[List.count_append,List.count_cons,List.count_nil]<;>omega) ?_
      have hNf:New w.heap.size ((b14,Obj.cells (fiC f).toArray 36 (0,0)):: (X6++DG)):=⟨hw14,hN6.app hNG⟩
      have z0: (((0:Nat):Int)==0)=true:=rfl
      have zf: (f.data==f.data)=true:=beq_self_eq_true _
      refine ko @zs_ ?_
      first|with_reducible refine ks [] @zs_ ?_|refine kp @zs_ ?_
      refine Ow.callFV rfl Tryz.call23 (fun w' hw'=>K6_ w' G6 S6 f.dir f.name ⟨X6,fun b o hb=>hw'.has b o (by have:=zv_ hb;simp[this]),hP6⟩ (by omega)) ?_
      rw[hrd]
      simp only
      refine ko @zs_ ?_
      first|with_reducible refine ks [] @zs_ ?_|refine kp @zs_ ?_
      refine Ow.callFV rfl Tryz.call14 (fun w' hw'=>zN_ w' (zw_ hG hw' hNf)) ?_
      refine ko (And.intro @zs_ (And.intro @z0 (@zf))) ?_
      first|with_reducible refine ks [] @zs_ ?_|refine kp @zs_ ?_
      refine⟨_,(ke @zs_),hNf, ?_⟩
      rfl
end Go.Proofs
end
section
open Go Go.Proofs Go.Sx Go.StP Go.Flo
open Go.ChangeShapes Go.WideShapes Go.ChangeAt Go.RowKit Go.ChangeMaps
namespace Go.Proofs
set_option maxRecDepth 10000
set_option maxHeartbeats 1000000
set_option linter.unusedSimpArgs false
theorem apL_ {n:Int} (h: (Lit.int .u8 n).wf=true): ∃c:UInt8,Value.int .u8 n=v8 c:=by
 simp only[Lit.wf,Bool.and_eq_true,decide_eq_true_eq] at h
 have h1: (0:Int)≤n:=h.1
 have h2:n≤255:=h.2
 refine⟨UInt8.ofNat n.toNat, ?_⟩
 unfold v8
 rw[UInt8.toNat_ofNat',Nat.mod_eq_of_lt (by omega),Int.toNat_of_nonneg h1]
theorem Qa_ {W:World} {r:Reach} {b0:Nat} {v:Value} (hval:Value.okWide Tryz.prog W r b0 24 v):v.cells.toList= [v]:=by
 obtain⟨a0,len,cap,rfl⟩:=WideShapes.okWide_slice Tryz.underlying24 hval
 rfl
end Go.Proofs
end
