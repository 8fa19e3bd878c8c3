/-
  Part 3 of the walk: contracts of the functions that the law reaches, and the calculus they stand on.
  No conditions.
-/
import Derived.Test.YtjjiclcgdngfdaaGreatDoorW2
import Derived.Shelf.SlIter.Nil
import Derived.Shelf.SortM.Plain
import Derived.Shelf.SortM.SortNone
import Derived.Ground.GgzProg
import Derived.Ground.SlgmProg
section
open Go Go.Proofs Go.Sx Go.StP
namespace Go.Proofs
set_option maxRecDepth 10000
set_option maxHeartbeats 400000
set_option linter.unusedSimpArgs false
theorem aq1_ (b o:Nat):qE_ Tryz.prog .neq 120 (vp b o) (.pointer none)=some (.bool true):=by
 simp[qE_,eqX,qe_,qd_,Tryz.underlying120,vp]
theorem aoA_:qE_ Tryz.prog .neq 120 (.pointer none) (.pointer none)=some (.bool false):=by
 simp[qE_,eqX,qe_,qd_,Tryz.underlying120]
theorem agU_ (s:List UInt8) (n:Nat):jk_ (vw_ Tryz.prog 126) (zL_ Tryz.prog 126) [(0,vs s),(1,vi (n:Int))]=some (.agg #[vs s,vi (n:Int)]):=by
 rw[show vw_ Tryz.prog 126=some [(0,1),(1,1)] from id (by kernel_rfl),show zL_ Tryz.prog 126=some (.agg #[vs [],vi 0]) from id (by kernel_rfl)];rfl
theorem xw_ {X:zc_} {c:Nat} {x:Obj} (h:jI_ X c) {b:Nat} {o:Obj} (hb:Sx.look X b=some o):Sx.look ((c,x)::X) b=some o:=by
 have:=zv_ h (zh_ hb)
 simp only[Sx.look]
 rw[if_neg (by omega)];exact hb
structure OfKG where
 i:Nat
 G:DkG
 X:zc_
structure OvKG where
 vis:List Nat
 dn:List (List UInt8×Option Nat)
 lf:List (List UInt8×Option Nat)
 it:Obj
 G:DkG
 X:zc_
def FiB (l:List FiL):Prop:= ∀f,f∈l→f.name.length<1099511627776∧f.data.length<1099511627776
set_option linter.defProp false
def qc_:=And.intro (And.intro (And.intro (And.intro (@zg_) (@zf_)) (And.intro (@qx_) (And.intro (@qV_) (@qP_)))) (And.intro (And.intro (@qQ_) (@aq1_)) (And.intro (@aoA_) (And.intro (@Sx.tup2_0) (@Sx.tup2_1))))) (And.intro (And.intro (And.intro (@vS_) (@acP_)) (And.intro (@afy_) (And.intro (@afm_) (@afR_)))) (And.intro (And.intro (@abP_) (@Je_)) (And.intro (@Sx.tup3_0) (And.intro (@Sx.tup3_1) (@Sx.tup3_2)))))
theorem alA_ (quota:Int) (v:Value) (l:List FiL) (w:World) (hq: -9223372036854775808≤quota∧quota<9223372036854775808) (hG:Qg_ w) (hv:FiSl w v l) (hl:l.length<1000000) (hb:FiB l):
  Rets Tryz.prog 16 #[vi quota,v] w (XS w [] (fun v D=> ∃G,v=vp G.bd 0∧DkP D G (ofD quota l))):=by
 have ln:=hv.len
 obtain⟨rb,off,arr,E,fz,hr⟩:=hv.row
 refine Rets.enterX Tryz.func16 rfl (rs:= [.tmp 4]) Tryz.results16 Tryz.ntmps16 (fun p hp=>by cases hp) (by simp[keys]) ?_
 refine kf ?_
 first|with_reducible refine ks [] @qc_ ?_|refine kp @qc_ ?_
 refine Ow.callC rfl rfl Tryz.call28 (fun w' hw'=>Xk_ quota w' hq (by obtain⟨e,f,hg⟩:=hG;exact⟨e,f,by rw[hw'.old _ (Array.getElem?_eq_some_iff.1 hg).1 (by simp[keys])];exact hg⟩)) (fun B2 v2 D2 hA2 hB2 hN2 hS2=> ?_)
 obtain⟨G0,rfl,hP0⟩:=hS2
 rw[List.nil_append]
 have hN0:New w.heap.size D2:=hN2.mono hB2
 refine ko @qc_ ?_
 first|with_reducible refine ks [] (And.intro @qc_ @ln) ?_|refine kp (And.intro @qc_ @ln) ?_
 refine Cw.loopG (G:=OfKG) [16,17,18,7,19,20,21,22,23,24,25,8,26,27,28,29,30,31,32,33,34,35,36,37,38,39,40,41,42,43,44,45,46,47,48,49,50,51,52,15] (fun g=> [(15,vi g.i)]) (fun g=>g.X) (fun g=>g.i≤l.length∧DkP g.X g.G ((l.take g.i).foldl zR_ (Zp_ quota))∧g.G.bd=G0.bd∧New w.heap.size g.X) (fun g=>l.length - g.i) ⟨0,G0,D2⟩ rfl rfl ?_ ?_
 ·exact⟨Nat.zero_le _,hP0,rfl,hN0⟩
 intro g j hg
 refine kv ?_
 clear hP0 hN0
 obtain⟨i,G,X⟩:=g
 simp only at hg ⊢
 obtain⟨hi,hP,hbd,hN⟩:=hg
 rw[←hbd]
 by_cases hlt:i<l.length
 ·have d1:decide ((i:Int)< (l.length:Int))=true:=decide_eq_true (by omega)
  have hrl:=hr.lt (by omega)
  have ixl:=hr.idx true i hlt
  have ldl:=hr.load xh_ (by omega) hlt
  have rdl:zA_ w X rb=some (.cells arr E fz):=by rw[z2_ (hN.not hrl)];exact hr.has (by omega)
  have hts: (l.take (i+1)).foldl zR_ (Zp_ quota)=zR_ ((l.take i).foldl zR_ (Zp_ quota)) (l.getD i fi0):=by
   rw[StP.take_snoc (z:=fi0) hlt,List.foldl_append];rfl
  have hfb:=hb (l.getD i fi0) (by rw[List.getD_eq_getElem?_getD,List.getElem?_eq_getElem hlt];exact List.getElem_mem _)
  generalize l.getD i fi0=r at*
  generalize (l.take i).foldl zR_ (Zp_ quota)=S at*
  first|with_reducible refine ks [] (And.intro @qc_ (And.intro @d1 (And.intro @ixl (And.intro @rdl (@ldl))))) ?_|refine kp (And.intro @qc_ (And.intro @d1 (And.intro @ixl (And.intro @rdl (@ldl))))) ?_
  refine Ow.alloc rfl rfl zrFi fun b7 hb7 hw7=> ?_
  simp only[zj_,List.nil_append,List.cons_append]
  refine Ow.permL (M:=(b7, .cells (fiC fi0).toArray 36 (0,0))::X) (by classical exact List.perm_iff_count.2 fun a=>by simp only[List.count_append,List.count_cons,List.count_nil]<;>omega) ?_
  refine ko @qc_ ?_
  have hP1:DkP ((b7, .cells (fiC r).toArray 36 (0,0))::X) G S:=hP.mono fun b o h=>xw_ hb7 h
  have hl7:Sx.look ((b7,Obj.cells (fiC r).toArray 36 (0,0))::X) b7=some (.cells (fiC r).toArray 36 (0,0)):=by simp[Sx.look]
  have hN1:New w.heap.size ((b7,Obj.cells (fiC r).toArray 36 (0,0))::X):=⟨hw7,hN⟩
  generalize (b7,Obj.cells (fiC r).toArray 36 (0,0))::X=L1 at*
  have hr7:=za_ (w0:=w) hl7
  have hrb:=za_ (w0:=w) hP1.disk
  obtain⟨om,hom,hM⟩:=hP1.dirs
  first|with_reducible refine ks [] @qc_ ?_|refine kp @qc_ ?_
  refine Cw.regionS [G.bd,b7] [0,1,2,4,3,5,6,7] [] (by kernel_rfl) (by kernel_rfl) (by kernel_rfl) ?_
  simp only[zo_, ↓zi_, ↓zd_, ↓zz_, ↓zy_,ze_]
  refine kq (And.intro @qc_ (And.intro @hrb (@hr7))) ?_
  refine Ow.soft rfl rfl rfl ?_
  refine Ow.mapGetG (encK:=vs) (encV:=qT_) (k:=r.dir) (z:=none) rfl rfl Tryz.underlying121 jM_ zrPd rfl rfl (za_ hom) hM ?_
  with_reducible refine Ow.nil ?_
  refine⟨by intro b hb;simp only[List.mem_cons,List.not_mem_nil,or_false] at hb;(try subst hb);rfl, ?_⟩
  rw[Z7_]
  cases hwd:zE_ r.dir with
  |none=>
   have hp0:qT_ none= .pointer none:=rfl
   refine kq (And.intro @qc_ @hp0) ?_
   try with_reducible refine Ow.nil ?_
   first|with_reducible refine ks [] @qc_ ?_|refine kp @qc_ ?_
   exact Again.mk ⟨i+1,G,L1⟩ (by show l.length - (i+1)<l.length - i;omega) ⟨hlt,by show DkP L1 G ((l.take (i+1)).foldl zR_ (Zp_ quota));rw[hts];unfold zR_;rw[hwd];exact hP1,rfl,hN1⟩ rfl rfl
  |some k=>
   have hp: ∀q:Nat,qT_ (some q)=vp q 0:=fun _=>rfl
   have hk3:=(qD_ hwd).1
   refine kq (And.intro @qc_ @hp) ?_
   try with_reducible refine Ow.nil ?_
   first|with_reducible refine ks [] (And.intro @qc_ @hr7) ?_|refine kp (And.intro @qc_ @hr7) ?_
   refine Ow.callFV rfl Tryz.call74 (fun w' hw'=>Jp_ r.name w' hfb.1) ?_
   have hno: ¬ (qp_ r.name=true∧r.data.length≤1048576)→zR_ S r=S:=fun h=>by unfold zR_;rw[hwd];simp only;rw[if_neg h]
   cases hfn:qp_ r.name with
   |false=>
    refine ko @qc_ ?_
    first|with_reducible refine ks [] @qc_ ?_|refine kp @qc_ ?_
    exact Again.mk ⟨i+1,G,L1⟩ (by show l.length - (i+1)<l.length - i;omega) ⟨hlt,by show DkP L1 G ((l.take (i+1)).foldl zR_ (Zp_ quota));rw[hts,hno (fun h=>by rw[hfn] at h;cases h.1)];exact hP1,rfl,hN1⟩ rfl rfl
   |true=>
    by_cases hdl:r.data.length≤1048576
    ·have d2:decide ((r.data.length:Int)≤1048576)=true:=decide_eq_true (by omega)
     have hrd:=za_ (w0:=w) (hP1.dir k hk3)
     obtain⟨os,ms,hos,hms,hnp⟩:=hP1.seen k hk3
     refine ko (And.intro @qc_ (And.intro @hr7 (@d2))) ?_
     first|with_reducible refine ks [] @qc_ ?_|refine kp @qc_ ?_
     refine Cw.regionS [G.d k,b7] [0,1,2,4,6,8,3,5,7,9,10,11,12,13] [13] (by kernel_rfl) (by kernel_rfl) (by kernel_rfl) ?_
     simp only[zo_, ↓zi_, ↓zd_, ↓zz_, ↓zy_,ze_]
     refine kq (And.intro @qc_ (And.intro @hrd (@hr7))) ?_
     refine Ow.build (.agg #[vs r.data,vi (r.data.length:Int)]) rfl (agU_ r.data r.data.length) ?_
     refine kq @qc_ ?_
     refine Ow.soft rfl rfl rfl ?_
     refine Ow.box rfl rfl fun b8 hb8 hw8=> ?_
     simp only[qv_,qu_,qA_,zj_]
     have hP2:=(hP1.mono (X':=L1++ [(b8,kc_ ⟨r.data,r.data.length⟩)]) fun b o h=>zl_ h).addFile (xz_ hb8) (fun hm=>by have:=zv_ hb8 (hP1.fb_key hm);omega) ⟨hdl,Nat.le_refl _⟩
     have hN2:New w.heap.size (L1++ [(b8,kc_ ⟨r.data,r.data.length⟩)]):=hN1.app (show New w.heap.size [(b8,kc_ ⟨r.data,r.data.length⟩)] from⟨hw8,trivial⟩)
     refine Ow.permL (M:=L1++ [(b8,kc_ ⟨r.data,r.data.length⟩)]) (List.Perm.refl _) ?_
     have hu1:=za_ (w0:=w) (zl_ (M:= [(b8,kc_ ⟨r.data,r.data.length⟩)]) (hP1.dir k hk3))
     have hu2:=za_ (w0:=w) (zl_ (M:= [(b8,kc_ ⟨r.data,r.data.length⟩)]) hl7)
     generalize L1++ [(b8,kc_ ⟨r.data,r.data.length⟩)]=L2 at*
     with_reducible refine Ow.nil ?_
     refine⟨fun b hb=>by
      simp only[List.mem_cons,List.not_mem_nil,or_false] at hb
      rcases hb with rfl|rfl
      ·rw[hu1,hrd]
      ·rw[hu2,hr7], ?_⟩
     obtain⟨os2,ms2,hos2,hms2,hnp2⟩:=hP2.seen k hk3
     refine kq @qc_ ?_
     refine Ow.mapUpdateG (encK:=vs) (encV:=qT_) (k:=r.name) (v:=some b8) rfl rfl Tryz.underlying127 jM_ rfl rfl rfl hos2 hms2 (fun o3 hm3=> ?_)
     have hnp3:=hnp2.put (hP2.ok.seen k hk3).nodup r.name S.files.length
     have hfe: (addF G b8).fb.getD S.files.length 0=b8:=QE_ _ _ hP.len
     rw[hfe] at hnp3
     have hP3:=hP2.seen1 (L:=setB L2 (G.s k) o3) hk3 (l':=KK_ (S.dir k).seen (r.name,S.files.length)) (fun b o hb h1=>(zb_ (Ne.symm h1)).trans hb) ⟨o3,_,zw_ hos2,hm3,hnp3⟩ (JG_ _ (hP2.ok.seen k hk3)) (WR_ (c:=⟨0,r.name,[],S.files.length⟩) (hP2.ok.seenN k hk3) (fun h=>by cases h) (fun _=>by show S.files.length< (S.files++ [_]).length;simp))
     have hN3:New w.heap.size (setB L2 (G.s k) o3):=New.of_le fun q hq=>hN2.le q (by rwa [zQ_] at hq)
     refine ko @qc_ ?_
     first|with_reducible refine ks [] @qc_ ?_|refine kp @qc_ ?_
     exact Again.mk ⟨i+1,addF G b8,setB L2 (G.s k) o3⟩ (by show l.length - (i+1)<l.length - i;omega) ⟨hlt,by show DkP (setB L2 (G.s k) o3) (addF G b8) ((l.take (i+1)).foldl zR_ (Zp_ quota));rw[hts];unfold zR_;rw[hwd];simp only;rw[if_pos ⟨hfn,hdl⟩];exact hP3,rfl,hN3⟩ rfl rfl
    ·have d2:decide ((r.data.length:Int)≤1048576)=false:=decide_eq_false (by omega)
     refine ko (And.intro @qc_ (And.intro @hr7 (@d2))) ?_
     first|with_reducible refine ks [] @qc_ ?_|refine kp @qc_ ?_
     exact Again.mk ⟨i+1,G,L1⟩ (by show l.length - (i+1)<l.length - i;omega) ⟨hlt,by show DkP L1 G ((l.take (i+1)).foldl zR_ (Zp_ quota));rw[hts,hno (fun h=>hdl h.2)];exact hP1,rfl,hN1⟩ rfl rfl
 ·obtain rfl:i=l.length:=by omega
  have d1:decide ((l.length:Int)< (l.length:Int))=false:=decide_eq_false (by omega)
  rw[List.take_length] at hP
  unfold ofD
  generalize l.foldl zR_ (Zp_ quota)=S at*
  have hrb:=za_ (w0:=w) hP.disk
  obtain⟨om,hom,hM⟩:=hP.dirs
  first|with_reducible refine ks [] (And.intro @qc_ (And.intro @d1 (@hrb))) ?_|refine kp (And.intro @qc_ (And.intro @d1 (@hrb))) ?_
  refine Ow.rangeMapG (encK:=vs) (encV:=qT_) rfl rfl Tryz.underlying121 rfl (za_ hom) hM fun bi oi hbi hwi hI=> ?_
  refine Ow.permL (M:=(bi,oi)::X) (by classical exact List.perm_iff_count.2 fun a=>by simp only[List.count_append,List.count_cons,List.count_nil]<;>omega) ?_
  have hbX:bi∉keys X:=fun hm=>by have:=zv_ hbi hm;omega
  refine ko @qc_ ?_
  first|with_reducible refine ks [] @qc_ ?_|refine kp @qc_ ?_
  refine Cw.loopG (G:=OvKG) [58,59,60,61,10,62,63] (fun g=> []) (fun g=>(bi,g.it)::g.X) (fun g=>ItG vs qT_ g.it G.bm om (Jr_ G) g.dn g.lf∧DkP g.X g.G (setV S g.vis)∧g.dn.map Prod.fst=g.vis.map jY_∧(∀k,k∈g.vis→k<3)∧bi∉keys g.X∧g.G.d=G.d∧g.G.bm=G.bm∧g.G.bd=G.bd∧Sx.look g.X G.bm=some om∧New w.heap.size g.X) (fun g=>g.lf.length) ⟨[],[],Jr_ G,oi,G,X⟩ rfl rfl ?_ ?_
  ·exact⟨hI,by rw[ak5_];exact hP,rfl,fun k hk=>(by cases hk),hbX,rfl,rfl,rfl,hom,hN⟩
  intro g j hg
  refine kv ?_
  clear hI hP hN hbX hrb
  obtain⟨vis,dn,lf,it,G1,X1⟩:=g
  simp only at hg ⊢
  obtain⟨hI,hP,hvs,hv3,hbX,hgd,hgm,hgb,hom1,hN⟩:=hg
  have hoX: ∀x b o,Sx.look X1 b=some o→Sx.look ((bi,x)::X1) b=some o:=fun x b o hb=>by
   simp only[Sx.look]
   rw[if_neg (fun e=>hbX (by have e':b=bi:=(by omega);rw[←e'];exact zh_ hb))]
   exact hb
  first|with_reducible refine ks [] @qc_ ?_|refine kp @qc_ ?_
  refine Ow.nextMapG rfl rfl rfl (ky_ _ _ _) (za_ (hoX _ _ _ hom1)) hI (fun hlf=> ?_) (fun p it' lf' hl' hI'=> ?_)
  ·subst hlf
   have hp:=kF_ hI
   rw[List.append_nil] at hp
   refine ko @qc_ ?_
   first|with_reducible refine ks [] @qc_ ?_|refine kp @qc_ ?_
   refine⟨_,(ke @qc_), ?_⟩
   refine⟨Ext.of_new ⟨hwi,hN⟩,G1,by rw[hgb];rfl, ?_⟩
   rw[show setV S [0,1,2]=setV S vis from ahk_ S fun k=>⟨fun hk=> ?_,fun hk=> ?_⟩]
   ·exact hP.mono fun b o hb=>hoX _ _ _ hb
   ·have hk3:k<3:=by simp only[List.mem_cons,List.not_mem_nil,or_false] at hk;omega
    have hm:jY_ k∈dn.map Prod.fst:=by
     refine List.mem_map.2 ⟨(jY_ k,some (G.d k)),hp.mem_iff.2 ?_,rfl⟩
     have:k=0∨k=1∨k=2:=by omega
     rcases this with rfl|rfl|rfl<;>simp[Jr_,jY_]
    rw[hvs] at hm
    obtain⟨j,hj,e⟩:=List.mem_map.1 hm
    have h1:=jG_ (hv3 j hj)
    rw[e,jG_ hk3] at h1
    cases h1;exact hj
   ·have:=hv3 k hk
    simp only[List.mem_cons,List.not_mem_nil,or_false];omega
  ·refine kn ?_
   refine ko @qc_ ?_
   first|with_reducible refine ks [] @qc_ ?_|refine kp @qc_ ?_
   refine Ow.entryMapG (encK:=vs) (encV:=qT_) rfl rfl rfl (xi_ _ _ _ _) (za_ (hoX _ _ _ hom1)) hI' ?_
   have hp:=kF_ hI'
   obtain⟨k,hk3,rfl⟩:=aaK_ (hp.mem_iff.1 (List.mem_append_left _ (List.mem_append_right _ List.mem_cons_self)))
   have hpp: ∀q:Nat,qT_ (some q)=vp q 0:=fun _=>rfl
   refine ko (And.intro @qc_ @hpp) ?_
   first|with_reducible refine ks [] @qc_ ?_|refine kp @qc_ ?_
   refine Ow.permL (M:=X1++ [(bi,it')]) (by classical exact List.perm_iff_count.2 fun a=>by simp only[List.count_append,List.count_cons,List.count_nil]<;>omega) ?_
   refine Ow.callX (X:=X1) (Y:= [(bi,it')]) rfl rfl rfl Tryz.call75 (fun w' hw' hX' hn'=>by rw[show vp (G.d k) 0=vp (G1.d k) 0 by rw[hgd]];exact Xp_ X1 G1 (setV S vis) k w' hX' hn' hP hk3) (fun v4 D4 hC4 hS4=> ?_)
   obtain⟨rfl,hP4,hkeep⟩:=hS4
   rw[aer_] at hP4
   have hbm2:=hP.dirs
   have hom4:Sx.look D4 G.bm=some om:=hkeep _ _ hom1 (by rw[←hgm];exact(hP.nodb k hk3).2) (fun e=>by
    have h1:=hP.dir k hk3
    rw[←e,hom1] at h1
    cases h1
    obtain⟨es,cl,h,-⟩:=hM;cases h)
   have hbD:bi∉keys D4:=fun hm=>by
    rcases hC4.new bi hm with h| ⟨h,-⟩
    ·exact hbX h
    ·have:=zv_ h (b:=bi) (by rw[zt_];simp[keys]);omega
   have hN4:New w.heap.size D4:=wK_ hC4 hN
   refine Ow.permL (M:=(bi,it')::D4) (by classical exact List.perm_iff_count.2 fun a=>by simp only[List.count_append,List.count_cons,List.count_nil]<;>omega) ?_
   refine ko @qc_ ?_
   first|with_reducible refine ks [] @qc_ ?_|refine kp @qc_ ?_
   exact Again.mk ⟨vis++ [k],dn++ [(jY_ k,some (G.d k))],lf',it',aio_ G1 k (G1.s k),D4⟩ (by show lf'.length<lf.length;omega) ⟨hI',hP4,by show(dn++ [_]).map Prod.fst=(vis++ [k]).map jY_;rw[List.map_append,List.map_append,hvs];rfl,fun j hj=>by
    rcases List.mem_append.1 hj with hj|hj
    ·exact hv3 j hj
    ·rw[List.mem_singleton.1 hj];exact hk3,hbD,hgd,hgm,hgb,hom4,hN4⟩ rfl rfl
end Go.Proofs
end
section
namespace Go.Proofs
open Go Go.Sx Go.StP Go.Shelf
set_option maxRecDepth 100000
def Tryz.keysL_ren:Go.Shelf.Ren:=⟨fun|7=>124|10=>164|n=>n,fun|23=>127|26=>9|3=>124|28=>185|0=>0|27=>184|33=>74|4=>4|n=>n,fun|n=>n⟩
theorem Tryz.keysL:Go.Proofs.SlLaysZ.n7 Tryz.prog Tryz.keysL_ren:={
 mixed:=by kernel_rfl
 f7:=⟨Tryz.f124.name,by decide,Tryz.func124.trans (congrArg some (by kernel_rfl))⟩
 f10:=⟨Tryz.f164.name,by decide,Tryz.func164.trans (congrArg some (by kernel_rfl))⟩
 t0:=Tryz.underlying0
 a0:=Tryz.isAgg0
 z0:=Tryz.sizeOf0
 v0:=Tryz.zeroValue0
 t4:=Tryz.underlying4
 a4:=Tryz.isAgg4
 z4:=Tryz.sizeOf4
 v4:=Tryz.zeroValue4
 t23:=Tryz.underlying127
 a23:=Tryz.isAgg127
 z23:=Tryz.sizeOf127
 v23:=Tryz.zeroValue127
 t26:=Tryz.underlying9
 a26:=Tryz.isAgg9
 z26:=Tryz.sizeOf9
 v26:=Tryz.zeroValue9
 t27:=Tryz.underlying184
 a27:=Tryz.isAgg184
 z27:=Tryz.sizeOf184
 v27:=Tryz.zeroValue184
 t28:=Tryz.underlying185
 a28:=Tryz.isAgg185
 z28:=Tryz.sizeOf185
 v28:=Tryz.zeroValue185
 t33:=Tryz.underlying74
 a33:=Tryz.isAgg74
 z33:=Tryz.sizeOf74
 v33:=Tryz.zeroValue74}
def Tryz.sortedL_ren:Go.Shelf.Ren:=⟨fun|6=>123|8=>162|9=>163|11=>192|13=>194|12=>193|23=>225|24=>226|14=>216|15=>217|16=>218|17=>219|18=>220|19=>221|20=>222|21=>223|22=>224|25=>236|26=>237|27=>238|28=>239|29=>240|30=>241|31=>248|n=>n,fun|26=>9|28=>185|24=>72|0=>0|3=>3|37=>219|48=>207|50=>252|4=>4|40=>284|39=>283|45=>288|5=>5|9=>9|51=>301|55=>305|57=>316|58=>77|33=>74|n=>n,fun|n=>n⟩
theorem Tryz.sortedL:Go.Proofs.SlLaysZ.n6 Tryz.prog Tryz.sortedL_ren:={
 mixed:=by kernel_rfl
 f6:=⟨Tryz.f123.name,by decide,Tryz.func123.trans (congrArg some (by kernel_rfl))⟩
 f8:=⟨Tryz.f162.name,by decide,Tryz.func162.trans (congrArg some (by kernel_rfl))⟩
 f11:=⟨Tryz.f192.name,by decide,Tryz.func192.trans (congrArg some (by kernel_rfl))⟩
 t0:=Tryz.underlying0
 a0:=Tryz.isAgg0
 z0:=Tryz.sizeOf0
 v0:=Tryz.zeroValue0
 t24:=Tryz.underlying72
 a24:=Tryz.isAgg72
 z24:=Tryz.sizeOf72
 v24:=Tryz.zeroValue72
 t26:=Tryz.underlying9
 a26:=Tryz.isAgg9
 z26:=Tryz.sizeOf9
 v26:=Tryz.zeroValue9
 t28:=Tryz.underlying185
 a28:=Tryz.isAgg185
 z28:=Tryz.sizeOf185
 v28:=Tryz.zeroValue185
 i26:=by kernel_rfl}
def Tryz.sortL_ren:Go.Shelf.Ren:=⟨fun|6=>163|8=>194|9=>193|19=>225|20=>226|21=>216|22=>217|23=>218|24=>219|25=>220|26=>221|27=>222|28=>223|29=>224|36=>236|31=>237|32=>238|37=>239|38=>240|39=>241|41=>248|n=>n,fun|27=>72|29=>9|3=>3|32=>219|26=>72|0=>0|44=>207|46=>252|4=>4|36=>284|35=>283|41=>288|5=>5|9=>9|53=>301|57=>305|63=>316|64=>77|n=>n,fun|n=>n⟩
theorem Tryz.sortL:Go.Proofs.SlLaysM.n6 Tryz.prog Tryz.sortL_ren:={
 mixed:=by kernel_rfl
 f6:=⟨Tryz.f163.name,by decide,Tryz.func163.trans (congrArg some (by kernel_rfl))⟩
 f8:=Tryz.func194.trans (congrArg some (by kernel_rfl))
 f9:=⟨Tryz.f193.name,by decide,Tryz.func193.trans (congrArg some (by kernel_rfl))⟩
 f19:=Tryz.func225.trans (congrArg some (by kernel_rfl))
 f20:=Tryz.func226.trans (congrArg some (by kernel_rfl))
 f21:=⟨Tryz.f216.name,by decide,Tryz.func216.trans (congrArg some (by kernel_rfl))⟩
 f22:=⟨Tryz.f217.name,by decide,Tryz.func217.trans (congrArg some (by kernel_rfl))⟩
 f23:=⟨Tryz.f218.name,by decide,Tryz.func218.trans (congrArg some (by kernel_rfl))⟩
 f24:=⟨Tryz.f219.name,by decide,Tryz.func219.trans (congrArg some (by kernel_rfl))⟩
 f25:=⟨Tryz.f220.name,by decide,Tryz.func220.trans (congrArg some (by kernel_rfl))⟩
 f26:=⟨Tryz.f221.name,by decide,Tryz.func221.trans (congrArg some (by kernel_rfl))⟩
 f27:=⟨Tryz.f222.name,by decide,Tryz.func222.trans (congrArg some (by kernel_rfl))⟩
 f28:=⟨Tryz.f223.name,by decide,Tryz.func223.trans (congrArg some (by kernel_rfl))⟩
 f29:=⟨Tryz.f224.name,by decide,Tryz.func224.trans (congrArg some (by kernel_rfl))⟩
 f31:=Tryz.func237.trans (congrArg some (by kernel_rfl))
 f32:=Tryz.func238.trans (congrArg some (by kernel_rfl))
 f36:=⟨Tryz.f236.name,by decide,Tryz.func236.trans (congrArg some (by kernel_rfl))⟩
 f37:=⟨Tryz.f239.name,by decide,Tryz.func239.trans (congrArg some (by kernel_rfl))⟩
 f38:=⟨Tryz.f240.name,by decide,Tryz.func240.trans (congrArg some (by kernel_rfl))⟩
 f39:=⟨Tryz.f241.name,by decide,Tryz.func241.trans (congrArg some (by kernel_rfl))⟩
 f41:=⟨Tryz.f248.name,by decide,Tryz.func248.trans (congrArg some (by kernel_rfl))⟩
 t0:=Tryz.underlying0
 a0:=Tryz.isAgg0
 z0:=Tryz.sizeOf0
 v0:=Tryz.zeroValue0
 t3:=Tryz.underlying3
 a3:=Tryz.isAgg3
 z3:=Tryz.sizeOf3
 v3:=Tryz.zeroValue3
 t4:=Tryz.underlying4
 a4:=Tryz.isAgg4
 z4:=Tryz.sizeOf4
 v4:=Tryz.zeroValue4
 t5:=Tryz.underlying5
 a5:=Tryz.isAgg5
 z5:=Tryz.sizeOf5
 v5:=Tryz.zeroValue5
 t9:=Tryz.underlying9
 a9:=Tryz.isAgg9
 z9:=Tryz.sizeOf9
 v9:=Tryz.zeroValue9
 t26:=Tryz.underlying72
 a26:=Tryz.isAgg72
 z26:=Tryz.sizeOf72
 v26:=Tryz.zeroValue72
 t27:=Tryz.underlying72
 a27:=Tryz.isAgg72
 z27:=Tryz.sizeOf72
 v27:=Tryz.zeroValue72
 t29:=Tryz.underlying9
 a29:=Tryz.isAgg9
 z29:=Tryz.sizeOf9
 v29:=Tryz.zeroValue9
 t32:=Tryz.underlying219
 a32:=Tryz.isAgg219
 z32:=Tryz.sizeOf219
 v32:=Tryz.zeroValue219
 t35:=Tryz.underlying283
 a35:=Tryz.isAgg283
 z35:=Tryz.sizeOf283
 v35:=Tryz.zeroValue283
 t36:=Tryz.underlying284
 a36:=Tryz.isAgg284
 z36:=Tryz.sizeOf284
 v36:=Tryz.zeroValue284
 t41:=Tryz.underlying288
 a41:=Tryz.isAgg288
 z41:=Tryz.sizeOf288
 v41:=Tryz.zeroValue288
 t44:=Tryz.underlying207
 a44:=Tryz.isAgg207
 z44:=Tryz.sizeOf207
 v44:=Tryz.zeroValue207
 t46:=Tryz.underlying252
 a46:=Tryz.isAgg252
 z46:=Tryz.sizeOf252
 v46:=Tryz.zeroValue252
 t53:=Tryz.underlying301
 a53:=Tryz.isAgg301
 z53:=Tryz.sizeOf301
 v53:=Tryz.zeroValue301
 t57:=Tryz.underlying305
 a57:=Tryz.isAgg305
 z57:=Tryz.sizeOf305
 v57:=Tryz.zeroValue305
 t63:=Tryz.underlying316
 a63:=Tryz.isAgg316
 z63:=Tryz.sizeOf316
 v63:=Tryz.zeroValue316
 t64:=Tryz.underlying77
 a64:=Tryz.isAgg77
 z64:=Tryz.sizeOf77
 v64:=Tryz.zeroValue77}
open Go.RowKit Go.Maps Go.Sort
theorem aqE_ (m:Nat):AnyZ.SortsIn Tryz.prog Tryz.sortedL_ren Fence.wide m:=
 ⟨fun blk off cap ss W hH hblk hsz=>callsIn_wide.2 (AnyM.slices_Sort_string Tryz.sortL blk off cap ss W hH hblk hsz),
 fun p cap W=>callsIn_wide.2 (AnyM.slices_Sort_string_none Tryz.sortL p cap W)⟩
theorem ahd_ {a b:List UInt8} (h:ltB a b=true):leB a b=true:=by
 rw[VR_,decide_eq_true_eq] at h
 simp only[leB,decide_eq_true_eq]
 exact List.le_of_lt h
theorem ajG_ {l:NmL} (h:SrtN l) {ss:List (List UInt8)} (hp:ss.Perm (l.map Prod.fst)):ss.mergeSort (fun x y=>decide (x≤y))=l.map Prod.fst:=by
 show ss.mergeSort leB=_
 rw[mergeSort_of_perm hp]
 refine List.mergeSort_of_pairwise ?_
 exact List.pairwise_map.2 (h.imp fun h=>ahd_ h)
theorem aqZ_ {W:World} {base n:Nat} {T:TypeId} {v:Value} {xs:List Value} (h:W.ownsRow base T 1 v n xs): ∃D:zc_,(∀p,p∈D→W.heap[p.1]? =some p.2∧base≤p.1)∧(keys D).Nodup∧Gr D T 1 v n xs:=by
 obtain⟨hl,h⟩:=h
 rcases h with⟨rfl,rfl⟩ | ⟨g,cap,cur,rfl,hb,hg,hc,hm,hs,ht⟩
 ·obtain rfl:xs= []:=List.eq_nil_of_length_eq_zero (by simpa using hl)
  exact⟨[],fun p hp=>(by cases hp),List.nodup_nil,Gr.nl⟩
 ·refine⟨[(g, .cells cur T (0,0))], ?_,by simp[keys], ?_⟩
  ·intro p hp
   simp only[List.mem_singleton] at hp
   subst hp
   exact⟨hg,hb⟩
  ·by_cases h0:0<cap
   ·refine .inl (Buf.at_ (rest:=cur.toList.drop (n*1)) ?_ hl ?_ hc h0)
    ·rw[←ht,List.take_append_drop]
     simp[Sx.look]
    ·rw[List.length_drop,Array.length_toList,hs];omega
   ·obtain rfl:cap=0:=by omega
    obtain rfl:n=0:=by omega
    refine .inr ⟨rfl,List.eq_nil_of_length_eq_zero (by simpa using hl),g,rfl, ?_⟩
    have:cur= #[]:=Array.eq_empty_of_size_eq_zero (by simpa using hs)
    simp[Sx.look,this]
def RN (_:Value):Option (DataW Unit×List MemPlace):=some (.nil,[])
theorem anY_ {w:World} {b:Nat} {o:Obj} {m:List (List UInt8×Option Nat)} (ho:w.heap[b]? =some o) (hM:wY_ vs qT_ o m) (hn: (m.map Prod.fst).Nodup) (hk: ∀p,p∈m→p.1.length≤1000000) (hs:m.length≤1000000):
  ∃D0:DataW Unit,w.ownsMap Tryz.prog 9 RN b m.length D0∧Maps.size D0≤1000000∧(strKeys D0).Perm (m.map Prod.fst):=by
 obtain⟨es,clock,rfl,he,hb⟩:=hM
 have hlen:es.size=m.length:=by have:=congrArg List.length he;simpa using this
 have hkey:es.toList.map (·.key)=m.map fun p=>vs p.1:=by
  have:=congrArg (List.map Prod.fst) he
  simpa [kr_,Function.comp_def] using this
 have hrd: ∀x,x∈es.toList→ ∃s:List UInt8,x.key=vs s∧s.length≤1000000:=by
  intro x hx
  have:x.key∈m.map fun p=>vs p.1:=by rw[←hkey];exact List.mem_map.2 ⟨x,hx,rfl⟩
  obtain⟨p,hp,e⟩:=List.mem_map.1 this
  exact⟨p.1,e.symm,hk p hp⟩
 have hrd2: ∀x,x∈es.toList→ ∀s:List UInt8,x.key=vs s→s.length≤1000000→WideElems.rd Tryz.prog 9 RN x=some (.string s, .nil):=by
  intro x hx s hs hl
  have hL:s.length≤maxLen:=Nat.le_trans hl (by decide)
  have hL2: (ByteArray.mk s.toArray).size≤maxLen:=hL
  simp[WideElems.rd,keyOf,Tryz.underlying9,mapKey,hs,RN,vs,hL2]
 have hbo:=List.pairwise_append.1 hb
 refine⟨_,⟨es,clock,ho,⟨?_,⟨?_, ?_, ?_⟩, ?_⟩,by omega,rfl⟩, ?_, ?_⟩
 ·rw[hlen];exact Nat.le_trans hs (by decide)
 ·intro x hx
  exact hbo.2.2 x.born (List.mem_map.2 ⟨x,hx,rfl⟩) clock (by simp)
 ·exact hbo.1.imp fun h=>Nat.ne_of_lt h
 ·rw[hkey]
  have: (m.map Prod.fst).map vs=m.map fun p=>vs p.1:=by simp[Function.comp_def]
  rw[←this]
  refine List.pairwise_map.2 (hn.imp fun h e=>h ?_)
  simpa [vs] using e
 ·intro x hx
  obtain⟨s,e,hl⟩:=hrd x hx
  exact⟨_,hrd2 x hx s e hl⟩
 ·rw[Maps.size_eq,(WideShapes.sorted_perm _).length_eq,List.length_map,Array.length_toList,hlen];exact hs
 ·show(List.map (fun p:Lit×DataW Unit=>strOf p.1) _).Perm _
  refine((WideShapes.sorted_perm _).map _).trans (List.Perm.of_eq ?_)
  rw[List.map_map]
  refine List.map_congr_left ?_|>.trans (?_:es.toList.map (fun x=>match x.key with| .string s=>s.data.toList|_=> [])=_)
  ·intro x hx
   obtain⟨s,e,hl⟩:=hrd x hx
   simp only[Function.comp]
   rw[WideElems.rg_of (hrd2 x hx s e hl),e]
   rfl
  ·have:es.toList.map (fun x=>match x.key with| .string s=>s.data.toList|_=> [])=(es.toList.map (·.key)).map (fun k=>match k with| .string s=>s.data.toList|_=> []):=by rw[List.map_map];rfl
   rw[this,hkey,List.map_map]
   rfl
theorem abf_ (X:zc_) (G:DkG) (S:DiskL) (k c:Nat) (w:World) (hP:DkP X G S) (hX: ∀b o,Sx.look X b=some o→w.heap[b]? =some o) (hk:k<3) (hs: (S.dir k).seen.length≤1000000) (hl: ∀p,p∈ (S.dir k).seen→p.1.length≤1000000)
  (hc:w.heap[c]? =some (.cells #[vm (G.s k)] 127 (0,0))):
  Rets Tryz.prog 123 #[.func (.func 164) #[] #[vp c 0]] w (XS w [] (fun v D=>GrI D 9 1 v (S.dir k).seen.length ((S.dir k).seen.map fun p=>vs p.1))):=by
 obtain⟨o,m,h1,h2,h3⟩:=hP.seen k hk
 have ho:=hX _ _ h1
 have hlen:m.length=(S.dir k).seen.length:=by have:=h3.length_eq;simpa using this
 have hmk: ∀p,p∈m→p.1.length≤1000000:=by
  intro p hp
  have:=h3.mem_iff.1 hp
  obtain⟨q,hq,e⟩:=List.mem_map.1 this
  rw[←e];exact hl q hq
 obtain⟨D0,hown,hsz,hperm⟩:=anY_ ho h2 (h3.keys (hP.ok.seen k hk).nodup) hmk (by omega)
 have hcl:=(Array.getElem?_eq_some_iff.1 hc).1
 have hseq:SeqGives Fence.wide 2 Tryz.prog 164 #[.pointer (some ⟨c,0,none⟩)] encStr (fun ss=>ss.Perm (strKeys D0)) (Maps.size D0) w:=
  AnyZ.keys_gives (ρ:=Tryz.keysL_ren) {Tryz.keysL with} Fence.wide _ trivial rfl (by omega) c (G.s k) m.length D0 _ hcl (by simp[World.cell?,hc,vm]) hown
 have h:=AnyZ.sorted_in Tryz.sortedL Fence.wide 5 trivial trivial trivial trivial rfl (by omega) (aqE_ _) (enters_of Tryz.func163 (by kernel_rfl) rfl) 164 #[.pointer (some ⟨c,0,none⟩)] trivial (enters_of Tryz.func164 (by kernel_rfl) rfl) _ (Maps.size D0) (Nat.le_trans hsz (by decide)) (by omega) w hseq
 refine Calls.mono (callsIn_wide.1 h) ?_
 rintro e w' ⟨v,ss,rfl,hS,hrow,-,hb⟩
 obtain⟨D,hD,hDn,hG⟩:=aqZ_ hrow
 have hss:ss.mergeSort (fun x y=>decide (x≤y))=(S.dir k).seen.map Prod.fst:=by
  refine ajG_ (hP.ok.seen k hk) ((hS.trans hperm).trans ?_)
  have:=h3.map Prod.fst
  refine this.trans (List.Perm.of_eq ?_)
  rw[List.map_map];rfl
 have hsl:ss.length=(S.dir k).seen.length:=by
  have:=congrArg List.length hss
  simpa using this
 refine⟨v,D,rfl,⟨fun b o hm=>(hD _ hm).1,hDn,fun b hb' _=>hb.block b hb',hb.size,hb.tape,hb.os,hb.output⟩,⟨fun b hb'=> ?_,fun b hb'=>(by cases hb')⟩,⟨D,fun _ h=>h, ?_⟩⟩
 ·obtain⟨p,hp,rfl⟩:=List.mem_map.1 hb'
  exact .inr (hD p hp).2
 rw[hss,hsl] at hG
 have: ((S.dir k).seen.map Prod.fst).map encStr=(S.dir k).seen.map fun p=>vs p.1:=by rw[List.map_map];rfl
 rw[this] at hG
 exact hG
end Go.Proofs
end
section
open Go Go.Proofs Go.Sx Go.StP
namespace Go.Proofs
set_option maxRecDepth 10000
set_option maxHeartbeats 400000
set_option linter.unusedSimpArgs false
theorem af6_ (b:Nat) (w:World):
  Rets Tryz.prog 124 #[vm b] w (XS w [] (fun v' D=> ∃b1,v'= .func (.func 164) #[] #[vp b1 0]∧D= [(b1, .cells #[vm b] 127 (0,0))])):=by
 refine Rets.enter Tryz.func124 rfl (rs:= [.tmp 2]) Tryz.results124 Tryz.ntmps124 ?_
 refine kf ?_
 first|with_reducible refine ks [] @Nat.add_zero ?_|refine kp @Nat.add_zero ?_
 refine Ow.box rfl rfl fun b1 hb1 hw1=> ?_
 simp only[qv_,qu_,vm,List.nil_append]
 refine ko @Nat.add_zero ?_
 refine⟨_,(ke @Nat.add_zero), ?_⟩
 exact⟨⟨fun c hc=>(by simp only[keys,List.map_cons,List.map_nil,List.mem_singleton] at hc;exact .inr (hc▸hw1)),fun c hc=>(by cases hc)⟩,b1,by simp[vj_,ev,ZK_],rfl⟩
def DkB (S:DiskL):Prop:= ∀k,k<3→(S.dir k).seen.length≤1000000∧ ∀p,p∈ (S.dir k).seen→p.1.length≤1000000
def Z8_ (S:DiskL) (dir:List UInt8):List (List UInt8):=if jg_ S dir []≠0 then [] else(S.dir ((zE_ dir).getD 0)).seen.map Prod.fst
set_option linter.defProp false
def Js_:=And.intro (And.intro (And.intro (@zg_) (@zf_)) (And.intro (@qx_) (@qV_))) (And.intro (And.intro (@qP_) (@qQ_)) (And.intro (@Sx.tup2_0) (And.intro (@Sx.tup2_1) (@Je_))))
theorem QP_ (w:World) (G:DkG) (S:DiskL) (dir:List UInt8) (hD:DkW w G S) (hB:DkB S):
  Rets Tryz.prog 79 #[vp G.bd 0,vs dir] w (XS w [] (fun v D=>GrI D 9 1 v (Z8_ S dir).length ((Z8_ S dir).map vs))):=by
 have hD':=hD
 obtain⟨X,hX,hP⟩:=hD
 refine Rets.enter Tryz.func79 rfl (rs:= [.tmp 4]) Tryz.results79 Tryz.ntmps79 ?_
 refine kf ?_
 first|with_reducible refine ks [] @Js_ ?_|refine kp @Js_ ?_
 have hN1:New w.heap.size ([]:zc_):=trivial
 refine Ow.callC rfl rfl Tryz.call80 (fun w' hw'=>Rets.toX (jX_ w' G S dir (.slice none 0 0) [] (hD'.old hw' hN1) (SlV.nil w') (by simp) (fun s hs=>by cases hs))) (fun B2 v2 D2 hA2 hB2 hN2 hS2=> ?_)
 obtain⟨rfl,hS2⟩:=hS2
 rw[List.append_nil]
 unfold Z8_
 rcases hS2 with⟨he,rfl⟩ | ⟨he,k,hk,rfl⟩
 ·rw[if_pos he]
  have e1:=xu_ he
  refine ko @Js_ ?_
  first|with_reducible refine ks [] (And.intro @Js_ @e1) ?_|refine kp (And.intro @Js_ @e1) ?_
  refine⟨_,(ke @Js_), ?_⟩
  exact⟨Ext.refl w [],Gr.nl.i fun _ h=>h⟩
 ·rw[if_neg (by rw[he];simp),hk]
  have hk3:=(qD_ hk).1
  have hdr:=hX _ _ (hP.dir k hk3)
  have e1: ((0:Int) !=0)=false:=rfl
  refine ko @Js_ ?_
  first|with_reducible refine ks [] (And.intro @Js_ (And.intro @e1 (@hdr))) ?_|refine kp (And.intro @Js_ (And.intro @e1 (@hdr))) ?_
  refine Ow.callC rfl rfl Tryz.call124 (fun w' hw'=>af6_ (G.s k) w') (fun B3 v3 D3 hA3 hB3 hN3 hS3=> ?_)
  obtain⟨b1,rfl,rfl⟩:=hS3
  rw[List.nil_append]
  have hN3':=hN3.mono hB3
  refine ko @Js_ ?_
  refine Ow.callC rfl rfl Tryz.call123 (fun w' hw'=>abf_ X G S k b1 w' hP (fun b o h=>(hw'.old b (Array.getElem?_eq_some_iff.1 (hX b o h)).1 (hN3'.not (Array.getElem?_eq_some_iff.1 (hX b o h)).1)).trans (hX b o h)) hk3 (hB k hk3).1 (hB k hk3).2 (hw'.has _ _ List.mem_cons_self)) (fun B4 v4 D4 hA4 hB4 hN4 hS4=> ?_)
  refine ko @Js_ ?_
  refine⟨_,(ke @Js_), ?_⟩
  refine⟨Ext.of_new (hN3'.app (hN4.mono hB4)), ?_⟩
  rw[List.length_map,List.map_map]
  exact hS4.mono fun p hp=>List.mem_cons_of_mem _ hp
end Go.Proofs
end
section
open Go Go.Proofs Go.Sx Go.StP
namespace Go.Proofs
set_option maxRecDepth 10000
set_option maxHeartbeats 400000
set_option linter.unusedSimpArgs false
def zW_ (S:DiskL) (k:Nat):List FiL:=(if S.off=true then [] else(S.dir k).seen).map fun p=>⟨jY_ k,p.1,(S.files.getD p.2 q2_).data⟩
def ji_ (S:DiskL):Nat→List FiL
 |0=> []
 |k+1=>ji_ S k++zW_ S k
def Qx_ (S:DiskL):List FiL:=ji_ S 3
theorem wl_ {S:DiskL} {k:Nat} (hk:k<3):Z8_ S (jY_ k)=(if S.off=true then [] else(S.dir k).seen).map Prod.fst:=by
 unfold Z8_ jg_
 rw[jG_ hk]
 cases S.off<;>simp
theorem Xl_ (l:List (List UInt8)): (l.map strC).flatten=l.map vs:=by
 induction l with
 |nil=>rfl
 |cons x l ih=>simp[strC,ih]
theorem wG_ {S:DiskL} (hB:DkB S) {k:Nat} (hk:k<3): (zW_ S k).length≤1000000:=by
 unfold zW_
 rw[List.length_map]
 split
 ·simp
 ·exact(hB k hk).1
theorem Zg_ {S:DiskL} (hB:DkB S): ∀k,k≤3→(ji_ S k).length≤k*1000000
 |0,_=>Nat.zero_le _
 |k+1,hk=>by
  have h1:=Zg_ hB k (by omega)
  have h2:=wG_ hB (k:=k) (by omega)
  show(ji_ S k++zW_ S k).length≤_
  rw[List.length_append];omega
structure FlG where
 k:Nat
 v:Value
 D1:zc_
 DG:zc_
structure FjG where
 j:Nat
 v:Value
 D1:zc_
 DG:zc_
set_option linter.defProp false
def k2_:=And.intro (And.intro (And.intro (@zg_) (And.intro (@zf_) (@qx_))) (And.intro (@qV_) (And.intro (@qP_) (@qQ_)))) (And.intro (And.intro (@kt_) (And.intro (@kx_) (@Sx.tup2_0))) (And.intro (@Sx.tup2_1) (And.intro (@Je_) (@vS_))))
theorem adZ_ (w:World) (G:DkG) (S:DiskL) (hD:DkW w G S) (hGl:Qg_ w) (hB:DkB S):
  Rets Tryz.prog 19 #[vp G.bd 0] w (XS w [] (fun v D=>GrI D 36 3 v (Qx_ S).length ((Qx_ S).map fiC).flatten)):=by
 have hD':=hD
 obtain⟨X,hX,hP⟩:=hD
 obtain⟨eg,fzg,hgl⟩:=hGl
 have hd:=hX _ _ hP.disk
 obtain⟨om,hom,hM⟩:=hP.dirs
 have hbm:=hX _ _ hom
 have old: ∀b o,w.heap[b]? =some o→ ∀Y,New w.heap.size Y→zA_ w Y b=some o:=fun b o hb Y hY=>by
  rw[z2_ (hY.not (Array.getElem?_eq_some_iff.1 hb).1)];exact hb
 refine Rets.enterX Tryz.func19 rfl (rs:= [.tmp 2]) Tryz.results19 Tryz.ntmps19 (fun p hp=>by cases hp) (by simp[keys]) ?_
 refine kf ?_
 first|with_reducible refine ks [] (And.intro @k2_ (And.intro @hgl (@kU_))) ?_|refine kp (And.intro @k2_ (And.intro @hgl (@kU_))) ?_
 refine Cw.permL (M:= []++ []) (List.Perm.refl _) ?_
 refine Cw.loopG (G:=FlG) [10,11,5,12,13,14,15,16,17,18,19,7,20,21,22,23,24,25,26,27,28,29,30,31,32,33,34,35,36,37,38,39,3,40,41,9] (fun g=> [(3,g.v),(9,vi g.k)]) (fun g=>g.D1++g.DG) (fun g=>g.k≤3∧New w.heap.size g.D1∧New w.heap.size g.DG∧Gr g.D1 36 3 g.v (ji_ S g.k).length ((ji_ S g.k).map fiC).flatten) (fun g=>3 - g.k) ⟨0, .slice none 0 0,[],[]⟩ rfl rfl ?_ ?_
 ·exact⟨Nat.zero_le _,trivial,trivial,Gr.nl⟩
 intro g j hg
 refine kv ?_
 obtain⟨k,v,D1,DG⟩:=g
 simp only at hg ⊢
 obtain⟨hk,hN1,hN2,hGr⟩:=hg
 by_cases hlt:k<3
 ·have d1:decide ((k:Int)<3)=true:=decide_eq_true (by omega)
  have ixk:=Qa_ hlt
  have hfl:=Zg_ hB k hk
  have hdl:=wG_ hB hlt
  first|with_reducible refine ks [10] (And.intro @k2_ (And.intro @d1 (@ixk))) ?_|refine kp (And.intro @k2_ (And.intro @d1 (@ixk))) ?_
  refine Ow.callC rfl rfl Tryz.call79 (fun w' hw'=>QP_ w' G S (jY_ k) (hD'.old hw' (hN1.app hN2)) hB) (fun B3 v3 D3 hA3 hB3 hN3 hS3=> ?_)
  rw[wl_ hlt,←Xl_] at hS3
  obtain⟨sn,hsn⟩: ∃sn,(if S.off=true then [] else(S.dir k).seen)=sn:=⟨_,rfl⟩
  have hdf:zW_ S k=sn.map fun p=>⟨jY_ k,p.1,(S.files.getD p.2 q2_).data⟩:=by unfold zW_;rw[hsn]
  have hsm: ∀p,p∈sn→p∈ (S.dir k).seen:=by
   intro p hp
   rw[←hsn] at hp
   split at hp
   ·cases hp
   ·exact hp
  rw[hsn] at hS3
  rw[hdf,List.length_map] at hdl
  have hN3':New w.heap.size D3:=hN3.mono hB3
  have ln3:=wS_ hS3
  rw[List.length_map] at ln3
  refine ko (And.intro @k2_ @ln3) ?_
  refine Cw.world fun w1 hw1=> ?_
  obtain⟨rb,off,arr,E,fz,hr3,hlk⟩:=hS3.rowL (z:= []) (by rw[List.length_map]) ((hw1.perm (M:=D3++ (D1++DG)) List.perm_append_comm).part) JS_
  have hlk': ∀ (G:zc_),0<sn.length→zA_ w (D3++G) rb=some (.cells arr E fz):=by
   intro G h0
   exact za_ (zl_ (hlk (by rw[List.length_map];exact h0)))
  clear hw1 hlk
  refine Cw.permL (M:=D3++ (D1++DG)) List.perm_append_comm ?_
  refine Cw.loopG (G:=FjG) [17,18,19,7,20,21,22,23,24,25,26,27,28,29,30,31,32,33,34,35,36,37,38,39,3,40,16] (fun g=> [(3,g.v),(16,vi g.j)]) (fun g=>D3++ (g.D1++g.DG)) (fun g=>g.j≤sn.length∧New w.heap.size g.D1∧New w.heap.size g.DG∧Gr g.D1 36 3 g.v ((ji_ S k).length+g.j) ((ji_ S k++ (zW_ S k).take g.j).map fiC).flatten) (fun g=>sn.length - g.j) ⟨0,v,D1,DG⟩ rfl rfl ?_ ?_
  ·exact⟨Nat.zero_le _,hN1,hN2,by simpa using hGr⟩
  intro g j hg
  refine kv ?_
  clear hGr hN1 hN2
  obtain⟨j,v,D1,DG⟩:=g
  simp only at hg ⊢
  obtain⟨hj,hN1,hN2,hGr⟩:=hg
  by_cases hjt:j<sn.length
  ·have d2:decide ((j:Int)< (sn.length:Int))=true:=decide_eq_true (by omega)
   have hjm:j< (sn.map Prod.fst).length:=by rw[List.length_map];exact hjt
   have ix3:=hr3.idx false j hjm
   have ld3:=fun n=>Xo_ hr3 hjm n
   have rd3:=hlk' (D1++DG) (by omega)
   have hp:sn[j]'hjt∈ (S.dir k).seen:=hsm _ (List.getElem_mem _)
   have hse: (sn.map Prod.fst).getD j []=(sn[j]'hjt).1:=by simp[List.getD_eq_getElem?_getD,hjt]
   have hts: (zW_ S k).take (j+1)=(zW_ S k).take j++ [⟨jY_ k,(sn[j]'hjt).1,(S.files.getD (sn[j]'hjt).2 q2_).data⟩]:=by
    rw[hdf,List.take_add_one]
    simp[hjt]
   rw[hse] at ld3
   generalize sn[j]'hjt=p at*
   obtain⟨x,n⟩:=p
   simp only at hp hts ld3
   have hfn:zC_ (S.dir k).seen x=some n:=J1_ (hP.ok.seen k hlt).nodup hp
   have hnl:n<S.files.length:=hP.ok.seenN k hlt _ hp
   have hNN:New w.heap.size (D3++ (D1++DG)):=hN3'.app (hN1.app hN2)
   have rdd:=old _ _ hd _ hNN
   have rdm:=old _ _ hbm _ hNN
   have rdr:=old _ _ (hX _ _ (hP.dir k hlt)) _ hNN
   obtain⟨os,ms,hos,hms,hnp⟩:=hP.seen k hlt
   have rds:=old _ _ (hX _ _ hos) _ hNN
   have rdf:=old _ _ (hX _ _ (hP.file n hnl)) _ hNN
   first|with_reducible refine ks [] (And.intro @k2_ (And.intro @d2 (And.intro @ix3 (And.intro @ld3 (And.intro @rd3 (@rdd)))))) ?_|refine kp (And.intro @k2_ (And.intro @d2 (And.intro @ix3 (And.intro @ld3 (And.intro @rd3 (@rdd)))))) ?_
   refine kq (And.intro @k2_ @rdd) ?_
   refine Ow.mapGetG (encK:=vs) (encV:=qT_) (k:=jY_ k) (z:=none) rfl rfl Tryz.underlying121 jM_ zrPd rfl rfl rdm hM ?_
   rw[Z7_,jG_ hlt]
   show Ow _ _ _ _ _ _ _ _
   have hpd:qT_ (some (G.d k))=vp (G.d k) 0:=rfl
   refine ko (And.intro @k2_ (And.intro @hpd (@rdr))) ?_
   refine Ow.mapGetG (encK:=vs) (encV:=qT_) (k:=x) (z:=none) rfl rfl Tryz.underlying127 jM_ zrPf rfl rfl rds hms ?_
   rw[hnp.get (hP.ok.seen k hlt).nodup,hfn]
   show Ow _ _ _ _ _ _ _ _
   have hpf:qT_ (some (G.fb.getD n 0))=vp (G.fb.getD n 0) 0:=rfl
   refine ko (And.intro @k2_ (And.intro @hpf (@rdf))) ?_
   refine Ow.build (.agg (fiC ⟨jY_ k,x,(S.files.getD n q2_).data⟩).toArray) rfl (afx_ ⟨jY_ k,x,(S.files.getD n q2_).data⟩) ?_
   refine ko @k2_ ?_
   refine Ow.buildSlice (e:=36) (fiC ⟨jY_ k,x,(S.files.getD n q2_).data⟩).toArray rfl rfl (zV_ Tryz.underlying22 anb_ zrFi (by decide) (xh_ _)) fun ba hba hwa=> ?_
   refine Ow.permL (M:=D1++ (D3++ (DG++ [(ba, .cells (fiC ⟨jY_ k,x,(S.files.getD n q2_).data⟩).toArray 36 (0,0))]))) (by classical exact List.perm_iff_count.2 fun a=>by simp only[List.count_append,List.count_cons,List.count_nil]<;>omega) ?_
   refine Ow.appendXG (e:=36) (k:=1) (new:=fiC ⟨jY_ k,x,(S.files.getD n q2_).data⟩) (X:=D1) v rfl rfl rfl rfl Tryz.underlying22 anb_ (by kernel_rfl) zrFi (by rw[vS_,List.size_toArray,xh_]) Tryz.underlying22 (by intro k h;cases h) hGr (fun w' hw'=>AppX.one1 (hw'.has ba (.cells (fiC ⟨jY_ k,x,(S.files.getD n q2_).data⟩).toArray 36 (0,0)) (by simp)) (xh_ _) (adq_ _)) (by omega) (fun B4 v4 D4 hA4 hB4 hG4 hk41 hk42 hlk4=> ?_)
   have hN4:New w.heap.size D4:=New.of_le fun q hq=>by
    rcases hk42 q hq with h|h
    ·exact hN1.le q h
    ·omega
   refine Ow.permL (M:=D3++ (D4++ (DG++ [(ba, .cells (fiC ⟨jY_ k,x,(S.files.getD n q2_).data⟩).toArray 36 (0,0))]))) (by classical exact List.perm_iff_count.2 fun a=>by simp only[List.count_append,List.count_cons,List.count_nil]<;>omega) ?_
   refine ko @k2_ ?_
   first|with_reducible refine ks [] @k2_ ?_|refine kp @k2_ ?_
   refine Again.mk ⟨j+1,v4,D4,DG++ [(ba, .cells (fiC ⟨jY_ k,x,(S.files.getD n q2_).data⟩).toArray 36 (0,0))]⟩ (by show sn.length - (j+1)<sn.length - j;omega) ⟨hjt,hN4,hN2.app ⟨hwa,trivial⟩, ?_⟩ rfl rfl
   show Gr D4 36 3 v4 ((ji_ S k).length+j+1) ((ji_ S k++ (zW_ S k).take (j+1)).map fiC).flatten
   rw[hts]
   simpa only[List.map_append,List.map_cons,List.map_nil,List.flatten_append,List.flatten_cons,List.flatten_nil,List.append_nil,List.append_assoc] using hG4
  ·obtain rfl:j=sn.length:=by omega
   have d2:decide ((sn.length:Int)< (sn.length:Int))=false:=decide_eq_false (by omega)
   have hdl2: (zW_ S k).length=sn.length:=by rw[hdf,List.length_map]
   rw[←hdl2,List.take_length] at hGr
   first|with_reducible refine ks [10] (And.intro @k2_ @d2) ?_|refine kp (And.intro @k2_ @d2) ?_
   refine Cw.permL (M:=D1++ (D3++DG)) (by classical exact List.perm_iff_count.2 fun a=>by simp only[List.count_append,List.count_cons,List.count_nil]<;>omega) ?_
   first|with_reducible refine ks [] @k2_ ?_|refine kp @k2_ ?_
   refine Again.mk ⟨k+1,v,D1,D3++DG⟩ (by show 3 - (k+1)<3 - k;omega) ⟨hlt,hN1,hN3'.app hN2, ?_⟩ rfl rfl
   show Gr D1 36 3 v (ji_ S k++zW_ S k).length ((ji_ S k++zW_ S k).map fiC).flatten
   rw[List.length_append];exact hGr
 ·obtain rfl:k=3:=by omega
  have d1:decide (((3:Nat):Int)<3)=false:=rfl
  first|with_reducible refine ks [] (And.intro @k2_ @d1) ?_|refine kp (And.intro @k2_ @d1) ?_
  refine⟨_,(ke @k2_), ?_⟩
  exact⟨Ext.of_new (hN1.app hN2),hGr.i fun p hp=>List.mem_append_left _ hp⟩
end Go.Proofs
end
section
open Go Go.Proofs Go.Sx Go.StP
namespace Go.Proofs
set_option maxRecDepth 10000
set_option maxHeartbeats 400000
set_option linter.unusedSimpArgs false
theorem asn_ (b:Nat):qE_ Tryz.prog .eql 127 (vm b) (.map none)=some (.bool false):=by
 simp[qE_,eqX,qe_,qd_,Tryz.underlying127,vm]
theorem aev_ (b:Nat) (o:Obj) (m:List (List UInt8×Option Nat)) (w:World) (ho:w.heap[b]? =some o) (hm:wY_ vs qT_ o m):
  Rets Tryz.prog 83 #[vm b] w (XS w [] (fun v D=> ∃c o',v=vm c∧D= [(c,o')]∧wY_ vs qT_ o' m)):=by
 refine Rets.enterX Tryz.func83 rfl (rs:= [.tmp 2]) Tryz.results83 Tryz.ntmps83 (fun p hp=>by cases hp) (by simp[keys]) ?_
 refine kf ?_
 have e1:=asn_ b
 first|with_reducible refine ks [] @e1 ?_|refine kp @e1 ?_
 refine Ow.ifaceMap rfl Tryz.underlying127 rfl ?_
 refine Ow.cloneMap (encK:=vs) (encV:=qT_) rfl rfl (fun a w=>run_callFunc_extern Tryz.func127 (by kernel_rfl) (by kernel_rfl) (by kernel_rfl) (e:=Extern.MapsClone.clone) (by kernel_rfl) #[a] w) rfl (by rw[z2_ (by simp[keys])];exact ho) hm fun c o' hc hwc hm'=> ?_
 refine Ow.assertMap rfl Tryz.underlying127 rfl ?_
 refine ko @Nat.add_zero ?_
 refine⟨_,(ke @Nat.add_zero), ?_⟩
 exact⟨(Ext.refl w []).app hwc,c,o',rfl,rfl,hm'⟩
def u16C (x:UInt16):List Value:= [v16 x]
theorem amj_ (x:UInt16): (u16C x).length=1:=rfl
abbrev amN_ (w:World) (v:Value) (l:List UInt16):Prop:=SlV 1 u16C 0 w v l
def PkS (w:World) (v:Value) (l:List UInt16):Prop:=amN_ w v l∨(l= []∧ ∃a c,v= .slice (some a) 0 c)
theorem PkS.len {w:World} {v:Value} {l:List UInt16} (h:PkS w v l) (x:Bool×Nat):Jv_ (.sl x) v=some (vi l.length):=by
 rcases h with h| ⟨rfl,a,c,rfl⟩
 ·exact SlV.len h x
 ·rfl
theorem PkS.cell {w:World} {v:Value} {l:List UInt16} (h:PkS w v l):Value.oneCell' v=true∧v.cells= #[v]:=by
 rcases h with⟨b,off,c,arr,E,fz,hr,hc,⟨rfl,-,-⟩ | ⟨rfl,-,-⟩⟩ | ⟨rfl,a,c,rfl⟩
 ·exact⟨rfl,rfl⟩
 ·exact⟨rfl,rfl⟩
 ·exact⟨rfl,rfl⟩
theorem PkS.old {w w':World} {L:zc_} {v:Value} {l:List UInt16} (h:PkS w v l) (hw:Hp w L w') (hb:l≠ []→ ∀b,slB v=some b→b∉keys L):PkS w' v l:=by
 by_cases hl:l= []
 ·subst hl
  rcases h with⟨b,off,c,arr,E,fz,hr,hc,⟨rfl,-,-⟩ | ⟨rfl,-,-⟩⟩ |h
  ·exact .inl (SlV.nil w')
  ·exact .inr ⟨rfl,_,_,rfl⟩
  ·exact .inr h
 ·exact .inl ((h.resolve_right fun e=>hl e.1).old hw fun b h1 _=>hb hl b h1)
def PkB (w:World) (X:zc_) (l:List UInt16) (v:Value):Prop:=l≠ []→ ∀b,slB v=some b→b<w.heap.size∧b∉keys X
theorem adl_ {w:World} {v:Value} {l:List UInt16} {b off:Nat} {arr:Array Value} {E:TypeId} {fz:Nat×Nat} (h:RowS 1 u16C 0 w v l b off arr E fz) {k:Nat} (hk:k<l.length) (n:Nat):
  zk_ (some (false,n)) (some (.cells arr E fz)) (off+k)=some (v16 (l.getD k 0)):=by
 have:=h.cell (j:=0) (n:=n) hk (by omega)
 rwa [Nat.mul_one,Nat.add_zero] at this
def vn_ (l:List UInt16) (n:Nat):Nat:=match l with
 | []=>0
 |x::_=>x.toNat% (n+1)
def kM_ (v:Value):Obj:= .cells #[v] 24 (0,0)
theorem afk_ (v:Value) (n:Nat):zk_ (some (false,n)) (some (kM_ v)) 0=some v:=(rfl)
theorem akE_ (v x:Value) (a:Bool) (hx:Value.oneCell' x=true∧x.cells= #[x]):zn_ (some (a,1)) (some (kM_ v)) 0 x=some (kM_ x):=
 zs_ [] [v] [x] [] a _ 24 rfl rfl hx.2 rfl (by simp[hx.1])
theorem apa_ {m:Nat} {α:Type} {enc:α→List Value} {z:α} {w:World} {v:Value} {l:List α} (h:SlV m enc z w v l):Value.oneCell' v=true∧v.cells= #[v]:=by
 obtain⟨b,off,c,arr,E,fz,hr,hc,⟨rfl,-,-⟩ | ⟨rfl,-,-⟩⟩:=h
 ·exact⟨rfl,rfl⟩
 ·exact⟨rfl,rfl⟩
set_option linter.defProp false
def agR_:=And.intro (@zg_) (And.intro (@zf_) (@afk_))
theorem V8_ (n:Nat) (b:Nat) (v:Value) (l:List UInt16) (w:World) (hn:n<4611686018427387904) (hv:PkS w v l) (hl:l.length<1000000) (hnb:l≠ []→slB v≠some b) (ho:w.heap[b]? =some (kM_ v)):
  Rets Tryz.prog 82 #[vi n,vp b 0] w (fun r D=> ∃o,D= [(b,o)]∧r=vi (vn_ l n:Nat)∧ ∃v',o=kM_ v'∧(l= []→v'=v)∧(l≠ []→jC_ (.sl (false,1)) v (some (some 1)) none=some v')):=by
 refine Rets.enterM Tryz.func82 rfl (rs:= [.tmp 3]) Tryz.results82 Tryz.ntmps82 ho ?_
 refine kf ?_
 have ln:=hv.len
 cases l with
 |nil=>
  first|with_reducible refine ks [] (And.intro @agR_ @ln) ?_|refine kp (And.intro @agR_ @ln) ?_
  refine⟨_,_,_,(ke @agR_),rfl,trivial, ?_⟩
  exact⟨rfl,v,rfl,fun _=>rfl,fun h=>absurd rfl h⟩
 |cons x l=>
  have hv:amN_ w v (x::l):=hv.resolve_right fun e=>by cases e.1
  obtain⟨v1,h1,h2,-⟩:=hv.dropE (k:=1) (by simp) false
  have hc1:=apa_ h2
  have st:=fun a=>akE_ v v1 a hc1
  obtain⟨rb,off,c,arr,E,fz,hr,hc,⟨q1,q2,q3⟩ | ⟨rfl,hb,-⟩⟩:=hv
  ·exact absurd q2 (by simp)
  have hne:rb≠b:=fun e=>hnb (by simp) (by rw[e];rfl)
  have ix:=hr.idx false 0 (by simp)
  have ld:=fun n=>adl_ hr (k:=0) (by simp) n
  have e0: ((((x::l).length:Nat):Int)==0)=false:=beq_eq_false_iff_ne.2 (by simp;omega)
  have rd:zA_ w [(b,kM_ (vsl rb off (x::l).length c))] rb=some (.cells arr E fz):=by rw[z2_ (by simpa [keys] using hne)];exact hb
  rw[Nat.zero_mul,Nat.add_zero] at ix
  rw[show((1:Nat):Int)=1 from rfl] at h1
  simp only[Nat.add_zero] at ld
  first|with_reducible refine ks [] (And.intro @agR_ (And.intro @ln (And.intro @e0 (And.intro @ix (And.intro @ld (And.intro @rd (And.intro @h1 (@st)))))))) ?_|refine kp (And.intro @agR_ (And.intro @ln (And.intro @e0 (And.intro @ix (And.intro @ld (And.intro @rd (And.intro @h1 (@st)))))))) ?_
  refine⟨_,_,_,(ke @agR_),rfl,trivial, ?_⟩
  refine⟨?_,v1,rfl,fun h=>absurd h (by simp),fun _=>h1⟩
  show vi _=vi _
  congr 1
end Go.Proofs
end
section
open Go Go.Proofs Go.Sx Go.StP
namespace Go.Proofs
set_option maxRecDepth 10000
set_option maxHeartbeats 400000
set_option linter.unusedSimpArgs false
theorem DkP.stl1 {X L:zc_} {G:DkG} {S:DiskL} (h:DkP X G S) {k:Nat} (hk:k<3) {l':NmL} (keep: ∀b o,Sx.look X b=some o→b≠G.t k→Sx.look L b=some o) (hs:NmM L G.fb (G.t k) l') (h1:SrtN l') (h3: ∀p,p∈l'→p.2<S.files.length):
  DkP L G (zZ_ S k ⟨(S.dir k).seen,l',(S.dir k).pend⟩):=by
 obtain⟨osk,msk,hosk,hmsk,-⟩:=h.stl k hk
 have hns: ∀b o,Sx.look X b=some o→tyO o≠none→b≠G.t k:=by
  rintro b o hb ht rfl
  rw[hosk] at hb;cases hb;exact ht (qU_ hmsk)
 have K: ∀b o,Sx.look X b=some o→tyO o≠none→Sx.look L b=some o:=fun b o hb h1=>keep b o hb (hns b o hb h1)
 have es: ∀j,(zZ_ S k ⟨(S.dir k).seen,l',(S.dir k).pend⟩).dir j=if j=k then⟨(S.dir k).seen,l',(S.dir k).pend⟩ else S.dir j:=fun _=>rfl
 have e2: ∀j,((zZ_ S k ⟨(S.dir k).seen,l',(S.dir k).pend⟩).dir j).seen=(S.dir j).seen:=fun j=>by
  rw[es];by_cases e:j=k
  ·subst e;rw[if_pos rfl]
  ·rw[if_neg e]
 have e3: ∀j,((zZ_ S k ⟨(S.dir k).seen,l',(S.dir k).pend⟩).dir j).pend=(S.dir j).pend:=fun j=>by
  rw[es];by_cases e:j=k
  ·subst e;rw[if_pos rfl]
  ·rw[if_neg e]
 refine⟨K _ _ h.disk (by simp[tyO,jr_]), ?_,fun j hj=>K _ _ (h.dir j hj) (by simp[tyO,xW_]),fun j hj=> ?_,fun j hj=> ?_,fun j hj=> ?_,fun n hn=>K _ _ (h.file n hn) (by simp[tyO,kc_]),h.len,h.nodf,h.nodm,h.nodd,h.nodb,h.nodp,Qe_ h.ok _ (h.ok.seen k hk) h1 (h.ok.seenN k hk) h3 (h.ok.pendN k hk)⟩
 ·obtain⟨o,h1,h2⟩:=h.dirs
  exact⟨o,keep _ _ h1 (h.nodb k hk).2,h2⟩
 ·rw[e2]
  obtain⟨o,m,h1,h2,h3⟩:=h.seen j hj
  exact⟨o,m,keep _ _ h1 (wB_ h.nodm hj hk).2.2,h2,h3⟩
 ·rw[es]
  by_cases e:j=k
  ·subst e;rw[if_pos rfl];exact hs
  ·rw[if_neg e]
   obtain⟨o,m,h1,h2,h3⟩:=h.stl j hj
   exact⟨o,m,keep _ _ h1 ((wB_ h.nodm hj hk).2.1 e),h2,h3⟩
 ·rw[e3]
  obtain⟨vals,h1,h2,h3⟩:=h.pend j hj
  refine⟨vals,h1,h2.keep fun b o hb ho=> ?_,fun i hi=>(h3 i hi).keep fun b o ho hx=>K b o ho ?_⟩
  ·obtain⟨arr,ha⟩:=kC_ h2 hb
   rw[ho] at ha;cases ha
   exact K _ _ ho (by simp[tyO])
  ·rcases hx with⟨s,rfl⟩ | ⟨a,rfl⟩<;>simp[tyO,vB_,VI_]
theorem zM_ (S:DiskL) (k:Nat) (d:DirL): (zZ_ S k d).dir k=d:=by
 unfold zZ_;simp
theorem z4_ (S:DiskL) {k j:Nat} (d:DirL) (h:j≠k): (zZ_ S k d).dir j=S.dir j:=by
 unfold zZ_;simp[h]
theorem Wj_ (S:DiskL) (k:Nat) (d d':DirL):zZ_ (zZ_ S k d) k d'=zZ_ S k d':=by
 unfold zZ_
 simp only
 congr 1
 funext j
 by_cases e:j=k
 ·rw[if_pos e,if_pos e]
 ·rw[if_neg e,if_neg e,if_neg e]
def aq5_ (d:DirL):Prop:= ∀i,i<d.pend.length→okC ((d.pend.take i).foldl qr_ d.stl) (d.pend.getD i wa_)
def xt_ (S:DiskL) (k i:Nat):NmL:=((S.dir k).pend.take i).foldl qr_ (S.dir k).stl
def Kq_ (q:DiskL×List UInt16) (k:Nat):DiskL×List UInt16:=
 (zZ_ q.1 k ⟨xt_ q.1 k (vn_ q.2 (q.1.dir k).pend.length),xt_ q.1 k (vn_ q.2 (q.1.dir k).pend.length),[]⟩,q.2.drop 1)
def qa_ (q:DiskL×List UInt16):Nat→DiskL×List UInt16
 |0=>q
 |k+1=>Kq_ (qa_ q k) k
theorem JN_ (l:List UInt16) (n:Nat):vn_ l n≤n:=by
 unfold vn_
 split
 ·exact Nat.zero_le _
 ·have:=Nat.mod_lt ‹UInt16›.toNat (show 0<n+1 by omega)
  omega
theorem VU_ {S:DiskL} {k i:Nat} (h:i< (S.dir k).pend.length):xt_ S k (i+1)=qr_ (xt_ S k i) ((S.dir k).pend.getD i wa_):=by
 unfold xt_
 rw[StP.take_snoc (z:=wa_) h,List.foldl_append];rfl
end Go.Proofs
end
section
open Go Go.Proofs Go.Sx Go.StP
namespace Go.Proofs
set_option maxRecDepth 10000
set_option maxHeartbeats 400000
set_option linter.unusedSimpArgs false
theorem DkP.away {X:zc_} {G:DkG} {S:DiskL} (h:DkP X G S) {b:Nat} {v:Value} (hb:Sx.look X b=some (kM_ v)) (x:Obj):DkP (setB X b x) G S where
 disk:=qj_ hb h.disk (by simp[tyO,jr_,kM_])
 dirs:=by obtain⟨o,h1,h2⟩:=h.dirs;exact⟨o,qj_ hb h1 (by rw[qU_ h2];intro e;cases e),h2⟩
 dir k hk':=qj_ hb (h.dir k hk') (by simp[tyO,xW_,kM_])
 seen k hk':=by
  obtain⟨o,m,h1,h2,h3⟩:=h.seen k hk'
  exact⟨o,m,qj_ hb h1 (by rw[qU_ h2];intro e;cases e),h2,h3⟩
 stl k hk':=by
  obtain⟨o,m,h1,h2,h3⟩:=h.stl k hk'
  exact⟨o,m,qj_ hb h1 (by rw[qU_ h2];intro e;cases e),h2,h3⟩
 pend k hk':=by
  obtain⟨vals,h1,h2,h3⟩:=h.pend k hk'
  refine⟨vals,h1,h2.keep fun b o hb' ho=> ?_,fun i hi=>(h3 i hi).keep fun b o ho hx=>qj_ hb ho ?_⟩
  ·obtain⟨arr,ha⟩:=kC_ h2 hb'
   rw[ho] at ha;cases ha
   exact qj_ hb ho (by simp[tyO,kM_])
  ·rcases hx with⟨s,rfl⟩ | ⟨a,rfl⟩<;>simp[tyO,kM_,vB_,VI_]
 file n hn:=qj_ hb (h.file n hn) (by simp[tyO,kc_,kM_])
 len:=h.len
 nodf:=h.nodf
 nodm:=h.nodm
 nodd:=h.nodd
 nodb:=h.nodb
 nodp:=h.nodp
 ok:=h.ok
theorem acj_ {w:World} {v v':Value} {q:List UInt16} (hv:PkS w v q) (h1:q= []→v'=v) (h2:q≠ []→jC_ (.sl (false,1)) v (some (some 1)) none=some v'):PkS w v' (q.drop 1)∧ ∀ {X:zc_},PkB w X q v→PkB w X (q.drop 1) v':=by
 cases q with
 |nil=>rw[h1 rfl];exact⟨hv,fun h=>h⟩
 |cons x l=>
  have hv:amN_ w v (x::l):=hv.resolve_right fun e=>by cases e.1
  obtain⟨v2,e1,e2,e3⟩:=hv.dropE (k:=1) (by simp) false
  have:=h2 (by simp)
  rw[show((1:Nat):Int)=1 from rfl,this] at e1
  cases e1
  exact⟨.inl e2,fun h _ b hb=>h (by simp) b (e3 b hb)⟩
theorem aoI_ {w w1:World} {L:zc_} {T:TypeId} {v:Value} {vals:List Value} (h:Gr L T 1 v vals.length vals) (hw:Hp w L w1) {n:Nat} (hn:n≤vals.length):
  ∃vc rb off arr E fz,jC_ (.sl (false,1)) v none (some (some (n:Int)))=some vc∧RowS 1 (fun v:Value=> [v]) undef w1 vc (vals.take n) rb off arr E fz∧(0<n→Sx.look L rb=some (.cells arr E fz)):=by
 have hfl:vals=(vals.map fun v:Value=> [v]).flatten:=by
  clear h hn
  induction vals with
  |nil=>rfl
  |cons x l ih=>simp[←ih]
 have hsl:SlV 1 (fun v:Value=> [v]) undef w1 v vals:=h.slV hw rfl hfl (fun _=>rfl)
 obtain⟨vc,h1,h2,h3⟩:=hsl.take hn false
 obtain⟨b,off,c,arr,E,fz,hr,hc,⟨q1,q2,q3⟩ | ⟨q1,hb,hs⟩⟩:=h2
 ·refine⟨vc,b,off,arr,E,fz,h1,hr,fun h0=> ?_⟩
  have:=congrArg List.length q2
  rw[List.length_take,List.length_nil,Nat.min_eq_left hn] at this
  omega
 ·refine⟨vc,b,off,arr,E,fz,h1,hr,fun h0=> ?_⟩
  have hk:=h.key (h3 b (by rw[q1];rfl))
  obtain⟨o,ho⟩:=JX_ hk
  have:=hw.has _ _ (zp_ ho)
  rw[hb] at this
  rw[ho,this]
theorem aoB_ {w:World} {v:Value} {l:List Value} {b off:Nat} {arr:Array Value} {E:TypeId} {fz:Nat×Nat} (h:RowS 1 (fun v:Value=> [v]) undef w v l b off arr E fz) {k:Nat} (hk:k<l.length) (n:Nat):
  zk_ (some (false,n)) (some (.cells arr E fz)) (off+k)=some (l.getD k undef):=by
 have:=h.cell (j:=0) (n:=n) hk (by omega)
 rwa [Nat.mul_one,Nat.add_zero] at this
theorem ahv_ (a b y:Nat) (v:Value) (x:Bool):zn_ (some (x,1)) (some (xW_ a b v)) 0 (vm y)=some (xW_ y b v):=zs_ [] [vm a] [vm y] [vm b,v] x _ 130 rfl rfl rfl rfl rfl
theorem adv_ (S:DiskL) (k:Nat):zZ_ S k (S.dir k)=S:=by
 unfold zZ_
 cases S
 simp only
 congr 1
 funext j
 by_cases e:j=k
 ·subst e;simp
 ·simp[e]
def qM_ (q:DiskL×List UInt16) (p:List UInt8×Nat):DiskL×List UInt16:=
 (Zw_ q.1 p.2 ⟨(zx_ q.1 p.2).data.take ((zx_ q.1 p.2).stl+vn_ q.2 ((zx_ q.1 p.2).data.length - (zx_ q.1 p.2).stl)),((zx_ q.1 p.2).data.take ((zx_ q.1 p.2).stl+vn_ q.2 ((zx_ q.1 p.2).data.length - (zx_ q.1 p.2).stl))).length⟩,q.2.drop 1)
def qG_ (q:DiskL×List UInt16):Nat→DiskL×List UInt16
 |0=>q
 |k+1=>(q.1.dir k).seen.foldl qM_ (qG_ q k)
def j2_ (S:DiskL):DiskL:={S with off:=false,fused:=false}
def xq_ (S:DiskL) (pl:List UInt16):DiskL:=(qG_ (j2_ (qa_ (S,pl) 3).1,(qa_ (S,pl) 3).2) 3).1
theorem VN_ (q:DiskL×List UInt16) (l:NmL): (l.foldl qM_ q).1.dir=q.1.dir:=by
 induction l generalizing q with
 |nil=>rfl
 |cons p l ih=>rw[List.foldl_cons,ih];rfl
theorem x9_ (q:DiskL×List UInt16): ∀k,(qG_ q k).1.dir=q.1.dir
 |0=>rfl
 |k+1=>by
  show(List.foldl qM_ (qG_ q k) _).1.dir=_
  rw[VN_,x9_ q k]
theorem agS_ (q:DiskL×List UInt16) (l:NmL): (l.foldl qM_ q).1.off=q.1.off:=by
 induction l generalizing q with
 |nil=>rfl
 |cons p l ih=>rw[List.foldl_cons,ih];rfl
theorem VJ_ (q:DiskL×List UInt16): ∀k,(qG_ q k).1.off=q.1.off
 |0=>rfl
 |k+1=>by
  show(List.foldl qM_ (qG_ q k) _).1.off=_
  rw[agS_,VJ_ q k]
structure C3G where
 k:Nat
 L:zc_
 v:Value
structure C4G where
 j:Nat
 L:zc_
 v:Value
structure C1G where
 k:Nat
 G:DkG
 L:zc_
 v:Value
structure C2G where
 j:Nat
 L:zc_
theorem QA_ (q:DiskL×List UInt16): ∀ {k j:Nat},k≤j→(qa_ q k).1.dir j=q.1.dir j
 |0,_,_=>rfl
 |k+1,j,h=>by
  show(zZ_ _ k _).dir j=_
  rw[z4_ _ _ (by omega)]
  exact QA_ q (by omega)
set_option linter.defProp false
def qz_:=And.intro (And.intro (And.intro (@zg_) (@zf_)) (And.intro (@qx_) (And.intro (@qV_) (@qP_)))) (And.intro (And.intro (@qQ_) (@kt_)) (And.intro (@kx_) (And.intro (@afk_) (@amW_))))
theorem Xi_ (X:zc_) (G0:DkG) (S:DiskL) (v0:Value) (pl:List UInt16) (w:World) (hX: ∀p,p∈X→w.heap[p.1]? =some p.2) (hn: (keys X).Nodup) (hP0:DkP X G0 S) (hGl:Qg_ w) (hgx:0∉keys X) (hB:DkB (qa_ (S,pl) 3).1)
  (hv0:PkS w v0 pl) (hpx:PkB w X pl v0) (hpl:pl.length<1000000) (hpn: ∀k,k<3→aq5_ (S.dir k)∧(S.dir k).pend.length<1000000):
  Rets Tryz.prog 22 #[vp G0.bd 0,v0] w (XS w X (fun _v D=> ∃G',G'.bd=G0.bd∧DkP D G' (xq_ S pl))):=by
 obtain⟨eg,fzg,hgl⟩:=hGl
 refine Rets.enterX Tryz.func22 rfl (rs:= []) Tryz.results22 Tryz.ntmps22 hX hn ?_
 refine kf ?_
 first|with_reducible refine ks [3] @qz_ ?_|refine kp @qz_ ?_
 refine Ow.box rfl rfl fun bk hbk hwk=> ?_
 simp only[qv_,qu_,qA_,hv0.cell.2]
 refine Ow.permL (M:=X++ [(bk,kM_ v0)]) (List.Perm.refl _) ?_
 refine ko @qz_ ?_
 first|with_reducible refine ks [3] @qz_ ?_|refine kp @qz_ ?_
 simp only[List.map_toArray,List.map_cons,List.map_nil,qv_,qu_,qA_]
 have rdg: ∀L,Ext w X L→zA_ w L 0=some (.cells #[vs z9_,vs vT_,vs refD] eg fzg):=fun L hE=>hE.old hgl hgx
 have hE0:Ext w X (X++ [(bk,kM_ v0)]):=(Ext.refl w X).app hwk
 have hr0:=rdg _ hE0
 have hl0:Sx.look (X++ [(bk,kM_ v0)]) bk=some (kM_ v0):=xz_ hbk
 have hP1:DkP (X++ [(bk,kM_ v0)]) G0 S:=hP0.mono fun b o h=>zl_ h
 generalize X++ [(bk,kM_ v0)]=L0 at*
 first|with_reducible refine ks [5,8,12,16] (And.intro @qz_ (And.intro @hr0 (@kU_))) ?_|refine kp (And.intro @qz_ (And.intro @hr0 (@kU_))) ?_
 refine Cw.loopG (G:=C1G) [20,21,6,22,23,24,25,26,27,7,28,29,30,31,32,33,34,35,36,37,38,39,40,41,42,43,44,9,45,46,47,48,49,50,51,52,53,54,55,56,57,58,59,60,61,62,63,19] (fun g=> [(19,vi g.k)]) (fun g=>g.L) (fun g=>g.k≤3∧DkP g.L g.G (qa_ (S,pl) g.k).1∧g.G.bd=G0.bd∧Sx.look g.L bk=some (kM_ g.v)∧PkS w g.v (qa_ (S,pl) g.k).2∧PkB w X (qa_ (S,pl) g.k).2 g.v∧Ext w X g.L∧(qa_ (S,pl) g.k).2.length<1000000) (fun g=>3 - g.k) ⟨0,G0,L0,v0⟩ rfl rfl ?_ ?_
 ·exact⟨Nat.zero_le _,hP1,rfl,hl0,hv0,hpx,hE0,hpl⟩
 intro g j hg
 refine kv ?_
 clear hr0 hl0 hP1 hE0
 obtain⟨k,G,L,v⟩:=g
 simp only at hg ⊢
 obtain⟨hk,hP,hbd,hlk,hv,hvb,hE,hpl1⟩:=hg
 rw[←hbd]
 by_cases hlt:k<3
 ·have d1:decide ((k:Int)<3)=true:=decide_eq_true (by omega)
  have ixk:=Qa_ hlt
  obtain⟨om,hom,hM⟩:=hP.dirs
  have hrd:=za_ (w0:=w) hP.disk
  have hrr:=za_ (w0:=w) (hP.dir k hlt)
  have hpd:qT_ (some (G.d k))=vp (G.d k) 0:=rfl
  have hdk:=QA_ (S,pl) (Nat.le_refl k)
  simp only at hdk
  obtain⟨vals,hvl,hGr,hF⟩:=hP.pend k hlt
  rw[hdk] at hvl hF
  have hpn1:=(hpn k hlt).2
  have lnp:=hGr.len (false,1)
  first|with_reducible refine ks [] (And.intro @qz_ (And.intro @d1 (And.intro @ixk (@hrd)))) ?_|refine kp (And.intro @qz_ (And.intro @d1 (And.intro @ixk (@hrd)))) ?_
  refine Ow.mapGetG (encK:=vs) (encV:=qT_) (k:=jY_ k) (z:=none) rfl rfl Tryz.underlying121 jM_ zrPd rfl rfl (za_ hom) hM ?_
  rw[Z7_,jG_ hlt]
  show Ow _ _ _ _ _ _ _ _
  refine ko (And.intro @qz_ @hpd) ?_
  first|with_reducible refine ks [] @qz_ ?_|refine kp @qz_ ?_
  refine Cw.regionS [G.d k] [0,1,2,4,5,6,7,13,3,8,9,10,11,12] [] (by kernel_rfl) (by kernel_rfl) (by kernel_rfl) ?_
  simp only[zo_, ↓zi_, ↓zd_, ↓zz_, ↓zy_,ze_]
  refine kq (And.intro @qz_ (And.intro @hrr (@lnp))) ?_
  refine Ow.soft rfl rfl rfl ?_
  refine Ow.callFnXC (b:=vi vals.length) (ars:= #[vi vals.length,vp bk 0]) rfl (X:=L) (Y:= []) (List.append_nil _).symm rfl rfl rfl rfl Tryz.call82 (fun w' hw' hX' hn'=>Rets.chunk hX' hn' (zh_ hlk) (V8_ vals.length bk v (qa_ (S,pl) k).2 w' (by omega) (hv.old hw' fun hq b hb=>hE.not (hvb hq b hb).1 (hvb hq b hb).2) hpl1 (fun hq e=>by have:=(hvb hq bk e).1;omega) (hX' _ (zp_ hlk)))) (fun r D hC hS=> ?_)
  obtain⟨o,rfl,rfl,v',rfl,hv1,hv2⟩:=hS
  rw[List.append_nil]
  obtain⟨hvn,hvn2⟩:=acj_ hv hv1 hv2
  have hP1:=hP.away hlk (kM_ v')
  have hE1:=hE.came0 hC
  have hk1: ∀b o,Sx.look L b=some o→tyO o≠some 24→Sx.look (setB L bk (kM_ v')) b=some o:=fun b o hb ht=>qj_ hlk hb ht
  have hlk1:Sx.look (setB L bk (kM_ v')) bk=some (kM_ v'):=zw_ hlk
  have hrr1:=za_ (w0:=w) (hP1.dir k hlt)
  have hGr1:Gr (setB L bk (kM_ v')) 137 1 (G.p k) vals.length vals:=hGr.keep fun b o hb ho=>by
   obtain⟨arr,ha⟩:=kC_ hGr hb
   rw[ho] at ha;cases ha
   exact hk1 _ _ ho (by simp[tyO])
  have hF1: ∀i,i<vals.length→FnP (setB L bk (kM_ v')) G.fb (vals.getD i undef) ((S.dir k).pend.getD i wa_):=fun i hi=>(hF i hi).keep fun b o ho hx=>hk1 _ _ ho (by rcases hx with⟨s,rfl⟩ | ⟨a,rfl⟩<;>simp[tyO,vB_,VI_])
  have hple:=JN_ (qa_ (S,pl) k).2 vals.length
  have hcr:qa_ (S,pl) (k+1)=Kq_ (qa_ (S,pl) k) k:=rfl
  unfold Kq_ at hcr
  rw[hdk,←hvl] at hcr
  generalize vn_ (qa_ (S,pl) k).2 vals.length=n at*
  have hbkd:bk≠G.d k:=fun e=>by
   have hdd:=hP1.dir k hlt
   rw[←e,hlk1] at hdd
   simp[xW_,kM_] at hdd
  generalize setB L bk (kM_ v')=L1 at*
  refine Ow.world fun w1 hw1=> ?_
  obtain⟨vc,rb,off,arr,E,fz,hsl,hrw,hlr⟩:=aoI_ hGr1 hw1 hple
  clear hw1
  have lnc:=hrw.len (false,1)
  rw[List.length_take,Nat.min_eq_left hple] at lnc
  with_reducible refine Ow.nil ?_
  refine⟨fun b hb=>by rw[List.mem_singleton] at hb;subst hb;rw[hrr,hrr1], ?_⟩
  refine kq (And.intro @qz_ (And.intro @hsl (@lnc))) ?_
  have hself:zZ_ (qa_ (S,pl) k).1 k ⟨((qa_ (S,pl) k).1.dir k).seen,xt_ (qa_ (S,pl) k).1 k 0,((qa_ (S,pl) k).1.dir k).pend⟩=(qa_ (S,pl) k).1:=adv_ _ _
  have hfe: ∀j,xt_ (qa_ (S,pl) k).1 k j=xt_ S k j:=fun j=>by unfold xt_;rw[hdk]
  have hq2: (qa_ (S,pl) (k+1)).2=(qa_ (S,pl) k).2.drop 1:=rfl
  generalize qa_ (S,pl) k=q at*
  obtain⟨Sk,pk⟩:=q
  simp only at*
  refine Cw.loopG (G:=C2G) [42,43,44,9,45,46,47,48,49,50,51,41] (fun g=> [(41,vi g.j)]) (fun g=>g.L) (fun g=>g.j≤n∧DkP g.L G (zZ_ Sk k ⟨(Sk.dir k).seen,xt_ Sk k g.j,(Sk.dir k).pend⟩)∧Sx.look g.L bk=some (kM_ v')∧Ext w X g.L∧(∀b o,Sx.look L1 b=some o→b≠G.t k→Sx.look g.L b=some o)) (fun g=>n - g.j) ⟨0,L1⟩ rfl rfl ?_ ?_
  ·exact⟨Nat.zero_le _,by rw[hself];exact hP1,hlk1,hE1,fun _ _ h _=>h⟩
  intro g j hg
  refine kv ?_
  obtain⟨j,L2⟩:=g
  simp only at hg ⊢
  obtain⟨hj,hP2,hlk2,hE2,hkp⟩:=hg
  by_cases hjt:j<n
  ·have d2:decide ((j:Int)< (n:Int))=true:=decide_eq_true (by omega)
   have hjm:j< (vals.take n).length:=by rw[List.length_take,Nat.min_eq_left hple];exact hjt
   have ix3:=hrw.idx false j hjm
   rw[Nat.mul_one] at ix3
   have ld3:=fun n=>aoB_ hrw hjm n
   have hvj: (vals.take n).getD j undef=vals.getD j undef:=by
    rw[List.getD_eq_getElem?_getD,List.getD_eq_getElem?_getD,List.getElem?_take_of_lt hjt]
   rw[hvj] at ld3
   have hpj:j< (S.dir k).pend.length:=by omega
   have htm: ∀ {b:Nat} {o:Obj},Sx.look L1 b=some o→tyO o≠none→b≠G.t k:=by
    intro b o hb ht e
    obtain⟨ot,mt,hot,hmt,-⟩:=hP1.stl k hlt
    rw[e,hot] at hb;cases hb
    exact ht (qU_ hmt)
   have hFj:FnP L2 G.fb (vals.getD j undef) ((S.dir k).pend.getD j wa_):=(hF1 j (by omega)).keep fun b o ho hx=>hkp b o ho (htm ho (by rcases hx with⟨s,rfl⟩ | ⟨a,rfl⟩<;>simp[tyO,vB_,VI_]))
   have hN2:=hP2.stl k hlt
   have hs2:=hP2.ok.stl k hlt
   have hl2:=hP2.ok.stlN k hlt
   have hp2:=hP2.ok.pendN k hlt
   rw[zM_] at hN2 hs2 hl2 hp2
   have hok:okC (xt_ Sk k j) ((S.dir k).pend.getD j wa_):=by rw[hfe];exact(hpn k hlt).1 j hpj
   obtain⟨fk,cap,hvf,hfk,hcall⟩:=Xb_ hFj hN2 hs2 hok
   rw[hvf] at ld3
   have hlr2:=hkp rb _ (hlr (by omega)) (htm (hlr (by omega)) (by simp[tyO]))
   have rd3:=za_ (w0:=w) hlr2
   have hrr2:=za_ (w0:=w) (hP2.dir k hlt)
   have hbk2:=htm hlk1 (by simp[tyO,kM_])
   first|with_reducible refine ks [] (And.intro @qz_ (And.intro @d2 (And.intro @ix3 (And.intro @ld3 (And.intro @rd3 (@hrr2)))))) ?_|refine kp (And.intro @qz_ (And.intro @d2 (And.intro @ix3 (And.intro @ld3 (And.intro @rd3 (@hrr2)))))) ?_
   refine Ow.callFnXC (b:=vm (G.t k)) (cap:=cap) (ars:= #[vm (G.t k)]++cap) rfl (X:=L2) (Y:= []) (List.append_nil _).symm rfl rfl rfl rfl hfk (fun w' hw' hX' hn'=>hcall w' hX' hn') (fun r D hC hS=> ?_)
   rw[List.append_nil]
   obtain⟨rfl,o',hO,hN3⟩:=hS
   have hE3:=hE2.came0 hC
   have hP3:=hP2.stl1 hlt (l':=qr_ (xt_ Sk k j) ((S.dir k).pend.getD j wa_)) (fun b o hb hne=>(hO.rest b hne).trans hb) hN3 (afq_ _ hs2) (WR_ hl2 hok fun h0=>hp2 _ (by show _∈ (Sk.dir k).pend;rw[hdk,List.getD_eq_getElem?_getD,List.getElem?_eq_getElem hpj];exact List.getElem_mem _) h0)
   rw[zM_,Wj_] at hP3
   have hnx:xt_ Sk k (j+1)=qr_ (xt_ Sk k j) ((S.dir k).pend.getD j wa_):=by rw[VU_ (by rw[hdk];exact hpj),hdk]
   refine ko @qz_ ?_
   first|with_reducible refine ks [] @qz_ ?_|refine kp @qz_ ?_
   exact Again.mk ⟨j+1,D⟩ (by show n - (j+1)<n - j;omega) ⟨hjt,by rw[hnx];exact hP3,(hO.rest bk hbk2).trans hlk2,hE3,fun b o hb hne=>(hO.rest b hne).trans (hkp b o hb hne)⟩ rfl rfl
  ·obtain rfl:j=n:=by omega
   have d2:decide ((j:Int)< (j:Int))=false:=decide_eq_false (by omega)
   have hN2:=hP2.stl k hlt
   have hs2:=hP2.ok.stl k hlt
   have hl2:=hP2.ok.stlN k hlt
   rw[zM_] at hN2 hs2 hl2
   obtain⟨ot,mt,hot,hmt,hnp⟩:=hN2
   have hdl2:=hP2.dir k hlt
   have hrr2:=za_ (w0:=w) hdl2
   first|with_reducible refine ks [13] (And.intro @qz_ (And.intro @d2 (@hrr2))) ?_|refine kp (And.intro @qz_ (And.intro @d2 (@hrr2))) ?_
   refine Ow.callC rfl rfl Tryz.call83 (fun w' hw'=>aev_ (G.t k) ot mt w' (hw'.has _ _ (zp_ hot)) hmt) (fun B4 v4 D4 hA4 hB4 hN4 hS4=> ?_)
   obtain⟨c,o4,rfl,rfl,hm4⟩:=hS4
   have hbc:jI_ L2 c:=z6_ fun b hb=>by
    have h1:=zv_ hA4 hb
    have h2:=hN4.le c (by simp[keys])
    omega
   have hcn:c∉keys L2:=fun hm=>by have:=zv_ hbc hm;omega
   have hl3:Sx.look (L2++ [(c,o4)]) (G.d k)=some (xW_ (G.s k) (G.t k) (G.p k)):=zl_ hdl2
   have hlc3:Sx.look (L2++ [(c,o4)]) c=some o4:=xz_ hbc
   have hkp3: ∀b o,Sx.look L2 b=some o→Sx.look (L2++ [(c,o4)]) b=some o:=fun b o h=>zl_ h
   have hE3:=hE2.app (o:=o4) (b:=c) (by have:=hN4.le c (by simp[keys]);omega)
   generalize L2++ [(c,o4)]=L3 at*
   have hr3:=za_ (w0:=w) hl3
   have st0:=fun x=>ahv_ (G.s k) (G.t k) c (G.p k) x
   have hcd:c≠G.d k:=fun e=>hcn (by rw[e];exact zh_ hdl2)
   have hl4:Sx.look (setB L3 (G.d k) (xW_ c (G.t k) (G.p k))) (G.d k)=some (xW_ c (G.t k) (G.p k)):=zw_ hl3
   have hlc4:Sx.look (setB L3 (G.d k) (xW_ c (G.t k) (G.p k))) c=some o4:=by rw[zb_ (Ne.symm hcd)];exact hlc3
   have hkp4: ∀b o,Sx.look L2 b=some o→b≠G.d k→Sx.look (setB L3 (G.d k) (xW_ c (G.t k) (G.p k))) b=some o:=fun b o h hne=>by rw[zb_ (Ne.symm hne)];exact hkp3 b o h
   have hE4:=hE3.setB (b:=G.d k) (o:=xW_ c (G.t k) (G.p k))
   refine ko (And.intro @qz_ (And.intro @hl3 (And.intro @st0 (@jE_)))) ?_
   generalize setB L3 (G.d k) (xW_ c (G.t k) (G.p k))=L4 at*
   have hr4:=za_ (w0:=w) hl4
   have st2:=fun x=>QO_ c (G.t k) (G.p k) (.slice none 0 0) x ⟨rfl,rfl⟩
   first|with_reducible refine ks [] (And.intro @qz_ (And.intro @hl4 (And.intro @hr4 (And.intro @st2 (@jE_))))) ?_|refine kp (And.intro @qz_ (And.intro @hl4 (And.intro @hr4 (And.intro @st2 (@jE_))))) ?_
   have hkp5: ∀b o,Sx.look L2 b=some o→b≠G.t k→b≠G.d k→Sx.look (setB L4 (G.d k) (xW_ c (G.t k) (.slice none 0 0))) b=some o:=fun b o h _ hne=>by rw[zb_ (Ne.symm hne)];exact hkp4 b o h hne
   have hmd: ∀ {b:Nat} {o:Obj} {m:List (List UInt8×Option Nat)},Sx.look L2 b=some o→wY_ vs qT_ o m→b≠G.d k:=by
    intro b o m hb hm e
    rw[e,hdl2] at hb;cases hb
    obtain⟨es,cl,h,-⟩:=hm;cases h
   have hP5:=hP2.calm hlt (s':=c) ⟨xt_ Sk k j,xt_ Sk k j,[]⟩ rfl hkp5 ⟨o4,mt,by rw[zb_ (Ne.symm hcd)];exact hlc4,hm4,hnp⟩ ⟨ot,mt,by rw[zb_ (Ne.symm (hmd hot hmt))];exact hkp4 _ _ hot (hmd hot hmt),hmt,hnp⟩ (zw_ hl4) (.inr hcn) hs2 hs2 hl2 hl2
   rw[Wj_] at hP5
   have hbkd2:bk≠G.d k:=fun e=>hbkd e
   exact Again.mk ⟨k+1,aio_ G k c,setB L4 (G.d k) (xW_ c (G.t k) (.slice none 0 0)),v'⟩ (by show 3 - (k+1)<3 - k;omega) ⟨hlt,by rw[hcr];exact hP5,rfl,by rw[zb_ (Ne.symm hbkd)];exact hkp4 _ _ hlk2 hbkd,by rw[hcr];exact hvn,by rw[hcr];exact hvn2 hvb,hE4.setB,by rw[hcr];show(pk.drop 1).length<1000000;rw[List.length_drop];omega⟩ rfl rfl
 ·obtain rfl:k=3:=by omega
  have d1:decide (((3:Nat):Int)<3)=false:=rfl
  unfold xq_
  generalize qa_ (S,pl) 3=q at*
  obtain⟨S3,p3⟩:=q
  simp only at*
  have hok1:DkOk {S3 with off:=false}:=⟨hP.ok.seen,hP.ok.stl,hP.ok.seenN,hP.ok.stlN,hP.ok.pendN,hP.ok.file,hP.ok.fuse,hP.ok.max⟩
  have hP1:=hP.setDisk {S3 with off:=false} rfl rfl hok1
  have hok2:DkOk (j2_ S3):=⟨hP.ok.seen,hP.ok.stl,hP.ok.seenN,hP.ok.stlN,hP.ok.pendN,hP.ok.file,⟨hP.ok.fuse.1,hP.ok.fuse.2.1,fun h=>by cases h⟩,hP.ok.max⟩
  have hP2:=hP1.setDisk (j2_ S3) rfl rfl hok2
  have hr0:=za_ (w0:=w) hP.disk
  have hl1:=hP.disk
  have hl2:=hP1.disk
  have st4:=fun x=>Wa_ G.bm S3 false x
  have st3:=fun x=>V1_ G.bm {S3 with off:=false} false x
  have hrg:=rdg
  have hbkb:bk≠G.bd:=fun e=>by
   have hdd:=hP.disk
   rw[←e,hlk] at hdd
   simp[jr_,kM_] at hdd
  have hlk2:Sx.look (setB (setB L G.bd (jr_ G.bm {S3 with off:=false})) G.bd (jr_ G.bm (j2_ S3))) bk=some (kM_ v):=by
   rw[zb_ (Ne.symm hbkb),zb_ (Ne.symm hbkb)];exact hlk
  have hE2:=(hE.setB (b:=G.bd) (o:=jr_ G.bm {S3 with off:=false})).setB (b:=G.bd) (o:=jr_ G.bm (j2_ S3))
  have hr2:=rdg _ hE2
  have hr5:zA_ w (setB (setB L G.bd (jr_ G.bm {S3 with off:=false})) G.bd (jr_ G.bm {S3 with off:=false,fused:=false})) 0=_:=hr2
  have hlk5:Sx.look (setB (setB L G.bd (jr_ G.bm {S3 with off:=false})) G.bd (jr_ G.bm {S3 with off:=false,fused:=false})) bk=some (kM_ v):=hlk2
  have hE5:Ext w X (setB (setB L G.bd (jr_ G.bm {S3 with off:=false})) G.bd (jr_ G.bm {S3 with off:=false,fused:=false})):=hE2
  have hP5:DkP (setB (setB L G.bd (jr_ G.bm {S3 with off:=false})) G.bd (jr_ G.bm {S3 with off:=false,fused:=false})) G (j2_ S3):=hP2
  clear hr2 hlk2 hE2 hP2
  first|with_reducible refine ks [17] (And.intro @qz_ (And.intro @d1 (And.intro @hl1 (And.intro @hl2 (And.intro @st4 (And.intro @st3 (And.intro @jE_ (And.intro @hr5 (@kU_))))))))) ?_|refine kp (And.intro @qz_ (And.intro @d1 (And.intro @hl1 (And.intro @hl2 (And.intro @st4 (And.intro @st3 (And.intro @jE_ (And.intro @hr5 (@kU_))))))))) ?_
  generalize hL5:setB (setB L G.bd (jr_ G.bm {S3 with off:=false})) G.bd (jr_ G.bm {S3 with off:=false,fused:=false})=L5 at*
  have hdw: (j2_ S3).dir=S3.dir:=rfl
  have how: (j2_ S3).off=false:=rfl
  generalize j2_ S3=S5 at*
  refine Cw.loopG (G:=C3G) [72,73,11,74,75,76,77,78,79,80,81,13,82,83,84,85,86,87,88,89,90,91,92,14,93,94,95,96,97,98,99,100,101,102,103,104,105,106,107,108,109,110,111,112,113,114,115,116,117,118,119,120,121,122,123,124,125,126,127,71] (fun g=> [(71,vi g.k)]) (fun g=>g.L) (fun g=>g.k≤3∧DkP g.L G (qG_ (S5,p3) g.k).1∧Sx.look g.L bk=some (kM_ g.v)∧PkS w g.v (qG_ (S5,p3) g.k).2∧PkB w X (qG_ (S5,p3) g.k).2 g.v∧Ext w X g.L∧(qG_ (S5,p3) g.k).2.length<1000000) (fun g=>3 - g.k) ⟨0,L5,v⟩ rfl rfl ?_ ?_
  ·exact⟨Nat.zero_le _,hP5,hlk5,hv,hvb,hE5,hpl1⟩
  intro g j hg
  refine kv ?_
  obtain⟨k,L6,v6⟩:=g
  simp only at hg ⊢
  obtain⟨hk6,hP6,hlk6,hv6,hvb6,hE6,hpl6⟩:=hg
  by_cases hlt6:k<3
  ·have d6:decide ((k:Int)<3)=true:=decide_eq_true (by omega)
   have ixk:=Qa_ hlt6
   have hd6:=x9_ (S5,p3) k
   have ho6:=VJ_ (S5,p3) k
   simp only at hd6 ho6
   have hB6:DkB (qG_ (S5,p3) k).1:=by
    intro i hi
    rw[hd6,hdw];exact hB i hi
   have hcm:qG_ (S5,p3) (k+1)=((S5.dir k).seen).foldl qM_ (qG_ (S5,p3) k):=rfl
   first|with_reducible refine ks [26] (And.intro @qz_ (And.intro @d6 (@ixk))) ?_|refine kp (And.intro @qz_ (And.intro @d6 (@ixk))) ?_
   refine Ow.callC rfl rfl Tryz.call79 (fun w' hw'=>QP_ w' G (qG_ (S5,p3) k).1 (jY_ k) (hP6.world hw') hB6) (fun B7 v7 D7 hA7 hB7 hN7 hS7=> ?_)
   rw[wl_ hlt6,hd6,ho6,how,if_neg (by simp),←Xl_] at hS7
   obtain⟨sn,hsn⟩: ∃sn,(S5.dir k).seen=sn:=⟨_,rfl⟩
   rw[hsn] at hcm hS7
   have ln7:=wS_ hS7
   rw[List.length_map] at ln7
   refine ko (And.intro @qz_ @ln7) ?_
   refine Cw.world fun w1 hw1=> ?_
   obtain⟨rb,off,arr,E,fz,hr7,hlk7⟩:=hS7.rowL (z:= []) (by rw[List.length_map]) ((hw1.perm (M:=D7++L6) List.perm_append_comm).part) JS_
   clear hw1
   have hq6:=hP6.ok.seen k hlt6
   have hsl6:=(hB6 k hlt6).1
   rw[hd6,hsn] at hq6 hsl6
   have hrn: ∀c,c∈keys L6→0<sn.length→rb≠c:=fun c hc h0 e=>by
    have h1:=zv_ hA7 hc
    have h2:=hN7.le rb (zh_ (hlk7 (by rw[List.length_map];exact h0)))
    omega
   have hlr7:0<sn.length→Sx.look (L6++D7) rb=some (.cells arr E fz):=fun h0=>by
    rw[z5_ (fun hm=>hrn rb hm h0 rfl)]
    exact hlk7 (by rw[List.length_map];exact h0)
   have hP7:DkP (L6++D7) G (qG_ (S5,p3) k).1:=hP6.mono fun b o h=>zl_ h
   have hlk8:Sx.look (L6++D7) bk=some (kM_ v6):=zl_ hlk6
   have hE7:Ext w X (L6++D7):=⟨fun c hc=>by
    rw[zt_] at hc
    rcases List.mem_append.1 hc with h|h
    ·exact hE6.new c h
    ·exact .inr (Nat.le_trans hB7 (hN7.le c h)),fun c hc=>by rw[zt_];exact List.mem_append_left _ (hE6.all c hc)⟩
   have hfk: ∀n,n< (qG_ (S5,p3) k).1.files.length→G.fb.getD n 0∈keys L6:=fun n hn=>zh_ (hP6.file n hn)
   have hbk6:=zh_ hlk6
   clear hlk7 hS7
   generalize L6++D7=L7 at*
   refine Cw.loopG (G:=C4G) [79,80,81,13,82,83,84,85,86,87,88,89,90,91,92,14,93,94,95,96,97,98,99,100,101,102,103,104,105,106,107,108,109,110,111,112,113,114,115,116,117,118,119,120,121,122,123,124,125,126,78] (fun g=> [(78,vi g.j)]) (fun g=>g.L) (fun g=>g.j≤sn.length∧DkP g.L G ((sn.take g.j).foldl qM_ (qG_ (S5,p3) k)).1∧Sx.look g.L bk=some (kM_ g.v)∧PkS w g.v ((sn.take g.j).foldl qM_ (qG_ (S5,p3) k)).2∧PkB w X ((sn.take g.j).foldl qM_ (qG_ (S5,p3) k)).2 g.v∧Ext w X g.L∧((sn.take g.j).foldl qM_ (qG_ (S5,p3) k)).2.length<1000000∧(0<sn.length→Sx.look g.L rb=some (.cells arr E fz))) (fun g=>sn.length - g.j) ⟨0,L7,v6⟩ rfl rfl ?_ ?_
   ·exact⟨Nat.zero_le _,hP7,hlk8,hv6,hvb6,hE7,hpl6,hlr7⟩
   intro g j hg
   refine kv ?_
   obtain⟨j,L8,v8⟩:=g
   simp only at hg ⊢
   obtain⟨hj,hP8,hlk9,hv8,hvb8,hE8,hpl8,hlr8⟩:=hg
   by_cases hjt:j<sn.length
   ·have d2:decide ((j:Int)< (sn.length:Int))=true:=decide_eq_true (by omega)
    have hjm:j< (sn.map Prod.fst).length:=by rw[List.length_map];exact hjt
    have ix3:=hr7.idx false j hjm
    rw[Nat.mul_one] at ix3
    have ld3:=fun n=>Xo_ hr7 hjm n
    have hlrb:=hlr8 (by omega)
    have rd3:=za_ (w0:=w) hlrb
    have hp:sn[j]'hjt∈sn:=List.getElem_mem _
    have hse: (sn.map Prod.fst).getD j []=(sn[j]'hjt).1:=by simp[List.getD_eq_getElem?_getD,hjt]
    have hts:sn.take (j+1)=sn.take j++ [sn[j]'hjt]:=by
     rw[List.take_add_one];simp[hjt]
    rw[hse] at ld3
    generalize sn[j]'hjt=p at*
    obtain⟨x,n⟩:=p
    have hd8: ((sn.take j).foldl qM_ (qG_ (S5,p3) k)).1.dir=S5.dir:=by rw[VN_,x9_]
    have hfl8: ((sn.take (j+1)).foldl qM_ (qG_ (S5,p3) k))=qM_ ((sn.take j).foldl qM_ (qG_ (S5,p3) k)) (x,n):=by rw[hts,List.foldl_append];rfl
    generalize (sn.take j).foldl qM_ (qG_ (S5,p3) k)=q8 at*
    obtain⟨S8,p8⟩:=q8
    simp only at hP8 hv8 hpl8 hd8 ld3
    have hsk: (S8.dir k).seen=sn:=by rw[hd8];exact hsn
    obtain⟨om,hom,hM⟩:=hP8.dirs
    obtain⟨os,ms,hos,hms,hnp⟩:=hP8.seen k hlt6
    rw[hsk] at hnp
    have hfn:zC_ sn x=some n:=J1_ hq6.nodup hp
    have hnl:n<S8.files.length:=hP8.ok.seenN k hlt6 _ (by rw[hsk];exact hp)
    have rdd:=za_ (w0:=w) hP8.disk
    have rdr:=za_ (w0:=w) (hP8.dir k hlt6)
    have hlf:=hP8.file n hnl
    have rdf:=za_ (w0:=w) hlf
    have hpd:qT_ (some (G.d k))=vp (G.d k) 0:=rfl
    have hpf:qT_ (some (G.fb.getD n 0))=vp (G.fb.getD n 0) 0:=rfl
    first|with_reducible refine ks [] (And.intro @qz_ (And.intro @d2 (And.intro @ix3 (And.intro @ld3 (And.intro @rd3 (@rdd)))))) ?_|refine kp (And.intro @qz_ (And.intro @d2 (And.intro @ix3 (And.intro @ld3 (And.intro @rd3 (@rdd)))))) ?_
    refine kq (And.intro @qz_ @rdd) ?_
    refine Ow.mapGetG (encK:=vs) (encV:=qT_) (k:=jY_ k) (z:=none) rfl rfl Tryz.underlying121 jM_ zrPd rfl rfl (za_ hom) hM ?_
    rw[Z7_,jG_ hlt6]
    show Ow _ _ _ _ _ _ _ _
    refine ko (And.intro @qz_ (And.intro @hpd (@rdr))) ?_
    refine Ow.mapGetG (encK:=vs) (encV:=qT_) (k:=x) (z:=none) rfl rfl Tryz.underlying127 jM_ zrPf rfl rfl (za_ hos) hms ?_
    rw[hnp.get hq6.nodup,hfn]
    show Ow _ _ _ _ _ _ _ _
    refine ko (And.intro @qz_ @hpf) ?_
    have hfo:=wF_ hP8.ok hnl
    have hrf2:zA_ w L8 (G.fb.getD n 0)=some (kc_ (zx_ S8 n)):=rdf
    have hfd:S8.files.getD n q2_=zx_ S8 n:=rfl
    rw[hfd] at hlf
    clear rdf
    have hcf:qM_ (S8,p8) (x,n)=(Zw_ S8 n ⟨(zx_ S8 n).data.take ((zx_ S8 n).stl+vn_ p8 ((zx_ S8 n).data.length - (zx_ S8 n).stl)),((zx_ S8 n).data.take ((zx_ S8 n).stl+vn_ p8 ((zx_ S8 n).data.length - (zx_ S8 n).stl))).length⟩,p8.drop 1):=rfl
    rw[hcf] at hfl8
    have hple8:=JN_ p8 ((zx_ S8 n).data.length - (zx_ S8 n).stl)
    generalize zx_ S8 n=f at*
    have hsub: (f.data.length:Int) - (f.stl:Int)=((f.data.length - f.stl:Nat):Int):=by omega
    refine Cw.regionG [G.fb.getD n 0] [25] 26 (by kernel_rfl) rfl ?_
    simp only[List.replicate_succ,List.replicate_zero]
    refine OwG.run [0,1,2,3,4,5,6,7,8,9,10,11,12,13,14,15,16,17,18,19] [true,true,true,true,true,true,true,true,true,true,true,true,true,true,true,true,true,true,true,true,false,false,false,false,false,false] 6 rfl (by kernel_rfl) (by kernel_rfl) fun k hk=> ?_
    simp only[zo_, ↓zi_, ↓zd_, ↓zz_, ↓zy_,ze_]
    simp(disch:=(first|assumption|omega| (simp only[KC_,XQ_,UInt64.reduceToNat];try omega))) only[↓Sx.S0,Sx.S1,Tryz.fx,qz_,Nat.reduceAdd,Nat.reducePow,Int.reducePow,Nat.reduceBEq, ↓reduceIte,UInt8.reduceToNat,UInt16.reduceToNat,UInt32.reduceToNat,UInt64.reduceToNat,Int.reduceToNat,Md.next_sofnil,hrf2,hsub]
    (with_reducible refine hk _ _ _ ?_);clear hk k
    refine OwG.one 20 _ (by kernel_rfl) rfl ?_
    refine Ow.callFnXC (b:=vi ((f.data.length - f.stl:Nat):Int)) (ars:= #[vi ((f.data.length - f.stl:Nat):Int),vp bk 0]) rfl (X:=L8) (Y:= []) (List.append_nil _).symm rfl rfl rfl rfl Tryz.call82 (fun w' hw' hX' hn'=>Rets.chunk hX' hn' (zh_ hlk9) (V8_ (f.data.length - f.stl) bk v8 p8 w' (by omega) (hv8.old hw' fun hq b hb=>hE8.not (hvb8 hq b hb).1 (hvb8 hq b hb).2) hpl8 (fun hq e=>by have:=(hvb8 hq bk e).1;omega) (hX' _ (zp_ hlk9)))) (fun r D hC hS=> ?_)
    rw[List.append_nil]
    obtain⟨o,rfl,rfl,v9,rfl,hv1,hv2⟩:=hS
    obtain⟨hvn,hvn2⟩:=acj_ hv8 hv1 hv2
    have hE9:=hE8.came0 hC
    have hP9:=hP8.away hlk9 (kM_ v9)
    have hk9: ∀b o,Sx.look L8 b=some o→tyO o≠some 24→Sx.look (setB L8 bk (kM_ v9)) b=some o:=fun b o hb ht=>qj_ hlk9 hb ht
    have hlf9:Sx.look (setB L8 bk (kM_ v9)) (G.fb.getD n 0)=some (kc_ f):=hk9 _ _ hlf (by simp[tyO,kc_])
    have hlkA:Sx.look (setB L8 bk (kM_ v9)) bk=some (kM_ v9):=zw_ hlk9
    have hrbA:Sx.look (setB L8 bk (kM_ v9)) rb=some (.cells arr E fz):=by rw[zb_ (fun e=>hrn bk hbk6 (by omega) e.symm)];exact hlrb
    have hrf9:=za_ (w0:=w) hlf9
    generalize vn_ p8 (f.data.length - f.stl)=m at*
    have hadd: (f.stl:Int)+ (m:Int)=((f.stl+m:Nat):Int):=by omega
    have hbkf:bk≠G.fb.getD n 0:=fun e=>by
     rw[←e,hlkA] at hlf9
     simp[kc_,kM_] at hlf9
    generalize setB L8 bk (kM_ v9)=L9 at*
    have st0:=fun x=>QZ_ f (f.data.take (f.stl+m)) x
    with_reducible refine Ow.nil ?_
    refine⟨(fun b hb=>by rw[List.mem_singleton] at hb;subst hb;rw[hrf2,hrf9]), ?_⟩
    simp only[List.set_cons_zero,List.set_cons_succ,jH_,v7_,v8_]
    refine OwG.rest [21,22,23,24,25] rfl (by kernel_rfl) (by kernel_rfl) ?_
    simp only[zo_, ↓zi_, ↓zd_, ↓zz_, ↓zy_,ze_]
    refine kq (And.intro @qz_ @hadd) ?_
    refine Ow.store rfl rfl rfl (ke (And.intro @qz_ (And.intro @hlf9 (@st0)))) ?_
    have htl: (f.data.take (f.stl+m)).length≤f.data.length:=by rw[List.length_take];omega
    have htl2:f.stl≤ (f.data.take (f.stl+m)).length:=by rw[List.length_take];omega
    have hlB:Sx.look (setB L9 (G.fb.getD n 0) (kc_ ⟨f.data.take (f.stl+m),f.stl⟩)) (G.fb.getD n 0)=some (kc_ ⟨f.data.take (f.stl+m),f.stl⟩):=zw_ hlf9
    have hrB:=za_ (w0:=w) hlB
    have st1:=fun x=>QR_ ⟨f.data.take (f.stl+m),f.stl⟩ (f.data.take (f.stl+m)).length x
    have hokA:=JR_ (n:=n) (f:=⟨f.data.take (f.stl+m),f.stl⟩) hP8.ok ⟨Nat.le_trans htl hfo.1,htl2⟩
    have hPA:=hP9.setFile hnl ⟨f.data.take (f.stl+m),f.stl⟩ hokA
    have hokB:=JR_ (n:=n) (f:=⟨f.data.take (f.stl+m),(f.data.take (f.stl+m)).length⟩) hokA ⟨Nat.le_trans htl hfo.1,Nat.le_refl _⟩
    have hPB:=hPA.setFile (by rw[List.length_set];exact hnl) ⟨f.data.take (f.stl+m),(f.data.take (f.stl+m)).length⟩ hokB
    simp only[List.set_set] at hPB
    have hEB:=(hE9.setB (b:=G.fb.getD n 0) (o:=kc_ ⟨f.data.take (f.stl+m),f.stl⟩)).setB (b:=G.fb.getD n 0) (o:=kc_ ⟨f.data.take (f.stl+m),(f.data.take (f.stl+m)).length⟩)
    have hrf:rb≠G.fb.getD n 0:=hrn _ (hfk n (by have:=hP6.len;have:=hP8.len;omega)) (by omega)
    have hlkB:Sx.look (setB (setB L9 (G.fb.getD n 0) (kc_ ⟨f.data.take (f.stl+m),f.stl⟩)) (G.fb.getD n 0) (kc_ ⟨f.data.take (f.stl+m),(f.data.take (f.stl+m)).length⟩)) bk=some (kM_ v9):=by
     rw[zb_ (Ne.symm hbkf),zb_ (Ne.symm hbkf)];exact hlkA
    have hrbB:Sx.look (setB (setB L9 (G.fb.getD n 0) (kc_ ⟨f.data.take (f.stl+m),f.stl⟩)) (G.fb.getD n 0) (kc_ ⟨f.data.take (f.stl+m),(f.data.take (f.stl+m)).length⟩)) rb=some (.cells arr E fz):=by
     rw[zb_ (Ne.symm hrf),zb_ (Ne.symm hrf)];exact hrbA
    refine ko (And.intro @qz_ (And.intro @jE_ (And.intro @hrB (And.intro @hlB (@st1))))) ?_
    first|with_reducible refine ks [] @qz_ ?_|refine kp @qz_ ?_
    exact Again.mk ⟨j+1,setB (setB L9 (G.fb.getD n 0) (kc_ ⟨f.data.take (f.stl+m),f.stl⟩)) (G.fb.getD n 0) (kc_ ⟨f.data.take (f.stl+m),(f.data.take (f.stl+m)).length⟩),v9⟩ (by show sn.length - (j+1)<sn.length - j;omega) ⟨hjt,by rw[hfl8];exact hPB,hlkB,by rw[hfl8];exact hvn,by rw[hfl8];exact hvn2 hvb8,hEB,by rw[hfl8];show(p8.drop 1).length<1000000;rw[List.length_drop];omega,fun _=>hrbB⟩ rfl rfl
   ·obtain rfl:j=sn.length:=by omega
    have d2:decide ((sn.length:Int)< (sn.length:Int))=false:=decide_eq_false (by omega)
    rw[List.take_length] at hP8 hv8 hvb8 hpl8
    first|with_reducible refine ks [] (And.intro @qz_ @d2) ?_|refine kp (And.intro @qz_ @d2) ?_
    first|with_reducible refine ks [] @qz_ ?_|refine kp @qz_ ?_
    exact Again.mk ⟨k+1,L8,v8⟩ (by show 3 - (k+1)<3 - k;omega) ⟨hlt6,by rw[hcm];exact hP8,hlk9,by rw[hcm];exact hv8,by rw[hcm];exact hvb8,hE8,by rw[hcm];exact hpl8⟩ rfl rfl
  ·obtain rfl:k=3:=by omega
   have d6:decide (((3:Nat):Int)<3)=false:=rfl
   first|with_reducible refine ks [] (And.intro @qz_ @d6) ?_|refine kp (And.intro @qz_ @d6) ?_
   refine⟨_,(ke @qz_), ?_⟩
   exact⟨hE6,G,rfl,hP6⟩
end Go.Proofs
end
section
open Go Go.Proofs Go.Sx Go.StP
namespace Go.Proofs
set_option maxRecDepth 10000
set_option maxHeartbeats 400000
set_option linter.unusedSimpArgs false
def ahP_ (d:DirL):Prop:=d.pend.foldl qr_ d.stl=d.seen∧aq5_ d
def j7_ (S:DiskL):Prop:= ∀k,ahP_ (S.dir k)
theorem ve_ (l:NmL):ahP_ ⟨l,l,[]⟩:=⟨rfl,fun i hi=>absurd hi (Nat.not_lt_zero i)⟩
theorem ahN_ {d:DirL} {c:CallL} (h:ahP_ d) (hok:okC d.seen c):ahP_ ⟨qr_ d.seen c,d.stl,d.pend++ [c]⟩:=by
 refine⟨by show(d.pend++ [c]).foldl qr_ d.stl=_;rw[List.foldl_append,h.1];rfl,fun i hi=> ?_⟩
 have hi':i< (d.pend++ [c]).length:=hi
 show okC (((d.pend++ [c]).take i).foldl qr_ d.stl) ((d.pend++ [c]).getD i wa_)
 by_cases e:i<d.pend.length
 ·rw[List.take_append_of_le_length (by omega),List.getD_eq_getElem?_getD,List.getElem?_append_left e,←List.getD_eq_getElem?_getD]
  exact h.2 i e
 ·rw[List.length_append,List.length_singleton] at hi'
  obtain rfl:i=d.pend.length:=by omega
  rw[List.take_append_of_le_length (Nat.le_refl _),List.take_length,h.1,List.getD_eq_getElem?_getD,List.getElem?_append_right (Nat.le_refl _),Nat.sub_self]
  exact hok
theorem xo_ {S S':DiskL} (h:j7_ S) (e:S'.dir=S.dir):j7_ S':=fun k=>by rw[e];exact h k
theorem v0_ {S:DiskL} (h:j7_ S) {k:Nat} {d:DirL} (hd:ahP_ d):j7_ (zZ_ S k d):=fun j=>by
 by_cases e:j=k
 ·subst e;rw[zM_];exact hd
 ·rw[z4_ _ _ e];exact h j
theorem w4_ {S:DiskL} (h:j7_ S) {k:Nat} {c:CallL} (hok:okC (S.dir k).seen c):j7_ (Qh_ S k c):=v0_ h (ahN_ (h k) hok)
theorem j9_ {S:DiskL} (h:j7_ S):j7_ (zm_ S).1:=xo_ h (jy_ S).1
theorem al2_ (q:Int):j7_ (Zp_ q):=fun _=>ve_ []
theorem adw_ {S:DiskL} (h:j7_ S) (dir name:List UInt8):j7_ (jT_ S dir name).1:=by
 unfold jT_
 split
 ·exact h
 ·split
  ·exact h
  ·split
   ·exact j9_ h
   ·exact w4_ (xo_ (j9_ h) rfl) (fun e=>by cases e)
theorem Xv_ {S:DiskL} (h:j7_ S) (dir name s:List UInt8):j7_ (jf_ S dir name s).1:=by
 unfold jf_
 split
 ·exact h
 ·split
  ·exact h
  ·split
   ·exact h
   ·split
    ·exact j9_ h
    ·exact xo_ (j9_ h) rfl
theorem aiX_ {S:DiskL} (h:j7_ S) (dir name:List UInt8):j7_ (ZD_ S dir name).1:=by
 unfold ZD_
 split
 ·exact h
 ·split
  ·exact h
  ·split
   ·exact j9_ h
   ·exact xo_ (j9_ h) rfl
theorem aaY_ {S:DiskL} (h:j7_ S) (dir:List UInt8):j7_ (q3_ S dir).1:=by
 unfold q3_
 split
 ·exact h
 ·split
  ·exact j9_ h
  ·exact v0_ (j9_ h) (ve_ _)
theorem X2_ {q:DiskL×List UInt16} (h:j7_ q.1): ∀k,j7_ (qa_ q k).1
 |0=>h
 |k+1=>v0_ (X2_ h k) (ve_ _)
theorem VP_ {S:DiskL} (h:j7_ S) (pl:List UInt16):j7_ (xq_ S pl):=by
 unfold xq_
 refine xo_ (S:=j2_ (qa_ (S,pl) 3).1) ?_ (x9_ _ 3)
 exact xo_ (X2_ (q:=(S,pl)) h 3) rfl
end Go.Proofs
end
section
open Go Go.Proofs Go.Sx Go.StP
namespace Go.Proofs
set_option maxRecDepth 10000
set_option maxHeartbeats 400000
set_option linter.unusedSimpArgs false
def NmB (l:NmL):Prop:= ∀p,p∈l→p.1.length≤1000000
def akw_ (c:CallL):Prop:=c.a.length≤1000000∧c.b.length≤1000000
structure DirB (N:Nat) (d:DirL):Prop where
 seen:d.seen.length≤N
 stl:d.stl.length+d.pend.length≤N
 seenB:NmB d.seen
 stlB:NmB d.stl
 pendB: ∀c,c∈d.pend→akw_ c
def DkN (N:Nat) (S:DiskL):Prop:= ∀k,DirB N (S.dir k)
theorem DkN.b {N:Nat} {S:DiskL} (h:DkN N S) (hN:N≤1000000):DkB S:=fun k _=>⟨Nat.le_trans (h k).seen hN,(h k).seenB⟩
theorem DirB.mono {N M:Nat} {d:DirL} (h:DirB N d) (hm:N≤M):DirB M d:=⟨Nat.le_trans h.seen hm,Nat.le_trans h.stl hm,h.seenB,h.stlB,h.pendB⟩
theorem DkN.mono {N M:Nat} {S:DiskL} (h:DkN N S) (hm:N≤M):DkN M S:=fun k=>(h k).mono hm
theorem Qj_ (l:NmL) (s:List UInt8): (qI_ l s).length≤l.length:=List.length_filter_le _ _
theorem J2_ (l:NmL) (x:List UInt8×Nat): (KK_ l x).length≤l.length+1:=by
 have h1:=(xF_ x (qI_ l x.1)).length_eq
 have h2:=Qj_ l x.1
 rw[List.length_cons] at h1
 show(insN (qI_ l x.1) x).length≤_
 omega
theorem abS_ (l:NmL) (c:CallL): (qr_ l c).length≤l.length+1:=by
 unfold qr_
 split
 ·exact J2_ l _
 ·have h1:=J2_ (qI_ l c.a) (c.b,(zC_ l c.a).getD 0)
  have h2:=Qj_ l c.a
  omega
 ·exact Nat.le_succ_of_le (Qj_ l _)
theorem adD_ {l:NmL} (h:NmB l) (s:List UInt8):NmB (qI_ l s):=fun p hp=>h p (List.mem_filter.1 hp).1
theorem akR_ {l:NmL} (h:NmB l) {x:List UInt8×Nat} (hx:x.1.length≤1000000):NmB (KK_ l x):=fun p hp=>by
 have:=(xF_ x (qI_ l x.1)).mem_iff.1 hp
 rcases List.mem_cons.1 this with rfl|h1
 ·exact hx
 ·exact adD_ h _ p h1
theorem aj6_ {l:NmL} (h:NmB l) {c:CallL} (hc:akw_ c):NmB (qr_ l c):=by
 unfold qr_
 split
 ·exact akR_ h hc.1
 ·exact akR_ (adD_ h _) hc.2
 ·exact adD_ h _
theorem ad5_: ∀ (cs:List CallL) {l:NmL},NmB l→(∀c,c∈cs→akw_ c)→NmB (cs.foldl qr_ l)∧(cs.foldl qr_ l).length≤l.length+cs.length
 | [],l,h,_=>⟨h,Nat.le_refl _⟩
 |c::cs,l,h,hc=>by
  have h1:=ad5_ cs (aj6_ h (hc c List.mem_cons_self)) (fun c' h'=>hc c' (List.mem_cons_of_mem _ h'))
  have h2:=abS_ l c
  refine⟨h1.1, ?_⟩
  have h3:=h1.2
  rw[List.length_cons]
  show(List.foldl qr_ (qr_ l c) cs).length≤_
  omega
theorem akK_ {N:Nat} {d:DirL} {c:CallL} (h:DirB N d) (hc:akw_ c):DirB (N+1) ⟨qr_ d.seen c,d.stl,d.pend++ [c]⟩ where
 seen:=by have:=abS_ d.seen c;have:=h.seen;show(qr_ d.seen c).length≤_;omega
 stl:=by have:=h.stl;show d.stl.length+ (d.pend++ [c]).length≤_;rw[List.length_append,List.length_singleton];omega
 seenB:=aj6_ h.seenB hc
 stlB:=h.stlB
 pendB:=fun c' h'=>by
  rcases List.mem_append.1 h' with h'|h'
  ·exact h.pendB c' h'
  ·rw[List.mem_singleton.1 h'];exact hc
theorem wz_ {N:Nat} {l:NmL} (h:l.length≤N) (hb:NmB l):DirB N ⟨l,l,[]⟩:=⟨h,h,hb,hb,fun c hc=>by cases hc⟩
theorem vq_ {N:Nat} {S:DiskL} (h:DkN N S) {k:Nat} {d:DirL} (hd:DirB N d):DkN N (zZ_ S k d):=fun j=>by
 by_cases e:j=k
 ·subst e;rw[zM_];exact hd
 ·rw[z4_ _ _ e];exact h j
theorem xQ_ {N:Nat} {S S':DiskL} (h:DkN N S) (e:S'.dir=S.dir):DkN N S':=fun k=>by rw[e];exact h k
theorem Qu_ {N:Nat} {S:DiskL} (h:DkN N S) {k:Nat} {c:CallL} (hc:akw_ c):DkN (N+1) (Qh_ S k c):=vq_ (h.mono (Nat.le_succ N)) (akK_ (h k) hc)
theorem x6_ {N:Nat} {q:DiskL×List UInt16} (h:DkN N q.1): ∀k,DkN N (qa_ q k).1
 |0=>h
 |k+1=>by
  have h1:=x6_ h k
  have hd:=h1 k
  show DkN N (Kq_ (qa_ q k) k).1
  generalize qa_ q k=r at*
  refine vq_ h1 ?_
  have h2:=ad5_ ((r.1.dir k).pend.take (vn_ r.2 (r.1.dir k).pend.length)) hd.stlB (fun c hc=>hd.pendB c (List.mem_of_mem_take hc))
  refine wz_ ?_ h2.1
  have h3:=h2.2
  rw[List.length_take] at h3
  have h4:=hd.stl
  show(List.foldl qr_ _ _).length≤N
  omega
theorem aaA_ {N:Nat} {S:DiskL} (h:DkN N S) (pl:List UInt16):DkN N (xq_ S pl):=by
 unfold xq_
 refine xQ_ (S:=j2_ (qa_ (S,pl) 3).1) ?_ (x9_ _ 3)
 exact xQ_ (x6_ (q:=(S,pl)) h 3) rfl
theorem adg_ (q:Int):DkN 0 (Zp_ q):=fun _=>wz_ (Nat.le_refl 0) fun _ h=>by cases h
end Go.Proofs
end
section
open Go Go.Proofs Go.Sx Go.StP
namespace Go.Proofs
set_option maxRecDepth 10000
set_option maxHeartbeats 400000
set_option linter.unusedSimpArgs false
theorem acF_ (X:zc_) (G:DkG) (S:DiskL) (n:Int) (w:World) (hX: ∀p,p∈X→w.heap[p.1]? =some p.2) (hnd: (keys X).Nodup) (hP:DkP X G S) (hn: -9223372036854775808≤n∧n<9223372036854775808):
  Rets Tryz.prog 78 #[vp G.bd 0,vi n] w (XS w X (fun v D=>v=vj_ []∧ ∃G',G'.bd=G.bd∧DkP D G' {S with max:=n})):=by
 refine Rets.mono (Rets.chunk hX hnd (zh_ hP.disk) (aeo_ G.bd G.bm S n w (hX _ (zp_ hP.disk)))) ?_
 rintro v D ⟨hE,o,rfl,rfl,rfl⟩
 exact⟨hE,rfl,G,rfl,hP.setDisk {S with max:=n} rfl rfl ⟨hP.ok.seen,hP.ok.stl,hP.ok.seenN,hP.ok.stlN,hP.ok.pendN,hP.ok.file,hP.ok.fuse,hn⟩⟩
theorem af0_ (X:zc_) (G:DkG) (S:DiskL) (n:Int) (w:World) (hX: ∀p,p∈X→w.heap[p.1]? =some p.2) (hnd: (keys X).Nodup) (hP:DkP X G S) (hn: -9223372036854775808≤n∧n<9223372036854775808):
  Rets Tryz.prog 37 #[vp G.bd 0,vi n] w (XS w X (fun v D=>v=vj_ []∧ ∃G',G'.bd=G.bd∧DkP D G' {S with fuse:=n,fused:=decide (0≤n)})):=by
 refine Rets.mono (Rets.chunk hX hnd (zh_ hP.disk) (af9_ G.bd G.bm S n w (hX _ (zp_ hP.disk)))) ?_
 rintro v D ⟨hE,o,rfl,rfl,rfl⟩
 exact⟨hE,rfl,G,rfl,hP.setDisk {S with fuse:=n,fused:=decide (0≤n)} rfl rfl ⟨hP.ok.seen,hP.ok.stl,hP.ok.seenN,hP.ok.stlN,hP.ok.pendN,hP.ok.file,⟨hn.1,hn.2,fun h=>by simpa using h⟩,hP.ok.max⟩⟩
end Go.Proofs
end
section
open Go Go.Proofs Go.Sx Go.StP
namespace Go.Proofs
set_option maxRecDepth 10000
set_option maxHeartbeats 400000
set_option linter.unusedSimpArgs false
theorem adu_ (S:DiskL) (f:FiL) (h: ∀k,(S.dir k).pend= []∧(S.dir k).stl= []): ∀k,((zR_ S f).dir k).pend= []∧((zR_ S f).dir k).stl= []:=by
 intro k
 unfold zR_
 split
 ·rename_i j hj
  split
  ·by_cases e:k=j
   ·subst e;rw[zM_];exact⟨(h k).1,(h k).2⟩
   ·rw[z4_ _ _ e];exact h k
  ·exact h k
 ·exact h k
theorem Ko_ (l:List FiL): ∀ (S:DiskL),(∀k,(S.dir k).pend= []∧(S.dir k).stl= [])→ ∀k,((l.foldl zR_ S).dir k).pend= []∧((l.foldl zR_ S).dir k).stl= []:=by
 induction l with
 |nil=>exact fun _ h=>h
 |cons f l ih=>exact fun S h=>ih _ (adu_ S f h)
theorem amO_ {N:Nat} {S:DiskL} (h:DkN N S) (f:FiL) (hf:f.name.length≤1000000):DkN (N+1) (zR_ S f):=by
 unfold zR_
 split
 ·split
  ·rename_i k hk hc
   refine vq_ (xQ_ (h.mono (Nat.le_succ N)) rfl) ⟨?_,Nat.le_succ_of_le (h k).stl,akR_ (h k).seenB hf,(h k).stlB,(h k).pendB⟩
   have h1:=J2_ (S.dir k).seen (f.name,S.files.length)
   have h2:=(h k).seen
   show(KK_ (S.dir k).seen (f.name,S.files.length)).length≤N+1
   omega
  ·exact h.mono (Nat.le_succ N)
 ·exact h.mono (Nat.le_succ N)
theorem aeU_: ∀ (l:List FiL) {N:Nat} {S:DiskL},DkN N S→(∀f,f∈l→f.name.length≤1000000)→DkN (N+l.length) (l.foldl zR_ S)
 | [],_,_,h,_=>h
 |f::l,N,S,h,hf=>by
  have h1:=aeU_ l (amO_ h f (hf f List.mem_cons_self)) (fun g hg=>hf g (List.mem_cons_of_mem _ hg))
  rw[List.length_cons,show N+ (l.length+1)=N+1+l.length by omega]
  exact h1
theorem ago_ (S:DiskL) (f:FiL) (h: ∀k,3≤k→(S.dir k).seen= []): ∀k,3≤k→((zR_ S f).dir k).seen= []:=by
 intro k hk
 unfold zR_
 split
 ·rename_i j hj
  split
  ·have h3:=(qD_ hj).1
   rw[z4_ _ _ (by omega)];exact h k hk
  ·exact h k hk
 ·exact h k hk
theorem ahr_ (l:List FiL): ∀ (S:DiskL),(∀k,3≤k→(S.dir k).seen= [])→ ∀k,3≤k→((l.foldl zR_ S).dir k).seen= []:=by
 induction l with
 |nil=>exact fun _ h=>h
 |cons f l ih=>exact fun S h=>ih _ (ago_ S f h)
theorem aeY_ (S:DiskL) (k:Nat): (setV S [0,1,2]).dir k=if k∈ [0,1,2] then⟨(S.dir k).seen,(S.dir k).seen,[]⟩ else S.dir k:=rfl
theorem anS_ (q:Int) (l:List FiL):j7_ (ofD q l):=fun k=>by
 have h1:=Ko_ l (Zp_ q) (fun _=>⟨rfl,rfl⟩) k
 have h2:=ahr_ l (Zp_ q) (fun _ _=>rfl) k
 unfold ofD
 rw[aeY_]
 generalize l.foldl zR_ (Zp_ q)=S at*
 split
 ·exact ve_ _
 ·rename_i hk
  have h3:3≤k:=by
   simp only[List.mem_cons,List.not_mem_nil,or_false,not_or] at hk
   omega
  have h4:=h2 h3
  generalize S.dir k=d at*
  obtain⟨a,b,c⟩:=d
  simp only at h1 h4
  obtain⟨rfl,rfl⟩:=h1
  subst h4
  exact ve_ []
theorem aqW_ (q:Int) (l:List FiL) (hf: ∀f,f∈l→f.name.length≤1000000):DkN l.length (ofD q l):=fun k=>by
 have h1:=aeU_ l (adg_ q) hf k
 rw[Nat.zero_add] at h1
 unfold ofD
 rw[aeY_]
 split
 ·exact wz_ h1.seen h1.seenB
 ·exact h1
end Go.Proofs
end
section
open Go Go.Proofs Go.Sx Go.StP
namespace Go.Proofs
set_option maxRecDepth 10000
set_option maxHeartbeats 400000
set_option linter.unusedSimpArgs false
theorem xb_ {N:Nat} {S:DiskL} (h:DkN N S):DkN N (zm_ S).1:=xQ_ h (jy_ S).1
theorem wk_ {N:Nat} {S:DiskL} (h:DkN N S):DkN (N+1) S:=h.mono (Nat.le_succ N)
theorem agT_ {N:Nat} {S:DiskL} (h:DkN N S) (dir:List UInt8) {name:List UInt8} (hn:name.length≤1000000):DkN (N+1) (jT_ S dir name).1:=by
 unfold jT_
 split
 ·exact wk_ h
 ·split
  ·exact wk_ h
  ·split
   ·exact wk_ (xb_ h)
   ·exact Qu_ (xQ_ (xb_ h) rfl) ⟨hn,Nat.zero_le _⟩
theorem VV_ {N:Nat} {S:DiskL} (h:DkN N S) (dir name s:List UInt8):DkN N (jf_ S dir name s).1:=by
 unfold jf_
 split
 ·exact h
 ·split
  ·exact h
  ·split
   ·exact h
   ·split
    ·exact xb_ h
    ·exact xQ_ (xb_ h) rfl
theorem alu_ {N:Nat} {S:DiskL} (h:DkN N S) (dir name:List UInt8):DkN N (ZD_ S dir name).1:=by
 unfold ZD_
 split
 ·exact h
 ·split
  ·exact h
  ·split
   ·exact xb_ h
   ·exact xQ_ (xb_ h) rfl
theorem acK_ {N:Nat} {S:DiskL} (h:DkN N S) (dir:List UInt8):DkN N (q3_ S dir).1:=by
 unfold q3_
 split
 ·exact h
 ·split
  ·exact xb_ h
  ·exact vq_ (xb_ h) (wz_ ((xb_ h) _).seen ((xb_ h) _).seenB)
theorem JC_ {S:DiskL} (ok:DkOk S): ∀ (l:NmL),(∀p,p∈l→p.2<S.files.length)→xs_ S l≤l.length*1048576
 | [],_=>Nat.zero_le _
 |p::l,h=>by
  have h1:=JC_ ok l fun q hq=>h q (List.mem_cons_of_mem _ hq)
  have h2:=(wF_ ok (h p List.mem_cons_self)).1
  unfold xs_ zx_ at*
  rw[List.map_cons,List.sum_cons,List.length_cons]
  omega
theorem am8_ {N:Nat} {S:DiskL} (ok:DkOk S) (h:DkN N S):kn_ S≤3* (N*1048576):=by
 have h0:=JC_ ok _ (ok.seenN 0 (by omega))
 have h1:=JC_ ok _ (ok.seenN 1 (by omega))
 have h2:=JC_ ok _ (ok.seenN 2 (by omega))
 have g0:=Nat.mul_le_mul_right 1048576 (h 0).seen
 have g1:=Nat.mul_le_mul_right 1048576 (h 1).seen
 have g2:=Nat.mul_le_mul_right 1048576 (h 2).seen
 unfold kn_
 omega
end Go.Proofs
end
section
open Go Go.Proofs Go.Sx Go.StP
namespace Go.Proofs
set_option maxRecDepth 10000
set_option maxHeartbeats 400000
set_option linter.unusedSimpArgs false
def au3_ (S:DiskL):Prop:= ∀j k,j<3→k<3→ ∀p,p∈ (S.dir j).seen→ ∀q,q∈ (S.dir k).seen→p.2=q.2→j=k∧p=q
def LtS (S:DiskL):Prop:= ∀k,k<3→ ∀p,p∈ (S.dir k).seen→p.2<S.files.length
def auU_ (S:DiskL):Prop:= ∀k,k<3→ ∀p,p∈ (S.dir k).seen→qp_ p.1=true
end Go.Proofs
end
section
open Go Go.Proofs Go.Sx Go.StP
namespace Go.Proofs
set_option maxRecDepth 10000
set_option maxHeartbeats 400000
set_option linter.unusedSimpArgs false
def doV (S:DiskL) (kind:Int) (dir name s:List UInt8):DiskL×Nat:=
 if kind=0 then jT_ S dir name else if kind=1 then jf_ S dir name s else if kind=2 then ZD_ S dir name else if kind=3 then q3_ S dir else if kind=4 then vZ_ S dir name s else if kind=5 then vy_ S dir name else(S,0)
inductive StepD (S:DiskL) (kind:Int) (dir name s:List UInt8):DiskL→Nat→Prop
 |same (e:Nat) (h:e≠0∨(kind≠2∧kind≠3)):StepD S kind dir name s S e
 |burn (h:kind≠2∧kind≠3∨(zm_ S).2≠0):StepD S kind dir name s (zm_ S).1 (zm_ S).2
 |create (k:Nat) (hk:zE_ dir=some k) (hf:qp_ name=true) (hn:zC_ (S.dir k).seen name=none) (hb: (zm_ S).2=0):StepD S kind dir name s (Qh_ (k0_ (zm_ S).1 q2_) k ⟨0,name,[],S.files.length⟩) 0
 |append (k m:Nat) (hk:zE_ dir=some k) (hm:zC_ (S.dir k).seen name=some m) (hf:wo_ S m s=false) (hb: (zm_ S).2=0):StepD S kind dir name s (Zw_ (zm_ S).1 m ⟨(zx_ S m).data++s,(zx_ S m).stl⟩) 0
 |sync (k m:Nat) (hk:zE_ dir=some k) (hm:zC_ (S.dir k).seen name=some m) (hb: (zm_ S).2=0):StepD S kind dir name s (Zw_ (zm_ S).1 m ⟨(zx_ S m).data,(zx_ S m).data.length⟩) 0
 |syncDir (k:Nat) (hk:zE_ dir=some k) (hb: (zm_ S).2=0):StepD S kind dir name s (xf_ (zm_ S).1 k) 0
 |rename (k m:Nat) (h4:kind=4) (hk:zE_ dir=some k) (hm:zC_ (S.dir k).seen name=some m) (hf:qp_ s=true) (hne:name≠s) (hb: (zm_ S).2=0):StepD S kind dir name s (Qh_ (zm_ S).1 k ⟨1,name,s,0⟩) 0
 |remove (k m:Nat) (hk:zE_ dir=some k) (hm:zC_ (S.dir k).seen name=some m) (hb: (zm_ S).2=0):StepD S kind dir name s (Qh_ (zm_ S).1 k ⟨2,name,[],0⟩) 0
theorem WC_ {S:DiskL} {dir name:List UInt8} {m:Nat} (h:atD S dir name=some m): ∃k,zE_ dir=some k∧zC_ (S.dir k).seen name=some m:=by
 unfold atD at h
 cases hk:zE_ dir with
 |none=>rw[hk] at h;cases h
 |some k=>rw[hk] at h;exact⟨k,rfl,h⟩
theorem anV_ {S:DiskL} {dir name:List UInt8} {k:Nat} (hk:zE_ dir=some k) (h:atD S dir name=none):zC_ (S.dir k).seen name=none:=by
 unfold atD at h
 rw[hk] at h;exact h
theorem XT_ {S:DiskL} {dir:List UInt8} {names:List (List UInt8)} (h:jg_ S dir names=0): ∃k,zE_ dir=some k∧names.all qp_=true:=by
 obtain⟨h1,h2,-⟩:=agr_ h
 cases hk:zE_ dir with
 |none=>exact absurd hk h1
 |some k=>exact⟨k,rfl,h2⟩
theorem adA_ (S:DiskL) (dir name s:List UInt8):StepD S 0 dir name s (jT_ S dir name).1 (jT_ S dir name).2:=by
 unfold jT_
 split
 ·exact .same _ (.inr ⟨by decide,by decide⟩)
 ·rename_i hf
  split
  ·exact .same _ (.inr ⟨by decide,by decide⟩)
  ·rename_i ha
   split
   ·exact .burn (.inl ⟨by decide,by decide⟩)
   ·rename_i hb
    obtain⟨k,hk,hn⟩:=XT_ (S:=S) (dir:=dir) (names:= [name]) (by simpa using hf)
    rw[hk]
    exact .create k hk (by simpa using hn) (anV_ hk ha) (by simpa using hb)
theorem ac7_ (S:DiskL) (dir name s:List UInt8):StepD S 5 dir name s (vy_ S dir name).1 (vy_ S dir name).2:=by
 unfold vy_
 split
 ·exact .same _ (.inr ⟨by decide,by decide⟩)
 ·split
  ·exact .same _ (.inr ⟨by decide,by decide⟩)
  ·rename_i m ha
   split
   ·exact .burn (.inl ⟨by decide,by decide⟩)
   ·rename_i hb
    obtain⟨k,hk,hm⟩:=WC_ ha
    rw[hk]
    exact .remove k m hk hm (by simpa using hb)
theorem acx_ (S:DiskL) (dir name s:List UInt8):StepD S 4 dir name s (vZ_ S dir name s).1 (vZ_ S dir name s).2:=by
 unfold vZ_
 split
 ·exact .same _ (.inr ⟨by decide,by decide⟩)
 ·rename_i hf
  split
  ·exact .same _ (.inr ⟨by decide,by decide⟩)
  ·rename_i m ha
   split
   ·exact .burn (.inl ⟨by decide,by decide⟩)
   ·rename_i hne
    split
    ·exact .burn (.inl ⟨by decide,by decide⟩)
    ·rename_i hb
     obtain⟨k,hk,hm⟩:=WC_ ha
     obtain⟨-,-,hn⟩:=XT_ (S:=S) (dir:=dir) (names:= [name,s]) (by simpa using hf)
     simp only[List.all_cons,List.all_nil,Bool.and_true,Bool.and_eq_true] at hn
     rw[hk]
     exact .rename k m rfl hk hm hn.2 hne (by simpa using hb)
theorem acW_ (S:DiskL) (dir name s:List UInt8):StepD S 1 dir name s (jf_ S dir name s).1 (jf_ S dir name s).2:=by
 unfold jf_
 split
 ·exact .same _ (.inr ⟨by decide,by decide⟩)
 ·split
  ·exact .same _ (.inr ⟨by decide,by decide⟩)
  ·rename_i m ha
   split
   ·exact .same _ (.inr ⟨by decide,by decide⟩)
   ·rename_i hfl
    split
    ·exact .burn (.inl ⟨by decide,by decide⟩)
    ·rename_i hb
     obtain⟨k,hk,hm⟩:=WC_ ha
     exact .append k m hk hm (by simpa using hfl) (by simpa using hb)
theorem ajH_ (S:DiskL) (dir name s:List UInt8):StepD S 2 dir name s (ZD_ S dir name).1 (ZD_ S dir name).2:=by
 unfold ZD_
 split
 ·rename_i hf
  exact .same _ (.inl hf)
 ·split
  ·exact .same _ (.inl (Nat.succ_ne_zero 5))
  ·rename_i m ha
   split
   ·rename_i hb
    exact .burn (.inr hb)
   ·rename_i hb
    obtain⟨k,hk,hm⟩:=WC_ ha
    exact .sync k m hk hm (by simpa using hb)
theorem aaM_ (S:DiskL) (dir name s:List UInt8):StepD S 3 dir name s (q3_ S dir).1 (q3_ S dir).2:=by
 unfold q3_
 split
 ·rename_i hf
  exact .same _ (.inl hf)
 ·rename_i hf
  split
  ·rename_i hb
   exact .burn (.inr hb)
  ·rename_i hb
   obtain⟨k,hk,-⟩:=XT_ (S:=S) (dir:=dir) (names:= []) (by simpa using hf)
   rw[hk]
   exact .syncDir k hk (by simpa using hb)
theorem ad9_ (S:DiskL) (kind:Int) (dir name s:List UInt8):StepD S kind dir name s (doV S kind dir name s).1 (doV S kind dir name s).2:=by
 unfold doV
 split
 ·rename_i h;subst h;exact adA_ S dir name s
 split
 ·rename_i h;subst h;exact acW_ S dir name s
 split
 ·rename_i h;subst h;exact ajH_ S dir name s
 split
 ·rename_i h;subst h;exact aaM_ S dir name s
 split
 ·rename_i h;subst h;exact acx_ S dir name s
 split
 ·rename_i h;subst h;exact ac7_ S dir name s
 ·rename_i h0 h1 h2 h3 h4 h5
  exact .same 0 (.inr ⟨h2,h3⟩)
theorem apl_ {l:NmL} {a b:List UInt8} {m:Nat} (h:zC_ l a=some m) (hne:a≠b):okC l ⟨1,a,b,0⟩:=fun _=>⟨by rw[h];simp,hne⟩
section
variable {S S':DiskL} {kind:Int} {dir name s:List UInt8} {e:Nat}
theorem ads_ (S:DiskL) (k j:Nat): ((xf_ S k).dir j).seen=(S.dir j).seen:=by
 unfold xf_
 by_cases e:j=k
 ·subst e;rw[zM_]
 ·rw[z4_ _ _ e]
theorem ajZ_ (hu:j7_ S) (h:StepD S kind dir name s S' e):j7_ S':=by
 obtain⟨hb1,hb2,-⟩:=jy_ S
 have hbu:=j9_ hu
 cases h with
 |same=>exact hu
 |burn=>exact hbu
 |create k hk hf hn hb=>exact w4_ (xo_ hbu rfl) (fun e=>by cases e)
 |append k m hk hm hf hb=>exact xo_ hbu rfl
 |sync k m hk hm hb=>exact xo_ hbu rfl
 |syncDir k hk hb=>exact v0_ hbu (ve_ _)
 |rename k m h4 hk hm hf hne hb=>exact w4_ hbu (by rw[hb1];exact apl_ hm hne)
 |remove k m hk hm hb=>exact w4_ hbu (fun e=>by cases e)
theorem alh_ {N:Nat} (hu:DkN N S) (hn:name.length≤1000000) (hs:s.length≤1000000) (h:StepD S kind dir name s S' e):DkN (N+1) S':=by
 have hbu:=xb_ hu
 cases h with
 |same=>exact wk_ hu
 |burn=>exact wk_ hbu
 |create k hk hf hn' hb=>exact Qu_ (xQ_ hbu rfl) ⟨hn,Nat.zero_le _⟩
 |append k m hk hm hf hb=>exact wk_ (xQ_ hbu rfl)
 |sync k m hk hm hb=>exact wk_ (xQ_ hbu rfl)
 |syncDir k hk hb=>exact wk_ (vq_ hbu (wz_ (hbu k).seen (hbu k).seenB))
 |rename k m h4 hk hm hf hne hb=>exact Qu_ hbu ⟨hn,hs⟩
 |remove k m hk hm hb=>exact Qu_ hbu ⟨hn,Nat.zero_le _⟩
end
end Go.Proofs
end
section
open Go Go.Proofs Go.Sx Go.StP
namespace Go.Proofs
set_option maxRecDepth 10000
set_option maxHeartbeats 400000
set_option linter.unusedSimpArgs false
theorem ajU_ (S:DiskL) {m:Nat} (f:FileL) (hm:m<S.files.length) (n:Nat):zx_ (Zw_ S m f) n=if n=m then f else zx_ S n:=by
 unfold zx_ Zw_
 simp only
 rw[List.getD_eq_getElem?_getD,List.getD_eq_getElem?_getD]
 by_cases e:n=m
 ·subst e;rw[if_pos rfl,List.getElem?_set_self hm];rfl
 ·rw[if_neg e,List.getElem?_set_ne (Ne.symm e)]
section
variable {S S':DiskL} {kind:Int} {dir name s:List UInt8} {e:Nat}
end
end Go.Proofs
end
section
open Go Go.Proofs Go.Sx Go.StP
namespace Go.Proofs
set_option maxRecDepth 10000
set_option maxHeartbeats 400000
set_option linter.unusedSimpArgs false
theorem wm_ (q:DiskL×List UInt16): ∀k,(qa_ q k).1.files=q.1.files
 |0=>rfl
 |k+1=>wm_ q k
def BegF (f g:FileL):Prop:=(∃t,g.data=f.data.take t)∧(f.stl=f.data.length→g.data=f.data∧g.stl=g.data.length)
theorem BegF.refl (f:FileL):BegF f f:=⟨⟨f.data.length,(List.take_length).symm⟩,fun h=>⟨rfl,h⟩⟩
theorem BegF.trans {f g h:FileL} (h1:BegF f g) (h2:BegF g h):BegF f h:=by
 obtain⟨⟨t,ht⟩,a⟩:=h1
 obtain⟨⟨u,hu⟩,b⟩:=h2
 refine⟨⟨min u t,by rw[hu,ht,List.take_take]⟩,fun e=> ?_⟩
 obtain⟨a1,a2⟩:=a e
 obtain⟨b1,b2⟩:=b a2
 exact⟨b1.trans a1,b2⟩
def NumD (d:DirL) (n:Nat):Prop:=(∃p,p∈d.stl∧p.2=n)∨ ∃c,c∈d.pend∧c.kind=0∧c.n=n
def auX_ (S:DiskL):Prop:= ∀j k,j<3→k<3→ ∀n,NumD (S.dir j) n→NumD (S.dir k) n→j=k
def HadS (S:DiskL) (had:List FiL):Prop:= ∀k,k<3→ ∀n,NumD (S.dir k) n→ ∃f,f∈had∧f.dir=jY_ k∧f.data=(zx_ S n).data
def avf_ (S:DiskL):Prop:=S.off=false∧S.fused=false
section
variable {S S':DiskL} {kind:Int} {dir name s:List UInt8} {e:Nat}
end
end Go.Proofs
end
section
open Go Go.Proofs Go.Sx Go.StP
namespace Go.Proofs
set_option maxRecDepth 10000
set_option maxHeartbeats 400000
set_option linter.unusedSimpArgs false
structure KeepS (S:DiskL) (k:Nat) (nm:List UInt8) (n:Nat) (data:List UInt8):Prop where
 lt:n<S.files.length
 data: (zx_ S n).data=data
 stl: (zx_ S n).stl=(zx_ S n).data.length
 at_:zC_ (S.dir k).stl nm=some n
 pend: ∀c,c∈ (S.dir k).pend→c.a≠nm∧(c.kind=1→c.b≠nm)
theorem aaG_ {x:List UInt8×Nat} {s:List UInt8} (hx:x.1≠s): ∀l:NmL,zC_ (insN l x) s=zC_ l s
 | []=>by
  have: (s==x.1)=false:=beq_eq_false_iff_ne.2 (Ne.symm hx)
  unfold insN zC_
  rw[List.find?_cons,this]
 |p::l=>by
  have e: (s==x.1)=false:=beq_eq_false_iff_ne.2 (Ne.symm hx)
  have ih:=aaG_ hx l
  unfold insN
  split
  ·unfold zC_
   rw[List.find?_cons,e]
  ·unfold zC_ at ih ⊢
   rw[List.find?_cons,List.find?_cons]
   split
   ·rfl
   ·exact ih
theorem ZN_ {a s:List UInt8} (ha:a≠s): ∀l:NmL,zC_ (qI_ l a) s=zC_ l s
 | []=>rfl
 |p::l=>by
  have ih:=ZN_ ha l
  unfold qI_ at ih ⊢
  rw[List.filter_cons]
  by_cases e:a=p.1
  ·have e1: (s==p.1)=false:=beq_eq_false_iff_ne.2 (fun h=>ha (by rw[e,h]))
   rw[if_neg (by rw[e];simp),ih]
   unfold zC_
   rw[List.find?_cons,e1]
  ·rw[if_pos (by simpa using e)]
   unfold zC_ at ih ⊢
   rw[List.find?_cons,List.find?_cons]
   split
   ·rfl
   ·exact ih
theorem afD_ {x:List UInt8×Nat} {s:List UInt8} (hx:x.1≠s) (l:NmL):zC_ (KK_ l x) s=zC_ l s:=by
 unfold KK_
 rw[aaG_ hx,ZN_ hx]
theorem ahL_ {l:NmL} {c:CallL} {s:List UInt8} (h:c.a≠s∧(c.kind=1→c.b≠s)):zC_ (qr_ l c) s=zC_ l s:=by
 unfold qr_
 split
 ·exact afD_ h.1 l
 ·rename_i hk
  rw[afD_ (h.2 hk),ZN_ h.1]
 ·exact ZN_ h.1 l
theorem aaP_ {s:List UInt8}: ∀ (cs:List CallL) (l:NmL),(∀c,c∈cs→c.a≠s∧(c.kind=1→c.b≠s))→zC_ (cs.foldl qr_ l) s=zC_ l s
 | [],_,_=>rfl
 |c::cs,l,h=>by
  rw[List.foldl_cons,aaP_ cs _ fun d hd=>h d (List.mem_cons_of_mem _ hd),ahL_ (h c List.mem_cons_self)]
section
variable {S S':DiskL} {kind:Int} {dir name s:List UInt8} {e k n:Nat} {nm data:List UInt8}
theorem KeepS.seen (h:KeepS S k nm n data) (hh:j7_ S):zC_ (S.dir k).seen nm=some n:=by
 rw[← (hh k).1,aaP_ _ _ h.pend,h.at_]
end
end Go.Proofs
end
section
open Go Go.Proofs Go.Sx Go.StP
namespace Go.Proofs
set_option maxRecDepth 10000
set_option maxHeartbeats 400000
set_option linter.unusedSimpArgs false
structure NdR where
 s:List UInt8
 n:Int
def ndC (r:NdR):List Value:= [vs r.s]++ ([vi r.n])
def nd0:NdR:=⟨[],0⟩
theorem zP_ (r:NdR): (ndC r).length=2:=by simp[ndC]
theorem xE_ (r:NdR):Value.cells (.agg (ndC r).toArray)=(ndC r).toArray:=zj_ _
theorem Zy_ (r:NdR): (ndC r).all Value.oneCell'=true:=by
 unfold ndC
 simp only[List.all_append,List.all_cons,List.all_nil,v5_,Bool.and_true,Bool.true_and]
 rfl
theorem zrNd:zL_ Tryz.prog 144=some (.agg (ndC nd0).toArray):=id (by kernel_rfl)
theorem Jz_:zT_ Tryz.prog 144=some (true,2):=id (by kernel_rfl)
theorem anF_ (r:NdR):ndC r=([]:List Value)++ (([vs r.s])++ ([vi r.n])):=by
 unfold ndC;simp only[List.append_assoc,List.nil_append,List.append_nil]
theorem afK_ (r:NdR) (n:Nat) (E:TypeId) (fz:Nat×Nat):zk_ (some (false,n)) (some (.cells (ndC r).toArray E fz)) 0=some (vs r.s):=by
 rw[anF_];exact zK_ _ _ _ n E fz (by simp)
theorem W7_ {w:World} {v:Value} {l:List NdR} {b off:Nat} {arr:Array Value} {E:TypeId} {fz:Nat×Nat} (h:RowS 2 ndC nd0 w v l b off arr E fz) {k:Nat} (hk:k<l.length) (n:Nat):zk_ (some (false,n)) (some (.cells arr E fz)) (off+k*2+0)=some (vs (l.getD k nd0).s):=by
 rw[RowS.cell h hk (by omega)];generalize l.getD k nd0=r;rw[anF_];exact kI_ _ _ _ (by simp)
theorem anp_ (r:NdR):ndC r=(([vs r.s]))++ (([vi r.n])++ (([]:List Value))):=by
 unfold ndC;simp only[List.append_assoc,List.nil_append,List.append_nil]
theorem afS_ (r:NdR) (n:Nat) (E:TypeId) (fz:Nat×Nat):zk_ (some (false,n)) (some (.cells (ndC r).toArray E fz)) 1=some (vi r.n):=by
 rw[anp_];exact zK_ _ _ _ n E fz (by simp)
theorem ajW_ {w:World} {v:Value} {l:List NdR} {b off:Nat} {arr:Array Value} {E:TypeId} {fz:Nat×Nat} (h:RowS 2 ndC nd0 w v l b off arr E fz) {k:Nat} (hk:k<l.length) (n:Nat):zk_ (some (false,n)) (some (.cells arr E fz)) (off+k*2+1)=some (vi (l.getD k nd0).n):=by
 rw[RowS.cell h hk (by omega)];generalize l.getD k nd0=r;rw[anp_];exact kI_ _ _ _ (by simp)
theorem akN_ (r:NdR) (E:TypeId) (fz:Nat×Nat):zk_ (some (true,2)) (some (.cells (ndC r).toArray E fz)) 0=some (.agg (ndC r).toArray):=jP_ _ E fz 2 (by rw[List.size_toArray,zP_])
theorem ang_ (old:Array Value) (r:NdR) (a:Bool) (E:TypeId) (h:old.size=2):zn_ (some (a,2)) (some (.cells old E (0,0))) 0 (.agg (ndC r).toArray)=some (.cells (ndC r).toArray E (0,0)):=q4_ _ a old E (zP_ r) (Zy_ r) h
theorem aj7_ (r r':NdR) (a:Bool) (E:TypeId):zn_ (some (a,2)) (some (.cells (ndC r').toArray E (0,0))) 0 (.agg (ndC r).toArray)=some (.cells (ndC r).toArray E (0,0)):=ang_ _ r a E (by rw[List.size_toArray,zP_])
theorem ajm_ {w:World} {v:Value} {l:List NdR} {b off:Nat} {arr:Array Value} {E:TypeId} {fz:Nat×Nat} (h:RowS 2 ndC nd0 w v l b off arr E fz) {k:Nat} (hk:k<l.length):zk_ (some (true,2)) (some (.cells arr E fz)) (off+k*2)=some (.agg (ndC (l.getD k nd0)).toArray):=RowS.load h zP_ (by omega) hk
structure KcR where
 kind:Int
 a:List UInt8
 b:List UInt8
 n:Int
def kcC (r:KcR):List Value:= [vi r.kind]++ ([vs r.a]++ ([vs r.b]++ ([vi r.n])))
def kc0:KcR:=⟨0,[],[],0⟩
theorem vN_ (r:KcR): (kcC r).length=4:=by simp[kcC]
theorem Wu_ (r:KcR):Value.cells (.agg (kcC r).toArray)=(kcC r).toArray:=zj_ _
theorem aiM_ (r:KcR): (kcC r).all Value.oneCell'=true:=by
 unfold kcC
 simp only[List.all_append,List.all_cons,List.all_nil,v5_,Bool.and_true,Bool.true_and]
 rfl
theorem zrKc:zL_ Tryz.prog 150=some (.agg (kcC kc0).toArray):=id (by kernel_rfl)
theorem aqY_:zT_ Tryz.prog 150=some (true,4):=id (by kernel_rfl)
theorem ajd_ (r:KcR):kcC r=([]:List Value)++ (([vi r.kind])++ ([vs r.a]++ ([vs r.b]++ ([vi r.n])))):=by
 unfold kcC;simp only[List.append_assoc,List.nil_append,List.append_nil]
theorem ae7_ (r:KcR) (n:Nat) (E:TypeId) (fz:Nat×Nat):zk_ (some (false,n)) (some (.cells (kcC r).toArray E fz)) 0=some (vi r.kind):=by
 rw[ajd_];exact zK_ _ _ _ n E fz (by simp)
theorem ah2_ (r:KcR) (x:Int) (a:Bool) (E:TypeId):zn_ (some (a,1)) (some (.cells (kcC r).toArray E (0,0))) 0 (vi x)=some (.cells (kcC {r with kind:=x}).toArray E (0,0)):=by
 rw[ajd_ r,ajd_ {r with kind:=x}];exact zs_ _ _ _ _ a _ E (by simp) rfl (rfl) rfl (rfl)
theorem ajN_ (r:KcR):kcC r=(([vi r.kind]))++ (([vs r.a])++ ([vs r.b]++ ([vi r.n]))):=by
 unfold kcC;simp only[List.append_assoc,List.nil_append,List.append_nil]
theorem afi_ (r:KcR) (n:Nat) (E:TypeId) (fz:Nat×Nat):zk_ (some (false,n)) (some (.cells (kcC r).toArray E fz)) 1=some (vs r.a):=by
 rw[ajN_];exact zK_ _ _ _ n E fz (by simp)
theorem aja_ (r:KcR) (x:List UInt8) (a:Bool) (E:TypeId):zn_ (some (a,1)) (some (.cells (kcC r).toArray E (0,0))) 1 (vs x)=some (.cells (kcC {r with a:=x}).toArray E (0,0)):=by
 rw[ajN_ r,ajN_ {r with a:=x}];exact zs_ _ _ _ _ a _ E (by simp) rfl (rfl) rfl (rfl)
theorem ahX_ (r:KcR):kcC r=(([vi r.kind])++ ([vs r.a]))++ (([vs r.b])++ ([vi r.n])):=by
 unfold kcC;simp only[List.append_assoc,List.nil_append,List.append_nil]
theorem aft_ (r:KcR) (n:Nat) (E:TypeId) (fz:Nat×Nat):zk_ (some (false,n)) (some (.cells (kcC r).toArray E fz)) 2=some (vs r.b):=by
 rw[ahX_];exact zK_ _ _ _ n E fz (by simp)
theorem ajS_ (r:KcR) (x:List UInt8) (a:Bool) (E:TypeId):zn_ (some (a,1)) (some (.cells (kcC r).toArray E (0,0))) 2 (vs x)=some (.cells (kcC {r with b:=x}).toArray E (0,0)):=by
 rw[ahX_ r,ahX_ {r with b:=x}];exact zs_ _ _ _ _ a _ E (by simp) rfl (rfl) rfl (rfl)
theorem ajA_ (r:KcR):kcC r=(([vi r.kind])++ ([vs r.a])++ ([vs r.b]))++ (([vi r.n])++ (([]:List Value))):=by
 unfold kcC;simp only[List.append_assoc,List.nil_append,List.append_nil]
theorem ae2_ (r:KcR) (n:Nat) (E:TypeId) (fz:Nat×Nat):zk_ (some (false,n)) (some (.cells (kcC r).toArray E fz)) 3=some (vi r.n):=by
 rw[ajA_];exact zK_ _ _ _ n E fz (by simp)
theorem akk_ (r:KcR) (x:Int) (a:Bool) (E:TypeId):zn_ (some (a,1)) (some (.cells (kcC r).toArray E (0,0))) 3 (vi x)=some (.cells (kcC {r with n:=x}).toArray E (0,0)):=by
 rw[ajA_ r,ajA_ {r with n:=x}];exact zs_ _ _ _ _ a _ E (by simp) rfl (rfl) rfl (rfl)
theorem akz_ (r:KcR) (E:TypeId) (fz:Nat×Nat):zk_ (some (true,4)) (some (.cells (kcC r).toArray E fz)) 0=some (.agg (kcC r).toArray):=jP_ _ E fz 4 (by rw[List.size_toArray,vN_])
theorem amG_ (old:Array Value) (r:KcR) (a:Bool) (E:TypeId) (h:old.size=4):zn_ (some (a,4)) (some (.cells old E (0,0))) 0 (.agg (kcC r).toArray)=some (.cells (kcC r).toArray E (0,0)):=q4_ _ a old E (vN_ r) (aiM_ r) h
theorem ajf_ (r r':KcR) (a:Bool) (E:TypeId):zn_ (some (a,4)) (some (.cells (kcC r').toArray E (0,0))) 0 (.agg (kcC r).toArray)=some (.cells (kcC r).toArray E (0,0)):=amG_ _ r a E (by rw[List.size_toArray,vN_])
structure FdR where
 data:List UInt8
 stl:Int
def fdC (r:FdR):List Value:= [vs r.data]++ ([vi r.stl])
def fd0:FdR:=⟨[],0⟩
theorem q7_ (r:FdR): (fdC r).length=2:=by simp[fdC]
theorem JB_ (r:FdR):Value.cells (.agg (fdC r).toArray)=(fdC r).toArray:=zj_ _
theorem ajt_ (r:FdR): (fdC r).all Value.oneCell'=true:=by
 unfold fdC
 simp only[List.all_append,List.all_cons,List.all_nil,v5_,Bool.and_true,Bool.true_and]
 rfl
theorem zrFd:zL_ Tryz.prog 141=some (.agg (fdC fd0).toArray):=id (by kernel_rfl)
theorem ald_:zT_ Tryz.prog 141=some (true,2):=id (by kernel_rfl)
theorem aqX_ (r:FdR):fdC r=([]:List Value)++ (([vs r.data])++ ([vi r.stl])):=by
 unfold fdC;simp only[List.append_assoc,List.nil_append,List.append_nil]
theorem ad7_ {w:World} {v:Value} {l:List FdR} {b off:Nat} {arr:Array Value} {E:TypeId} {fz:Nat×Nat} (h:RowS 2 fdC fd0 w v l b off arr E fz) {k:Nat} (hk:k<l.length) (n:Nat):zk_ (some (false,n)) (some (.cells arr E fz)) (off+k*2+0)=some (vs (l.getD k fd0).data):=by
 rw[RowS.cell h hk (by omega)];generalize l.getD k fd0=r;rw[aqX_];exact kI_ _ _ _ (by simp)
theorem amR_ (r:FdR):jk_ (vw_ Tryz.prog 141) (zL_ Tryz.prog 141) [(0,vs r.data),(1,vi r.stl)]=some (.agg (fdC r).toArray):=by
 have hp:vw_ Tryz.prog 141=some [(0,1),(1,1)]:=id (by kernel_rfl)
 rw[hp,zrFd]
 have e0: (fdC fd0).toArray=(([]:List Value)++ (([vs fd0.data])++ ([vi fd0.stl]))).toArray:=by congr 1<;>simp only[fdC,List.append_assoc,List.nil_append,List.append_nil]
 have q0:Qz_ (([]:List Value)++ (([vs fd0.data])++ ([vi fd0.stl]))).toArray 0 ([vs r.data])=(([]:List Value)++ (([vs r.data])++ ([vi fd0.stl]))).toArray:=XE_ _ _ _ _ (by simp) (rfl)
 have s0: (([]:List Value)++ (([vs fd0.data])++ ([vi fd0.stl]))).toArray.size=2:=by simp
 have z0: (Value.cells (vs r.data)).toList= [vs r.data]:=by rfl
 have y0: (Value.cells (vs r.data)).size=1:=by rw[←Array.length_toList,z0];simp
 have e1: (([]:List Value)++ (([vs r.data])++ ([vi fd0.stl]))).toArray=((([vs r.data]))++ (([vi fd0.stl])++ (([]:List Value)))).toArray:=by congr 1<;>simp only[fdC,List.append_assoc,List.nil_append,List.append_nil]
 have q1:Qz_ ((([vs r.data]))++ (([vi fd0.stl])++ (([]:List Value)))).toArray 1 ([vi r.stl])=((([vs r.data]))++ (([vi r.stl])++ (([]:List Value)))).toArray:=XE_ _ _ _ _ (by simp) (rfl)
 have s1: ((([vs r.data]))++ (([vi fd0.stl])++ (([]:List Value)))).toArray.size=2:=by simp
 have z1: (Value.cells (vi r.stl)).toList= [vi r.stl]:=by rfl
 have y1: (Value.cells (vi r.stl)).size=1:=by rw[←Array.length_toList,z1];simp
 have e2: ((([vs r.data]))++ (([vi r.stl])++ (([]:List Value)))).toArray=(fdC r).toArray:=by congr 1<;>simp only[fdC,List.append_assoc,List.nil_append,List.append_nil]
 simp only[jk_]
 rw[e0]
 unfold Sx.fillV
 simp only[List.getElem?_cons_zero,List.getElem?_cons_succ,z0,y0]
 rw[if_pos ⟨trivial,by rw[s0];decide⟩,q0]
 rw[e1]
 unfold Sx.fillV
 simp only[List.getElem?_cons_zero,List.getElem?_cons_succ,z1,y1]
 rw[if_pos ⟨trivial,by rw[s1];decide⟩,q1]
 rw[e2];rfl
def z7_ (p:List UInt8×Nat):NdR:=⟨p.1,(p.2:Int)⟩
def Vc_ (c:CallL):KcR:=⟨(c.kind:Int),c.a,c.b,(c.n:Int)⟩
def xO_ (f:FileL):FdR:=⟨f.data,(f.stl:Int)⟩
theorem J3_ (l:NmL) (k:Nat): (l.map z7_).getD k nd0=z7_ (l.getD k ([],0)):=by
 rw[List.getD_eq_getElem?_getD,List.getD_eq_getElem?_getD,List.getElem?_map]
 cases l[k]? <;>rfl
theorem aq4_ (l:List CallL) (k:Nat): (l.map Vc_).getD k kc0=Vc_ (l.getD k ⟨0,[],[],0⟩):=by
 rw[List.getD_eq_getElem?_getD,List.getD_eq_getElem?_getD,List.getElem?_map]
 cases l[k]? <;>rfl
theorem ZY_ (l:List FileL) (k:Nat): (l.map xO_).getD k fd0=xO_ (l.getD k q2_):=by
 rw[List.getD_eq_getElem?_getD,List.getD_eq_getElem?_getD,List.getElem?_map]
 cases l[k]? <;>rfl
abbrev NdSl (w:World) (v:Value) (l:NmL):Prop:=SlV 2 ndC nd0 w v (l.map z7_)
def NdG (D:zc_) (v:Value) (l:NmL):Prop:=GrI D 144 2 v (l.map z7_).length ((l.map z7_).map ndC).flatten
def xd_ (s:List UInt8):Int:=match zE_ s with|some k=>(k:Int) |none=> -1
def kB_:Obj:= .cells #[vs z9_,vs vT_,vs refD] 9 (0,0)
theorem alE_ {s:List UInt8} (h: ∀j,j<3→jY_ j≠s):zE_ s=none:=by
 cases hw:zE_ s with
 |none=>rfl
 |some k=>exact absurd (qD_ hw).2.symm (h k (qD_ hw).1)
theorem Wz_ (b:Nat) {k:Nat} (hk:k<3) (a:Bool):zO_ (.sl (a,1)) (vsl b 0 3 3) (some (k:Int))=some (vp b k):=by
 rw[zY_ _ _ _ _ _ _ (by omega)];simp
theorem X5_ {k:Nat} (hk:k<3) (n:Nat):zk_ (some (false,n)) (some kB_) k=some (vs (jY_ k)):=by
 have:k=0∨k=1∨k=2:=by omega
 rcases this with rfl|rfl|rfl<;>rfl
set_option linter.defProp false
def q9_:=And.intro (@zg_) (@zf_)
theorem X8_ (w:World):Rets Tryz.prog 87 #[] w (XS w [] (fun v D=> ∃b,v=vsl b 0 3 3∧D= [(b,kB_)])):=by
 refine Rets.enterX Tryz.func87 rfl (rs:= [.tmp 0]) Tryz.results87 Tryz.ntmps87 (fun p hp=>by cases hp) (by simp[keys]) ?_
 refine kf ?_
 first|with_reducible refine ks [] @q9_ ?_|refine kp @q9_ ?_
 refine Ow.buildSlice (e:=9) #[vs z9_,vs vT_,vs refD] rfl rfl (by kernel_rfl) fun b1 hb1 hw1=> ?_
 refine ko @q9_ ?_
 first|with_reducible refine ks [] @q9_ ?_|refine kp @q9_ ?_
 refine⟨_,(ke @q9_), ?_⟩
 exact⟨Ext.of_new ⟨hw1,trivial⟩,b1,rfl,rfl⟩
theorem w8_ (s:List UInt8) (w:World):Rets Tryz.prog 84 #[vs s] w (fun v D=>v=vi (xd_ s)∧D= []):=by
 refine Rets.enterV Tryz.func84 rfl (rs:= [.tmp 2]) Tryz.results84 Tryz.ntmps84 ?_
 refine kf ?_
 first|with_reducible refine ks [] @q9_ ?_|refine kp @q9_ ?_
 refine Ow.callC rfl rfl Tryz.call87 (fun w' hw'=>X8_ w') (fun B1 v1 D1 hA1 hB1 hN1 hS1=> ?_)
 obtain⟨b1,rfl,rfl⟩:=hS1
 have hN1':=hN1.mono hB1
 rw[List.nil_append]
 refine ko @q9_ ?_
 first|with_reducible refine ks [] @q9_ ?_|refine kp @q9_ ?_
 refine Cw.loopG (G:=Nat) [6,7,10,11,12,13,14,15,16,2,8,9,4] (fun g=> [(4,vi g)]) (fun g=> [(b1,kB_)]) (fun g=>g≤3∧ ∀j,j<g→jY_ j≠s) (fun g=>3 - g) 0 rfl rfl ?_ ?_
 ·exact⟨Nat.zero_le _,fun j hj=>absurd hj (Nat.not_lt_zero j)⟩
 intro i ji hi
 refine kv ?_
 obtain⟨hi1,hi2⟩:=hi
 by_cases hlt:i<3
 ·have d1:decide ((i:Int)<3)=true:=decide_eq_true (by omega)
  have ix:=Wz_ b1 hlt true
  have ld:=fun n=>X5_ hlt n
  by_cases he:jY_ i=s
  ·have e1: (jY_ i==s)=true:=beq_iff_eq.2 he
   first|with_reducible refine ks [] (And.intro @q9_ (And.intro @d1 (And.intro @ix (And.intro @ld (@e1))))) ?_|refine kp (And.intro @q9_ (And.intro @d1 (And.intro @ix (And.intro @ld (@e1))))) ?_
   refine⟨_,(ke @q9_),hN1', ?_⟩
   (unfold xd_;rw[←he,jG_ hlt];rfl)
  ·have e1: (jY_ i==s)=false:=beq_eq_false_iff_ne.2 he
   first|with_reducible refine ks [] (And.intro @q9_ (And.intro @d1 (And.intro @ix (And.intro @ld (@e1))))) ?_|refine kp (And.intro @q9_ (And.intro @d1 (And.intro @ix (And.intro @ld (@e1))))) ?_
   exact Again.mk (i+1) (by omega) ⟨hlt,fun j hj=>by
    by_cases h:j=i
    ·rw[h];exact he
    ·exact hi2 j (by omega)⟩ rfl rfl
 ·obtain rfl:i=3:=by omega
  have d1:decide (((3:Nat):Int)<3)=false:=rfl
  first|with_reducible refine ks [] (And.intro @q9_ @d1) ?_|refine kp (And.intro @q9_ @d1) ?_
  refine⟨_,(ke @q9_),hN1', ?_⟩
  (unfold xd_;rw[alE_ hi2];rfl)
theorem Qd_ (s:List UInt8) (w:World) (hs:s.length<1099511627776):Rets Tryz.prog 85 #[vs s] w (fun v D=>v= .bool (qp_ s)∧D= []):=by
 refine Rets.enterV Tryz.func85 rfl (rs:= [.tmp 2]) Tryz.results85 Tryz.ntmps85 ?_
 refine kf ?_
 first|with_reducible refine ks [] @q9_ ?_|refine kp @q9_ ?_
 refine Cw.loopG (G:=Nat) [4,5,6,7,10,11,12,13,14,15,16,17,18,19,20,21,22,23,24,25,2,8,9,3] (fun g=> [(3,vi g)]) (fun g=> []) (fun g=>g≤s.length∧(s.take g).any ZW_=false) (fun g=>s.length - g) 0 rfl rfl ?_ ?_
 ·exact⟨Nat.zero_le _,rfl⟩
 intro i ji hi
 refine kv ?_
 obtain⟨hi1,hi2⟩:=hi
 by_cases hlt:i<s.length
 ·have d1:decide ((i:Int)< (s.length:Int))=true:=decide_eq_true (by omega)
  have hnx: (s.take (i+1)).any ZW_=ZW_ (s.getD i 0):=by
   rw[StP.take_snoc (z:=0) hlt,List.any_append,hi2];simp
  have hmm:ZW_ (s.getD i 0)=true→qp_ s=false:=fun h=>by
   unfold qp_
   rw[show s.any ZW_=true from List.any_eq_true.2 ⟨_,xp_ (z:=0) hlt,h⟩];simp
  rw[aka_] at hnx hmm
  cases h1:decide (s.getD i 0<33) with
  |true=>
   first|with_reducible refine ks [] (And.intro @q9_ (And.intro @d1 (@h1))) ?_|refine kp (And.intro @q9_ (And.intro @d1 (@h1))) ?_
   refine⟨_,(ke @q9_),trivial, ?_⟩
   (rw[hmm (by rw[h1];rfl)];rfl)
  |false=>
   cases h2:decide (126<s.getD i 0) with
   |true=>
    first|with_reducible refine ks [] (And.intro @q9_ (And.intro @d1 (And.intro @h1 (@h2)))) ?_|refine kp (And.intro @q9_ (And.intro @d1 (And.intro @h1 (@h2)))) ?_
    refine⟨_,(ke @q9_),trivial, ?_⟩
    (rw[hmm (by rw[h1,h2];rfl)];rfl)
   |false=>
    cases h3: (s.getD i 0==47) with
    |true=>
     first|with_reducible refine ks [] (And.intro @q9_ (And.intro @d1 (And.intro @h1 (And.intro @h2 (@h3))))) ?_|refine kp (And.intro @q9_ (And.intro @d1 (And.intro @h1 (And.intro @h2 (@h3))))) ?_
     refine⟨_,(ke @q9_),trivial, ?_⟩
     (rw[hmm (by rw[h1,h2,h3];rfl)];rfl)
    |false=>
     rw[h1,h2,h3] at hnx
     first|with_reducible refine ks [] (And.intro @q9_ (And.intro @d1 (And.intro @h1 (And.intro @h2 (@h3))))) ?_|refine kp (And.intro @q9_ (And.intro @d1 (And.intro @h1 (And.intro @h2 (@h3))))) ?_
     exact Again.mk (i+1) (by omega) ⟨hlt,hnx⟩ rfl rfl
 ·obtain rfl:i=s.length:=by omega
  have d1:decide ((s.length:Int)< (s.length:Int))=false:=decide_eq_false (by omega)
  rw[List.take_length] at hi2
  have hf:qp_ s=(!(s== [])&&decide (s.length≤80)):=by unfold qp_;rw[hi2];simp
  cases h1:decide ((1:Int)≤ (s.length:Int)) with
  |true=>
   have h1':=of_decide_eq_true h1
   have g1: (s== [])=false:=beq_eq_false_iff_ne.2 (by rintro rfl;simp at h1')
   have g2:decide ((s.length:Int)≤80)=decide (s.length≤80):=by congr 1;rw[eq_iff_iff];omega
   first|with_reducible refine ks [] (And.intro @q9_ (And.intro @d1 (And.intro @h1 (@g2)))) ?_|refine kp (And.intro @q9_ (And.intro @d1 (And.intro @h1 (@g2)))) ?_
   refine⟨_,(ke @q9_),trivial, ?_⟩
   (rw[hf,g1];rfl)
  |false=>
   have h1':=of_decide_eq_false h1
   have g1:s= []:=List.eq_nil_of_length_eq_zero (by omega)
   first|with_reducible refine ks [] (And.intro @q9_ (And.intro @d1 (@h1))) ?_|refine kp (And.intro @q9_ (And.intro @d1 (@h1))) ?_
   refine⟨_,(ke @q9_),trivial, ?_⟩
   (rw[hf,g1];rfl)
def wI_ (l:NmL) (s:List UInt8):Int:=match zC_ l s with|some n=>(n:Int) |none=> -1
theorem ai6_ {l:NmL} {k:Nat} (h:k<l.length) (s:List UInt8):zC_ (l.drop k) s=if(l.getD k ([],0)).1=s then some (l.getD k ([],0)).2 else zC_ (l.drop (k+1)) s:=by
 rw[List.drop_eq_getElem_cons h,List.getD_eq_getElem?_getD,List.getElem?_eq_getElem h]
 show(List.find? _ _).map Prod.snd=_
 rw[List.find?_cons]
 by_cases e: (l[k]).1=s
 ·rw[show(s==(l[k]).1)=true from beq_iff_eq.2 e.symm]
  simp[e]
 ·rw[show(s==(l[k]).1)=false from beq_eq_false_iff_ne.2 (Ne.symm e)]
  simp only[Option.getD_some,e, ↓reduceIte]
  rfl
set_option linter.defProp false
def kk_:=And.intro (And.intro (@zg_) (@zf_)) (And.intro (@akN_) (@xE_))
theorem Q0_ (v:Value) (l:NmL) (s:List UInt8) (w:World) (hv:NdSl w v l) (hl:l.length<1000000000):Rets Tryz.prog 92 #[v,vs s] w (fun r D=>r=vi (wI_ l s)∧D= []):=by
 have ln:=hv.len
 rw[List.length_map] at ln
 obtain⟨rb,off,arr,E,fz,hr⟩:=hv.row
 refine Rets.enterV Tryz.func92 rfl (rs:= [.tmp 4]) Tryz.results92 Tryz.ntmps92 ?_
 refine kf ?_
 first|with_reducible refine ks [] @kk_ ?_|refine kp @kk_ ?_
 refine Cw.loopG (G:=Nat) [6,7,8,9,12,13,14,15,16,17,18,19,20,21,22,23,4,10,11,5] (fun g=> [(5,vi g)]) (fun g=> []) (fun g=>g≤l.length∧zC_ (l.drop g) s=zC_ l s) (fun g=>l.length - g) 0 rfl rfl ?_ ?_
 ·exact⟨Nat.zero_le _,rfl⟩
 intro k jk hk
 refine kv ?_
 obtain⟨hk1,hk2⟩:=hk
 by_cases hlt:k<l.length
 ·have d1:decide ((k:Int)< (l.length:Int))=true:=decide_eq_true (by omega)
  have hlm:k< (l.map z7_).length:=by rw[List.length_map];exact hlt
  have ix:=hr.idx true k hlm
  have hh:=hr.has (by omega)
  have l0: ∀n,zk_ (some (false,n)) (some (.cells arr E fz)) (off+k*2)=some (vs ((l.map z7_).getD k nd0).s):=fun n=>by have:=W7_ hr hlm n;rwa [Nat.add_zero] at this
  have l1: ∀n,zk_ (some (false,n)) (some (.cells arr E fz)) (off+k*2+1)=some (vi ((l.map z7_).getD k nd0).n):=fun n=>ajW_ hr hlm n
  rw[J3_] at l0 l1
  rw[ai6_ hlt] at hk2
  generalize l.getD k ([],0)=q at*
  obtain⟨qs,qn⟩:=q
  simp only[z7_] at l0 l1 hk2
  by_cases he:qs=s
  ·have e1: (qs==s)=true:=beq_iff_eq.2 he
   rw[if_pos he] at hk2
   first|with_reducible refine ks [] (And.intro @kk_ (And.intro @ln (And.intro @d1 (And.intro @ix (And.intro @hh (And.intro @l0 (And.intro @l1 (@e1)))))))) ?_|refine kp (And.intro @kk_ (And.intro @ln (And.intro @d1 (And.intro @ix (And.intro @hh (And.intro @l0 (And.intro @l1 (@e1)))))))) ?_
   refine⟨_,(ke @kk_),trivial, ?_⟩
   (unfold wI_;rw[←hk2];rfl)
  ·have e1: (qs==s)=false:=beq_eq_false_iff_ne.2 he
   rw[if_neg he] at hk2
   first|with_reducible refine ks [] (And.intro @kk_ (And.intro @ln (And.intro @d1 (And.intro @ix (And.intro @hh (And.intro @l0 (And.intro @l1 (@e1)))))))) ?_|refine kp (And.intro @kk_ (And.intro @ln (And.intro @d1 (And.intro @ix (And.intro @hh (And.intro @l0 (And.intro @l1 (@e1)))))))) ?_
   exact Again.mk (k+1) (by omega) ⟨hlt,hk2⟩ rfl rfl
 ·obtain rfl:k=l.length:=by omega
  have d1:decide ((l.length:Int)< (l.length:Int))=false:=decide_eq_false (by omega)
  rw[List.drop_length] at hk2
  first|with_reducible refine ks [] (And.intro @kk_ (And.intro @ln (@d1))) ?_|refine kp (And.intro @kk_ (And.intro @ln (@d1))) ?_
  refine⟨_,(ke @kk_),trivial, ?_⟩
  (unfold wI_;rw[←hk2];rfl)
structure WoG where
 k:Nat
 o:NmL
 v:Value
 D:zc_
 DG:zc_
theorem wA_ {l:NmL} {k:Nat} (h:k<l.length) (s:List UInt8):qI_ (l.drop k) s=(if(l.getD k ([],0)).1=s then [] else [l.getD k ([],0)])++qI_ (l.drop (k+1)) s:=by
 rw[List.drop_eq_getElem_cons h,List.getD_eq_getElem?_getD,List.getElem?_eq_getElem h]
 unfold qI_
 rw[List.filter_cons]
 by_cases e: (l[k]).1=s
 ·rw[show(s==(l[k]).1)=true from beq_iff_eq.2 e.symm]
  simp[e]
 ·rw[show(s==(l[k]).1)=false from beq_eq_false_iff_ne.2 (Ne.symm e)]
  simp[e]
theorem Jm_ (v:Value) (l:NmL) (s:List UInt8) (w:World) (hv:NdSl w v l) (hl:l.length<1000000000):Rets Tryz.prog 128 #[v,vs s] w (XS w [] (fun r D=>NdG D r (qI_ l s))):=by
 have ln:=hv.len
 rw[List.length_map] at ln
 obtain⟨rb,off,arr,E,fz,hr⟩:=hv.row
 refine Rets.enterX Tryz.func128 rfl (rs:= [.tmp 4]) Tryz.results128 Tryz.ntmps128 (fun p hp=>by cases hp) (by simp[keys]) ?_
 refine kf ?_
 first|with_reducible refine ks [] @kk_ ?_|refine kp @kk_ ?_
 refine Cw.permL (M:= []++ []) (List.Perm.refl _) ?_
 refine Cw.loopG (G:=WoG) [7,8,9,10,13,14,15,16,17,18,19,20,21,22,23,24,25,26,5,11,12,6] (fun g=> [(5,g.v),(6,vi g.k)]) (fun g=>g.D++g.DG) (fun g=>g.k≤l.length∧g.o.length≤g.k∧New w.heap.size g.D∧New w.heap.size g.DG∧g.o++qI_ (l.drop g.k) s=qI_ l s∧Gr g.D 144 2 g.v (g.o.map z7_).length ((g.o.map z7_).map ndC).flatten) (fun g=>l.length - g.k) ⟨0,[], .slice none 0 0,[],[]⟩ rfl rfl ?_ ?_
 ·exact⟨Nat.zero_le _,Nat.zero_le _,trivial,trivial,rfl,Gr.nl⟩
 intro g j hg
 refine kv ?_
 obtain⟨k,o,v3,D,DG⟩:=g
 simp only at hg ⊢
 obtain⟨hk,hol,hN,hNG,hR,hGr⟩:=hg
 have hNr:New w.heap.size (D++DG):=hN.app hNG
 have holm: (o.map z7_).length≤k:=by rw[List.length_map];exact hol
 by_cases hlt:k<l.length
 ·have d1:decide ((k:Int)< (l.length:Int))=true:=decide_eq_true (by omega)
  have hlm:k< (l.map z7_).length:=by rw[List.length_map];exact hlt
  have ix:=hr.idx true k hlm
  have rda:zA_ w (D++DG) rb=some (.cells arr E fz):=by rw[z2_ (hNr.not (hr.lt (by omega)))];exact hr.has (by omega)
  have l0: ∀n,zk_ (some (false,n)) (some (.cells arr E fz)) (off+k*2)=some (vs ((l.map z7_).getD k nd0).s):=fun n=>by have:=W7_ hr hlm n;rwa [Nat.add_zero] at this
  have lda:=ajm_ hr hlm
  rw[J3_] at l0 lda
  rw[wA_ hlt] at hR
  generalize l.getD k ([],0)=q at*
  by_cases he:q.1=s
  ·have e1: ((z7_ q).s !=s)=false:=by show(q.1 !=s)=false;rw[he];exact bne_self_eq_false _
   rw[if_pos he,List.nil_append] at hR
   first|with_reducible refine ks [] (And.intro @kk_ (And.intro @ln (And.intro @d1 (And.intro @ix (And.intro @rda (And.intro @l0 (And.intro @lda (@e1)))))))) ?_|refine kp (And.intro @kk_ (And.intro @ln (And.intro @d1 (And.intro @ix (And.intro @rda (And.intro @l0 (And.intro @lda (@e1)))))))) ?_
   exact Again.mk ⟨k+1,o,v3,D,DG⟩ (by show l.length - (k+1)<l.length - k;omega) ⟨hlt,by show o.length≤k+1;omega,hN,hNG,hR,hGr⟩ rfl rfl
  ·have e1: ((z7_ q).s !=s)=true:=bne_iff_ne.2 he
   rw[if_neg he,←List.append_assoc] at hR
   first|with_reducible refine ks [] (And.intro @kk_ (And.intro @ln (And.intro @d1 (And.intro @ix (And.intro @rda (And.intro @l0 (And.intro @lda (@e1)))))))) ?_|refine kp (And.intro @kk_ (And.intro @ln (And.intro @d1 (And.intro @ix (And.intro @rda (And.intro @l0 (And.intro @lda (@e1)))))))) ?_
   refine Ow.buildSlice (e:=144) (ndC (z7_ q)).toArray rfl rfl (zV_ Tryz.underlying53 Jz_ zrNd (by decide) (zP_ _)) fun bc hbc hwc=> ?_
   refine ko @kk_ ?_
   refine Ow.permL (M:=D++ (DG++ [(bc, .cells (ndC (z7_ q)).toArray 144 (0,0))])) (by classical exact List.perm_iff_count.2 fun a=>by simp only[List.count_append,List.count_cons,List.count_nil]<;>omega) ?_
   refine Ow.appendXG (e:=144) (k:=1) (new:=ndC (z7_ q)) (X:=D) v3 rfl rfl rfl rfl Tryz.underlying53 Jz_ (by kernel_rfl) zrNd (by rw[xE_,List.size_toArray,zP_]) Tryz.underlying53 (by intro k h;cases h) hGr (fun w' hw'=>AppX.one1 (hw'.has bc (.cells (ndC (z7_ q)).toArray 144 (0,0)) (by simp)) (zP_ _) (Zy_ _)) (by omega) (fun B5 v5 D5 hA5 hB5 hG5 hk51 hk52 hlk5=> ?_)
   have hN5:New w.heap.size D5:=New.of_le fun q hq=>by
    rcases hk52 q hq with h|h
    ·exact hN.le q h
    ·omega
   refine ko @kk_ ?_
   first|with_reducible refine ks [] @kk_ ?_|refine kp @kk_ ?_
   exact Again.mk ⟨k+1,o++ [q],v5,D5,DG++ [(bc, .cells (ndC (z7_ q)).toArray 144 (0,0))]⟩ (by show l.length - (k+1)<l.length - k;omega) ⟨hlt,by rw[List.length_append];simp;omega,hN5,hNG.app ⟨hwc,trivial⟩,hR,by simpa using hG5⟩ rfl rfl
 ·obtain rfl:k=l.length:=by omega
  have d1:decide ((l.length:Int)< (l.length:Int))=false:=decide_eq_false (by omega)
  rw[List.drop_length,show qI_ [] s= [] from rfl,List.append_nil] at hR
  first|with_reducible refine ks [] (And.intro @kk_ (And.intro @ln (@d1))) ?_|refine kp (And.intro @kk_ (And.intro @ln (@d1))) ?_
  refine⟨_,(ke @kk_), ?_⟩
  rw[←hR]
  exact⟨Ext.of_new hNr,hGr.i fun q hq=>List.mem_append_left _ hq⟩
end Go.Proofs
end
section
open Go Go.Proofs Go.Sx Go.StP
namespace Go.Proofs
set_option maxRecDepth 10000
set_option maxHeartbeats 400000
set_option linter.unusedSimpArgs false
def KS_ (d:Bool) (r:NmL) (x:List UInt8×Nat):NmL:=if d=true then qI_ r x.1 else insN (qI_ r x.1) x
theorem anX_ {l:NmL} {k:Nat} (h:k<l.length) (d:Bool) (x:List UInt8×Nat) (he: (l.getD k ([],0)).1=x.1):KS_ d (l.drop k) x=KS_ d (l.drop (k+1)) x:=by
 unfold KS_
 rw[wA_ h,if_pos he];rfl
theorem aqR_ {l:NmL} {k:Nat} (h:k<l.length) (x:List UInt8×Nat) (he: (l.getD k ([],0)).1≠x.1):KS_ true (l.drop k) x=l.getD k ([],0)::KS_ true (l.drop (k+1)) x:=by
 unfold KS_
 rw[wA_ h,if_neg he];rfl
theorem aqP_ {l:NmL} {k:Nat} (h:k<l.length) (x:List UInt8×Nat) (he: (l.getD k ([],0)).1≠x.1) (hl:ltB x.1 (l.getD k ([],0)).1=true):KS_ false (l.drop k) x=x::l.getD k ([],0)::KS_ true (l.drop (k+1)) x:=by
 unfold KS_
 rw[wA_ h,if_neg he]
 have e:insN (l.getD k ([],0)::qI_ (l.drop (k+1)) x.1) x=if ltB x.1 (l.getD k ([],0)).1=true then x::l.getD k ([],0)::qI_ (l.drop (k+1)) x.1 else l.getD k ([],0)::insN (qI_ (l.drop (k+1)) x.1) x:=rfl
 show insN (l.getD k ([],0)::qI_ (l.drop (k+1)) x.1) x=_
 rw[e,if_pos hl];rfl
theorem aqI_ {l:NmL} {k:Nat} (h:k<l.length) (x:List UInt8×Nat) (he: (l.getD k ([],0)).1≠x.1) (hl:ltB x.1 (l.getD k ([],0)).1=false):KS_ false (l.drop k) x=l.getD k ([],0)::KS_ false (l.drop (k+1)) x:=by
 unfold KS_
 rw[wA_ h,if_neg he]
 have e:insN (l.getD k ([],0)::qI_ (l.drop (k+1)) x.1) x=if ltB x.1 (l.getD k ([],0)).1=true then x::l.getD k ([],0)::qI_ (l.drop (k+1)) x.1 else l.getD k ([],0)::insN (qI_ (l.drop (k+1)) x.1) x:=rfl
 show insN (l.getD k ([],0)::qI_ (l.drop (k+1)) x.1) x=_
 rw[e,if_neg (by rw[hl];simp)];rfl
structure PuG where
 k:Nat
 d:Bool
 o:NmL
 v:Value
 D:zc_
 DG:zc_
set_option linter.defProp false
def qk_:=And.intro (And.intro (@zg_) (And.intro (@zf_) (@akN_))) (And.intro (@afK_) (And.intro (@afS_) (@xE_)))
theorem Xa_ (v:Value) (l:NmL) (x:List UInt8×Nat) (w:World) (hv:NdSl w v l) (hl:l.length<1000000000):Rets Tryz.prog 86 #[v, .agg (ndC (z7_ x)).toArray] w (XS w [] (fun r D=>NdG D r (KK_ l x))):=by
 have ln:=hv.len
 rw[List.length_map] at ln
 obtain⟨rb,off,arr,E,fz,hr⟩:=hv.row
 refine Rets.enterX Tryz.func86 rfl (rs:= [.tmp 4]) Tryz.results86 Tryz.ntmps86 (fun p hp=>by cases hp) (by simp[keys]) ?_
 refine kf ?_
 first|with_reducible refine ks [] @qk_ ?_|refine kp @qk_ ?_
 refine Ow.box rfl rfl fun b3 hb3 hw3=> ?_
 simp only[qv_,qu_,qA_,zj_,List.nil_append,List.cons_append]
 refine ko @qk_ ?_
 first|with_reducible refine ks [] @qk_ ?_|refine kp @qk_ ?_
 refine Cw.permL (M:=(b3, .cells (ndC (z7_ x)).toArray 144 (0,0)):: ([]++ [])) (List.Perm.refl _) ?_
 refine Cw.loopG (G:=PuG) [8,9,10,11,14,15,16,17,18,19,20,21,22,23,24,25,26,27,28,29,30,31,32,33,34,35,36,37,5,6,38,39,40,41,42,43,44,12,13,7] (fun g=> [(5,g.v),(6, .bool g.d),(7,vi g.k)]) (fun g=>(b3, .cells (ndC (z7_ x)).toArray 144 (0,0)):: (g.D++g.DG)) (fun g=>g.k≤l.length∧((g.d=false→g.o.length≤g.k)∧g.o.length≤g.k+1)∧New w.heap.size g.D∧New w.heap.size g.DG∧g.o++KS_ g.d (l.drop g.k) x=KK_ l x∧Gr g.D 144 2 g.v (g.o.map z7_).length ((g.o.map z7_).map ndC).flatten) (fun g=>l.length - g.k) ⟨0,false,[], .slice none 0 0,[],[]⟩ rfl rfl ?_ ?_
 ·exact⟨Nat.zero_le _,⟨fun _=>Nat.zero_le _,Nat.zero_le _⟩,trivial,trivial,rfl,Gr.nl⟩
 intro g j hg
 refine kv ?_
 obtain⟨k,d,o,v3,D,DG⟩:=g
 simp only at hg ⊢
 obtain⟨hk,⟨hof,hol⟩,hN,hNG,hR,hGr⟩:=hg
 have hNr:New w.heap.size ((b3,Obj.cells (ndC (z7_ x)).toArray 144 (0,0)):: (D++DG)):=⟨hw3,hN.app hNG⟩
 have holm: (o.map z7_).length≤k+1:=by rw[List.length_map];exact hol
 by_cases hlt:k<l.length
 ·have d1:decide ((k:Int)< (l.length:Int))=true:=decide_eq_true (by omega)
  have hlm:k< (l.map z7_).length:=by rw[List.length_map];exact hlt
  have ix:=hr.idx true k hlm
  have rda: ∀Y,New w.heap.size Y→zA_ w Y rb=some (.cells arr E fz):=fun Y hY=>by rw[z2_ (hY.not (hr.lt (by omega)))];exact hr.has (by omega)
  have rd1:=rda _ hNr
  have l0: ∀n,zk_ (some (false,n)) (some (.cells arr E fz)) (off+k*2)=some (vs ((l.map z7_).getD k nd0).s):=fun n=>by have:=W7_ hr hlm n;rwa [Nat.add_zero] at this
  have lda:=ajm_ hr hlm
  rw[J3_] at l0 lda
  have i1:=anX_ hlt (x:=x)
  have i2:=aqR_ hlt (x:=x)
  have i3:=aqP_ hlt (x:=x)
  have i4:=aqI_ hlt (x:=x)
  generalize l.getD k ([],0)=q at*
  first|with_reducible refine ks [5] (And.intro @qk_ (And.intro @ln (@d1))) ?_|refine kp (And.intro @qk_ (And.intro @ln (@d1))) ?_
  refine Cw.regionS [rb,b3] [0,1,2,3,5,4,6,7] [] (by kernel_rfl) (by kernel_rfl) (by kernel_rfl) ?_
  simp only[zo_, ↓zi_, ↓zd_, ↓zz_, ↓zy_,ze_]
  refine kq (And.intro @qk_ (And.intro @ix (And.intro @rd1 (@l0)))) ?_
  by_cases he:q.1=x.1
  ·have e1: ((z7_ q).s==(z7_ x).s)=true:=beq_iff_eq.2 he
   rw[i1 d he] at hR
   first|with_reducible refine ks [] (And.intro @qk_ @e1) ?_|refine kp (And.intro @qk_ @e1) ?_
   first|with_reducible refine ks [] @qk_ ?_|refine kp @qk_ ?_
   exact Again.mk ⟨k+1,d,o,v3,D,DG⟩ (by show l.length - (k+1)<l.length - k;omega) ⟨hlt,⟨(fun h=>by have:=hof h;show o.length≤k+1;omega),by show o.length≤k+1+1;omega⟩,hN,hNG,hR,hGr⟩ rfl rfl
  ·have e1: ((z7_ q).s==(z7_ x).s)=false:=beq_eq_false_iff_ne.2 he
   cases d with
   |true=>
    rw[i2 he] at hR
    rw[show o++q::KS_ true (l.drop (k+1)) x=(o++ [q])++KS_ true (l.drop (k+1)) x by simp] at hR
    first|with_reducible refine ks [5] (And.intro @qk_ @e1) ?_|refine kp (And.intro @qk_ @e1) ?_
    refine Cw.regionS [rb,b3] [0,1,2,3,4,5,6,8,7,9,10,11] [] (by kernel_rfl) (by kernel_rfl) (by kernel_rfl) ?_
    simp only[zo_, ↓zi_, ↓zd_, ↓zz_, ↓zy_,ze_]
    refine kq @qk_ ?_
    first|with_reducible refine ks [5] (And.intro @qk_ (And.intro @ix (And.intro @rd1 (@lda)))) ?_|refine kp (And.intro @qk_ (And.intro @ix (And.intro @rd1 (@lda)))) ?_
    refine Ow.buildSlice (e:=144) (ndC (z7_ q)).toArray rfl rfl (zV_ Tryz.underlying53 Jz_ zrNd (by decide) (zP_ _)) fun bc hbc hwc=> ?_
    refine ko @qk_ ?_
    refine Ow.permL (M:=D++ ((b3, .cells (ndC (z7_ x)).toArray 144 (0,0)):: (DG++ [(bc, .cells (ndC (z7_ q)).toArray 144 (0,0))]))) (by classical exact List.perm_iff_count.2 fun a=>by simp only[List.count_append,List.count_cons,List.count_nil]<;>omega) ?_
    refine Ow.appendXG (e:=144) (k:=1) (new:=ndC (z7_ q)) (X:=D) v3 rfl rfl rfl rfl Tryz.underlying53 Jz_ (by kernel_rfl) zrNd (by rw[xE_,List.size_toArray,zP_]) Tryz.underlying53 (by intro k h;cases h) hGr (fun w' hw'=>AppX.one1 (hw'.has bc (.cells (ndC (z7_ q)).toArray 144 (0,0)) (by simp)) (zP_ _) (Zy_ _)) (by omega) (fun B5 v5 D5 hA5 hB5 hG5 hk51 hk52 hlk5=> ?_)
    have hN5:New w.heap.size D5:=New.of_le fun q hq=>by
     rcases hk52 q hq with h|h
     ·exact hN.le q h
     ·omega
    refine ko @qk_ ?_
    refine Cw.permL (M:=(b3, .cells (ndC (z7_ x)).toArray 144 (0,0)):: (D5++ (DG++ [(bc, .cells (ndC (z7_ q)).toArray 144 (0,0))]))) (by classical exact List.perm_iff_count.2 fun a=>by simp only[List.count_append,List.count_cons,List.count_nil]<;>omega) ?_
    first|with_reducible refine ks [] @qk_ ?_|refine kp @qk_ ?_
    exact Again.mk ⟨k+1,true,o++ [q],v5,D5,DG++ [(bc, .cells (ndC (z7_ q)).toArray 144 (0,0))]⟩ (by show l.length - (k+1)<l.length - k;omega) ⟨hlt,⟨(fun h=>by have:=hof h;rw[List.length_append];simp;omega),by rw[List.length_append];simp;omega⟩,hN5,hNG.app ⟨hwc,trivial⟩,hR,by simpa using hG5⟩ rfl rfl
   |false=>
    cases hlx:ltB x.1 q.1 with
    |true=>
     have e2:Op.bytesLess (z7_ q).s (z7_ x).s=false:=abj_ hlx
     rw[i3 he hlx] at hR
     rw[show o++x::q::KS_ true (l.drop (k+1)) x=((o++ [x])++ [q])++KS_ true (l.drop (k+1)) x by simp] at hR
     first|with_reducible refine ks [5] (And.intro @qk_ @e1) ?_|refine kp (And.intro @qk_ @e1) ?_
     refine Cw.regionS [rb,b3] [0,1,2,3,4,5,6,8,7,9,10,11] [] (by kernel_rfl) (by kernel_rfl) (by kernel_rfl) ?_
     simp only[zo_, ↓zi_, ↓zd_, ↓zz_, ↓zy_,ze_]
     refine kq (And.intro @qk_ (And.intro @ix (And.intro @rd1 (And.intro @l0 (And.intro @e2 (@e1)))))) ?_
     first|with_reducible refine ks [5] @qk_ ?_|refine kp @qk_ ?_
     refine Ow.buildSlice (e:=144) (ndC (z7_ x)).toArray rfl rfl (zV_ Tryz.underlying53 Jz_ zrNd (by decide) (zP_ _)) fun bc hbc hwc=> ?_
     refine ko @qk_ ?_
     refine Ow.permL (M:=D++ ((b3, .cells (ndC (z7_ x)).toArray 144 (0,0)):: (DG++ [(bc, .cells (ndC (z7_ x)).toArray 144 (0,0))]))) (by classical exact List.perm_iff_count.2 fun a=>by simp only[List.count_append,List.count_cons,List.count_nil]<;>omega) ?_
     refine Ow.appendXG (e:=144) (k:=1) (new:=ndC (z7_ x)) (X:=D) v3 rfl rfl rfl rfl Tryz.underlying53 Jz_ (by kernel_rfl) zrNd (by rw[xE_,List.size_toArray,zP_]) Tryz.underlying53 (by intro k h;cases h) hGr (fun w' hw'=>AppX.one1 (hw'.has bc (.cells (ndC (z7_ x)).toArray 144 (0,0)) (by simp)) (zP_ _) (Zy_ _)) (by omega) (fun B5 v5 D5 hA5 hB5 hG5 hk51 hk52 hlk5=> ?_)
     have hN5:New w.heap.size D5:=New.of_le fun q hq=>by
      rcases hk52 q hq with h|h
      ·exact hN.le q h
      ·omega
     have hNG2:New w.heap.size (DG++ [(bc,Obj.cells (ndC (z7_ x)).toArray 144 (0,0))]):=hNG.app ⟨hwc,trivial⟩
     generalize DG++ [(bc,Obj.cells (ndC (z7_ x)).toArray 144 (0,0))]=DG2 at*
     have hG6:Gr D5 144 2 v5 ((o++ [x]).map z7_).length (((o++ [x]).map z7_).map ndC).flatten:=by simpa using hG5
     have hNr2:New w.heap.size ((b3,Obj.cells (ndC (z7_ x)).toArray 144 (0,0)):: (D5++DG2)):=⟨hw3,hN5.app hNG2⟩
     have rd2:=rda _ hNr2
     refine Ow.permL (M:=(b3, .cells (ndC (z7_ x)).toArray 144 (0,0)):: (D5++DG2)) (by classical exact List.perm_iff_count.2 fun a=>by simp only[List.count_append,List.count_cons,List.count_nil]<;>omega) ?_
     refine ko (And.intro @qk_ (And.intro @ix (And.intro @rd2 (@lda)))) ?_
     have hol2: ((o++ [x]).map z7_).length≤k+2:=by rw[List.length_map,List.length_append];simp;omega
     refine Ow.buildSlice (e:=144) (ndC (z7_ q)).toArray rfl rfl (zV_ Tryz.underlying53 Jz_ zrNd (by decide) (zP_ _)) fun bd hbd hwd=> ?_
     refine ko @qk_ ?_
     refine Ow.permL (M:=D5++ ((b3, .cells (ndC (z7_ x)).toArray 144 (0,0)):: (DG2++ [(bd, .cells (ndC (z7_ q)).toArray 144 (0,0))]))) (by classical exact List.perm_iff_count.2 fun a=>by simp only[List.count_append,List.count_cons,List.count_nil]<;>omega) ?_
     refine Ow.appendXG (e:=144) (k:=1) (new:=ndC (z7_ q)) (X:=D5) v5 rfl rfl rfl rfl Tryz.underlying53 Jz_ (by kernel_rfl) zrNd (by rw[xE_,List.size_toArray,zP_]) Tryz.underlying53 (by intro k h;cases h) hG6 (fun w' hw'=>AppX.one1 (hw'.has bd (.cells (ndC (z7_ q)).toArray 144 (0,0)) (by simp)) (zP_ _) (Zy_ _)) (by omega) (fun B6 v6 D6 hA6 hB6 hG7 hk61 hk62 hlk6=> ?_)
     have hN6:New w.heap.size D6:=New.of_le fun q hq=>by
      rcases hk62 q hq with h|h
      ·exact hN5.le q h
      ·omega
     refine ko @qk_ ?_
     refine Cw.permL (M:=(b3, .cells (ndC (z7_ x)).toArray 144 (0,0)):: (D6++ (DG2++ [(bd, .cells (ndC (z7_ q)).toArray 144 (0,0))]))) (by classical exact List.perm_iff_count.2 fun a=>by simp only[List.count_append,List.count_cons,List.count_nil]<;>omega) ?_
     first|with_reducible refine ks [] @qk_ ?_|refine kp @qk_ ?_
     exact Again.mk ⟨k+1,true,(o++ [x])++ [q],v6,D6,DG2++ [(bd, .cells (ndC (z7_ q)).toArray 144 (0,0))]⟩ (by show l.length - (k+1)<l.length - k;omega) ⟨hlt,⟨(fun h=>by cases h),by have:=hof rfl;rw[List.length_append,List.length_append];simp;omega⟩,hN6,hNG2.app ⟨hwd,trivial⟩,hR,by simpa using hG7⟩ rfl rfl
    |false=>
     have e2:Op.bytesLess (z7_ q).s (z7_ x).s=true:=Qb_ hlx (Ne.symm he)
     rw[i4 he hlx] at hR
     rw[show o++q::KS_ false (l.drop (k+1)) x=(o++ [q])++KS_ false (l.drop (k+1)) x by simp] at hR
     first|with_reducible refine ks [5] (And.intro @qk_ @e1) ?_|refine kp (And.intro @qk_ @e1) ?_
     refine Cw.regionS [rb,b3] [0,1,2,3,4,5,6,8,7,9,10,11] [] (by kernel_rfl) (by kernel_rfl) (by kernel_rfl) ?_
     simp only[zo_, ↓zi_, ↓zd_, ↓zz_, ↓zy_,ze_]
     refine kq (And.intro @qk_ (And.intro @ix (And.intro @rd1 (And.intro @l0 (And.intro @e2 (@e1)))))) ?_
     first|with_reducible refine ks [5] (And.intro @qk_ (And.intro @ix (And.intro @rd1 (@lda)))) ?_|refine kp (And.intro @qk_ (And.intro @ix (And.intro @rd1 (@lda)))) ?_
     refine Ow.buildSlice (e:=144) (ndC (z7_ q)).toArray rfl rfl (zV_ Tryz.underlying53 Jz_ zrNd (by decide) (zP_ _)) fun bc hbc hwc=> ?_
     refine ko @qk_ ?_
     refine Ow.permL (M:=D++ ((b3, .cells (ndC (z7_ x)).toArray 144 (0,0)):: (DG++ [(bc, .cells (ndC (z7_ q)).toArray 144 (0,0))]))) (by classical exact List.perm_iff_count.2 fun a=>by simp only[List.count_append,List.count_cons,List.count_nil]<;>omega) ?_
     refine Ow.appendXG (e:=144) (k:=1) (new:=ndC (z7_ q)) (X:=D) v3 rfl rfl rfl rfl Tryz.underlying53 Jz_ (by kernel_rfl) zrNd (by rw[xE_,List.size_toArray,zP_]) Tryz.underlying53 (by intro k h;cases h) hGr (fun w' hw'=>AppX.one1 (hw'.has bc (.cells (ndC (z7_ q)).toArray 144 (0,0)) (by simp)) (zP_ _) (Zy_ _)) (by omega) (fun B5 v5 D5 hA5 hB5 hG5 hk51 hk52 hlk5=> ?_)
     have hN5:New w.heap.size D5:=New.of_le fun q hq=>by
      rcases hk52 q hq with h|h
      ·exact hN.le q h
      ·omega
     refine ko @qk_ ?_
     refine Cw.permL (M:=(b3, .cells (ndC (z7_ x)).toArray 144 (0,0)):: (D5++ (DG++ [(bc, .cells (ndC (z7_ q)).toArray 144 (0,0))]))) (by classical exact List.perm_iff_count.2 fun a=>by simp only[List.count_append,List.count_cons,List.count_nil]<;>omega) ?_
     first|with_reducible refine ks [] @qk_ ?_|refine kp @qk_ ?_
     exact Again.mk ⟨k+1,false,o++ [q],v5,D5,DG++ [(bc, .cells (ndC (z7_ q)).toArray 144 (0,0))]⟩ (by show l.length - (k+1)<l.length - k;omega) ⟨hlt,⟨(fun h=>by have:=hof h;rw[List.length_append];simp;omega),by rw[List.length_append];simp;omega⟩,hN5,hNG.app ⟨hwc,trivial⟩,hR,by simpa using hG5⟩ rfl rfl
 ·obtain rfl:k=l.length:=by omega
  have d1:decide ((l.length:Int)< (l.length:Int))=false:=decide_eq_false (by omega)
  rw[List.drop_length] at hR
  cases d with
  |true=>
   rw[show KS_ true [] x= [] from rfl,List.append_nil] at hR
   first|with_reducible refine ks [] (And.intro @qk_ (And.intro @ln (@d1))) ?_|refine kp (And.intro @qk_ (And.intro @ln (@d1))) ?_
   refine⟨_,(ke @qk_), ?_⟩
   rw[←hR]
   exact⟨Ext.of_new hNr,hGr.i fun q hq=>List.mem_cons_of_mem _ (List.mem_append_left _ hq)⟩
  |false=>
   rw[show KS_ false [] x= [x] from rfl] at hR
   first|with_reducible refine ks [] (And.intro @qk_ (And.intro @ln (@d1))) ?_|refine kp (And.intro @qk_ (And.intro @ln (@d1))) ?_
   refine Ow.buildSlice (e:=144) (ndC (z7_ x)).toArray rfl rfl (zV_ Tryz.underlying53 Jz_ zrNd (by decide) (zP_ _)) fun bc hbc hwc=> ?_
   refine ko @qk_ ?_
   refine Ow.permL (M:=D++ ((b3, .cells (ndC (z7_ x)).toArray 144 (0,0)):: (DG++ [(bc, .cells (ndC (z7_ x)).toArray 144 (0,0))]))) (by classical exact List.perm_iff_count.2 fun a=>by simp only[List.count_append,List.count_cons,List.count_nil]<;>omega) ?_
   refine Ow.appendXG (e:=144) (k:=1) (new:=ndC (z7_ x)) (X:=D) v3 rfl rfl rfl rfl Tryz.underlying53 Jz_ (by kernel_rfl) zrNd (by rw[xE_,List.size_toArray,zP_]) Tryz.underlying53 (by intro k h;cases h) hGr (fun w' hw'=>AppX.one1 (hw'.has bc (.cells (ndC (z7_ x)).toArray 144 (0,0)) (by simp)) (zP_ _) (Zy_ _)) (by omega) (fun B5 v5 D5 hA5 hB5 hG5 hk51 hk52 hlk5=> ?_)
   have hN5:New w.heap.size D5:=New.of_le fun q hq=>by
    rcases hk52 q hq with h|h
    ·exact hN.le q h
    ·omega
   refine ko @qk_ ?_
   first|with_reducible refine ks [] @qk_ ?_|refine kp @qk_ ?_
   refine⟨_,(ke @qk_), ?_⟩
   rw[←hR]
   have hG6:Gr D5 144 2 v5 ((o++ [x]).map z7_).length (((o++ [x]).map z7_).map ndC).flatten:=by simpa using hG5
   exact⟨Ext.of_new (hN5.app (show New w.heap.size ((b3,_):: (DG++ [(bc,_)])) from⟨hw3,hNG.app ⟨hwc,trivial⟩⟩)),hG6.i fun q hq=>List.mem_append_left _ hq⟩
set_option linter.defProp false
def vp_:=And.intro (And.intro (And.intro (@zg_) (@zf_)) (And.intro (@akz_) (@ae7_))) (And.intro (And.intro (@afi_) (@aft_)) (And.intro (@ae2_) (@Wu_)))
theorem Kh_ (x:List UInt8×Nat):jk_ (vw_ Tryz.prog 144) (zL_ Tryz.prog 144) [(0,vs x.1),(1,vi (x.2:Int))]=some (.agg (ndC (z7_ x)).toArray):=by
 rw[show vw_ Tryz.prog 144=some [(0,1),(1,1)] from id (by kernel_rfl),Tryz.zr144];rfl
theorem Wl_ (v:Value) (l:NmL) (c:CallL) (w:World) (hv:NdSl w v l) (hl:l.length<999999999) (hok:c.kind=1→zC_ l c.a≠none):Rets Tryz.prog 91 #[v, .agg (kcC (Vc_ c)).toArray] w (XS w [] (fun r D=>NdG D r (qr_ l c))):=by
 have hk0: (Vc_ c).kind=(c.kind:Int):=rfl
 have hka: (Vc_ c).a=c.a:=rfl
 have hkb: (Vc_ c).b=c.b:=rfl
 have hkn: (Vc_ c).n=(c.n:Int):=rfl
 refine Rets.enterX Tryz.func91 rfl (rs:= [.tmp 4]) Tryz.results91 Tryz.ntmps91 (fun p hp=>by cases hp) (by simp[keys]) ?_
 refine kf ?_
 first|with_reducible refine ks [] @vp_ ?_|refine kp @vp_ ?_
 refine Ow.box rfl rfl fun b3 hb3 hw3=> ?_
 simp only[qv_,qu_,qA_,zj_,List.nil_append,List.cons_append]
 have hN3:New w.heap.size [(b3,Obj.cells (kcC (Vc_ c)).toArray 150 (0,0))]:=⟨hw3,trivial⟩
 refine ko @vp_ ?_
 by_cases k0:c.kind=0
 ·have e0: (((c.kind:Nat):Int)==0)=true:=by rw[k0];rfl
  have hd:qr_ l c=KK_ l (c.a,c.n):=by unfold qr_;rw[k0];rfl
  first|with_reducible refine ks [] (And.intro @vp_ (And.intro @hk0 (And.intro @e0 (And.intro @hka (@hkn))))) ?_|refine kp (And.intro @vp_ (And.intro @hk0 (And.intro @e0 (And.intro @hka (@hkn))))) ?_
  refine Ow.build (.agg (ndC (z7_ (c.a,c.n))).toArray) rfl (Kh_ (c.a,c.n)) ?_
  refine ko @vp_ ?_
  refine Ow.callC rfl rfl Tryz.call86 (fun w' hw'=>Xa_ v l (c.a,c.n) w' (hv.oldN hw' hN3) (by omega)) (fun B1 v1 D1 hA1 hB1 hN1 hS1=> ?_)
  refine ko @vp_ ?_
  refine⟨_,(ke @vp_), ?_⟩
  rw[hd]
  exact⟨Ext.of_new (show New w.heap.size ((b3,_)::D1) from⟨hw3,hN1.mono hB1⟩),hS1.mono fun q hq=>List.mem_cons_of_mem _ hq⟩
 ·have e0: (((c.kind:Nat):Int)==0)=false:=beq_eq_false_iff_ne.2 (by omega)
  by_cases k1:c.kind=1
  ·have e1: (((c.kind:Nat):Int)==1)=true:=by rw[k1];rfl
   obtain⟨n,hn⟩: ∃n,zC_ l c.a=some n:=by
    cases h:zC_ l c.a with
    |none=>exact absurd h (hok k1)
    |some n=>exact⟨n,rfl⟩
   have hd:qr_ l c=KK_ (qI_ l c.a) (c.b,n):=by unfold qr_;rw[k1,hn];rfl
   have hfi:wI_ l c.a=(n:Int):=by unfold wI_;rw[hn]
   have hwl:=Qj_ l c.a
   first|with_reducible refine ks [6] (And.intro @vp_ (And.intro @hk0 (And.intro @e0 (And.intro @e1 (@hka))))) ?_|refine kp (And.intro @vp_ (And.intro @hk0 (And.intro @e0 (And.intro @e1 (@hka))))) ?_
   refine Ow.callFV rfl Tryz.call92 (fun w' hw'=>Q0_ v l c.a w' (hv.oldN hw' hN3) (by omega)) ?_
   rw[hfi]
   refine ko @vp_ ?_
   refine Cw.regionS [b3] [0,1,4,6,2,5,7,3,8,9] [] (by kernel_rfl) (by kernel_rfl) (by kernel_rfl) ?_
   simp only[zo_, ↓zi_, ↓zd_, ↓zz_, ↓zy_,ze_]
   refine kq (And.intro @vp_ (And.intro @hka (@hkb))) ?_
   refine Ow.build (.agg (ndC (z7_ (c.b,n))).toArray) rfl (Kh_ (c.b,n)) ?_
   refine kq @vp_ ?_
   refine Ow.soft rfl rfl rfl ?_
   refine Ow.callC rfl rfl Tryz.call128 (fun w' hw'=>Jm_ v l c.a w' (hv.oldN hw' hN3) (by omega)) (fun B1 v1 D1 hA1 hB1 hN1 hS1=> ?_)
   have hN1':New w.heap.size ([(b3,Obj.cells (kcC (Vc_ c)).toArray 150 (0,0))]++D1):=hN3.app (hN1.mono hB1)
   with_reducible refine Ow.nil ?_
   refine⟨xv_ (by simp[keys]), ?_⟩
   refine kq @vp_ ?_
   refine Ow.soft rfl rfl rfl ?_
   refine Ow.callC rfl rfl Tryz.call86 (fun w' hw'=>Xa_ v1 (qI_ l c.a) (c.b,n) w' ((hS1.mono (fun q hq=>by simp[hq])).slV (z:=nd0) hw' rfl rfl zP_) (by omega)) (fun B2 v2 D2 hA2 hB2 hN2 hS2=> ?_)
   with_reducible refine Ow.nil ?_
   refine⟨xv_ (by simp[keys]), ?_⟩
   refine kq @vp_ ?_
   refine⟨_,(ke @vp_), ?_⟩
   rw[hd]
   exact⟨Ext.of_new (hN1'.app (hN2.mono hB2)),hS2.mono fun q hq=>by simp[hq]⟩
  ·have e1: (((c.kind:Nat):Int)==1)=false:=beq_eq_false_iff_ne.2 (by omega)
   have hd:qr_ l c=qI_ l c.a:=by
    unfold qr_
    split
    ·omega
    ·omega
    ·rfl
   first|with_reducible refine ks [] (And.intro @vp_ (And.intro @hk0 (And.intro @e0 (And.intro @e1 (@hka))))) ?_|refine kp (And.intro @vp_ (And.intro @hk0 (And.intro @e0 (And.intro @e1 (@hka))))) ?_
   refine Ow.callC rfl rfl Tryz.call128 (fun w' hw'=>Jm_ v l c.a w' (hv.oldN hw' hN3) (by omega)) (fun B1 v1 D1 hA1 hB1 hN1 hS1=> ?_)
   refine ko @vp_ ?_
   refine⟨_,(ke @vp_), ?_⟩
   rw[hd]
   exact⟨Ext.of_new (show New w.heap.size ((b3,_)::D1) from⟨hw3,hN1.mono hB1⟩),hS1.mono fun q hq=>List.mem_cons_of_mem _ hq⟩
end Go.Proofs
end
section
open Go Go.Proofs Go.Sx Go.StP
namespace Go.Proofs
set_option maxRecDepth 10000
set_option maxHeartbeats 400000
set_option linter.unusedSimpArgs false
structure DcG where
 bd:Nat
 s:Nat→Value
 t:Nat→Value
 p:Nat→Value
 f:Value
def xY_ (S:DiskL):Int:=if S.fused=true then S.fuse else -1
def dcO (G:DcG) (S:DiskL):Obj:= .cells #[G.s 0,G.t 0,G.p 0,G.s 1,G.t 1,G.p 1,G.s 2,G.t 2,G.p 2,G.f,vi S.max,vi (xY_ S), .bool S.off] 60 (0,0)
def kz_ (c:CallL):CallL:=if c.kind=0 then⟨0,c.a,[],c.n⟩ else if c.kind=1 then⟨1,c.a,c.b,0⟩ else⟨2,c.a,[],0⟩
theorem J5_ (l:NmL) (c:CallL):qr_ l (kz_ c)=qr_ l c:=by
 obtain⟨k,a,b,n⟩:=c
 unfold kz_
 match k with
 |0=>rfl
 |1=>rfl
 |k+2=>
  rw[if_neg (by simp),if_neg (by simp)];rfl
def NdP (X:zc_) (v:Value) (l:NmL):Prop:=Gr X 144 2 v (l.map z7_).length ((l.map z7_).map ndC).flatten
def KcP (X:zc_) (v:Value) (l:List CallL):Prop:=Gr X 150 4 v (l.map Vc_).length ((l.map Vc_).map kcC).flatten
def FdP (X:zc_) (v:Value) (l:List FileL):Prop:=Gr X 141 2 v (l.map xO_).length ((l.map xO_).map fdC).flatten
structure DcP (X:zc_) (G:DcG) (S:DiskL):Prop where
 disk:Sx.look X G.bd=some (dcO G S)
 seen: ∀k,k<3→NdP X (G.s k) (S.dir k).seen
 stl: ∀k,k<3→NdP X (G.t k) (S.dir k).stl
 pend: ∀k,k<3→ ∃pl:List CallL,pl.map kz_=(S.dir k).pend.map kz_∧KcP X (G.p k) pl
 files:FdP X G.f S.files
 pdis: ∀i j,i<3→j<3→i≠j→ ∀b,slB (G.p i)=some b→slB (G.p j)≠some b
def DcW (w:World) (G:DcG) (S:DiskL):Prop:= ∃X,(∀b o,Sx.look X b=some o→w.heap[b]? =some o)∧DcP X G S
theorem Gr.keepTy {X L:zc_} {E:TypeId} {m n:Nat} {v:Value} {cs:List Value} (h:Gr X E m v n cs) {c:Nat} {oc:Obj} (hc:Sx.look X c=some oc) (ht:tyO oc≠some E) (keep: ∀b o,b≠c→Sx.look X b=some o→Sx.look L b=some o):Gr L E m v n cs:=h.keep fun b o hb ho=>keep b o (by
 rintro rfl
 obtain⟨arr,ha⟩:=kC_ h hb
 rw[hc] at ha;cases ha;exact ht rfl) ho
theorem DcP.mono {X X':zc_} {G:DcG} {S:DiskL} (h:DcP X G S) (hk: ∀b o,Sx.look X b=some o→Sx.look X' b=some o):DcP X' G S where
 disk:=hk _ _ h.disk
 seen k hk3:=(h.seen k hk3).keep fun b o _ ho=>hk b o ho
 stl k hk3:=(h.stl k hk3).keep fun b o _ ho=>hk b o ho
 pend k hk3:=by
  obtain⟨pl,h1,h2⟩:=h.pend k hk3
  exact⟨pl,h1,h2.keep fun b o _ ho=>hk b o ho⟩
 files:=h.files.keep fun b o _ ho=>hk b o ho
 pdis:=h.pdis
theorem DcP.world {X:zc_} {G:DcG} {S:DiskL} {w0 w:World} (h:DcP X G S) (hw:Hp w0 X w):DcW w G S:=⟨X,fun _ _ hb=>hw.has _ _ (zp_ hb),h⟩
theorem DcP.worldX {X:zc_} {G:DcG} {S:DiskL} {w:World} (h:DcP X G S) (hX: ∀p,p∈X→w.heap[p.1]? =some p.2):DcW w G S:=⟨X,fun _ _ hb=>hX _ (zp_ hb),h⟩
theorem DcW.old {w w':World} {L:zc_} {G:DcG} {S:DiskL} (h:DcW w G S) (hw:Hp w L w') (hn:New w.heap.size L):DcW w' G S:=by
 obtain⟨X,hX,hP⟩:=h
 refine⟨X,fun b o hb=> ?_,hP⟩
 have hlt:=(Array.getElem?_eq_some_iff.1 (hX b o hb)).1
 exact(hw.old b hlt (hn.not hlt)).trans (hX b o hb)
theorem xc_ (G:DcG) (S:DiskL):tyO (dcO G S)=some 60:=rfl
theorem v6_: (some 60:Option TypeId)≠some 144:=by decide
theorem VW_: (some 60:Option TypeId)≠some 150:=by decide
theorem wj_: (some 60:Option TypeId)≠some 141:=by decide
theorem DcP.upd {X L:zc_} {G G':DcG} {S S':DiskL} (h:DcP X G S) (hb:G'.bd=G.bd) (keep: ∀b o,b≠G.bd→Sx.look X b=some o→Sx.look L b=some o) (hd:Sx.look L G.bd=some (dcO G' S'))
  (hs: ∀k,k<3→(G'.s k=G.s k∧(S'.dir k).seen=(S.dir k).seen)∨NdP L (G'.s k) (S'.dir k).seen)
  (ht: ∀k,k<3→(G'.t k=G.t k∧(S'.dir k).stl=(S.dir k).stl)∨NdP L (G'.t k) (S'.dir k).stl)
  (hp: ∀k,k<3→(G'.p k=G.p k∧(S'.dir k).pend=(S.dir k).pend)∨(G'.p k= .slice none 0 0∧(S'.dir k).pend= []))
  (hf:G'.f=G.f∧S'.files=S.files):DcP L G' S' where
 disk:=by rw[hb];exact hd
 seen k hk:=by
  rcases hs k hk with⟨h1,h2⟩ |h1
  ·rw[h1,h2];exact Gr.keepTy (h.seen k hk) h.disk (by rw[xc_];exact v6_) keep
  ·exact h1
 stl k hk:=by
  rcases ht k hk with⟨h1,h2⟩ |h1
  ·rw[h1,h2];exact Gr.keepTy (h.stl k hk) h.disk (by rw[xc_];exact v6_) keep
  ·exact h1
 pend k hk:=by
  rcases hp k hk with⟨h1,h2⟩ | ⟨h1,h2⟩
  ·obtain⟨pl,h3,h4⟩:=h.pend k hk
   exact⟨pl,by rw[h2];exact h3,by rw[h1];exact Gr.keepTy h4 h.disk (by rw[xc_];exact VW_) keep⟩
  ·exact⟨[],by rw[h2],by rw[h1];exact Gr.nl⟩
 files:=by rw[hf.1,hf.2];exact Gr.keepTy h.files h.disk (by rw[xc_];exact wj_) keep
 pdis i j hi hj hij b:=by
  rcases hp i hi with⟨h1,-⟩ | ⟨h1,-⟩
  ·rcases hp j hj with⟨h2,-⟩ | ⟨h2,-⟩
   ·rw[h1,h2];exact h.pdis i j hi hj hij b
   ·rw[h2];intro _ h;cases h
  ·rw[h1];intro h;cases h
theorem DcP.setD {X:zc_} {G:DcG} {S:DiskL} (h:DcP X G S) (S':DiskL) (hd:S'.dir=S.dir) (hf:S'.files=S.files):DcP (setB X G.bd (dcO G S')) G S':=
 h.upd rfl (fun b o hb ho=>by rw[zb_ (Ne.symm hb)];exact ho) (zw_ h.disk) (fun k _=> .inl ⟨rfl,by rw[hd]⟩) (fun k _=> .inl ⟨rfl,by rw[hd]⟩) (fun k _=> .inl ⟨rfl,by rw[hd]⟩) ⟨rfl,hf⟩
theorem xj_ (G:DcG) (S:DiskL) {k:Nat} (hk:k<3) (n:Nat):zk_ (some (false,n)) (some (dcO G S)) (k*3)=some (G.s k):=by
 have:k=0∨k=1∨k=2:=by omega
 rcases this with rfl|rfl|rfl<;>rfl
theorem alO_ (G:DcG) (S:DiskL) {k:Nat} (hk:k<3) (n:Nat):zk_ (some (false,n)) (some (dcO G S)) (k*3+1)=some (G.t k):=by
 have:k=0∨k=1∨k=2:=by omega
 rcases this with rfl|rfl|rfl<;>rfl
theorem afl_ (G:DcG) (S:DiskL) {k:Nat} (hk:k<3) (n:Nat):zk_ (some (false,n)) (some (dcO G S)) (k*3+2)=some (G.p k):=by
 have:k=0∨k=1∨k=2:=by omega
 rcases this with rfl|rfl|rfl<;>rfl
theorem kJ_ (G:DcG) (S:DiskL) (n:Nat):zk_ (some (false,n)) (some (dcO G S)) 9=some G.f:=(rfl)
theorem x2_ (G:DcG) (S:DiskL) (n:Nat):zk_ (some (false,n)) (some (dcO G S)) 10=some (vi S.max):=(rfl)
theorem kQ_ (G:DcG) (S:DiskL) (n:Nat):zk_ (some (false,n)) (some (dcO G S)) 11=some (vi (xY_ S)):=(rfl)
theorem kX_ (G:DcG) (S:DiskL) (n:Nat):zk_ (some (false,n)) (some (dcO G S)) 12=some (.bool S.off):=(rfl)
def jQ_ (G:DcG) (k:Nat) (v:Value):DcG:={G with s:=fun j=>if j=k then v else G.s j}
def Zi_ (G:DcG) (k:Nat) (v:Value):DcG:={G with t:=fun j=>if j=k then v else G.t j}
def qX_ (G:DcG) (k:Nat) (v:Value):DcG:={G with p:=fun j=>if j=k then v else G.p j}
theorem X4_ (G:DcG) (S:DiskL) {k:Nat} (hk:k<3) (x:Bool) {q:Value} (hq:Value.oneCell' q=true∧q.cells= #[q]):zn_ (some (x,1)) (some (dcO G S)) (k*3) q=some (dcO (jQ_ G k q) S):=by
 have:k=0∨k=1∨k=2:=by omega
 rcases this with rfl|rfl|rfl
 ·exact zs_ [] [G.s 0] [q] [G.t 0,G.p 0,G.s 1,G.t 1,G.p 1,G.s 2,G.t 2,G.p 2,G.f,vi S.max,vi (xY_ S), .bool S.off] x _ 60 rfl rfl hq.2 rfl (by simp[hq.1])
 ·exact zs_ [G.s 0,G.t 0,G.p 0] [G.s 1] [q] [G.t 1,G.p 1,G.s 2,G.t 2,G.p 2,G.f,vi S.max,vi (xY_ S), .bool S.off] x _ 60 rfl rfl hq.2 rfl (by simp[hq.1])
 ·exact zs_ [G.s 0,G.t 0,G.p 0,G.s 1,G.t 1,G.p 1] [G.s 2] [q] [G.t 2,G.p 2,G.f,vi S.max,vi (xY_ S), .bool S.off] x _ 60 rfl rfl hq.2 rfl (by simp[hq.1])
theorem KI_ (G:DcG) (S:DiskL) {k:Nat} (hk:k<3) (x:Bool) {q:Value} (hq:Value.oneCell' q=true∧q.cells= #[q]):zn_ (some (x,1)) (some (dcO G S)) (k*3+1) q=some (dcO (Zi_ G k q) S):=by
 have:k=0∨k=1∨k=2:=by omega
 rcases this with rfl|rfl|rfl
 ·exact zs_ [G.s 0] [G.t 0] [q] [G.p 0,G.s 1,G.t 1,G.p 1,G.s 2,G.t 2,G.p 2,G.f,vi S.max,vi (xY_ S), .bool S.off] x _ 60 rfl rfl hq.2 rfl (by simp[hq.1])
 ·exact zs_ [G.s 0,G.t 0,G.p 0,G.s 1] [G.t 1] [q] [G.p 1,G.s 2,G.t 2,G.p 2,G.f,vi S.max,vi (xY_ S), .bool S.off] x _ 60 rfl rfl hq.2 rfl (by simp[hq.1])
 ·exact zs_ [G.s 0,G.t 0,G.p 0,G.s 1,G.t 1,G.p 1,G.s 2] [G.t 2] [q] [G.p 2,G.f,vi S.max,vi (xY_ S), .bool S.off] x _ 60 rfl rfl hq.2 rfl (by simp[hq.1])
theorem XM_ (G:DcG) (S:DiskL) {k:Nat} (hk:k<3) (x:Bool) {q:Value} (hq:Value.oneCell' q=true∧q.cells= #[q]):zn_ (some (x,1)) (some (dcO G S)) (k*3+2) q=some (dcO (qX_ G k q) S):=by
 have:k=0∨k=1∨k=2:=by omega
 rcases this with rfl|rfl|rfl
 ·exact zs_ [G.s 0,G.t 0] [G.p 0] [q] [G.s 1,G.t 1,G.p 1,G.s 2,G.t 2,G.p 2,G.f,vi S.max,vi (xY_ S), .bool S.off] x _ 60 rfl rfl hq.2 rfl (by simp[hq.1])
 ·exact zs_ [G.s 0,G.t 0,G.p 0,G.s 1,G.t 1] [G.p 1] [q] [G.s 2,G.t 2,G.p 2,G.f,vi S.max,vi (xY_ S), .bool S.off] x _ 60 rfl rfl hq.2 rfl (by simp[hq.1])
 ·exact zs_ [G.s 0,G.t 0,G.p 0,G.s 1,G.t 1,G.p 1,G.s 2,G.t 2] [G.p 2] [q] [G.f,vi S.max,vi (xY_ S), .bool S.off] x _ 60 rfl rfl hq.2 rfl (by simp[hq.1])
theorem abh_ (G:DcG) (S:DiskL) (x:Bool) {q:Value} (hq:Value.oneCell' q=true∧q.cells= #[q]):zn_ (some (x,1)) (some (dcO G S)) 9 q=some (dcO {G with f:=q} S):=
 zs_ [G.s 0,G.t 0,G.p 0,G.s 1,G.t 1,G.p 1,G.s 2,G.t 2,G.p 2] [G.f] [q] [vi S.max,vi (xY_ S), .bool S.off] x _ 60 rfl rfl hq.2 rfl (by simp[hq.1])
def dcL (G:DcG) (S:DiskL) (n:Int) (b:Bool):Obj:= .cells #[G.s 0,G.t 0,G.p 0,G.s 1,G.t 1,G.p 1,G.s 2,G.t 2,G.p 2,G.f,vi S.max,vi n, .bool b] 60 (0,0)
theorem afF_ (G:DcG) (S S':DiskL) {n:Int} {b:Bool} (hm:S'.max=S.max) (hl:xY_ S'=n) (ho:S'.off=b):dcL G S n b=dcO G S':=by
 unfold dcL dcO;rw[hm,hl,ho]
theorem Qp_ (G:DcG) (S:DiskL) (n:Int) (a:Bool):zn_ (some (a,1)) (some (dcO G S)) 11 (vi n)=some (dcL G S n S.off):=zs_ [G.s 0,G.t 0,G.p 0,G.s 1,G.t 1,G.p 1,G.s 2,G.t 2,G.p 2,G.f,vi S.max] [vi (xY_ S)] [vi n] [.bool S.off] a _ 60 rfl rfl rfl rfl rfl
theorem QH_ (G:DcG) (S:DiskL) (m n:Int) (b a:Bool):zn_ (some (a,1)) (some (dcL G S m b)) 11 (vi n)=some (dcL G S n b):=zs_ [G.s 0,G.t 0,G.p 0,G.s 1,G.t 1,G.p 1,G.s 2,G.t 2,G.p 2,G.f,vi S.max] [vi m] [vi n] [.bool b] a _ 60 rfl rfl rfl rfl rfl
theorem Qm_ (G:DcG) (S:DiskL) (x a:Bool):zn_ (some (a,1)) (some (dcO G S)) 12 (.bool x)=some (dcO G {S with off:=x}):=zs_ [G.s 0,G.t 0,G.p 0,G.s 1,G.t 1,G.p 1,G.s 2,G.t 2,G.p 2,G.f,vi S.max,vi (xY_ S)] [.bool S.off] [.bool x] [] a _ 60 rfl rfl rfl rfl rfl
theorem wP_ (G:DcG) (S:DiskL) (x:Int) (a:Bool):zn_ (some (a,1)) (some (dcO G S)) 10 (vi x)=some (dcO G {S with max:=x}):=zs_ [G.s 0,G.t 0,G.p 0,G.s 1,G.t 1,G.p 1,G.s 2,G.t 2,G.p 2,G.f] [vi S.max] [vi x] [vi (xY_ S), .bool S.off] a _ 60 rfl rfl rfl rfl rfl
theorem alq_ (q:Int):jk_ (vw_ Tryz.prog 60) (zL_ Tryz.prog 60) [(2,vi q),(3,vi (-1))]=some (.agg #[.slice none 0 0, .slice none 0 0, .slice none 0 0, .slice none 0 0, .slice none 0 0, .slice none 0 0, .slice none 0 0, .slice none 0 0, .slice none 0 0, .slice none 0 0,vi q,vi (-1), .bool false]):=by
 rw[show vw_ Tryz.prog 60=some [(0,9),(9,1),(10,1),(11,1),(12,1)] from id (by kernel_rfl),Tryz.zr60];rfl
def dcG0 (b:Nat):DcG:=⟨b,fun _=> .slice none 0 0,fun _=> .slice none 0 0,fun _=> .slice none 0 0, .slice none 0 0⟩
theorem aou_ (b:Nat) (q:Int):DcP [(b,dcO (dcG0 b) (Zp_ q))] (dcG0 b) (Zp_ q) where
 disk:=by simp[Sx.look,dcG0]
 seen _ _:=Gr.nl
 stl _ _:=Gr.nl
 pend _ _:=⟨[],rfl,Gr.nl⟩
 files:=Gr.nl
 pdis _ _ _ _ _ _ h:=by cases h
set_option linter.defProp false
def kZ_:=And.intro (And.intro (And.intro (@zg_) (@zf_)) (And.intro (@kJ_) (And.intro (@x2_) (@kQ_)))) (And.intro (And.intro (@kX_) (@Qp_)) (And.intro (@QH_) (And.intro (@Qm_) (@wP_))))
theorem abw_ (q:Int) (w:World):Rets Tryz.prog 29 #[vi q] w (XS w [] (fun v D=> ∃G,v=vp G.bd 0∧DcP D G (Zp_ q))):=by
 refine Rets.enterX Tryz.func29 rfl (rs:= [.tmp 2]) Tryz.results29 Tryz.ntmps29 (fun p hp=>by cases hp) (by simp[keys]) ?_
 refine kf ?_
 first|with_reducible refine ks [] @kZ_ ?_|refine kp @kZ_ ?_
 refine Ow.build _ rfl (alq_ q) ?_
 refine Ow.box rfl rfl fun b1 hb1 hw1=> ?_
 simp only[zj_,List.nil_append]
 refine ko @kZ_ ?_
 first|with_reducible refine ks [] @kZ_ ?_|refine kp @kZ_ ?_
 refine⟨_,(ke @kZ_), ?_⟩
 exact⟨Ext.of_new ⟨hw1,trivial⟩,dcG0 b1,rfl,aou_ b1 q⟩
theorem aga_ (G:DcG) (S:DiskL) (w:World) (hf: -9223372036854775808≤S.fuse∧S.fuse<9223372036854775808∧(S.fused=true→0≤S.fuse)) (ho:w.heap[G.bd]? =some (dcO G S)):
  Rets Tryz.prog 93 #[vp G.bd 0] w (fun v D=> ∃o,D= [(G.bd,o)]∧v=vi (zm_ S).2∧o=dcO G (zm_ S).1):=by
 refine Rets.enterM Tryz.func93 rfl (rs:= [.tmp 2]) Tryz.results93 Tryz.ntmps93 ho ?_
 refine kf ?_
 unfold zm_
 rcases Bool.eq_false_or_eq_true S.fused with hfd|hfd
 case inr=>
  have hl:xY_ S= -1:=by unfold xY_;rw[hfd];rfl
  have e0: ((-1:Int)==0)=false:=rfl
  have e1:decide ((0:Int)< -1)=false:=rfl
  rw[if_neg (fun h=>by rw[hfd] at h;cases h.1),if_neg (fun h=>by rw[hfd] at h;cases h)]
  first|with_reducible refine ks [] (And.intro @kZ_ (And.intro @hl (And.intro @e0 (@e1)))) ?_|refine kp (And.intro @kZ_ (And.intro @hl (And.intro @e0 (@e1)))) ?_
  refine⟨_,_,_,(ke @kZ_),rfl,trivial, ?_⟩
  exact⟨rfl,rfl⟩
 case inl=>
  have hl:xY_ S=S.fuse:=by unfold xY_;rw[hfd];rfl
  have h1:=hf.2.2 hfd
  by_cases h0:S.fuse=0
  ·have e0: (S.fuse==0)=true:=beq_iff_eq.2 h0
   rw[if_pos ⟨hfd,h0⟩]
   first|with_reducible refine ks [] (And.intro @kZ_ (And.intro @hl (@e0))) ?_|refine kp (And.intro @kZ_ (And.intro @hl (@e0))) ?_
   refine⟨_,_,_,(ke @kZ_),rfl,trivial, ?_⟩
   exact⟨rfl,rfl⟩
  ·have e0: (S.fuse==0)=false:=beq_eq_false_iff_ne.2 h0
   have e1:decide ((0:Int)<S.fuse)=true:=decide_eq_true (by omega)
   have e2:xY_ {S with fuse:=S.fuse - 1}=S.fuse - 1:=by unfold xY_;rw[if_pos hfd]
   rw[if_neg (fun h=>h0 h.2),if_pos hfd]
   first|with_reducible refine ks [] (And.intro @kZ_ (And.intro @hl (And.intro @e0 (@e1)))) ?_|refine kp (And.intro @kZ_ (And.intro @hl (And.intro @e0 (@e1)))) ?_
   refine⟨_,_,_,(ke @kZ_),rfl,trivial, ?_⟩
   exact⟨rfl,afF_ G S {S with fuse:=S.fuse - 1} rfl e2 rfl⟩
theorem acZ_ (G:DcG) (S:DiskL) (n:Int) (w:World) (hn: -9223372036854775808≤n∧n<9223372036854775808) (ho:w.heap[G.bd]? =some (dcO G S)):
  Rets Tryz.prog 30 #[vp G.bd 0,vi n] w (fun v D=> ∃o,D= [(G.bd,o)]∧v=vj_ []∧o=dcO G {S with fuse:=n,fused:=decide (0≤n)}):=by
 refine Rets.enterM Tryz.func30 rfl (rs:= []) Tryz.results30 Tryz.ntmps30 ho ?_
 refine kf ?_
 by_cases h0:n<0
 ·have e0:decide (n<0)=true:=decide_eq_true h0
  first|with_reducible refine ks [] (And.intro @kZ_ @e0) ?_|refine kp (And.intro @kZ_ @e0) ?_
  refine⟨_,_,_,(ke @kZ_),rfl,trivial, ?_⟩
  exact⟨rfl,afF_ G S {S with fuse:=n,fused:=decide (0≤n)} rfl (by unfold xY_;rw[show decide (0≤n)=false from decide_eq_false (by omega)];rfl) rfl⟩
 ·have e0:decide (n<0)=false:=decide_eq_false h0
  first|with_reducible refine ks [] (And.intro @kZ_ @e0) ?_|refine kp (And.intro @kZ_ @e0) ?_
  refine⟨_,_,_,(ke @kZ_),rfl,trivial, ?_⟩
  exact⟨rfl,afF_ G S {S with fuse:=n,fused:=decide (0≤n)} rfl (by unfold xY_;rw[show decide (0≤n)=true from decide_eq_true (by omega)];rfl) rfl⟩
end Go.Proofs
end
section
open Go Go.Proofs Go.Sx Go.StP
namespace Go.Proofs
set_option maxRecDepth 10000
set_option maxHeartbeats 400000
set_option linter.unusedSimpArgs false
theorem Gr.slW {α:Type} {m:Nat} {enc:α→List Value} {z:α} {X:zc_} {E:TypeId} {v:Value} {l:List α} {w:World} (h:Gr X E m v l.length (l.map enc).flatten) (hX: ∀b o,Sx.look X b=some o→w.heap[b]? =some o) (hm: ∀x,(enc x).length=m):SlV m enc z w v l:=by
 cases hs:slB v with
 |none=>exact Gr.slM (h.keep (L':= []) fun b o hb=>by rw[hs] at hb;cases hb) (fun b o hm=>by cases hm) rfl rfl hm
 |some b=>
  obtain⟨arr,ha⟩:=kC_ h hs
  refine Gr.slM (h.keep (L':= [(b, .cells arr E (0,0))]) fun b' o hb ho=> ?_) (fun b' o hmm=> ?_) rfl rfl hm
  ·rw[hs] at hb
   cases hb
   rw[ha] at ho
   cases ho
   simp[Sx.look]
  ·simp only[List.mem_singleton,Prod.mk.injEq] at hmm
   obtain⟨rfl,rfl⟩:=hmm
   exact hX _ _ ha
theorem Wk_ {S:DiskL} {dir x:List UInt8} (h:zE_ dir=none∨qp_ x=false):Zl_ S dir x=([],1):=by
 have h0:jg_ S dir [x]=1:=by
  unfold jg_
  rw[if_pos]
  rcases h with h|h
  ·exact .inl h
  ·right;simp[h]
 unfold Zl_
 rw[if_pos (by rw[h0];simp),h0]
set_option linter.defProp false
def xx_:=And.intro (And.intro (And.intro (@zg_) (@zf_)) (And.intro (@kJ_) (@x2_))) (And.intro (And.intro (@kQ_) (@kX_)) (And.intro (@Sx.tup2_0) (@Sx.tup2_1)))
theorem agY_ (w:World) (G:DcG) (S:DiskL) (dir name:List UInt8) (hD:DcW w G S) (ok:DkOk S) (hB:DkB S) (hnm:name.length<1099511627776):
  Rets Tryz.prog 33 #[vp G.bd 0,vs dir,vs name] w (fun v D=>v= .tuple #[vs (Zl_ S dir name).1,vi ((Zl_ S dir name).2:Nat)]∧D= []):=by
 obtain⟨X,hX,hP⟩:=hD
 have hd:=hX _ _ hP.disk
 refine Rets.enterV Tryz.func33 rfl (rs:= [.tmp 6, .tmp 7]) Tryz.results33 Tryz.ntmps33 ?_
 refine kf ?_
 first|with_reducible refine ks [] @xx_ ?_|refine kp @xx_ ?_
 refine Ow.callFV rfl Tryz.call84 (fun w' hw'=>w8_ dir w') ?_
 cases hw:zE_ dir with
 |none=>
  have hwi:xd_ dir= -1:=by unfold xd_;rw[hw]
  have e1:decide ((-1:Int)<0)=true:=rfl
  rw[hwi]
  refine ko @xx_ ?_
  first|with_reducible refine ks [] (And.intro @xx_ @e1) ?_|refine kp (And.intro @xx_ @e1) ?_
  refine⟨_,(ke @xx_),trivial, ?_⟩
  (rw[Wk_ (.inl hw)];rfl)
 |some k=>
  have hk:=(qD_ hw).1
  have hwi:xd_ dir=(k:Int):=by unfold xd_;rw[hw]
  have e1:decide ((k:Int)<0)=false:=decide_eq_false (by omega)
  rw[hwi]
  refine ko @xx_ ?_
  first|with_reducible refine ks [] (And.intro @xx_ @e1) ?_|refine kp (And.intro @xx_ @e1) ?_
  refine Ow.callFV rfl Tryz.call85 (fun w' hw'=>Qd_ name w' hnm) ?_
  cases hf:qp_ name with
  |false=>
   refine ko @xx_ ?_
   first|with_reducible refine ks [] @xx_ ?_|refine kp @xx_ ?_
   refine⟨_,(ke @xx_),trivial, ?_⟩
   (rw[Wk_ (.inr hf)];rfl)
  |true=>
   refine ko @xx_ ?_
   have hfe:jg_ S dir [name]=if S.off=true then 9 else 0:=by
    unfold jg_
    rw[if_neg (by rw[hw];simp[hf])]
   have hat: ((zE_ dir).bind fun k=>zC_ (S.dir k).seen name)=zC_ (S.dir k).seen name:=by rw[hw];rfl
   rcases Bool.eq_false_or_eq_true S.off with ho|ho
   ·first|with_reducible refine ks [] (And.intro @xx_ (And.intro @hd (@ho))) ?_|refine kp (And.intro @xx_ (And.intro @hd (@ho))) ?_
    refine⟨_,(ke @xx_),trivial, ?_⟩
    (unfold Zl_;rw[hfe,if_pos ho,if_pos (by simp)];rfl)
   ·have hsl:=Gr.slW (z:=nd0) (hP.seen k hk) hX zP_
    have lds:=fun n=>xj_ G S hk n
    have hfl:=Gr.slW (z:=fd0) hP.files hX q7_
    obtain⟨rb,off,arr,E,fz,hr⟩:=hfl.row
    rw[if_neg (by rw[ho];simp)] at hfe
    have hrd:Zl_ S dir name=match zC_ (S.dir k).seen name with|none=>([],6) |some n=>((zx_ S n).data,0):=by
     unfold Zl_
     rw[hfe,if_neg (by simp),hat]
     cases zC_ (S.dir k).seen name<;>rfl
    first|with_reducible refine ks [] (And.intro @xx_ (And.intro @hd (And.intro @ho (@lds)))) ?_|refine kp (And.intro @xx_ (And.intro @hd (And.intro @ho (@lds)))) ?_
    refine Ow.callFV rfl Tryz.call92 (fun w' hw'=>Q0_ (G.s k) (S.dir k).seen name w' (hsl.oldN hw' trivial) (by have:=(hB k hk).1;omega)) ?_
    cases hfn:zC_ (S.dir k).seen name with
    |none=>
     have hfi:wI_ (S.dir k).seen name= -1:=by unfold wI_;rw[hfn]
     have e2:decide ((-1:Int)<0)=true:=rfl
     rw[hfi]
     refine ko @xx_ ?_
     first|with_reducible refine ks [] (And.intro @xx_ @e2) ?_|refine kp (And.intro @xx_ @e2) ?_
     refine⟨_,(ke @xx_),trivial, ?_⟩
     (rw[hrd,hfn];rfl)
    |some n=>
     have hfi:wI_ (S.dir k).seen name=(n:Int):=by unfold wI_;rw[hfn]
     have e2:decide ((n:Int)<0)=false:=decide_eq_false (by omega)
     have hnl:=ok.seenN k hk _ (jO_ hfn)
     have hnm2:n< (S.files.map xO_).length:=by rw[List.length_map];exact hnl
     have ix:=hr.idx true n hnm2
     have hh:=hr.has (by omega)
     have l0: ∀x,zk_ (some (false,x)) (some (.cells arr E fz)) (off+n*2)=some (vs ((S.files.map xO_).getD n fd0).data):=fun x=>by have:=ad7_ hr hnm2 x;rwa [Nat.add_zero] at this
     rw[ZY_] at l0
     rw[hfi]
     refine ko @xx_ ?_
     first|with_reducible refine ks [] (And.intro @xx_ (And.intro @e2 (And.intro @hd (And.intro @ix (And.intro @hh (@l0)))))) ?_|refine kp (And.intro @xx_ (And.intro @e2 (And.intro @hd (And.intro @ix (And.intro @hh (@l0)))))) ?_
     refine⟨_,(ke @xx_),trivial, ?_⟩
     (rw[hrd,hfn];rfl)
end Go.Proofs
end
section
open Go Go.Proofs Go.Sx Go.StP
namespace Go.Proofs
set_option maxRecDepth 10000
set_option maxHeartbeats 400000
set_option linter.unusedSimpArgs false
structure LcG where
 k:Nat
 v:Value
 D:zc_
 DG:zc_
theorem ku_ {w:World} {b:Nat} {o:Obj} (hb:w.heap[b]? =some o) {Y:zc_} (hY:New w.heap.size Y):zA_ w Y b=some o:=by
 rw[z2_ (hY.not (Array.getElem?_eq_some_iff.1 hb).1)];exact hb
set_option linter.defProp false
def jl_:=And.intro (And.intro (And.intro (@zg_) (@zf_)) (And.intro (@kJ_) (@x2_))) (And.intro (And.intro (@kQ_) (@kX_)) (And.intro (@Sx.tup2_0) (@Sx.tup2_1)))
theorem agm_ (w:World) (G:DcG) (S:DiskL) (dir:List UInt8) (hD:DcW w G S) (hB:DkB S):
  Rets Tryz.prog 89 #[vp G.bd 0,vs dir] w (XS w [] (fun v D=>GrI D 9 1 v (Z8_ S dir).length ((Z8_ S dir).map vs))):=by
 obtain⟨X,hX,hP⟩:=hD
 have hd:=hX _ _ hP.disk
 refine Rets.enterX Tryz.func89 rfl (rs:= [.tmp 4]) Tryz.results89 Tryz.ntmps89 (fun p hp=>by cases hp) (by simp[keys]) ?_
 refine kf ?_
 first|with_reducible refine ks [] @jl_ ?_|refine kp @jl_ ?_
 refine Ow.callFV rfl Tryz.call84 (fun w' hw'=>w8_ dir w') ?_
 cases hw:zE_ dir with
 |none=>
  have hwi:xd_ dir= -1:=by unfold xd_;rw[hw]
  have e1:decide ((-1:Int)<0)=true:=rfl
  have hl:Z8_ S dir= []:=by unfold Z8_ jg_;rw[if_pos (by rw[hw];simp)]
  rw[hwi]
  refine ko @jl_ ?_
  first|with_reducible refine ks [] (And.intro @jl_ @e1) ?_|refine kp (And.intro @jl_ @e1) ?_
  refine⟨_,(ke @jl_), ?_⟩
  rw[hl]
  exact⟨Ext.refl w [],Gr.nl.i fun _ h=>h⟩
 |some k=>
  have hk:=(qD_ hw).1
  have hwi:xd_ dir=(k:Int):=by unfold xd_;rw[hw]
  have e1:decide ((k:Int)<0)=false:=decide_eq_false (by omega)
  rw[hwi]
  rcases Bool.eq_false_or_eq_true S.off with ho|ho
  ·have hl:Z8_ S dir= []:=by rw[(qD_ hw).2,wl_ hk,ho];rfl
   refine ko @jl_ ?_
   first|with_reducible refine ks [] (And.intro @jl_ (And.intro @e1 (And.intro @hd (@ho)))) ?_|refine kp (And.intro @jl_ (And.intro @e1 (And.intro @hd (@ho)))) ?_
   refine⟨_,(ke @jl_), ?_⟩
   rw[hl]
   exact⟨Ext.refl w [],Gr.nl.i fun _ h=>h⟩
  ·have hl:Z8_ S dir=(S.dir k).seen.map Prod.fst:=by
    rw[(qD_ hw).2,wl_ hk,ho];rfl
   have hsl:=Gr.slW (z:=nd0) (hP.seen k hk) hX zP_
   have lds:=fun n=>xj_ G S hk n
   have lns:=hsl.len
   rw[List.length_map] at lns
   obtain⟨rb,off,arr,E,fz,hr⟩:=hsl.row
   have hbl:=(hB k hk).1
   generalize (S.dir k).seen=sn at*
   refine ko @jl_ ?_
   first|with_reducible refine ks [] (And.intro @jl_ (And.intro @e1 (And.intro @hd (@ho)))) ?_|refine kp (And.intro @jl_ (And.intro @e1 (And.intro @hd (@ho)))) ?_
   refine Cw.permL (M:= []++ []) (List.Perm.refl _) ?_
   refine Cw.loopG (G:=LcG) [18,19,20,21,22,23,24,25,26,27,30,31,32,33,34,35,36,37,38,39,40,41,42,43,6,28,29,7] (fun g=> [(6,g.v),(7,vi g.k)]) (fun g=>g.D++g.DG) (fun g=>g.k≤sn.length∧New w.heap.size g.D∧New w.heap.size g.DG∧Gr g.D 9 1 g.v g.k (((sn.map Prod.fst).take g.k).map vs)) (fun g=>sn.length - g.k) ⟨0, .slice none 0 0,[],[]⟩ rfl rfl ?_ ?_
   ·exact⟨Nat.zero_le _,trivial,trivial,Gr.nl⟩
   intro g j hg
   refine kv ?_
   obtain⟨i,v3,D,DG⟩:=g
   simp only at hg ⊢
   obtain⟨hi,hN,hNG,hGr⟩:=hg
   have hNr:New w.heap.size (D++DG):=hN.app hNG
   have rdd:=ku_ hd hNr
   by_cases hlt:i<sn.length
   ·have d1:decide ((i:Int)< (sn.length:Int))=true:=decide_eq_true (by omega)
    have hlm:i< (sn.map z7_).length:=by rw[List.length_map];exact hlt
    have ix:=hr.idx true i hlm
    have rda:=ku_ (hr.has (by omega)) hNr
    have l0: ∀n,zk_ (some (false,n)) (some (.cells arr E fz)) (off+i*2)=some (vs ((sn.map z7_).getD i nd0).s):=fun n=>by have:=W7_ hr hlm n;rwa [Nat.add_zero] at this
    rw[J3_] at l0
    have hnx: (((sn.map Prod.fst).take (i+1)).map vs)=((sn.map Prod.fst).take i).map vs++ [vs (z7_ (sn.getD i ([],0))).s]:=by
     rw[StP.take_snoc (z:= []) (by rw[List.length_map];exact hlt),List.map_append]
     rw[List.getD_eq_getElem?_getD,List.getD_eq_getElem?_getD,List.getElem?_map]
     simp[hlt,z7_]
    generalize (z7_ (sn.getD i ([],0))).s=x at*
    first|with_reducible refine ks [] (And.intro @jl_ (And.intro @rdd (And.intro @lds (And.intro @lns (And.intro @d1 (And.intro @ix (And.intro @rda (@l0)))))))) ?_|refine kp (And.intro @jl_ (And.intro @rdd (And.intro @lds (And.intro @lns (And.intro @d1 (And.intro @ix (And.intro @rda (@l0)))))))) ?_
    refine Ow.buildSlice (e:=9) #[vs x] rfl rfl (by kernel_rfl) fun ba hba hwa=> ?_
    refine ko @jl_ ?_
    refine Ow.permL (M:=D++ (DG++ [(ba, .cells #[vs x] 9 (0,0))])) (by classical exact List.perm_iff_count.2 fun a=>by simp only[List.count_append,List.count_cons,List.count_nil]<;>omega) ?_
    refine Ow.appendXG (e:=9) (k:=1) (new:=strC x) (X:=D) v3 rfl rfl rfl rfl Tryz.underlying72 (id (by kernel_rfl):zT_ Tryz.prog 9=some (false,1)) (by kernel_rfl) (id (by kernel_rfl):zL_ Tryz.prog 9=some (vs [])) rfl Tryz.underlying72 (by intro k h;cases h) hGr (fun w' hw'=>AppX.one1 (hw'.has ba (.cells #[vs x] 9 (0,0)) (by simp)) rfl rfl) (by omega) (fun B4 v4 D4 hA4 hB4 hG4 hk41 hk42 hlk4=> ?_)
    have hN4:New w.heap.size D4:=New.of_le fun q hq=>by
     rcases hk42 q hq with h|h
     ·exact hN.le q h
     ·omega
    refine ko @jl_ ?_
    first|with_reducible refine ks [] @jl_ ?_|refine kp @jl_ ?_
    exact Again.mk ⟨i+1,v4,D4,DG++ [(ba, .cells #[vs x] 9 (0,0))]⟩ (by show sn.length - (i+1)<sn.length - i;omega) ⟨hlt,hN4,hNG.app ⟨hwa,trivial⟩,by rw[hnx];exact hG4⟩ rfl rfl
   ·obtain rfl:i=sn.length:=by omega
    have d1:decide ((sn.length:Int)< (sn.length:Int))=false:=decide_eq_false (by omega)
    rw[List.take_of_length_le (by rw[List.length_map];exact Nat.le_refl _)] at hGr
    first|with_reducible refine ks [] (And.intro @jl_ (And.intro @rdd (And.intro @lds (And.intro @lns (@d1))))) ?_|refine kp (And.intro @jl_ (And.intro @rdd (And.intro @lds (And.intro @lns (@d1))))) ?_
    refine⟨_,(ke @jl_), ?_⟩
    rw[hl,List.length_map]
    exact⟨Ext.of_new hNr,hGr.i fun q hq=>List.mem_append_left _ hq⟩
def ab6_ (S:DiskL):Nat→Nat
 |0=>0
 |k+1=>ab6_ S k+xs_ S (S.dir k).seen
theorem and_ (S:DiskL) {k:Nat} (hk:k<3):ab6_ S k+xs_ S (S.dir k).seen≤kn_ S:=by
 have:k=0∨k=1∨k=2:=by omega
 rcases this with rfl|rfl|rfl<;>(simp only[ab6_,kn_];omega)
theorem aiG_ (S:DiskL) {l:NmL} {i:Nat} (h:i<l.length):xs_ S (l.take (i+1))=xs_ S (l.take i)+ (zx_ S (l.getD i ([],0)).2).data.length:=by
 unfold xs_
 rw[StP.take_snoc (z:=([],0)) h,List.map_append,List.sum_append,List.map_singleton,List.sum_singleton];rfl
theorem aaT_ (S:DiskL) (l:NmL) (i:Nat):xs_ S (l.take i)≤xs_ S l:=by
 have:xs_ S l=xs_ S (l.take i)+xs_ S (l.drop i):=by
  unfold xs_
  rw[←List.sum_append,←List.map_append,List.take_append_drop]
 omega
structure UkG where
 k:Nat
 n:Nat
theorem V2_ (w:World) (G:DcG) (S:DiskL) (hD:DcW w G S) (ok:DkOk S) (hB:DkB S) (hb:kn_ S<4611686018427387904):
  Rets Tryz.prog 90 #[vp G.bd 0] w (fun v D=>v=vi (kn_ S:Nat)∧D= []):=by
 obtain⟨X,hX,hP⟩:=hD
 have hd:=hX _ _ hP.disk
 have hfl:=Gr.slW (z:=fd0) hP.files hX q7_
 obtain⟨rf,offf,arrf,Ef,fzf,hrf⟩:=hfl.row
 refine Rets.enterV Tryz.func90 rfl (rs:= [.tmp 2]) Tryz.results90 Tryz.ntmps90 ?_
 refine kf ?_
 first|with_reducible refine ks [] @jl_ ?_|refine kp @jl_ ?_
 refine Cw.loopG (G:=UkG) [6,7,5,10,11,12,13,14,15,16,17,18,19,22,23,24,25,26,27,28,29,30,31,32,33,34,35,36,37,38,39,40,41,42,3,20,21,8,9,4] (fun g=> [(3,vi g.n),(4,vi g.k)]) (fun g=> []) (fun g=>g.k≤3∧g.n=ab6_ S g.k) (fun g=>3 - g.k) ⟨0,0⟩ rfl rfl ?_ ?_
 ·exact⟨Nat.zero_le _,rfl⟩
 intro g j hg
 refine kv ?_
 obtain⟨k,n⟩:=g
 simp only at hg ⊢
 obtain⟨hk,hn⟩:=hg
 by_cases hlt:k<3
 ·have d1:decide ((k:Int)<3)=true:=decide_eq_true (by omega)
  have hsl:=Gr.slW (z:=nd0) (hP.seen k hlt) hX zP_
  have lds:=fun n=>xj_ G S hlt n
  have lns:=hsl.len
  rw[List.length_map] at lns
  obtain⟨rb,off,arr,E,fz,hr⟩:=hsl.row
  have hle:=and_ S hlt
  have hsn:=ok.seenN k hlt
  have hbl:=(hB k hlt).1
  have hks:ab6_ S (k+1)=ab6_ S k+xs_ S (S.dir k).seen:=rfl
  generalize (S.dir k).seen=sn at*
  first|with_reducible refine ks [] (And.intro @jl_ @d1) ?_|refine kp (And.intro @jl_ @d1) ?_
  refine Cw.loopG (G:=UkG) [10,11,12,13,14,15,16,17,18,19,22,23,24,25,26,27,28,29,30,31,32,33,34,35,36,37,38,39,40,41,42,3,20,21,5] (fun g=> [(3,vi g.n),(5,vi g.k)]) (fun g=> []) (fun g=>g.k≤sn.length∧g.n=n+xs_ S (sn.take g.k)) (fun g=>sn.length - g.k) ⟨0,n⟩ rfl rfl ?_ ?_
  ·exact⟨Nat.zero_le _,rfl⟩
  intro g j hg
  refine kv ?_
  obtain⟨i,m⟩:=g
  simp only at hg ⊢
  obtain⟨hi,hm⟩:=hg
  by_cases hit:i<sn.length
  ·have d2:decide ((i:Int)< (sn.length:Int))=true:=decide_eq_true (by omega)
   have hlm:i< (sn.map z7_).length:=by rw[List.length_map];exact hit
   have ix:=hr.idx true i hlm
   have hh:=hr.has (by omega)
   have l1: ∀n,zk_ (some (false,n)) (some (.cells arr E fz)) (off+i*2+1)=some (vi ((sn.map z7_).getD i nd0).n):=fun n=>ajW_ hr hlm n
   rw[J3_] at l1
   have hus:=aiG_ S hit
   have hul:=aaT_ S sn (i+1)
   have hnl:=hsn (sn.getD i ([],0)) (xp_ (z:=([],0)) hit)
   generalize sn.getD i ([],0)=q at*
   obtain⟨qs,qn⟩:=q
   simp only[z7_] at l1 hnl hus
   have hnm2:qn< (S.files.map xO_).length:=by rw[List.length_map];exact hnl
   have ixf:=hrf.idx true qn hnm2
   have hhf:=hrf.has (by omega)
   have f0: ∀x,zk_ (some (false,x)) (some (.cells arrf Ef fzf)) (offf+qn*2)=some (vs ((S.files.map xO_).getD qn fd0).data):=fun x=>by have:=ad7_ hrf hnm2 x;rwa [Nat.add_zero] at this
   rw[ZY_] at f0
   have f0': ∀x,zk_ (some (false,x)) (some (.cells arrf Ef fzf)) (offf+qn*2)=some (vs (zx_ S qn).data):=f0
   clear f0
   have es: (m:Int)+ ((zx_ S qn).data.length:Int)=((m+ (zx_ S qn).data.length:Nat):Int):=by omega
   first|with_reducible refine ks [] (And.intro @jl_ (And.intro @hd (And.intro @lds (And.intro @lns (@d2))))) ?_|refine kp (And.intro @jl_ (And.intro @hd (And.intro @lds (And.intro @lns (@d2))))) ?_
   refine Cw.regionS [G.bd,rf,rb] [0,1,2,3,5,6,7,8,9,10,12,4,11,13,14,15,16,17,18,19,20,21] [] (by kernel_rfl) (by kernel_rfl) (by kernel_rfl) ?_
   simp only[zo_, ↓zi_, ↓zd_, ↓zz_, ↓zy_,ze_]
   refine kq (And.intro @jl_ (And.intro @hd (And.intro @lds (And.intro @ix (And.intro @hh (And.intro @l1 (And.intro @ixf (And.intro @hhf (And.intro @f0' (@es)))))))))) ?_
   first|with_reducible refine ks [] @jl_ ?_|refine kp @jl_ ?_
   exact Again.mk ⟨i+1,m+ (zx_ S qn).data.length⟩ (by show sn.length - (i+1)<sn.length - i;omega) ⟨hit,by show m+ (zx_ S qn).data.length=n+xs_ S (sn.take (i+1));omega⟩ rfl rfl
  ·obtain rfl:i=sn.length:=by omega
   have d2:decide ((sn.length:Int)< (sn.length:Int))=false:=decide_eq_false (by omega)
   rw[List.take_length] at hm
   first|with_reducible refine ks [] (And.intro @jl_ (And.intro @hd (And.intro @lds (And.intro @lns (@d2))))) ?_|refine kp (And.intro @jl_ (And.intro @hd (And.intro @lds (And.intro @lns (@d2))))) ?_
   exact Again.mk ⟨k+1,m⟩ (by show 3 - (k+1)<3 - k;omega) ⟨hlt,by show m=ab6_ S (k+1);omega⟩ rfl rfl
 ·obtain rfl:k=3:=by omega
  have d1:decide (((3:Nat):Int)<3)=false:=rfl
  first|with_reducible refine ks [] (And.intro @jl_ @d1) ?_|refine kp (And.intro @jl_ @d1) ?_
  refine⟨_,(ke @jl_),trivial, ?_⟩
  (rw[hn];show vi _=vi _;congr 2;simp[ab6_,kn_])
end Go.Proofs
end
section
open Go Go.Proofs Go.Sx Go.StP
namespace Go.Proofs
set_option maxRecDepth 10000
set_option maxHeartbeats 400000
set_option linter.unusedSimpArgs false
theorem ajs_ {S:DiskL} (h:S.off=true):Qx_ S= []:=by
 unfold Qx_ ji_ ji_ ji_ ji_ zW_
 simp[h]
set_option linter.defProp false
def x4_:=And.intro (And.intro (And.intro (@zg_) (And.intro (@zf_) (@kJ_))) (And.intro (@x2_) (And.intro (@kQ_) (@kX_)))) (And.intro (And.intro (@Sx.tup2_0) (And.intro (@Sx.tup2_1) (@afK_))) (And.intro (And.intro (@afS_) (@aj7_)) (And.intro (@xE_) (@vS_))))
theorem ajY_ (w:World) (G:DcG) (S:DiskL) (hD:DcW w G S) (ok:DkOk S) (hB:DkB S):
  Rets Tryz.prog 71 #[vp G.bd 0] w (XS w [] (fun v D=>GrI D 36 3 v (Qx_ S).length ((Qx_ S).map fiC).flatten)):=by
 obtain⟨X,hX,hP⟩:=hD
 have hd:=hX _ _ hP.disk
 have hfs:=Gr.slW (z:=fd0) hP.files hX q7_
 obtain⟨rf,offf,arrf,Ef,fzf,hrf⟩:=hfs.row
 refine Rets.enterX Tryz.func71 rfl (rs:= [.tmp 2]) Tryz.results71 Tryz.ntmps71 (fun p hp=>by cases hp) (by simp[keys]) ?_
 refine kf ?_
 rcases Bool.eq_false_or_eq_true S.off with ho|ho
 ·first|with_reducible refine ks [] (And.intro @x4_ (And.intro @hd (@ho))) ?_|refine kp (And.intro @x4_ (And.intro @hd (@ho))) ?_
  refine⟨_,(ke @x4_), ?_⟩
  rw[ajs_ ho]
  exact⟨Ext.refl w [],Gr.nl.i fun _ h=>h⟩
 ·first|with_reducible refine ks [] (And.intro @x4_ (And.intro @hd (@ho))) ?_|refine kp (And.intro @x4_ (And.intro @hd (@ho))) ?_
  refine Ow.callC rfl rfl Tryz.call87 (fun w' hw'=>X8_ w') (fun B1 v1 D1 hA1 hB1 hN1 hS1=> ?_)
  obtain⟨b4,rfl,rfl⟩:=hS1
  have hw4:w.heap.size≤b4:=(hN1.mono hB1).1
  rw[List.nil_append]
  refine ko @x4_ ?_
  first|with_reducible refine ks [] @x4_ ?_|refine kp @x4_ ?_
  refine Cw.permL (M:=(b4,kB_):: ([]++ [])) (List.Perm.refl _) ?_
  refine Cw.loopG (G:=LcG) [13,14,6,17,18,19,20,21,22,23,24,25,26,29,30,31,32,33,34,35,36,37,38,7,39,40,41,42,43,44,45,46,47,48,49,50,51,52,53,54,55,56,57,3,27,28,15,16,5] (fun g=> [(3,g.v),(5,vi g.k)]) (fun g=>(b4,kB_):: (g.D++g.DG)) (fun g=>g.k≤3∧New w.heap.size g.D∧New w.heap.size g.DG∧Gr g.D 36 3 g.v (ji_ S g.k).length ((ji_ S g.k).map fiC).flatten) (fun g=>3 - g.k) ⟨0, .slice none 0 0,[],[]⟩ rfl rfl ?_ ?_
  ·exact⟨Nat.zero_le _,trivial,trivial,Gr.nl⟩
  intro g j hg
  refine kv ?_
  obtain⟨k,v,D,DG⟩:=g
  simp only at hg ⊢
  obtain⟨hk,hN,hNG,hGr⟩:=hg
  by_cases hlt:k<3
  ·have d1:decide ((k:Int)<3)=true:=decide_eq_true (by omega)
   have hfl:=Zg_ hB k hk
   have hdl:=wG_ hB hlt
   have hsl:=Gr.slW (z:=nd0) (hP.seen k hlt) hX zP_
   have lds:=fun n=>xj_ G S hlt n
   have lns:=hsl.len
   rw[List.length_map] at lns
   obtain⟨rb,off,arr,E,fz,hr⟩:=hsl.row
   have hsn:=ok.seenN k hlt
   have hbl:=(hB k hlt).1
   have hdf:zW_ S k=(S.dir k).seen.map fun p=>⟨jY_ k,p.1,(S.files.getD p.2 q2_).data⟩:=by unfold zW_;rw[ho];rfl
   generalize (S.dir k).seen=sn at*
   rw[hdf,List.length_map] at hdl
   have ixd:=Wz_ b4 hlt true
   have ldd:=fun n=>X5_ hlt n
   first|with_reducible refine ks [10] (And.intro @x4_ @d1) ?_|refine kp (And.intro @x4_ @d1) ?_
   refine Cw.loopG (G:=LcG) [17,18,19,20,21,22,23,24,25,26,29,30,31,32,33,34,35,36,37,38,7,39,40,41,42,43,44,45,46,47,48,49,50,51,52,53,54,55,56,57,3,27,28,6] (fun g=> [(3,g.v),(6,vi g.k)]) (fun g=>(b4,kB_):: (g.D++g.DG)) (fun g=>g.k≤sn.length∧New w.heap.size g.D∧New w.heap.size g.DG∧Gr g.D 36 3 g.v ((ji_ S k).length+g.k) ((ji_ S k++ (zW_ S k).take g.k).map fiC).flatten) (fun g=>sn.length - g.k) ⟨0,v,D,DG⟩ rfl rfl ?_ ?_
   ·exact⟨Nat.zero_le _,hN,hNG,by simpa using hGr⟩
   intro g j hg
   refine kv ?_
   clear hN hNG hGr
   obtain⟨j,v,D,DG⟩:=g
   simp only at hg ⊢
   obtain⟨hj,hN,hNG,hGr⟩:=hg
   have hNr:New w.heap.size ((b4,kB_):: (D++DG)):=⟨hw4,hN.app hNG⟩
   have rdd:=ku_ hd hNr
   by_cases hjt:j<sn.length
   ·have d2:decide ((j:Int)< (sn.length:Int))=true:=decide_eq_true (by omega)
    have hlm:j< (sn.map z7_).length:=by rw[List.length_map];exact hjt
    have ix:=hr.idx true j hlm
    have rda:=ku_ (hr.has (by omega)) hNr
    have lda:=ajm_ hr hlm
    rw[J3_] at lda
    have hts: (zW_ S k).take (j+1)=(zW_ S k).take j++ [⟨jY_ k,(sn.getD j ([],0)).1,(zx_ S (sn.getD j ([],0)).2).data⟩]:=by
     rw[hdf,List.take_add_one]
     simp[hjt,zx_]
    have hnl:=hsn (sn.getD j ([],0)) (xp_ (z:=([],0)) hjt)
    generalize sn.getD j ([],0)=q at*
    obtain⟨x,n⟩:=q
    simp only at hts hnl
    have hnm2:n< (S.files.map xO_).length:=by rw[List.length_map];exact hnl
    have ixf:=hrf.idx true n hnm2
    have f0: ∀y,zk_ (some (false,y)) (some (.cells arrf Ef fzf)) (offf+n*2)=some (vs ((S.files.map xO_).getD n fd0).data):=fun y=>by have:=ad7_ hrf hnm2 y;rwa [Nat.add_zero] at this
    rw[ZY_] at f0
    have f0': ∀y,zk_ (some (false,y)) (some (.cells arrf Ef fzf)) (offf+n*2)=some (vs (zx_ S n).data):=f0
    clear f0
    have hq0: (z7_ (x,n)).s=x:=rfl
    have hq1: (z7_ (x,n)).n=(n:Int):=rfl
    first|with_reducible refine ks [10] (And.intro @x4_ (And.intro @rdd (And.intro @lds (And.intro @lns (And.intro @d2 (And.intro @ix (And.intro @rda (@lda)))))))) ?_|refine kp (And.intro @x4_ (And.intro @rdd (And.intro @lds (And.intro @lns (And.intro @d2 (And.intro @ix (And.intro @rda (@lda)))))))) ?_
    refine Ow.alloc rfl rfl zrNd fun b7 hb7 hw7=> ?_
    simp only[zj_,List.nil_append,List.cons_append]
    have h47:b4<b7:=zv_ hb7 (by simp[keys])
    refine Ow.permL (M:=(b7, .cells (ndC nd0).toArray 144 (0,0)):: (b4,kB_):: (D++DG)) (by classical exact List.perm_iff_count.2 fun a=>by simp only[List.count_append,List.count_cons,List.count_nil]<;>omega) ?_
    refine ko @x4_ ?_
    have hN7:New w.heap.size ((b7,Obj.cells (ndC (z7_ (x,n))).toArray 144 (0,0)):: (b4,kB_):: (D++DG)):=⟨hw7,hNr⟩
    have rd7:=ku_ hd hN7
    have rf7:=ku_ (hrf.has (by omega)) hN7
    refine Cw.regionS [b4,b7,G.bd,rf] [0,1,2,3,5,7,8,9,11,4,6,10,12,13,14,15,16,17,18,19] [] (by kernel_rfl) (by kernel_rfl) (by kernel_rfl) ?_
    simp only[zo_, ↓zi_, ↓zd_, ↓zz_, ↓zy_,ze_]
    refine kq (And.intro @x4_ (And.intro @ixd (And.intro @ldd (And.intro @rd7 (And.intro @rf7 (And.intro @ixf (And.intro @f0' (And.intro @hq0 (@hq1))))))))) ?_
    refine Ow.build (.agg (fiC ⟨jY_ k,x,(zx_ S n).data⟩).toArray) rfl (afx_ ⟨jY_ k,x,(zx_ S n).data⟩) ?_
    refine kq @x4_ ?_
    refine Ow.soft rfl rfl rfl ?_
    refine Ow.buildSlice (e:=36) (fiC ⟨jY_ k,x,(zx_ S n).data⟩).toArray rfl rfl (zV_ Tryz.underlying22 anb_ zrFi (by decide) (xh_ _)) fun ba hba hwa=> ?_
    have hb4a:b4<ba:=zv_ hba (by simp[keys])
    have hb7a:b7<ba:=zv_ hba (by simp[keys])
    have hN8:New w.heap.size ((b7,Obj.cells (ndC (z7_ (x,n))).toArray 144 (0,0)):: (b4,kB_):: (D++ (DG++ [(ba,Obj.cells (fiC ⟨jY_ k,x,(zx_ S n).data⟩).toArray 36 (0,0))]))):=⟨hw7,hw4,hN.app (hNG.app ⟨hwa,trivial⟩)⟩
    refine Ow.permL (M:=(b7, .cells (ndC (z7_ (x,n))).toArray 144 (0,0)):: (b4,kB_):: (D++ (DG++ [(ba, .cells (fiC ⟨jY_ k,x,(zx_ S n).data⟩).toArray 36 (0,0))]))) (by classical exact List.perm_iff_count.2 fun a=>by simp only[List.count_append,List.count_cons,List.count_nil]<;>omega) ?_
    with_reducible refine Ow.nil ?_
    refine⟨fun r hr=> ?_, ?_⟩
    ·simp only[List.mem_cons,List.not_mem_nil,or_false] at hr
     rcases hr with rfl|rfl|rfl|rfl
     ·simp(disch:=omega) only[xi_,vl_]
     ·simp(disch:=omega) only[xi_,vl_]
     ·exact(ku_ hd hN8).trans rd7.symm
     ·exact(ku_ (hrf.has (by omega)) hN8).trans rf7.symm
    refine kq @x4_ ?_
    refine Ow.soft rfl rfl rfl ?_
    refine Ow.permL (M:=D++ ((b7, .cells (ndC (z7_ (x,n))).toArray 144 (0,0)):: (b4,kB_):: (DG++ [(ba, .cells (fiC ⟨jY_ k,x,(zx_ S n).data⟩).toArray 36 (0,0))]))) (by classical exact List.perm_iff_count.2 fun a=>by simp only[List.count_append,List.count_cons,List.count_nil]<;>omega) ?_
    refine Ow.appendXG (e:=36) (k:=1) (new:=fiC ⟨jY_ k,x,(zx_ S n).data⟩) (X:=D) v rfl rfl rfl rfl Tryz.underlying22 anb_ (by kernel_rfl) zrFi (by rw[vS_,List.size_toArray,xh_]) Tryz.underlying22 (by intro k h;cases h) hGr (fun w' hw'=>AppX.one1 (hw'.has ba (.cells (fiC ⟨jY_ k,x,(zx_ S n).data⟩).toArray 36 (0,0)) (by simp)) (xh_ _) (adq_ _)) (by omega) (fun B4 v4 D4 hA4 hB4 hG4 hk41 hk42 hlk4=> ?_)
    have hN4:New w.heap.size D4:=New.of_le fun q hq=>by
     rcases hk42 q hq with h|h
     ·exact hN.le q h
     ·omega
    have hN9:New w.heap.size ((b7,Obj.cells (ndC (z7_ (x,n))).toArray 144 (0,0)):: (b4,kB_):: (D4++ (DG++ [(ba,Obj.cells (fiC ⟨jY_ k,x,(zx_ S n).data⟩).toArray 36 (0,0))]))):=⟨hw7,hw4,hN4.app (hNG.app ⟨hwa,trivial⟩)⟩
    refine Ow.permL (M:=(b7, .cells (ndC (z7_ (x,n))).toArray 144 (0,0)):: (b4,kB_):: (D4++ (DG++ [(ba, .cells (fiC ⟨jY_ k,x,(zx_ S n).data⟩).toArray 36 (0,0))]))) (by classical exact List.perm_iff_count.2 fun a=>by simp only[List.count_append,List.count_cons,List.count_nil]<;>omega) ?_
    with_reducible refine Ow.nil ?_
    refine⟨fun r hr=> ?_, ?_⟩
    ·simp only[List.mem_cons,List.not_mem_nil,or_false] at hr
     rcases hr with rfl|rfl|rfl|rfl
     ·simp(disch:=omega) only[xi_,vl_]
     ·simp(disch:=omega) only[xi_,vl_]
     ·exact(ku_ hd hN9).trans (ku_ hd hN8).symm
     ·exact(ku_ (hrf.has (by omega)) hN9).trans (ku_ (hrf.has (by omega)) hN8).symm
    refine kq @x4_ ?_
    refine Cw.permL (M:=(b4,kB_):: (D4++ (DG++ [(ba, .cells (fiC ⟨jY_ k,x,(zx_ S n).data⟩).toArray 36 (0,0)),(b7, .cells (ndC (z7_ (x,n))).toArray 144 (0,0))]))) (by classical exact List.perm_iff_count.2 fun a=>by simp only[List.count_append,List.count_cons,List.count_nil]<;>omega) ?_
    first|with_reducible refine ks [] @x4_ ?_|refine kp @x4_ ?_
    refine Again.mk ⟨j+1,v4,D4,DG++ [(ba, .cells (fiC ⟨jY_ k,x,(zx_ S n).data⟩).toArray 36 (0,0)),(b7, .cells (ndC (z7_ (x,n))).toArray 144 (0,0))]⟩ (by show sn.length - (j+1)<sn.length - j;omega) ⟨hjt,hN4,hNG.app ⟨hwa,hw7,trivial⟩, ?_⟩ rfl rfl
    show Gr D4 36 3 v4 ((ji_ S k).length+j+1) ((ji_ S k++ (zW_ S k).take (j+1)).map fiC).flatten
    rw[hts]
    simpa only[List.map_append,List.map_cons,List.map_nil,List.flatten_append,List.flatten_cons,List.flatten_nil,List.append_nil,List.append_assoc] using hG4
   ·obtain rfl:j=sn.length:=by omega
    have d2:decide ((sn.length:Int)< (sn.length:Int))=false:=decide_eq_false (by omega)
    have hdl2: (zW_ S k).length=sn.length:=by rw[hdf,List.length_map]
    rw[←hdl2,List.take_length] at hGr
    first|with_reducible refine ks [] (And.intro @x4_ (And.intro @rdd (And.intro @lds (And.intro @lns (@d2))))) ?_|refine kp (And.intro @x4_ (And.intro @rdd (And.intro @lds (And.intro @lns (@d2))))) ?_
    refine Again.mk ⟨k+1,v,D,DG⟩ (by show 3 - (k+1)<3 - k;omega) ⟨hlt,hN,hNG, ?_⟩ rfl rfl
    show Gr D 36 3 v (ji_ S k++zW_ S k).length ((ji_ S k++zW_ S k).map fiC).flatten
    rw[List.length_append];exact hGr
  ·obtain rfl:k=3:=by omega
   have d1:decide (((3:Nat):Int)<3)=false:=rfl
   first|with_reducible refine ks [] (And.intro @x4_ @d1) ?_|refine kp (And.intro @x4_ @d1) ?_
   refine⟨_,(ke @x4_), ?_⟩
   exact⟨Ext.of_new (show New w.heap.size ((b4,kB_):: (D++DG)) from⟨hw4,hN.app hNG⟩),hGr.i fun p hp=>List.mem_cons_of_mem _ (List.mem_append_left _ hp)⟩
end Go.Proofs
end
section
open Go Go.Proofs Go.Sx Go.StP
namespace Go.Proofs
set_option maxRecDepth 10000
set_option maxHeartbeats 400000
set_option linter.unusedSimpArgs false
def Wi_ (S:DiskL) (kind:Int) (dir name s:List UInt8):Nat:=
 if zE_ dir=none∨(kind≠3∧qp_ name=false)∨(kind=4∧qp_ s=false) then 1
 else if S.off=true then 9
 else match atD S dir name with
  |some n=>if kind=0 then 7 else if kind=1∧wo_ S n s=true then 8 else 0
  |none=>if kind≠0∧kind≠3 then 6 else 0
def actV (S:DiskL) (kind:Int) (dir name s:List UInt8):DiskL:=
 if kind=0 then Qh_ (k0_ (zm_ S).1 q2_) ((zE_ dir).getD 0) ⟨0,name,[],S.files.length⟩
 else if kind=1 then Zw_ (zm_ S).1 ((atD S dir name).getD 0) ⟨(zx_ S ((atD S dir name).getD 0)).data++s,(zx_ S ((atD S dir name).getD 0)).stl⟩
 else if kind=2 then Zw_ (zm_ S).1 ((atD S dir name).getD 0) ⟨(zx_ S ((atD S dir name).getD 0)).data,(zx_ S ((atD S dir name).getD 0)).data.length⟩
 else if kind=3 then xf_ (zm_ S).1 ((zE_ dir).getD 0)
 else if kind=4 then(if name=s then(zm_ S).1 else Qh_ (zm_ S).1 ((zE_ dir).getD 0) ⟨1,name,s,0⟩)
 else Qh_ (zm_ S).1 ((zE_ dir).getD 0) ⟨2,name,[],0⟩
theorem w3_ (S:DiskL) (dir name:List UInt8):jg_ S dir [name]=if zE_ dir=none∨qp_ name=false then 1 else if S.off=true then 9 else 0:=by
 unfold jg_
 simp
theorem agl_ (S:DiskL) (dir name to:List UInt8):jg_ S dir [name,to]=if zE_ dir=none∨qp_ name=false∨qp_ to=false then 1 else if S.off=true then 9 else 0:=by
 unfold jg_
 cases hf:qp_ name<;>cases ht:qp_ to<;>simp[hf,ht]
theorem apb_ {S:DiskL} {kind:Int} (hk:0≤kind∧kind<6) (dir name s:List UInt8):
  (Wi_ S kind dir name s≠0→doV S kind dir name s=(S,Wi_ S kind dir name s))∧
  (Wi_ S kind dir name s=0→doV S kind dir name s=if(zm_ S).2≠0 then zm_ S else(actV S kind dir name s,0)):=by
 have h6:kind=0∨kind=1∨kind=2∨kind=3∨kind=4∨kind=5:=by omega
 rcases h6 with rfl|rfl|rfl|rfl|rfl|rfl
 ·unfold doV Wi_ actV jT_
  rw[w3_]
  by_cases h1:zE_ dir=none∨qp_ name=false
  ·simp[h1]
  ·by_cases h2:S.off=true
   ·simp[h1,h2]
   ·cases h3:atD S dir name<;>simp[h1,h2]
 ·unfold doV Wi_ actV jf_
  rw[w3_]
  by_cases h1:zE_ dir=none∨qp_ name=false
  ·simp[h1]
  ·by_cases h2:S.off=true
   ·simp[h1,h2]
   ·cases h3:atD S dir name with
    |none=>simp[h1,h2]
    |some n=>
     by_cases h4:wo_ S n s=true
     ·simp[h1,h2,h4]
     ·simp[h1,h2,h4]
 ·unfold doV Wi_ actV ZD_
  rw[w3_]
  by_cases h1:zE_ dir=none∨qp_ name=false
  ·simp[h1]
  ·by_cases h2:S.off=true
   ·simp[h1,h2]
   ·cases h3:atD S dir name<;>simp[h1,h2]
 ·unfold doV Wi_ actV q3_ jg_
  by_cases h1:zE_ dir=none
  ·simp[h1]
  ·by_cases h2:S.off=true
   ·simp[h1,h2]
   ·cases h3:atD S dir name<;>simp[h1,h2]
 ·unfold doV Wi_ actV vZ_
  rw[agl_]
  by_cases h1:zE_ dir=none∨qp_ name=false∨qp_ s=false
  ·simp[h1]
  ·by_cases h2:S.off=true
   ·simp[h1,h2]
   ·cases h3:atD S dir name with
    |none=>simp[h1,h2]
    |some n=>
     have h1a: ¬zE_ dir=none:=fun h=>h1 (.inl h)
     have h1b: ¬qp_ name=false:=fun h=>h1 (.inr (.inl h))
     have h1c: ¬qp_ s=false:=fun h=>h1 (.inr (.inr h))
     by_cases h4:name=s
     ·subst h4
      simp[h1a,h1b,h2]
      exact fun h=>Prod.ext rfl h
     ·simp[h1a,h1b,h1c,h2,h4]
 ·unfold doV Wi_ actV vy_
  rw[w3_]
  by_cases h1:zE_ dir=none∨qp_ name=false
  ·simp[h1]
  ·by_cases h2:S.off=true
   ·simp[h1,h2]
   ·cases h3:atD S dir name<;>simp[h1,h2]
theorem Gr.upd {α:Type} {X:zc_} {E:TypeId} {m:Nat} {v:Value} {enc:α→List Value} {l:List α} (h:Gr X E m v l.length (l.map enc).flatten) (hm: ∀x,(enc x).length=m) {k:Nat} (hk:k<l.length) (x:α):
  ∃b rest c,v=vsl b 0 l.length c∧Sx.look X b=some (j4_ enc E rest l)∧ ∀L,Sx.look L b=some (j4_ enc E rest (l.set k x))→Gr L E m v (l.set k x).length ((l.set k x).map enc).flatten:=by
 rcases h with h| ⟨h,-⟩
 ·generalize hn:l.length=n at h
  generalize hcs: (l.map enc).flatten=cs at h
  cases h with
  |nl=>omega
  | @at_ b n c cs rest hl h1 h2 h3 h4=>
   subst hcs
   refine⟨b,rest,c,rfl,hl,fun L hL=> .inl ?_⟩
   rw[List.length_set,hn]
   exact .at_ hL (by rw[aeZ_ hm,List.length_set,hn]) h2 h3 h4
 ·omega
theorem Jj_ {E:TypeId} {rest:List Value} {l:List FdR} (k:Nat) (hk:k<l.length) (y:List UInt8) (a:Bool):zn_ (some (a,1)) (some (j4_ fdC E rest l)) (k*2) (vs y)=some (j4_ fdC E rest (l.set k {l.getD k fd0 with data:=y})):=by
 obtain⟨A,C,e,hA,e2⟩:=ke_ (z:=fd0) (rest:=rest) q7_ hk
 unfold j4_
 rw[e,e2 {l.getD k fd0 with data:=y}]
 exact zs_ A [vs (l.getD k fd0).data] [vs y] ([vi (l.getD k fd0).stl]++C) a _ E hA rfl rfl rfl rfl
theorem Q4_ {E:TypeId} {rest:List Value} {l:List FdR} (k:Nat) (hk:k<l.length) (y:Int) (a:Bool):zn_ (some (a,1)) (some (j4_ fdC E rest l)) (k*2+1) (vi y)=some (j4_ fdC E rest (l.set k {l.getD k fd0 with stl:=y})):=by
 obtain⟨A,C,e,hA,e2⟩:=ke_ (z:=fd0) (rest:=rest) q7_ hk
 unfold j4_
 rw[e,e2 {l.getD k fd0 with stl:=y}]
 have:=zs_ (A++ [vs (l.getD k fd0).data]) [vi (l.getD k fd0).stl] [vi y] C (o:=k*2+1) (n:=1) a (vi y) E (by rw[List.length_append,hA];rfl) rfl rfl rfl rfl
 rw[List.append_assoc,List.append_assoc] at this
 exact this
theorem kd_ {E:TypeId} {rest:List Value} {l:List FdR} (k:Nat) (hk:k<l.length) (n:Nat):zk_ (some (false,n)) (some (j4_ fdC E rest l)) (k*2)=some (vs (l.getD k fd0).data):=by
 obtain⟨A,C,e,hA,-⟩:=ke_ (z:=fd0) (rest:=rest) q7_ hk
 unfold j4_
 rw[e]
 exact zK_ A ([vi (l.getD k fd0).stl]++C) _ n E (0,0) hA
theorem ac1_ {E:TypeId} {rest:List Value} {l:List FdR} (k:Nat) (hk:k<l.length) (n:Nat):zk_ (some (false,n)) (some (j4_ fdC E rest l)) (k*2+1)=some (vi (l.getD k fd0).stl):=by
 obtain⟨A,C,e,hA,-⟩:=ke_ (z:=fd0) (rest:=rest) q7_ hk
 unfold j4_
 rw[e]
 have:=zK_ (A++ [vs (l.getD k fd0).data]) C (vi (l.getD k fd0).stl) n E (0,0) (o:=k*2+1) (by rw[List.length_append,hA];rfl)
 rw[List.append_assoc] at this
 exact this
theorem anx_: (some 141:Option TypeId)≠some 144:=by decide
theorem apR_: (some 141:Option TypeId)≠some 150:=by decide
theorem aiy_: (some 150:Option TypeId)≠some 144:=by decide
theorem anl_: (some 150:Option TypeId)≠some 141:=by decide
theorem Gr.keep2 {X L:zc_} {E F:TypeId} {m n m' n':Nat} {v u:Value} {cs cs':List Value} (h:Gr X E m v n cs) (hu:Gr X F m' u n' cs') (hne: (some F:Option TypeId)≠some E) {c:Nat} {oc:Obj} (hc:Sx.look X c=some oc) (ht:tyO oc≠some E) (keep: ∀b o,b≠c→slB u≠some b→Sx.look X b=some o→Sx.look L b=some o):Gr L E m v n cs:=h.keep fun b o hb ho=>by
 obtain⟨arr,ha⟩:=kC_ h hb
 refine keep b o ?_ ?_ ho
 ·rintro rfl
  rw[hc] at ha;cases ha;exact ht rfl
 ·intro e
  obtain⟨arr',ha'⟩:=kC_ hu e
  rw[ha] at ha';cases ha';exact hne rfl
theorem DcP.updF {X L:zc_} {G:DcG} {S:DiskL} (h:DcP X G S) {v:Value} {fl:List FileL} (keep: ∀b o,b≠G.bd→slB G.f≠some b→Sx.look X b=some o→Sx.look L b=some o) (hd:Sx.look L G.bd=some (dcO {G with f:=v} {S with files:=fl})) (hf:FdP L v fl):DcP L {G with f:=v} {S with files:=fl} where
 disk:=hd
 seen k hk:=Gr.keep2 (h.seen k hk) h.files anx_ h.disk (by rw[xc_];exact v6_) keep
 stl k hk:=Gr.keep2 (h.stl k hk) h.files anx_ h.disk (by rw[xc_];exact v6_) keep
 pend k hk:=by
  obtain⟨pl,h1,h2⟩:=h.pend k hk
  exact⟨pl,h1,Gr.keep2 h2 h.files apR_ h.disk (by rw[xc_];exact VW_) keep⟩
 files:=hf
 pdis:=h.pdis
theorem DcP.updP {X L:zc_} {G:DcG} {S:DiskL} (h:DcP X G S) {k:Nat} (hk:k<3) {sv pv:Value} {sn:NmL} {pl pl':List CallL} {pd:List CallL} (hpl:KcP X (G.p k) pl)
  (keep: ∀b o,b≠G.bd→slB (G.p k)≠some b→Sx.look X b=some o→Sx.look L b=some o)
  (hd:Sx.look L G.bd=some (dcO (qX_ (jQ_ G k sv) k pv) S)) (hs:NdP L sv sn) (hp:KcP L pv pl') (hn:pl'.map kz_=pd.map kz_)
  (hb: ∀b,slB pv=some b→slB (G.p k)=some b∨b∉keys X):
  DcP L (qX_ (jQ_ G k sv) k pv) (zZ_ S k ⟨sn,(S.dir k).stl,pd⟩) where
 disk:=hd
 seen j hj:=by
  by_cases e:j=k
  ·subst e
   rw[zM_,show(qX_ (jQ_ G j sv) j pv).s j=sv by simp[qX_,jQ_]]
   exact hs
  ·rw[z4_ _ _ e,show(qX_ (jQ_ G k sv) k pv).s j=G.s j by simp[qX_,jQ_,e]]
   exact Gr.keep2 (h.seen j hj) hpl aiy_ h.disk (by rw[xc_];exact v6_) keep
 stl j hj:=by
  have e2: ((zZ_ S k ⟨sn,(S.dir k).stl,pd⟩).dir j).stl=(S.dir j).stl:=by
   by_cases e:j=k
   ·subst e;rw[zM_]
   ·rw[z4_ _ _ e]
  rw[e2]
  exact Gr.keep2 (h.stl j hj) hpl aiy_ h.disk (by rw[xc_];exact v6_) keep
 pend j hj:=by
  by_cases e:j=k
  ·subst e
   rw[zM_,show(qX_ (jQ_ G j sv) j pv).p j=pv by simp[qX_,jQ_]]
   exact⟨pl',hn,hp⟩
  ·rw[z4_ _ _ e,show(qX_ (jQ_ G k sv) k pv).p j=G.p j by simp[qX_,jQ_,e]]
   obtain⟨ql,h1,h2⟩:=h.pend j hj
   refine⟨ql,h1,h2.keep fun b o hb' ho=> ?_⟩
   obtain⟨arr,ha⟩:=kC_ h2 hb'
   refine keep b o ?_ (fun e3=>h.pdis k j hk hj (Ne.symm e) b e3 hb') ho
   rintro rfl
   rw[h.disk] at ha
   have:=congrArg tyO (Option.some.inj ha)
   rw[xc_] at this
   exact VW_ this
 files:=Gr.keep2 h.files hpl anl_ h.disk (by rw[xc_];exact wj_) keep
 pdis i j hi hj hij b:=by
  have key: ∀ {i},i<3→ ∀ {b},slB ((qX_ (jQ_ G k sv) k pv).p i)=some b→slB (G.p i)=some b∨(i=k∧b∉keys X):=fun{i} hi {b} hb'=>by
   by_cases e:i=k
   ·subst e
    rw[show(qX_ (jQ_ G i sv) i pv).p i=pv by simp[qX_,jQ_]] at hb'
    exact(hb b hb').imp id fun h=>⟨rfl,h⟩
   ·rw[show(qX_ (jQ_ G k sv) k pv).p i=G.p i by simp[qX_,jQ_,e]] at hb'
    exact .inl hb'
  intro hi' hj'
  have inX: ∀ {i},i<3→slB (G.p i)=some b→b∈keys X:=fun{i} hi e=>by
   obtain⟨pl,-,h2⟩:=h.pend i hi
   exact h2.key e
  rcases key hi hi' with a| ⟨rfl,a⟩
  ·rcases key hj hj' with c| ⟨rfl,c⟩
   ·exact h.pdis i j hi hj hij b a c
   ·exact c (inX hi a)
  ·rcases key hj hj' with c| ⟨rfl,-⟩
   ·exact a (inX hj c)
   ·exact hij rfl
end Go.Proofs
end
section
open Go Go.Proofs Go.Sx Go.StP
namespace Go.Proofs
set_option maxRecDepth 10000
set_option maxHeartbeats 400000
set_option linter.unusedSimpArgs false
structure PkL where
 v:Value
 l:List UInt16
 h:Value.oneCell' v=true∧v.cells= #[v]
def pk0:PkL:=⟨.slice none 0 0,[],rfl,rfl⟩
structure ActL where
 kind:Int
 n:Int
 dir:List UInt8
 name:List UInt8
 s:List UInt8
 picks:PkL
def acC (r:ActL):List Value:= [vi r.kind]++ ([vi r.n]++ ([vs r.dir]++ ([vs r.name]++ ([vs r.s]++ ([r.picks.v])))))
def ac0:ActL:=⟨0,0,[],[],[],pk0⟩
theorem J8_ (r:ActL): (acC r).length=6:=by simp[acC]
theorem Zd_ (r:ActL):Value.cells (.agg (acC r).toArray)=(acC r).toArray:=zj_ _
theorem an5_ (r:ActL): (acC r).all Value.oneCell'=true:=by
 unfold acC
 simp only[List.all_append,List.all_cons,List.all_nil,v5_,Bool.and_true,Bool.true_and]
 rw[r.picks.h.1];rfl
theorem zrAc:zL_ Tryz.prog 31=some (.agg (acC ac0).toArray):=id (by kernel_rfl)
theorem ap8_ (r:ActL):acC r=([]:List Value)++ (([vi r.kind])++ ([vi r.n]++ ([vs r.dir]++ ([vs r.name]++ ([vs r.s]++ ([r.picks.v])))))):=by
 unfold acC;simp only[List.append_assoc,List.nil_append,List.append_nil]
theorem w1_ (r:ActL) (n:Nat) (E:TypeId) (fz:Nat×Nat):zk_ (some (false,n)) (some (.cells (acC r).toArray E fz)) 0=some (vi r.kind):=by
 rw[ap8_];exact zK_ _ _ _ n E fz (by simp)
theorem aqf_ (r:ActL):acC r=(([vi r.kind]))++ (([vi r.n])++ ([vs r.dir]++ ([vs r.name]++ ([vs r.s]++ ([r.picks.v]))))):=by
 unfold acC;simp only[List.append_assoc,List.nil_append,List.append_nil]
theorem JD_ (r:ActL) (n:Nat) (E:TypeId) (fz:Nat×Nat):zk_ (some (false,n)) (some (.cells (acC r).toArray E fz)) 1=some (vi r.n):=by
 rw[aqf_];exact zK_ _ _ _ n E fz (by simp)
theorem aqr_ (r:ActL):acC r=(([vi r.kind])++ ([vi r.n]))++ (([vs r.dir])++ ([vs r.name]++ ([vs r.s]++ ([r.picks.v])))):=by
 unfold acC;simp only[List.append_assoc,List.nil_append,List.append_nil]
theorem J0_ (r:ActL) (n:Nat) (E:TypeId) (fz:Nat×Nat):zk_ (some (false,n)) (some (.cells (acC r).toArray E fz)) 2=some (vs r.dir):=by
 rw[aqr_];exact zK_ _ _ _ n E fz (by simp)
theorem arf_ (r:ActL):acC r=(([vi r.kind])++ ([vi r.n])++ ([vs r.dir]))++ (([vs r.name])++ ([vs r.s]++ ([r.picks.v]))):=by
 unfold acC;simp only[List.append_assoc,List.nil_append,List.append_nil]
theorem JT_ (r:ActL) (n:Nat) (E:TypeId) (fz:Nat×Nat):zk_ (some (false,n)) (some (.cells (acC r).toArray E fz)) 3=some (vs r.name):=by
 rw[arf_];exact zK_ _ _ _ n E fz (by simp)
theorem aqc_ (r:ActL):acC r=(([vi r.kind])++ ([vi r.n])++ ([vs r.dir])++ ([vs r.name]))++ (([vs r.s])++ ([r.picks.v])):=by
 unfold acC;simp only[List.append_assoc,List.nil_append,List.append_nil]
theorem JI_ (r:ActL) (n:Nat) (E:TypeId) (fz:Nat×Nat):zk_ (some (false,n)) (some (.cells (acC r).toArray E fz)) 4=some (vs r.s):=by
 rw[aqc_];exact zK_ _ _ _ n E fz (by simp)
theorem aq8_ (r:ActL):acC r=(([vi r.kind])++ ([vi r.n])++ ([vs r.dir])++ ([vs r.name])++ ([vs r.s]))++ (([r.picks.v])++ (([]:List Value))):=by
 unfold acC;simp only[List.append_assoc,List.nil_append,List.append_nil]
theorem WL_ (r:ActL) (n:Nat) (E:TypeId) (fz:Nat×Nat):zk_ (some (false,n)) (some (.cells (acC r).toArray E fz)) 5=some (r.picks.v):=by
 rw[aq8_];exact zK_ _ _ _ n E fz (by simp)
theorem QB_ (r:ActL) (E:TypeId) (fz:Nat×Nat):zk_ (some (true,6)) (some (.cells (acC r).toArray E fz)) 0=some (.agg (acC r).toArray):=jP_ _ E fz 6 (by rw[List.size_toArray,J8_])
theorem alF_ (old:Array Value) (r:ActL) (a:Bool) (E:TypeId) (h:old.size=6):zn_ (some (a,6)) (some (.cells old E (0,0))) 0 (.agg (acC r).toArray)=some (.cells (acC r).toArray E (0,0)):=q4_ _ a old E (J8_ r) (an5_ r) h
theorem Xw_ (r r':ActL) (a:Bool) (E:TypeId):zn_ (some (a,6)) (some (.cells (acC r').toArray E (0,0))) 0 (.agg (acC r).toArray)=some (.cells (acC r).toArray E (0,0)):=alF_ _ r a E (by rw[List.size_toArray,J8_])
theorem aqJ_ {w:World} {v:Value} {l:List ActL} {b off:Nat} {arr:Array Value} {E:TypeId} {fz:Nat×Nat} (h:RowS 6 acC ac0 w v l b off arr E fz) {k:Nat} (hk:k<l.length):zk_ (some (true,6)) (some (.cells arr E fz)) (off+k*6)=some (.agg (acC (l.getD k ac0)).toArray):=RowS.load h J8_ (by omega) hk
abbrev AcSl (w:World) (v:Value) (l:List ActL):Prop:=SlV 6 acC ac0 w v l
structure ActOk (w:World) (a:ActL):Prop where
 pk:PkS w a.picks.v a.picks.l
 n: -9223372036854775808≤a.n∧a.n<9223372036854775808
def Wc_ (a:ActL):Bool:=decide (200<a.name.length) ||decide (2000<a.s.length) ||decide (50<a.dir.length) ||decide (100<a.picks.l.length)
def doA (S:DiskL) (a:ActL):DiskL×Nat:=
 if a.kind.tmod 9=6 then({S with fuse:=a.n,fused:=decide (0≤a.n)},0) else if a.kind.tmod 9=7 then(xq_ S a.picks.l,0) else if a.kind.tmod 9=8 then({S with max:=a.n},0) else doV S (a.kind.tmod 9) a.dir a.name a.s
theorem PkS.blk {w:World} {v:Value} {l:List UInt16} (h:PkS w v l) (hl:l≠ []) {b:Nat} (hb:slB v=some b):b<w.heap.size:=by
 obtain⟨b',off,c,arr,E,fz,hr,hc,⟨rfl,rfl,rfl⟩ | ⟨rfl,hh,-⟩⟩:=h.resolve_right fun e=>hl e.1
 ·exact absurd rfl hl
 ·cases hb
  exact(Array.getElem?_eq_some_iff.1 hh).1
set_option linter.defProp false
def ZH_:=And.intro (And.intro (And.intro (@zg_) (@zf_)) (And.intro (@QB_) (And.intro (@w1_) (@JD_)))) (And.intro (And.intro (@J0_) (@JT_)) (And.intro (@JI_) (And.intro (@WL_) (@Zd_))))
theorem adj_ (a:ActL) (w:World) (ha:ActOk w a):Rets Tryz.prog 17 #[.agg (acC a).toArray] w (fun v D=>v= .bool (Wc_ a)∧D= []):=by
 have lnp:=ha.pk.len
 refine Rets.enterV Tryz.func17 rfl (rs:= [.tmp 2]) Tryz.results17 Tryz.ntmps17 ?_
 refine kf ?_
 first|with_reducible refine ks [1] @ZH_ ?_|refine kp @ZH_ ?_
 refine Ow.box rfl rfl fun b1 hb1 hw1=> ?_
 simp only[qv_,qu_,qA_,zj_,List.nil_append,List.cons_append]
 refine Ow.go rfl ?_
 simp(disch:=(first|assumption|omega| (simp only[KC_,XQ_,UInt64.reduceToNat];try omega))) only[↓Sx.S0,Sx.S1,Tryz.fx,ZH_,Nat.reduceAdd,Nat.reducePow,Int.reducePow,Nat.reduceBEq, ↓reduceIte,UInt8.reduceToNat,UInt16.reduceToNat,UInt32.reduceToNat,UInt64.reduceToNat,Int.reduceToNat]
 unfold Wc_
 cases h1:decide ((200:Int)< (a.name.length:Int)) with
 |true=>
  first|with_reducible refine ks [] (And.intro @ZH_ @h1) ?_|refine kp (And.intro @ZH_ @h1) ?_
  refine⟨_,(ke @ZH_),⟨hw1,trivial⟩, ?_⟩
  (rw[decide_eq_true (show 200<a.name.length by have:=of_decide_eq_true h1;omega)];rfl)
 |false=>
  have g1:decide (200<a.name.length)=false:=decide_eq_false (by have:=of_decide_eq_false h1;omega)
  cases h2:decide ((2000:Int)< (a.s.length:Int)) with
  |true=>
   first|with_reducible refine ks [] (And.intro @ZH_ (And.intro @h1 (@h2))) ?_|refine kp (And.intro @ZH_ (And.intro @h1 (@h2))) ?_
   refine⟨_,(ke @ZH_),⟨hw1,trivial⟩, ?_⟩
   (rw[decide_eq_true (show 2000<a.s.length by have:=of_decide_eq_true h2;omega),g1];rfl)
  |false=>
   have g2:decide (2000<a.s.length)=false:=decide_eq_false (by have:=of_decide_eq_false h2;omega)
   cases h3:decide ((50:Int)< (a.dir.length:Int)) with
   |true=>
    first|with_reducible refine ks [] (And.intro @ZH_ (And.intro @h1 (And.intro @h2 (@h3)))) ?_|refine kp (And.intro @ZH_ (And.intro @h1 (And.intro @h2 (@h3)))) ?_
    refine⟨_,(ke @ZH_),⟨hw1,trivial⟩, ?_⟩
    (rw[decide_eq_true (show 50<a.dir.length by have:=of_decide_eq_true h3;omega),g1,g2];rfl)
   |false=>
    have g3:decide (50<a.dir.length)=false:=decide_eq_false (by have:=of_decide_eq_false h3;omega)
    have g4:decide (100<a.picks.l.length)=decide ((100:Int)< (a.picks.l.length:Int)):=by
     congr 1
     rw[eq_iff_iff];omega
    first|with_reducible refine ks [] (And.intro @ZH_ (And.intro @h1 (And.intro @h2 (And.intro @h3 (@lnp))))) ?_|refine kp (And.intro @ZH_ (And.intro @h1 (And.intro @h2 (And.intro @h3 (@lnp))))) ?_
    refine⟨_,(ke @ZH_),⟨hw1,trivial⟩, ?_⟩
    (rw[g1,g2,g3,g4];rfl)
structure DkA (X:zc_) (G:DkG) (S:DiskL) (N:Nat):Prop where
 P:DkP X G S
 H:j7_ S
 B:DkN N S
theorem DkA.pend {X:zc_} {G:DkG} {S:DiskL} {N:Nat} (h:DkA X G S N) (hN:N<1000000): ∀k,k<3→(S.dir k).pend.length<1000000:=fun k _=>by
 have:=(h.B k).stl
 omega
theorem DkA.used {X:zc_} {G:DkG} {S:DiskL} {N:Nat} (h:DkA X G S N) (hN:N<1000000):kn_ S<4611686018427387904:=by
 have:=am8_ h.P.ok h.B
 omega
theorem DkA.mono {X X':zc_} {G:DkG} {S:DiskL} {N:Nat} (h:DkA X G S N) (hk: ∀b o,Sx.look X b=some o→Sx.look X' b=some o):DkA X' G S N:=⟨h.P.mono hk,h.H,h.B⟩
theorem DkA.b {X:zc_} {G:DkG} {S:DiskL} {N:Nat} (h:DkA X G S N) (hN:N<1000000):DkB S:=h.B.b (by omega)
theorem xy_ {S:DiskL} (h:j7_ S) (a:ActL):j7_ (doA S a).1:=by
 unfold doA
 split
 ·exact xo_ h rfl
 split
 ·exact VP_ h _
 split
 ·exact xo_ h rfl
 ·exact ajZ_ h (ad9_ S _ _ _ _)
theorem kY_ {S:DiskL} {N:Nat} (h:DkN N S) {a:ActL} (hn:a.name.length≤1000000) (hs:a.s.length≤1000000):DkN (N+1) (doA S a).1:=by
 unfold doA
 split
 ·exact wk_ (xQ_ h rfl)
 split
 ·exact wk_ (aaA_ h _)
 split
 ·exact wk_ (xQ_ h rfl)
 ·exact alh_ h hn hs (ad9_ S _ _ _ _)
theorem Z1_ {a:ActL} (h:Wc_ a=false):a.name.length≤200∧a.s.length≤2000∧a.dir.length≤50∧a.picks.l.length≤100:=by
 unfold Wc_ at h
 simp only[Bool.or_eq_false_iff,decide_eq_false_iff_not] at h
 omega
end Go.Proofs
end
section
open Go Go.Proofs Go.Sx Go.StP
namespace Go.Proofs
set_option maxRecDepth 10000
set_option maxHeartbeats 400000
set_option linter.unusedSimpArgs false
set_option linter.defProp false
def zU_:=And.intro (And.intro (And.intro (@zg_) (@zf_)) (And.intro (@QB_) (And.intro (@w1_) (@JD_)))) (And.intro (And.intro (@J0_) (@JT_)) (And.intro (@JI_) (And.intro (@WL_) (@Zd_))))
theorem afI_ {w:World} {X D:zc_} {b:Nat} {o:Obj} (h:Ext w X D) (hb:w.heap.size≤b):Ext w X ((b,o)::D):=
 ⟨fun c hc=>by
  rcases List.mem_cons.1 hc with rfl|hc
  ·exact .inr hb
  ·exact h.new c hc,fun c hc=>List.mem_cons_of_mem _ (h.all c hc)⟩
theorem rem9 (a:Int):zq_ .rem (vi a) (vi 9)=some (vi (a.tmod 9)):=by
 unfold vi zq_
 rfl
theorem ag3_ (X:zc_) (G:DkG) (S:DiskL) (N:Nat) (a:ActL) (w:World) (hX: ∀p,p∈X→w.heap[p.1]? =some p.2) (hn: (keys X).Nodup) (hA:DkA X G S N) (hN:N<900000) (hGl:Qg_ w) (hgx:0∉keys X) (ha:ActOk w a) (g1:a.name.length≤200) (g2:a.s.length≤2000) (g7:a.kind.tmod 9=7→a.picks.l.length≤100) (hpx:PkB w X a.picks.l a.picks.v):
  Rets Tryz.prog 18 #[vp G.bd 0, .agg (acC a).toArray] w (XS w X (fun v D=>v=vi ((doA S a).2:Nat)∧ ∃G',G'.bd=G.bd∧DkA D G' (doA S a).1 (N+1))):=by
 have hpd:=hA.pend (by omega)
 have hus:=hA.used (by omega)
 refine Rets.enterX Tryz.func18 rfl (rs:= [.tmp 4]) Tryz.results18 Tryz.ntmps18 hX hn ?_
 refine kf ?_
 first|with_reducible refine ks [1] @zU_ ?_|refine kp @zU_ ?_
 refine Ow.box rfl rfl fun b3 hb3 hw3=> ?_
 simp only[qv_,qu_,qA_,zj_,List.nil_append,List.cons_append]
 refine Ow.permL (M:=(b3, .cells (acC a).toArray 31 (0,0))::X) (by classical exact List.perm_iff_count.2 fun a=>by simp only[List.count_append,List.count_cons,List.count_nil]<;>omega) ?_
 refine ko @zU_ ?_
 have hP1:DkP ((b3, .cells (acC a).toArray 31 (0,0))::X) G S:=hA.P.mono fun b o h=>xw_ hb3 h
 have hE1:Ext w X ((b3, .cells (acC a).toArray 31 (0,0))::X):=afI_ (Ext.refl w X) hw3
 have hl3: ∀Y:zc_,zA_ w ((b3, .cells (acC a).toArray 31 (0,0))::Y) b3=some (.cells (acC a).toArray 31 (0,0)):=fun Y=>za_ (by simp[Sx.look])
 have rdh:=hl3 X
 have hpx1:PkB w ((b3, .cells (acC a).toArray 31 (0,0))::X) a.picks.l a.picks.v:=fun h b hb=>⟨(hpx h b hb).1,fun hm=>by
  rcases List.mem_cons.1 hm with hm|hm
  ·have:=(hpx h b hb).1
   simp only at hm
   omega
  ·exact(hpx h b hb).2 hm⟩
 have hgx1:0∉keys ((b3, .cells (acC a).toArray 31 (0,0))::X):=fun hm=>by
  obtain⟨e,fz,hgl⟩:=hGl
  have hlt:=(Array.getElem?_eq_some_iff.1 hgl).1
  rcases List.mem_cons.1 hm with hm|hm
  ·omega
  ·exact hgx hm
 have hrem:=rem9 a.kind
 generalize hL1: ((b3,Obj.cells (acC a).toArray 31 (0,0))::X)=L1 at*
 by_cases k0:a.kind.tmod 9=0
 ·have e0: (a.kind.tmod 9==0)=true:=beq_iff_eq.2 k0
  have hd:doA S a=jT_ S a.dir a.name:=by unfold doA doV;simp[k0]
  first|with_reducible refine ks [] (And.intro @zU_ (And.intro @rdh (And.intro @hrem (@e0)))) ?_|refine kp (And.intro @zU_ (And.intro @rdh (And.intro @hrem (@e0)))) ?_
  refine Ow.callX (X:=L1) (Y:= []) (List.append_nil _).symm rfl rfl Tryz.call72 (fun w' hw' hX' hn'=>Jh_ L1 G S a.dir a.name w' hX' hn' hP1 (by omega) hpd) (fun v4 D4 hC4 hS4=> ?_)
  obtain⟨rfl,G',hbd,hP'⟩:=hS4
  rw[List.append_nil]
  refine ko @zU_ ?_
  first|with_reducible refine ks [] @zU_ ?_|refine kp @zU_ ?_
  refine⟨_,(ke @zU_), ?_⟩
  exact⟨hE1.came0 hC4,by rw[hd];rfl,G',hbd,by rw[hd];exact hP',xy_ hA.H a,kY_ hA.B (a:=a) (by omega) (by omega)⟩
 have e0: (a.kind.tmod 9==0)=false:=beq_eq_false_iff_ne.2 k0
 by_cases k1:a.kind.tmod 9=1
 ·have e1: (a.kind.tmod 9==1)=true:=beq_iff_eq.2 k1
  have hd:doA S a=jf_ S a.dir a.name a.s:=by unfold doA doV;simp[k1]
  first|with_reducible refine ks [] (And.intro @zU_ (And.intro @rdh (And.intro @hrem (And.intro @e0 (@e1))))) ?_|refine kp (And.intro @zU_ (And.intro @rdh (And.intro @hrem (And.intro @e0 (@e1))))) ?_
  refine Ow.callX (X:=L1) (Y:= []) (List.append_nil _).symm rfl rfl Tryz.call73 (fun w' hw' hX' hn'=>kH_ L1 G S a.dir a.name a.s w' hX' hn' hP1 (by omega) (by omega) hus) (fun v4 D4 hC4 hS4=> ?_)
  obtain⟨rfl,hP'⟩:=hS4
  have hbd:G.bd=G.bd:=rfl
  rw[List.append_nil]
  refine ko @zU_ ?_
  first|with_reducible refine ks [] @zU_ ?_|refine kp @zU_ ?_
  refine⟨_,(ke @zU_), ?_⟩
  exact⟨hE1.came0 hC4,by rw[hd];rfl,G,rfl,by rw[hd];exact hP',xy_ hA.H a,kY_ hA.B (a:=a) (by omega) (by omega)⟩
 have e1: (a.kind.tmod 9==1)=false:=beq_eq_false_iff_ne.2 k1
 by_cases k2:a.kind.tmod 9=2
 ·have e2: (a.kind.tmod 9==2)=true:=beq_iff_eq.2 k2
  have hd:doA S a=ZD_ S a.dir a.name:=by unfold doA doV;simp[k2]
  first|with_reducible refine ks [] (And.intro @zU_ (And.intro @rdh (And.intro @hrem (And.intro @e0 (And.intro @e1 (@e2)))))) ?_|refine kp (And.intro @zU_ (And.intro @rdh (And.intro @hrem (And.intro @e0 (And.intro @e1 (@e2)))))) ?_
  refine Ow.callX (X:=L1) (Y:= []) (List.append_nil _).symm rfl rfl Tryz.call20 (fun w' hw' hX' hn'=>VK_ L1 G S a.dir a.name w' hX' hn' hP1 (by omega)) (fun v4 D4 hC4 hS4=> ?_)
  obtain⟨rfl,hP'⟩:=hS4
  have hbd:G.bd=G.bd:=rfl
  rw[List.append_nil]
  refine ko @zU_ ?_
  first|with_reducible refine ks [] @zU_ ?_|refine kp @zU_ ?_
  refine⟨_,(ke @zU_), ?_⟩
  exact⟨hE1.came0 hC4,by rw[hd];rfl,G,rfl,by rw[hd];exact hP',xy_ hA.H a,kY_ hA.B (a:=a) (by omega) (by omega)⟩
 have e2: (a.kind.tmod 9==2)=false:=beq_eq_false_iff_ne.2 k2
 by_cases k3:a.kind.tmod 9=3
 ·have e3: (a.kind.tmod 9==3)=true:=beq_iff_eq.2 k3
  have hd:doA S a=q3_ S a.dir:=by unfold doA doV;simp[k3]
  first|with_reducible refine ks [] (And.intro @zU_ (And.intro @rdh (And.intro @hrem (And.intro @e0 (And.intro @e1 (And.intro @e2 (@e3))))))) ?_|refine kp (And.intro @zU_ (And.intro @rdh (And.intro @hrem (And.intro @e0 (And.intro @e1 (And.intro @e2 (@e3))))))) ?_
  refine Ow.callX (X:=L1) (Y:= []) (List.append_nil _).symm rfl rfl Tryz.call21 (fun w' hw' hX' hn'=>Z2_ L1 G S a.dir w' hX' hn' hP1) (fun v4 D4 hC4 hS4=> ?_)
  obtain⟨rfl,G',hbd,hP'⟩:=hS4
  rw[List.append_nil]
  refine ko @zU_ ?_
  first|with_reducible refine ks [] @zU_ ?_|refine kp @zU_ ?_
  refine⟨_,(ke @zU_), ?_⟩
  exact⟨hE1.came0 hC4,by rw[hd];rfl,G',hbd,by rw[hd];exact hP',xy_ hA.H a,kY_ hA.B (a:=a) (by omega) (by omega)⟩
 have e3: (a.kind.tmod 9==3)=false:=beq_eq_false_iff_ne.2 k3
 by_cases k4:a.kind.tmod 9=4
 ·have e4: (a.kind.tmod 9==4)=true:=beq_iff_eq.2 k4
  have hd:doA S a=vZ_ S a.dir a.name a.s:=by unfold doA doV;simp[k4]
  first|with_reducible refine ks [] (And.intro @zU_ (And.intro @rdh (And.intro @hrem (And.intro @e0 (And.intro @e1 (And.intro @e2 (And.intro @e3 (@e4)))))))) ?_|refine kp (And.intro @zU_ (And.intro @rdh (And.intro @hrem (And.intro @e0 (And.intro @e1 (And.intro @e2 (And.intro @e3 (@e4)))))))) ?_
  refine Ow.callX (X:=L1) (Y:= []) (List.append_nil _).symm rfl rfl Tryz.call76 (fun w' hw' hX' hn'=>ab7_ L1 G S a.dir a.name a.s w' hX' hn' hP1 (by omega) (by omega) hpd) (fun v4 D4 hC4 hS4=> ?_)
  obtain⟨rfl,G',hbd,hP'⟩:=hS4
  rw[List.append_nil]
  refine ko @zU_ ?_
  first|with_reducible refine ks [] @zU_ ?_|refine kp @zU_ ?_
  refine⟨_,(ke @zU_), ?_⟩
  exact⟨hE1.came0 hC4,by rw[hd];rfl,G',hbd,by rw[hd];exact hP',xy_ hA.H a,kY_ hA.B (a:=a) (by omega) (by omega)⟩
 have e4: (a.kind.tmod 9==4)=false:=beq_eq_false_iff_ne.2 k4
 by_cases k5:a.kind.tmod 9=5
 ·have e5: (a.kind.tmod 9==5)=true:=beq_iff_eq.2 k5
  have hd:doA S a=vy_ S a.dir a.name:=by unfold doA doV;simp[k5]
  first|with_reducible refine ks [] (And.intro @zU_ (And.intro @rdh (And.intro @hrem (And.intro @e0 (And.intro @e1 (And.intro @e2 (And.intro @e3 (And.intro @e4 (@e5))))))))) ?_|refine kp (And.intro @zU_ (And.intro @rdh (And.intro @hrem (And.intro @e0 (And.intro @e1 (And.intro @e2 (And.intro @e3 (And.intro @e4 (@e5))))))))) ?_
  refine Ow.callX (X:=L1) (Y:= []) (List.append_nil _).symm rfl rfl Tryz.call77 (fun w' hw' hX' hn'=>abY_ L1 G S a.dir a.name w' hX' hn' hP1 (by omega) hpd) (fun v4 D4 hC4 hS4=> ?_)
  obtain⟨rfl,G',hbd,hP'⟩:=hS4
  rw[List.append_nil]
  refine ko @zU_ ?_
  first|with_reducible refine ks [] @zU_ ?_|refine kp @zU_ ?_
  refine⟨_,(ke @zU_), ?_⟩
  exact⟨hE1.came0 hC4,by rw[hd];rfl,G',hbd,by rw[hd];exact hP',xy_ hA.H a,kY_ hA.B (a:=a) (by omega) (by omega)⟩
 have e5: (a.kind.tmod 9==5)=false:=beq_eq_false_iff_ne.2 k5
 by_cases k6:a.kind.tmod 9=6
 ·have e6: (a.kind.tmod 9==6)=true:=beq_iff_eq.2 k6
  have hd:doA S a=({S with fuse:=a.n,fused:=decide (0≤a.n)},0):=by unfold doA doV;simp[k6]
  first|with_reducible refine ks [] (And.intro @zU_ (And.intro @rdh (And.intro @hrem (And.intro @e0 (And.intro @e1 (And.intro @e2 (And.intro @e3 (And.intro @e4 (And.intro @e5 (@e6)))))))))) ?_|refine kp (And.intro @zU_ (And.intro @rdh (And.intro @hrem (And.intro @e0 (And.intro @e1 (And.intro @e2 (And.intro @e3 (And.intro @e4 (And.intro @e5 (@e6)))))))))) ?_
  refine Ow.callX (X:=L1) (Y:= []) (List.append_nil _).symm rfl rfl Tryz.call37 (fun w' hw' hX' hn'=>af0_ L1 G S a.n w' hX' hn' hP1 ha.n) (fun v4 D4 hC4 hS4=> ?_)
  obtain⟨-,G',hbd,hP'⟩:=hS4
  rw[List.append_nil]
  refine ko @zU_ ?_
  first|with_reducible refine ks [] @zU_ ?_|refine kp @zU_ ?_
  refine⟨_,(ke @zU_), ?_⟩
  exact⟨hE1.came0 hC4,by rw[hd];rfl,G',hbd,by rw[hd];exact hP',xy_ hA.H a,kY_ hA.B (a:=a) (by omega) (by omega)⟩
 have e6: (a.kind.tmod 9==6)=false:=beq_eq_false_iff_ne.2 k6
 by_cases k7:a.kind.tmod 9=7
 ·have e7: (a.kind.tmod 9==7)=true:=beq_iff_eq.2 k7
  have hd:doA S a=(xq_ S a.picks.l,0):=by unfold doA doV;simp[k7]
  first|with_reducible refine ks [] (And.intro @zU_ (And.intro @rdh (And.intro @hrem (And.intro @e0 (And.intro @e1 (And.intro @e2 (And.intro @e3 (And.intro @e4 (And.intro @e5 (And.intro @e6 (@e7))))))))))) ?_|refine kp (And.intro @zU_ (And.intro @rdh (And.intro @hrem (And.intro @e0 (And.intro @e1 (And.intro @e2 (And.intro @e3 (And.intro @e4 (And.intro @e5 (And.intro @e6 (@e7))))))))))) ?_
  obtain⟨eg,fg,hgl⟩:=hGl
  have g4:=g7 k7
  refine Ow.callX (X:=L1) (Y:= []) (List.append_nil _).symm rfl rfl Tryz.call22 (fun w' hw' hX' hn'=>Xi_ L1 G S a.picks.v a.picks.l w' hX' hn' hP1 ⟨_,_,(hw'.old _ (Array.getElem?_eq_some_iff.1 hgl).1 hgx1).trans hgl⟩ hgx1 ((x6_ (q:=(S,a.picks.l)) hA.B 3).b (by omega)) (ha.pk.old hw' fun h b hb=>(hpx1 h b hb).2) (fun h b hb=>⟨Nat.lt_of_lt_of_le (hpx1 h b hb).1 hw'.size,(hpx1 h b hb).2⟩) (by omega) (fun k hk=>⟨(hA.H k).2,hpd k hk⟩)) (fun v4 D4 hC4 hS4=> ?_)
  obtain⟨G',hbd,hP'⟩:=hS4
  rw[List.append_nil]
  refine ko @zU_ ?_
  first|with_reducible refine ks [] @zU_ ?_|refine kp @zU_ ?_
  refine⟨_,(ke @zU_), ?_⟩
  exact⟨hE1.came0 hC4,by rw[hd];rfl,G',hbd,by rw[hd];exact hP',xy_ hA.H a,kY_ hA.B (a:=a) (by omega) (by omega)⟩
 have e7: (a.kind.tmod 9==7)=false:=beq_eq_false_iff_ne.2 k7
 by_cases k8:a.kind.tmod 9=8
 ·have e8: (a.kind.tmod 9==8)=true:=beq_iff_eq.2 k8
  have hd:doA S a=({S with max:=a.n},0):=by unfold doA doV;simp[k8]
  first|with_reducible refine ks [] (And.intro @zU_ (And.intro @rdh (And.intro @hrem (And.intro @e0 (And.intro @e1 (And.intro @e2 (And.intro @e3 (And.intro @e4 (And.intro @e5 (And.intro @e6 (And.intro @e7 (@e8)))))))))))) ?_|refine kp (And.intro @zU_ (And.intro @rdh (And.intro @hrem (And.intro @e0 (And.intro @e1 (And.intro @e2 (And.intro @e3 (And.intro @e4 (And.intro @e5 (And.intro @e6 (And.intro @e7 (@e8)))))))))))) ?_
  refine Ow.callX (X:=L1) (Y:= []) (List.append_nil _).symm rfl rfl Tryz.call78 (fun w' hw' hX' hn'=>acF_ L1 G S a.n w' hX' hn' hP1 ha.n) (fun v4 D4 hC4 hS4=> ?_)
  obtain⟨-,G',hbd,hP'⟩:=hS4
  rw[List.append_nil]
  refine ko @zU_ ?_
  first|with_reducible refine ks [] @zU_ ?_|refine kp @zU_ ?_
  refine⟨_,(ke @zU_), ?_⟩
  exact⟨hE1.came0 hC4,by rw[hd];rfl,G',hbd,by rw[hd];exact hP',xy_ hA.H a,kY_ hA.B (a:=a) (by omega) (by omega)⟩
 have e8: (a.kind.tmod 9==8)=false:=beq_eq_false_iff_ne.2 k8
 have hd:doA S a=(S,0):=by unfold doA doV;simp[k0,k1,k2,k3,k4,k5,k6,k7,k8]
 first|with_reducible refine ks [] (And.intro @zU_ (And.intro @rdh (And.intro @hrem (And.intro @e0 (And.intro @e1 (And.intro @e2 (And.intro @e3 (And.intro @e4 (And.intro @e5 (And.intro @e6 (And.intro @e7 (@e8)))))))))))) ?_|refine kp (And.intro @zU_ (And.intro @rdh (And.intro @hrem (And.intro @e0 (And.intro @e1 (And.intro @e2 (And.intro @e3 (And.intro @e4 (And.intro @e5 (And.intro @e6 (And.intro @e7 (@e8)))))))))))) ?_
 refine⟨_,(ke @zU_), ?_⟩
 exact⟨hE1,by rw[hd];rfl,G,rfl,by rw[hd];exact hP1,xy_ hA.H a,kY_ hA.B (a:=a) (by omega) (by omega)⟩
theorem aiB_ (X:zc_) (G:DkG) (S:DiskL) (N:Nat) (a:ActL) (w:World) (hX: ∀p,p∈X→w.heap[p.1]? =some p.2) (hn: (keys X).Nodup) (hA:DkA X G S N) (hN:N<900000) (hGl:Qg_ w) (hgx:0∉keys X) (ha:ActOk w a) (hg:Wc_ a=false) (hpx:PkB w X a.picks.l a.picks.v):
  Rets Tryz.prog 18 #[vp G.bd 0, .agg (acC a).toArray] w (XS w X (fun v D=>v=vi ((doA S a).2:Nat)∧ ∃G',G'.bd=G.bd∧DkA D G' (doA S a).1 (N+1))):=
 ag3_ X G S N a w hX hn hA hN hGl hgx ha (Z1_ hg).1 (Z1_ hg).2.1 (fun _=>(Z1_ hg).2.2.2) hpx
end Go.Proofs
end
section
open Go Go.Proofs Go.Sx Go.StP
namespace Go.Proofs
set_option maxRecDepth 10000
set_option maxHeartbeats 1000000
set_option linter.unusedSimpArgs false
theorem aih_ (kd:Int) (a b:List UInt8):jk_ (vw_ Tryz.prog 150) (zL_ Tryz.prog 150) [(0,vi kd),(1,vs a),(2,vs b)]=some (.agg (kcC ⟨kd,a,b,0⟩).toArray):=by
 rw[show vw_ Tryz.prog 150=some [(0,1),(1,1),(2,1),(3,1)] from id (by kernel_rfl),Tryz.zr150];rfl
theorem ajI_:jk_ (vw_ Tryz.prog 141) (zL_ Tryz.prog 141) []=some (.agg (fdC fd0).toArray):=by
 rw[show vw_ Tryz.prog 141=some [(0,1),(1,1)] from id (by kernel_rfl),Tryz.zr141];rfl
structure DoG where
 c:KcR
 S:DiskL
 G:DcG
 X:zc_
def DoS (G:DcG) (R:DiskL×Nat) (v:Value) (D:zc_):Prop:=v=vi (R.2:Nat)∧ ∃G',G'.bd=G.bd∧DcP D G' R.1
def DoJ (S0 T:DiskL) (k:Nat) (c:KcR) (S:DiskL):Prop:=(c.kind= -1∧S=T)∨S.dir=S0.dir∧ ∃d:CallL,c=Vc_ d∧T=Qh_ S k (kz_ d)∧d.kind<3∧(d.kind=1→zC_ (S.dir k).seen d.a≠none)
set_option linter.defProp false
def zr_:=And.intro (And.intro (And.intro (And.intro (@zg_) (@zf_)) (And.intro (@kJ_) (And.intro (@x2_) (@kQ_)))) (And.intro (And.intro (@kX_) (And.intro (@Qp_) (@QH_))) (And.intro (@Qm_) (And.intro (@wP_) (@akz_))))) (And.intro (And.intro (And.intro (@ae7_) (@afi_)) (And.intro (@aft_) (And.intro (@ae2_) (@ajf_)))) (And.intro (And.intro (@ah2_) (And.intro (@aja_) (@ajS_))) (And.intro (@akk_) (And.intro (@Wu_) (@JB_)))))
theorem aiQ_ (c:CallL):kz_ (kz_ c)=kz_ c:=by
 unfold kz_
 by_cases h0:c.kind=0
 ·simp[h0]
 ·by_cases h1:c.kind=1
  ·simp[h1]
  ·simp[h0,h1]
theorem alM_ (X:zc_) (G:DcG) (S:DiskL) (kind:Int) (dir name s:List UInt8) (w:World) (hX: ∀p,p∈X→w.heap[p.1]? =some p.2) (hn: (keys X).Nodup) (hP:DcP X G S) (ok:DkOk S) (hB:DkB S) (hK:0≤kind∧kind<6) (hnm:name.length<1099511627776) (hsl:s.length<1099511627776) (hpl: ∀k,k<3→(S.dir k).pend.length<1000000) (hfn:S.files.length<1000000000) (hus:kn_ S<4611686018427387904):
  Rets Tryz.prog 32 #[vp G.bd 0,vi kind,vs dir,vs name,vs s] w (XS w X (DoS G (doV S kind dir name s))):=by
 obtain⟨hp1,hp2⟩:=apb_ (S:=S) hK dir name s
 have hDW:=hP.worldX hX
 have rdd:=za_ (w0:=w) hP.disk
 refine Rets.enterX Tryz.func32 rfl (rs:= [.tmp 10]) Tryz.results32 Tryz.ntmps32 hX hn ?_
 refine kf ?_
 first|with_reducible refine ks [1000002,1000008,1000010,1000012,1000018,1000035] @zr_ ?_|refine kp @zr_ ?_
 refine Ow.callFV rfl Tryz.call84 (fun w' hw'=>w8_ dir w') ?_
 cases hw:zE_ dir with
 |none=>
  have hwi:xd_ dir= -1:=by unfold xd_;rw[hw]
  have e1:decide ((-1:Int)<0)=true:=rfl
  have hpe:Wi_ S kind dir name s=1:=by unfold Wi_;rw[if_pos (.inl hw)]
  rw[hwi]
  refine ko @zr_ ?_
  first|with_reducible refine ks [] (And.intro @zr_ @e1) ?_|refine kp (And.intro @zr_ @e1) ?_
  refine⟨_,(ke @zr_), ?_⟩
  rw[hp1 (by rw[hpe];simp),hpe]
  exact⟨Ext.refl w X,rfl,G,rfl,hP⟩
 |some k=>
  have hk:=(qD_ hw).1
  have hwi:xd_ dir=(k:Int):=by unfold xd_;rw[hw]
  have e1:decide ((k:Int)<0)=false:=decide_eq_false (by omega)
  have hat:atD S dir name=zC_ (S.dir k).seen name:=by unfold atD;rw[hw];rfl
  rw[hwi]
  refine ko @zr_ ?_
  refine Cw.cutO (G:=Unit) [18,19,20,21,22,23,24,25,26,27,28,29,30,31,32,33,34,35,36,37] (fun g=> []) (fun g=>X) (fun g=>(kind≠3→qp_ name=true)∧(kind=4→qp_ s=true)) ?_ ?_
  ·by_cases k3:kind=3
   ·have e3: (kind !=3)=false:=by rw[k3];rfl
    have e4: (kind==4)=false:=by rw[k3];rfl
    first|with_reducible refine ks [] (And.intro @zr_ (And.intro @e1 (And.intro @e3 (@e4)))) ?_|refine kp (And.intro @zr_ (And.intro @e1 (And.intro @e3 (@e4)))) ?_
    exact CutO.mk () ⟨fun h=>absurd k3 h,fun h=>by omega⟩ rfl rfl
   ·have e3: (kind !=3)=true:=bne_iff_ne.2 k3
    first|with_reducible refine ks [] (And.intro @zr_ (And.intro @e1 (@e3))) ?_|refine kp (And.intro @zr_ (And.intro @e1 (@e3))) ?_
    refine Ow.callFV rfl Tryz.call85 (fun w' hw'=>Qd_ name w' hnm) ?_
    cases hf:qp_ name with
    |false=>
     have hpe:Wi_ S kind dir name s=1:=by unfold Wi_;rw[if_pos (.inr (.inl ⟨k3,hf⟩))]
     refine ko @zr_ ?_
     first|with_reducible refine ks [] @zr_ ?_|refine kp @zr_ ?_
     refine⟨_,(ke @zr_), ?_⟩
     rw[hp1 (by rw[hpe];simp),hpe]
     exact⟨Ext.refl w X,rfl,G,rfl,hP⟩
    |true=>
     by_cases k4:kind=4
     ·have e4: (kind==4)=true:=beq_iff_eq.2 k4
      refine ko (And.intro @zr_ @e4) ?_
      refine Ow.callFV rfl Tryz.call85 (fun w' hw'=>Qd_ s w' hsl) ?_
      cases hf2:qp_ s with
      |false=>
       have hpe:Wi_ S kind dir name s=1:=by unfold Wi_;rw[if_pos (.inr (.inr ⟨k4,hf2⟩))]
       refine ko @zr_ ?_
       first|with_reducible refine ks [] @zr_ ?_|refine kp @zr_ ?_
       refine⟨_,(ke @zr_), ?_⟩
       rw[hp1 (by rw[hpe];simp),hpe]
       exact⟨Ext.refl w X,rfl,G,rfl,hP⟩
      |true=>
       refine ko @zr_ ?_
       first|with_reducible refine ks [] @zr_ ?_|refine kp @zr_ ?_
       exact CutO.mk () ⟨fun _=>rfl,fun _=>rfl⟩ rfl rfl
     ·have e4: (kind==4)=false:=beq_eq_false_iff_ne.2 k4
      refine ko (And.intro @zr_ @e4) ?_
      first|with_reducible refine ks [] @zr_ ?_|refine kp @zr_ ?_
      exact CutO.mk () ⟨fun _=>rfl,fun h=>absurd h k4⟩ rfl rfl
  ·intro gu jgu hgu
   refine kv ?_
   obtain⟨hf1,hf2⟩:=hgu
   have hpe:Wi_ S kind dir name s=if S.off=true then 9 else match zC_ (S.dir k).seen name with
     |some n=>if kind=0 then 7 else if kind=1∧wo_ S n s=true then 8 else 0
     |none=>if kind≠0∧kind≠3 then 6 else 0:=by
    unfold Wi_
    rw[if_neg (by
     rintro(h| ⟨h,h'⟩ | ⟨h,h'⟩)
     ·rw[hw] at h;cases h
     ·rw[hf1 h] at h';cases h'
     ·rw[hf2 h] at h';cases h'),hat] <;> rfl
   have lds:=fun n=>xj_ G S hk n
   rcases Bool.eq_false_or_eq_true S.off with ho|ho
   ·rw[if_pos ho] at hpe
    first|with_reducible refine ks [] (And.intro @zr_ (And.intro @rdd (@ho))) ?_|refine kp (And.intro @zr_ (And.intro @rdd (@ho))) ?_
    refine⟨_,(ke @zr_), ?_⟩
    rw[hp1 (by rw[hpe];simp),hpe]
    exact⟨Ext.refl w X,rfl,G,rfl,hP⟩
   rw[if_neg (by rw[ho];simp)] at hpe
   have hbl:=(hB k hk).1
   first|with_reducible refine ks [12,21,22,24,26,29,36,37,1000008,1000010,1000012,1000018,1000035] (And.intro @zr_ (And.intro @rdd (And.intro @ho (@lds)))) ?_|refine kp (And.intro @zr_ (And.intro @rdd (And.intro @ho (@lds)))) ?_
   refine Ow.callFV rfl Tryz.call92 (fun w' hw'=>Q0_ (G.s k) (S.dir k).seen name w' (Gr.slW (hP.seen k hk) (fun b o h=>hw'.has b o (zp_ h)) zP_) (by omega)) ?_
   refine ko @zr_ ?_
   have hfi: ∀n,zC_ (S.dir k).seen name=some n→wI_ (S.dir k).seen name=(n:Int):=fun n h=>by unfold wI_;rw[h]
   have hfo:zC_ (S.dir k).seen name=none→wI_ (S.dir k).seen name= -1:=fun h=>by unfold wI_;rw[h]
   refine Cw.cutO (G:=Unit) [53,54,55,56,57,58] (fun g=> []) (fun g=>X) (fun g=>kind=0→zC_ (S.dir k).seen name=none) ?_ ?_
   ·by_cases k0:kind=0
    ·have e0: (kind==0)=true:=beq_iff_eq.2 k0
     cases hfn2:zC_ (S.dir k).seen name with
     |some n=>
      have e2:decide ((0:Int)≤wI_ (S.dir k).seen name)=true:=by rw[hfi n hfn2];exact decide_eq_true (by omega)
      rw[hfn2] at hpe
      simp only[k0, ↓reduceIte] at hpe
      first|with_reducible refine ks [] (And.intro @zr_ (And.intro @e0 (@e2))) ?_|refine kp (And.intro @zr_ (And.intro @e0 (@e2))) ?_
      refine⟨_,(ke @zr_), ?_⟩
      rw[hp1 (by rw[k0,hpe];simp),k0,hpe]
      exact⟨Ext.refl w X,rfl,G,rfl,hP⟩
     |none=>
      have e2:decide ((0:Int)≤wI_ (S.dir k).seen name)=false:=by rw[hfo hfn2];rfl
      first|with_reducible refine ks [] (And.intro @zr_ (And.intro @e0 (@e2))) ?_|refine kp (And.intro @zr_ (And.intro @e0 (@e2))) ?_
      exact CutO.mk () (fun _=>rfl) rfl rfl
    ·have e0: (kind==0)=false:=beq_eq_false_iff_ne.2 k0
     first|with_reducible refine ks [] (And.intro @zr_ @e0) ?_|refine kp (And.intro @zr_ @e0) ?_
     exact CutO.mk () (fun h=>absurd h k0) rfl rfl
   ·intro gv jgv hgv
    refine kv ?_
    refine Cw.cutO (G:=Unit) [59,60,61,62,63,64,65,66,67,68] (fun g=> []) (fun g=>X) (fun g=>kind≠0→kind≠3→zC_ (S.dir k).seen name≠none) ?_ ?_
    ·by_cases k0:kind=0
     ·have e0: (kind !=0)=false:=by rw[k0];rfl
      first|with_reducible refine ks [] (And.intro @zr_ @e0) ?_|refine kp (And.intro @zr_ @e0) ?_
      exact CutO.mk () (fun h=>absurd k0 h) rfl rfl
     ·have e0: (kind !=0)=true:=bne_iff_ne.2 k0
      by_cases k3:kind=3
      ·have e3: (kind !=3)=false:=by rw[k3];rfl
       first|with_reducible refine ks [] (And.intro @zr_ (And.intro @e0 (@e3))) ?_|refine kp (And.intro @zr_ (And.intro @e0 (@e3))) ?_
       exact CutO.mk () (fun _ h=>absurd k3 h) rfl rfl
      ·have e3: (kind !=3)=true:=bne_iff_ne.2 k3
       cases hfn2:zC_ (S.dir k).seen name with
       |none=>
        have e2:decide (wI_ (S.dir k).seen name<0)=true:=by rw[hfo hfn2];rfl
        rw[hfn2] at hpe
        simp only[k0,k3,ne_eq,not_false_eq_true,and_self, ↓reduceIte] at hpe
        first|with_reducible refine ks [] (And.intro @zr_ (And.intro @e0 (And.intro @e3 (@e2)))) ?_|refine kp (And.intro @zr_ (And.intro @e0 (And.intro @e3 (@e2)))) ?_
        refine⟨_,(ke @zr_), ?_⟩
        rw[hp1 (by rw[hpe];simp),hpe]
        exact⟨Ext.refl w X,rfl,G,rfl,hP⟩
       |some n=>
        have e2:decide (wI_ (S.dir k).seen name<0)=false:=by rw[hfi n hfn2];exact decide_eq_false (by omega)
        first|with_reducible refine ks [] (And.intro @zr_ (And.intro @e0 (And.intro @e3 (@e2)))) ?_|refine kp (And.intro @zr_ (And.intro @e0 (And.intro @e3 (@e2)))) ?_
        exact CutO.mk () (fun _ _=>by simp) rfl rfl
    ·intro gx jgx hgx
     refine kv ?_
     refine Cw.cutO (G:=Unit) [69,70,71,72,73,74,75,76,77,78,79,80,81,82,83,84,85,86,87,88,89,90,91,92,93,94,95,96,97] (fun g=> []) (fun g=>X) (fun g=>kind=1→ ∀n,zC_ (S.dir k).seen name=some n→wo_ S n s=false) ?_ ?_
     ·by_cases k1:kind=1
      ·subst k1
       have e1k: ((1:Int)==1)=true:=rfl
       obtain⟨n,hfn2⟩: ∃n,zC_ (S.dir k).seen name=some n:=by
        cases h:zC_ (S.dir k).seen name with
        |none=>exact absurd h (hgx (by omega) (by omega))
        |some n=>exact⟨n,rfl⟩
       have hfin:=hfi n hfn2
       have hnl:n<S.files.length:=ok.seenN k hk _ (jO_ hfn2)
       have hnm2:n< (S.files.map xO_).length:=by rw[List.length_map];exact hnl
       obtain⟨rf,rest,cf,hv,hlk,-⟩:=Gr.upd hP.files q7_ hnm2 fd0
       have rdf:=za_ (w0:=w) hlk
       have ixf:zO_ (.sl (true,2)) G.f (some (n:Int))=some (vp rf (n*2)):=by rw[hv,zY_ _ _ _ _ _ _ (by omega)];simp
       have ld0:=fun y=>kd_ (E:=141) (rest:=rest) n hnm2 y
       rw[ZY_] at ld0
       have ld0': ∀y,zk_ (some (false,y)) (some (j4_ fdC 141 rest (S.files.map xO_))) (n*2)=some (vs (zx_ S n).data):=ld0
       clear ld0
       obtain⟨hfo1,hfo2⟩:=wF_ ok hnl
       have hful:wo_ S n s=(decide ((1048576:Int)< ((zx_ S n).data.length:Int)+ (s.length:Int)) ||decide (S.max< (kn_ S:Int)+ (s.length:Int))):=by
        unfold wo_
        rw[Bool.eq_iff_iff]
        simp only[Bool.or_eq_true,decide_eq_true_eq]
        omega
       rw[hfin]
       first|with_reducible refine ks [12] @zr_ ?_|refine kp @zr_ ?_
       cases ha:decide ((1048576:Int)< ((zx_ S n).data.length:Int)+ (s.length:Int)) with
       |true=>
        rw[ha,Bool.true_or] at hful
        have hpe:Wi_ S 1 dir name s=8:=by rw[hpe,hfn2];simp[hful]
        refine Cw.regionS [G.bd,rf] [0,1,2,3,4,5,7,12,13,6,8,9,10,11,14,15,16,17,19,20,22,23,24,25,18,21,26,27,28] [] (by kernel_rfl) (by kernel_rfl) (by kernel_rfl) ?_
        simp only[zo_, ↓zi_, ↓zd_, ↓zz_, ↓zy_,ze_]
        refine kq (And.intro @zr_ (And.intro @e1k (And.intro @rdd (And.intro @rdf (And.intro @ixf (And.intro @ld0' (@ha))))))) ?_
        first|with_reducible refine ks [] @zr_ ?_|refine kp @zr_ ?_
        refine⟨_,(ke @zr_), ?_⟩
        rw[hp1 (by rw[hpe];simp),hpe]
        exact⟨Ext.refl w X,rfl,G,rfl,hP⟩
       |false=>
        rw[ha,Bool.false_or] at hful
        refine Cw.regionS [G.bd,rf] [0,1,2,3,4,5,7,12,13,6,8,9,10,11,14,15,16,17,19,20,22,23,24,25,18,21,26,27,28] [] (by kernel_rfl) (by kernel_rfl) (by kernel_rfl) ?_
        simp only[zo_, ↓zi_, ↓zd_, ↓zz_, ↓zy_,ze_]
        refine kq (And.intro @zr_ (And.intro @e1k (And.intro @rdd (And.intro @rdf (And.intro @ixf (And.intro @ld0' (@ha))))))) ?_
        refine Ow.soft rfl rfl rfl ?_
        refine Ow.callFV rfl Tryz.call90 (fun w' hw'=>V2_ w' G S (hP.world hw') ok hB hus) ?_
        with_reducible refine Ow.nil ?_
        refine⟨by intro b hb;simp only[List.mem_cons,List.not_mem_nil,or_false] at hb;(try subst hb);rfl, ?_⟩
        cases hb:decide (S.max< (kn_ S:Int)+ (s.length:Int)) with
        |true=>
         rw[hb] at hful
         have hpe:Wi_ S 1 dir name s=8:=by rw[hpe,hfn2];simp[hful]
         refine kq (And.intro @zr_ (And.intro @rdd (@hb))) ?_
         first|with_reducible refine ks [] @zr_ ?_|refine kp @zr_ ?_
         refine⟨_,(ke @zr_), ?_⟩
         rw[hp1 (by rw[hpe];simp),hpe]
         exact⟨Ext.refl w X,rfl,G,rfl,hP⟩
        |false=>
         rw[hb] at hful
         refine kq (And.intro @zr_ (And.intro @rdd (@hb))) ?_
         first|with_reducible refine ks [] @zr_ ?_|refine kp @zr_ ?_
         exact CutO.mk () (fun _ m hm=>by rw[hfn2] at hm;cases hm;exact hful) rfl rfl
      ·have e1k: (kind==1)=false:=beq_eq_false_iff_ne.2 k1
       first|with_reducible refine ks [12] @zr_ ?_|refine kp @zr_ ?_
       refine Cw.regionS [G.bd] [0,1,2,3,4,5,7,12,13,6,8,9,10,11,14,15,16,17,19,20,22,23,24,25,18,21,26,27,28] [] (by kernel_rfl) (by kernel_rfl) (by kernel_rfl) ?_
       simp only[zo_, ↓zi_, ↓zd_, ↓zz_, ↓zy_,ze_]
       refine kq (And.intro @zr_ @e1k) ?_
       first|with_reducible refine ks [] @zr_ ?_|refine kp @zr_ ?_
       exact CutO.mk () (fun h=>absurd h k1) rfl rfl
     ·intro gy jgy hgy
      refine kv ?_
      have hpe0:Wi_ S kind dir name s=0:=by
       rw[hpe]
       cases hfn2:zC_ (S.dir k).seen name with
       |none=>
        have: ¬(kind≠0∧kind≠3):=fun h=>hgx h.1 h.2 hfn2
        simp only[this, ↓reduceIte]
       |some n=>
        have h0: ¬kind=0:=fun h=>by rw[hgv h] at hfn2;cases hfn2
        have h1: ¬ (kind=1∧wo_ S n s=true):=fun h=>by rw[hgy h.1 n hfn2] at h;cases h.2
        simp only[h0,h1, ↓reduceIte]
      rw[hp2 hpe0]
      first|with_reducible refine ks [21,22,24,26,29,36,37,1000018,1000035] @zr_ ?_|refine kp @zr_ ?_
      refine Ow.callM rfl rfl Tryz.call93 (zh_ hP.disk) (fun w' hw'=>aga_ G S w' ok.fuse (hw'.has _ _ (zp_ hP.disk))) ?_
      obtain⟨hb1,hb2,hb3⟩:=jy_ S
      have hP1:=hP.setD (zm_ S).1 hb1 hb2
      have hE1:=(Ext.refl w X).setB (b:=G.bd) (o:=dcO G (zm_ S).1)
      have hkX:keys (setB X G.bd (dcO G (zm_ S).1))=keys X:=zQ_ _ _ _
      generalize hX1:setB X G.bd (dcO G (zm_ S).1)=X1 at*
      by_cases hbn: (zm_ S).2=0
      ·have e2: (((zm_ S).2:Int) !=0)=false:=by rw[hbn];rfl
       rw[if_neg (by rw[hbn];simp)]
       refine ko (And.intro @zr_ @e2) ?_
       first|with_reducible refine ks [21,22,24,26,29,36,37,1000018,1000035] (And.intro @zr_ @e2) ?_|refine kp (And.intro @zr_ @e2) ?_
       refine Ow.build (.agg (kcC ⟨-1,name,s,0⟩).toArray) rfl (aih_ (-1) name s) ?_
       refine ko @zr_ ?_
       refine Ow.alloc rfl rfl zrKc fun b15 hb15 hw15=> ?_
       simp only[zj_,List.nil_append,List.cons_append]
       have hb15X:b15∉keys X1:=fun hm=>by have:=zv_ hb15 hm;omega
       refine Ow.permL (M:=(b15, .cells (kcC kc0).toArray 150 (0,0))::X1) (by classical exact List.perm_iff_count.2 fun a=>by simp only[List.count_append,List.count_cons,List.count_nil]<;>omega) ?_
       refine ko @zr_ ?_
       have hP2:DcP ((b15,Obj.cells (kcC ⟨-1,name,s,0⟩).toArray 150 (0,0))::X1) G (zm_ S).1:=hP1.mono fun b o h=>xw_ hb15 h
       have hE2:Ext w X ((b15,Obj.cells (kcC ⟨-1,name,s,0⟩).toArray 150 (0,0))::X1):=afI_ hE1 hw15
       have hk15:Sx.look ((b15,Obj.cells (kcC ⟨-1,name,s,0⟩).toArray 150 (0,0))::X1) b15=some (.cells (kcC ⟨-1,name,s,0⟩).toArray 150 (0,0)):=by simp[Sx.look]
       have h15n: ∀ {E m n v cs},Gr X1 E m v n cs→slB v≠some b15:=fun h e=>hb15X (h.key e)
       have h15p:slB (G.p k)≠some b15:=by
        obtain⟨pl,-,h⟩:=hP1.pend k hk
        exact h15n h
       have h15b:G.bd≠b15:=fun e=>hb15X (e▸zh_ hP1.disk)
       have hk12: ∀x b o,Sx.look X1 b=some o→Sx.look (setB ((b15,Obj.cells (kcC ⟨-1,name,s,0⟩).toArray 150 (0,0))::X1) b15 x) b=some o:=fun x b o h=>by
        rw[zb_ (by rintro rfl;exact hb15X (zh_ h))]
        exact xw_ hb15 h
       generalize hX2: (b15,Obj.cells (kcC ⟨-1,name,s,0⟩).toArray 150 (0,0))::X1=X2 at*
       have hPc: ∀x,DcP (setB X2 b15 x) G (zm_ S).1:=fun x=>hP1.mono (hk12 x)
       have hmax: (zm_ S).1.dir=S.dir∧(zm_ S).1.files=S.files:=⟨hb1,hb2⟩
       have hact: ∀T,actV S kind dir name s=T→DoS G (actV S kind dir name s,0)=DoS G (T,0):=fun T h=>by rw[h]
       refine Cw.cutO (G:=DoG) [106,107,108,109,110,111,112,113,114,115,116,117,118,119,120,121,122,123,124,125,126,127,128,129,130,131,132,133,134,135,136,137,138,139,140,141,142,143,144,145,146,147,148,149,150,151,152,153,154,155,156,157,158,159,160,161,162,163,164,165,166,167,168,169,170,171,172,173,174,175,176,177,178,179,180,181,182,183,184] (fun g=> []) (fun g=>g.X) (fun g=>g.G.bd=G.bd∧DcP g.X g.G g.S∧Sx.look g.X b15=some (.cells (kcC g.c).toArray 150 (0,0))∧DoJ S (actV S kind dir name s) k g.c g.S∧Ext w X g.X∧slB (g.G.p k)≠some b15) ?_ ?_
       ·have h6:kind=0∨kind=1∨kind=2∨kind=3∨kind=4∨kind=5:=by omega
        have rd2:=za_ (w0:=w) hP2.disk
        have rk15:=za_ (w0:=w) hk15
        have hwk: (zE_ dir).getD 0=k:=by rw[hw];rfl
        rcases h6 with rfl|rfl|rfl|rfl|rfl|rfl
        ·have z0: ((0:Int)==0)=true:=rfl
         have hnf: (S.files.map xO_).length=S.files.length:=List.length_map ..
         have hFf:Gr X2 141 2 G.f ((zm_ S).1.files.map xO_).length (((zm_ S).1.files.map xO_).map fdC).flatten:=hP2.files
         rw[hb2,hnf] at hFf
         have hne:slB G.f≠some G.bd:=fun e=>by
          obtain⟨arr,ha⟩:=kC_ hFf e
          rw[hP2.disk] at ha
          have:=congrArg tyO (Option.some.inj ha)
          rw[xc_] at this
          exact wj_ this
         have hne15:slB G.f≠some b15:=h15n hP1.files
         first|with_reducible refine ks [21,22,36,37] (And.intro @zr_ (And.intro @z0 (@rd2))) ?_|refine kp (And.intro @zr_ (And.intro @z0 (@rd2))) ?_
         refine Ow.build (.agg (fdC fd0).toArray) rfl ajI_ ?_
         refine ko @zr_ ?_
         refine Ow.buildSlice (e:=141) (fdC fd0).toArray rfl rfl (zV_ Tryz.underlying58 ald_ zrFd (by decide) (q7_ _)) fun ba hba hwa=> ?_
         refine ko @zr_ ?_
         refine Ow.appendG (e:=141) (k:=1) (new:=fdC fd0) G.f rfl rfl rfl Tryz.underlying58 ald_ (by kernel_rfl) zrFd (by rw[JB_,List.size_toArray,q7_]) Tryz.underlying58 (by intro k h;cases h) hFf.app (fun w' hw'=>AppX.one1 (hw'.has ba (.cells (fdC fd0).toArray 141 (0,0)) (by simp)) (q7_ _) (ajt_ _)) (q7_ _) (by omega) (fun v2 L2 hB2 _ hg2 hs2=> ?_)
         have hd2:Sx.look L2 G.bd=some (dcO G (zm_ S).1):=hg2.look _ _ hne (zl_ hP2.disk)
         have h152:Sx.look L2 b15=some (.cells (kcC ⟨-1,name,s,0⟩).toArray 150 (0,0)):=hg2.look _ _ hne15 (zl_ hk15)
         have hr2:=za_ (w0:=w) hd2
         have st:=fun x=>abh_ G (zm_ S).1 x hB2.cell
         have hE3:=(hE2.app (o:= .cells (fdC fd0).toArray 141 (0,0)) hwa).grew hg2
         refine ko (And.intro @zr_ (And.intro @hd2 (And.intro @hr2 (And.intro @st (@jE_))))) ?_
         have hd3:Sx.look (setB L2 G.bd (dcO {G with f:=v2} (zm_ S).1)) G.bd=some (dcO {G with f:=v2} (zm_ S).1):=zw_ hd2
         have h153:Sx.look (setB L2 G.bd (dcO {G with f:=v2} (zm_ S).1)) b15=some (.cells (kcC ⟨-1,name,s,0⟩).toArray 150 (0,0)):=by rw[zb_ h15b];exact h152
         have hr153:=za_ (w0:=w) h153
         have hk3: ∀b o,b≠G.bd→Sx.look L2 b=some o→Sx.look (setB L2 G.bd (dcO {G with f:=v2} (zm_ S).1)) b=some o:=fun b o hb ho=>by rw[zb_ (Ne.symm hb)];exact ho
         have hE4:=hE3.setB (b:=G.bd) (o:=dcO {G with f:=v2} (zm_ S).1)
         generalize setB L2 G.bd (dcO {G with f:=v2} (zm_ S).1)=L3 at*
         first|with_reducible refine ks [22,36,37] (And.intro @zr_ (And.intro @h153 (And.intro @hr153 (@jE_)))) ?_|refine kp (And.intro @zr_ (And.intro @h153 (And.intro @hr153 (@jE_)))) ?_
         have hd4:Sx.look (setB L3 b15 (.cells (kcC ⟨0,name,s,0⟩).toArray 150 (0,0))) G.bd=some (dcO {G with f:=v2} (zm_ S).1):=by rw[zb_ (Ne.symm h15b)];exact hd3
         have h154:Sx.look (setB L3 b15 (.cells (kcC ⟨0,name,s,0⟩).toArray 150 (0,0))) b15=some (.cells (kcC ⟨0,name,s,0⟩).toArray 150 (0,0)):=zw_ h153
         have hr4:=za_ (w0:=w) hd4
         have hr154:=za_ (w0:=w) h154
         have ln2:=hB2.len
         have es: ((S.files.length+1:Nat):Int) - 1=(S.files.length:Int):=by omega
         first|with_reducible refine ks [] (And.intro @zr_ (And.intro @hr4 (And.intro @ln2 (And.intro @es (And.intro @h154 (And.intro @hr154 (@jE_))))))) ?_|refine kp (And.intro @zr_ (And.intro @hr4 (And.intro @ln2 (And.intro @es (And.intro @h154 (And.intro @hr154 (@jE_))))))) ?_
         refine CutO.mk ⟨⟨0,name,s,(S.files.length:Int)⟩,k0_ (zm_ S).1 q2_,{G with f:=v2},setB (setB L3 b15 (.cells (kcC ⟨0,name,s,0⟩).toArray 150 (0,0))) b15 (.cells (kcC ⟨0,name,s,(S.files.length:Int)⟩).toArray 150 (0,0))⟩ ⟨rfl, ?_,zw_ h154, .inr ⟨hb1,⟨0,name,s,S.files.length⟩,rfl,by unfold actV;simp[hwk,kz_],(by show(0:Nat)<3;decide),fun h=>by cases h⟩,hE4.setB.setB,h15p⟩ rfl rfl
         have hk5: ∀b o,b≠b15→Sx.look L3 b=some o→Sx.look (setB (setB L3 b15 (.cells (kcC ⟨0,name,s,0⟩).toArray 150 (0,0))) b15 (.cells (kcC ⟨0,name,s,(S.files.length:Int)⟩).toArray 150 (0,0))) b=some o:=fun b o hb ho=>by
          rw[zb_ (Ne.symm hb),zb_ (Ne.symm hb)];exact ho
         refine DcP.updF (G:=G) hP1 (v:=v2) (fl:=(zm_ S).1.files++ [q2_]) (fun b o hb hf ho=> ?_) ?_ ?_
         ·exact hk5 b o (by rintro rfl;exact hb15X (zh_ ho)) (hk3 b o hb (hg2.look _ _ hf (zl_ (by rw[←hX2];exact xw_ hb15 ho))))
         ·exact hk5 _ _ h15b hd3
         ·have hG7:Gr L2 141 2 v2 (((zm_ S).1.files++ [q2_]).map xO_).length ((((zm_ S).1.files++ [q2_]).map xO_).map fdC).flatten:=by
           have hf0:xO_ q2_=fd0:=rfl
           rw[hb2]
           simpa [hf0] using hB2
          refine hG7.keep fun b o hb ho=> ?_
          obtain⟨arr,ha⟩:=kC_ hG7 hb
          refine hk5 b o ?_ (hk3 b o ?_ ho)
          ·rintro rfl
           rw[h152] at ha
           have:=congrArg tyO (Option.some.inj ha)
           exact anl_ this
          ·rintro rfl
           rw[hd2] at ha
           have:=congrArg tyO (Option.some.inj ha)
           rw[xc_] at this
           exact wj_ this
        ·have z0: ((1:Int)==0)=false:=rfl
         have z1: ((1:Int)==1)=true:=rfl
         obtain⟨n,hfn2⟩: ∃n,zC_ (S.dir k).seen name=some n:=by
          cases h:zC_ (S.dir k).seen name with
          |none=>exact absurd h (hgx (by decide) (by decide))
          |some n=>exact⟨n,rfl⟩
         have hfin:=hfi n hfn2
         rw[hfn2] at hat
         have hnl:n<S.files.length:=ok.seenN k hk _ (jO_ hfn2)
         have hnm2:n< (S.files.map xO_).length:=by rw[List.length_map];exact hnl
         obtain⟨hfo1,hfo2⟩:=wF_ ok hnl
         obtain⟨rf,rest,cf,hv,hlk,hup⟩:=Gr.upd hP.files q7_ hnm2 (xO_ ⟨(zx_ S n).data++s,(zx_ S n).stl⟩)
         have hlk2:Sx.look X2 rf=some (j4_ fdC 141 rest (S.files.map xO_)):=by
          have h1:Sx.look X1 rf=some (j4_ fdC 141 rest (S.files.map xO_)):=by
           rw[←hX1,zb_ (by rintro rfl;rw[hP.disk] at hlk;have:=congrArg tyO (Option.some.inj hlk);rw[xc_] at this;exact wj_ this)]
           exact hlk
          rw[←hX2];exact xw_ hb15 h1
         have rdf:=za_ (w0:=w) hlk2
         have ixf:zO_ (.sl (true,2)) G.f (some (n:Int))=some (vp rf (n*2)):=by rw[hv,zY_ _ _ _ _ _ _ (by omega)];simp
         have ld0:=fun y=>kd_ (E:=141) (rest:=rest) n hnm2 y
         rw[ZY_] at ld0
         have ld0': ∀y,zk_ (some (false,y)) (some (j4_ fdC 141 rest (S.files.map xO_))) (n*2)=some (vs (zx_ S n).data):=ld0
         clear ld0
         have st:=fun(a:Bool)=>Jj_ (E:=141) (rest:=rest) n hnm2 ((zx_ S n).data++s) a
         rw[ZY_] at st
         have st': ∀a,zn_ (some (a,1)) (some (j4_ fdC 141 rest (S.files.map xO_))) (n*2) (vs ((zx_ S n).data++s))=some (j4_ fdC 141 rest ((S.files.map xO_).set n (xO_ ⟨(zx_ S n).data++s,(zx_ S n).stl⟩))):=st
         clear st
         rw[hfin]
         first|with_reducible refine ks [21,22,24,26,29,36,37] (And.intro @zr_ (And.intro @z0 (@z1))) ?_|refine kp (And.intro @zr_ (And.intro @z0 (@z1))) ?_
         refine Cw.regionO [0,1,2,4,5,6,7,9,13,3,8,10,11,12,14,15,16,17] [17] rfl (by kernel_rfl) (by kernel_rfl) ?_
         simp only[zo_, ↓zi_, ↓zd_, ↓zz_, ↓zy_,ze_]
         refine kq (And.intro @zr_ (And.intro @rd2 (And.intro @rdf (And.intro @ixf (@ld0'))))) ?_
         refine Ow.store rfl rfl rfl (ke (And.intro @zr_ (And.intro @hlk2 (@st')))) ?_
         refine ko @zr_ ?_
         first|with_reducible refine ks [] @zr_ ?_|refine kp @zr_ ?_
         refine CutO.mk ⟨⟨-1,name,s,0⟩,Zw_ (zm_ S).1 n ⟨(zx_ S n).data++s,(zx_ S n).stl⟩,G,setB X2 rf (j4_ fdC 141 rest ((S.files.map xO_).set n (xO_ ⟨(zx_ S n).data++s,(zx_ S n).stl⟩)))⟩ ⟨rfl, ?_, ?_, .inl ⟨rfl,by unfold actV;simp[hat]⟩,hE2.setB,h15p⟩ rfl rfl
         ·have hfs:G.f=G.f:=rfl
          refine DcP.updF (G:=G) hP2 (v:=G.f) (fun b o hb hf ho=> ?_) ?_ ?_
          ·rw[zb_ (by rintro rfl;exact hf (by rw[hv];rfl))];exact ho
          ·rw[zb_ (by rintro e;rw[e,hP2.disk] at hlk2;have:=congrArg tyO (Option.some.inj hlk2);rw[xc_] at this;exact wj_ this)];exact hP2.disk
          ·show Gr _ _ _ _ _ _
           rw[hb2,List.map_set]
           exact hup _ (zw_ hlk2)
         ·rw[zb_ (fun e=>hb15X (by rw[←e,←hX1,zQ_];exact zh_ hlk))];exact hk15
        ·have z0: ((2:Int)==0)=false:=rfl
         have z1: ((2:Int)==1)=false:=rfl
         have z2: ((2:Int)==2)=true:=rfl
         obtain⟨n,hfn2⟩: ∃n,zC_ (S.dir k).seen name=some n:=by
          cases h:zC_ (S.dir k).seen name with
          |none=>exact absurd h (hgx (by decide) (by decide))
          |some n=>exact⟨n,rfl⟩
         have hfin:=hfi n hfn2
         rw[hfn2] at hat
         have hnl:n<S.files.length:=ok.seenN k hk _ (jO_ hfn2)
         have hnm2:n< (S.files.map xO_).length:=by rw[List.length_map];exact hnl
         obtain⟨hfo1,hfo2⟩:=wF_ ok hnl
         obtain⟨rf,rest,cf,hv,hlk,hup⟩:=Gr.upd hP.files q7_ hnm2 (xO_ ⟨(zx_ S n).data,(zx_ S n).data.length⟩)
         have hlk2:Sx.look X2 rf=some (j4_ fdC 141 rest (S.files.map xO_)):=by
          have h1:Sx.look X1 rf=some (j4_ fdC 141 rest (S.files.map xO_)):=by
           rw[←hX1,zb_ (by rintro rfl;rw[hP.disk] at hlk;have:=congrArg tyO (Option.some.inj hlk);rw[xc_] at this;exact wj_ this)]
           exact hlk
          rw[←hX2];exact xw_ hb15 h1
         have rdf:=za_ (w0:=w) hlk2
         have ixf:zO_ (.sl (true,2)) G.f (some (n:Int))=some (vp rf (n*2)):=by rw[hv,zY_ _ _ _ _ _ _ (by omega)];simp
         have ld0:=fun y=>kd_ (E:=141) (rest:=rest) n hnm2 y
         rw[ZY_] at ld0
         have ld0': ∀y,zk_ (some (false,y)) (some (j4_ fdC 141 rest (S.files.map xO_))) (n*2)=some (vs (zx_ S n).data):=ld0
         clear ld0
         have st:=fun(a:Bool)=>Q4_ (E:=141) (rest:=rest) n hnm2 ((zx_ S n).data.length:Int) a
         rw[ZY_] at st
         have st': ∀a,zn_ (some (a,1)) (some (j4_ fdC 141 rest (S.files.map xO_))) (n*2+1) (vi ((zx_ S n).data.length:Int))=some (j4_ fdC 141 rest ((S.files.map xO_).set n (xO_ ⟨(zx_ S n).data,(zx_ S n).data.length⟩))):=st
         clear st
         rw[hfin]
         first|with_reducible refine ks [21,22,24,26,29,36,37] (And.intro @zr_ (And.intro @z0 (And.intro @z1 (@z2)))) ?_|refine kp (And.intro @zr_ (And.intro @z0 (And.intro @z1 (@z2)))) ?_
         refine Cw.regionO [0,1,2,4,5,6,7,9,3,8,10,11,12,13,14,15,16] [16] rfl (by kernel_rfl) (by kernel_rfl) ?_
         simp only[zo_, ↓zi_, ↓zd_, ↓zz_, ↓zy_,ze_]
         refine kq (And.intro @zr_ (And.intro @rd2 (And.intro @rdf (And.intro @ixf (@ld0'))))) ?_
         refine Ow.store rfl rfl rfl (ke (And.intro @zr_ (And.intro @hlk2 (@st')))) ?_
         refine ko @zr_ ?_
         first|with_reducible refine ks [] @zr_ ?_|refine kp @zr_ ?_
         refine CutO.mk ⟨⟨-1,name,s,0⟩,Zw_ (zm_ S).1 n ⟨(zx_ S n).data,(zx_ S n).data.length⟩,G,setB X2 rf (j4_ fdC 141 rest ((S.files.map xO_).set n (xO_ ⟨(zx_ S n).data,(zx_ S n).data.length⟩)))⟩ ⟨rfl, ?_, ?_, .inl ⟨rfl,by unfold actV;simp[hat]⟩,hE2.setB,h15p⟩ rfl rfl
         ·have hfs:G.f=G.f:=rfl
          refine DcP.updF (G:=G) hP2 (v:=G.f) (fun b o hb hf ho=> ?_) ?_ ?_
          ·rw[zb_ (by rintro rfl;exact hf (by rw[hv];rfl))];exact ho
          ·rw[zb_ (by rintro e;rw[e,hP2.disk] at hlk2;have:=congrArg tyO (Option.some.inj hlk2);rw[xc_] at this;exact wj_ this)];exact hP2.disk
          ·show Gr _ _ _ _ _ _
           rw[hb2,List.map_set]
           exact hup _ (zw_ hlk2)
         ·rw[zb_ (fun e=>hb15X (by rw[←e,←hX1,zQ_];exact zh_ hlk))];exact hk15
        ·have z0: ((3:Int)==0)=false:=rfl
         have z1: ((3:Int)==1)=false:=rfl
         have z2: ((3:Int)==2)=false:=rfl
         have z3: ((3:Int)==3)=true:=rfl
         have ldk:=fun n=>xj_ G (zm_ S).1 hk n
         have st1:=fun x=>KI_ G (zm_ S).1 hk x (Gr.cell (hP2.seen k hk))
         have hl1:Sx.look (setB X2 G.bd (dcO (Zi_ G k (G.s k)) (zm_ S).1)) G.bd=some (dcO (Zi_ G k (G.s k)) (zm_ S).1):=zw_ hP2.disk
         have rl1:=za_ (w0:=w) hl1
         have st2:=fun x=>XM_ (Zi_ G k (G.s k)) (zm_ S).1 hk x (q:= .slice none 0 0) ⟨rfl,rfl⟩
         ((try with_reducible refine Cw.go [21,22,29,36,37] ?_);(try simp(disch:=(first|assumption|omega| (simp only[KC_,XQ_,UInt64.reduceToNat];try omega))) only[↓Sx.S0,Sx.S1,Tryz.fx,zr_,Nat.reduceAdd,Nat.reducePow,Int.reducePow,Nat.reduceBEq, ↓reduceIte,UInt8.reduceToNat,UInt16.reduceToNat,UInt32.reduceToNat,UInt64.reduceToNat,Int.reduceToNat,z0,z1,z2,z3,hP2.disk,rd2,ldk,st1,jE_]))
         first|with_reducible refine ks [] (And.intro @zr_ (And.intro @hl1 (And.intro @rl1 (And.intro @st2 (@jE_))))) ?_|refine kp (And.intro @zr_ (And.intro @hl1 (And.intro @rl1 (And.intro @st2 (@jE_))))) ?_
         refine CutO.mk ⟨⟨-1,name,s,0⟩,xf_ (zm_ S).1 k,qX_ (Zi_ G k (G.s k)) k (.slice none 0 0),setB (setB X2 G.bd (dcO (Zi_ G k (G.s k)) (zm_ S).1)) G.bd (dcO (qX_ (Zi_ G k (G.s k)) k (.slice none 0 0)) (zm_ S).1)⟩ ⟨rfl, ?_, ?_, .inl ⟨rfl,by unfold actV;simp[hwk]⟩,hE2.setB.setB,(by show slB ((qX_ (Zi_ G k (G.s k)) k (.slice none 0 0)).p k)≠some b15;simp[qX_,slB])⟩ rfl rfl
         ·refine hP2.upd rfl (fun b o hb ho=>by rw[zb_ (Ne.symm hb),zb_ (Ne.symm hb)];exact ho) (zw_ hl1) (fun j hj=> .inl ⟨rfl,ads_ _ _ _⟩) (fun j hj=> ?_) (fun j hj=> ?_) ⟨rfl,rfl⟩
          ·by_cases e:j=k
           ·subst e
            refine .inr ?_
            rw[show(qX_ (Zi_ G j (G.s j)) j (.slice none 0 0)).t j=G.s j by simp[qX_,Zi_],show((xf_ (zm_ S).1 j).dir j).stl=((zm_ S).1.dir j).seen by unfold xf_;rw[zM_]]
            exact Gr.keepTy (hP2.seen j hj) hP2.disk (by rw[xc_];exact v6_) fun b o hb ho=>by rw[zb_ (Ne.symm hb),zb_ (Ne.symm hb)];exact ho
           ·exact .inl ⟨by simp[qX_,Zi_,e],by unfold xf_;rw[z4_ _ _ e]⟩
          ·by_cases e:j=k
           ·subst e
            exact .inr ⟨by simp[qX_],by unfold xf_;rw[zM_]⟩
           ·exact .inl ⟨by simp[qX_,Zi_,e],by unfold xf_;rw[z4_ _ _ e]⟩
         ·rw[zb_ h15b,zb_ h15b];exact hk15
        ·have z0: ((4:Int)==0)=false:=rfl
         have z1: ((4:Int)==1)=false:=rfl
         have z2: ((4:Int)==2)=false:=rfl
         have z3: ((4:Int)==3)=false:=rfl
         have z4: ((4:Int)==4)=true:=rfl
         by_cases hns:name=s
         ·have e5: (name !=s)=false:=by rw[hns];exact bne_self_eq_false _
          first|with_reducible refine ks [] (And.intro @zr_ (And.intro @z0 (And.intro @z1 (And.intro @z2 (And.intro @z3 (And.intro @z4 (@e5))))))) ?_|refine kp (And.intro @zr_ (And.intro @z0 (And.intro @z1 (And.intro @z2 (And.intro @z3 (And.intro @z4 (@e5))))))) ?_
          exact CutO.mk ⟨⟨-1,name,s,0⟩,(zm_ S).1,G,X2⟩ ⟨rfl,hP2,hk15, .inl ⟨rfl,by unfold actV;simp[hns]⟩,hE2,h15p⟩ rfl rfl
         ·have e5: (name !=s)=true:=bne_iff_ne.2 hns
          first|with_reducible refine ks [] (And.intro @zr_ (And.intro @z0 (And.intro @z1 (And.intro @z2 (And.intro @z3 (And.intro @z4 (And.intro @e5 (And.intro @hk15 (@rk15))))))))) ?_|refine kp (And.intro @zr_ (And.intro @z0 (And.intro @z1 (And.intro @z2 (And.intro @z3 (And.intro @z4 (And.intro @e5 (And.intro @hk15 (@rk15))))))))) ?_
          exact CutO.mk ⟨⟨1,name,s,0⟩,(zm_ S).1,G,setB X2 b15 (.cells (kcC ⟨1,name,s,0⟩).toArray 150 (0,0))⟩ ⟨rfl,hPc _,zw_ hk15, .inr ⟨hb1,⟨1,name,s,0⟩,rfl,by unfold actV;simp[hns,hwk,kz_],(by show(1:Nat)<3;decide),fun _=>by show zC_ ((zm_ S).1.dir k).seen name≠none;rw[hb1];exact hgx (by decide) (by decide)⟩,hE2.setB,h15p⟩ rfl rfl
        ·have z0: ((5:Int)==0)=false:=rfl
         have z1: ((5:Int)==1)=false:=rfl
         have z2: ((5:Int)==2)=false:=rfl
         have z3: ((5:Int)==3)=false:=rfl
         have z4: ((5:Int)==4)=false:=rfl
         have z5: ((5:Int)==5)=true:=rfl
         first|with_reducible refine ks [] (And.intro @zr_ (And.intro @z0 (And.intro @z1 (And.intro @z2 (And.intro @z3 (And.intro @z4 (And.intro @z5 (And.intro @hk15 (@rk15))))))))) ?_|refine kp (And.intro @zr_ (And.intro @z0 (And.intro @z1 (And.intro @z2 (And.intro @z3 (And.intro @z4 (And.intro @z5 (And.intro @hk15 (@rk15))))))))) ?_
         exact CutO.mk ⟨⟨2,name,s,0⟩,(zm_ S).1,G,setB X2 b15 (.cells (kcC ⟨2,name,s,0⟩).toArray 150 (0,0))⟩ ⟨rfl,hPc _,zw_ hk15, .inr ⟨hb1,⟨2,name,s,0⟩,rfl,by unfold actV;simp[hwk,kz_],(by show(2:Nat)<3;decide),fun h=>by cases h⟩,hE2.setB,h15p⟩ rfl rfl
       ·intro g j hg
        refine kv ?_
        clear hP1 hE1 hP2 hE2 hk15 hPc hk12 h15n
        obtain⟨c,S3,G3,X3⟩:=g
        simp only at hg ⊢
        obtain⟨hbd3,hP3,hk3,hJ,hE3,hb15n⟩:=hg
        have rk3:=za_ (w0:=w) hk3
        rcases hJ with⟨hc,hT⟩ | ⟨hdir,d,rfl,hT,hd3,hdk⟩
        ·have e5:decide ((0:Int)≤c.kind)=false:=by rw[hc];rfl
         first|with_reducible refine ks [] (And.intro @zr_ (And.intro @rk3 (@e5))) ?_|refine kp (And.intro @zr_ (And.intro @rk3 (@e5))) ?_
         refine⟨_,(ke @zr_), ?_⟩
         rw[←hT]
         exact⟨hE3,rfl,G3,hbd3,hP3⟩
        ·have hkd: (Vc_ d).kind=(d.kind:Int):=rfl
         have e5:decide ((0:Int)≤ (d.kind:Int))=true:=decide_eq_true (by omega)
         have rd3:=za_ (w0:=w) hP3.disk
         have ls3:=fun n=>xj_ G3 S3 hk n
         have hsl3: (S3.dir k).seen.length<999999999:=by rw[hdir];omega
         have hpl3: (S3.dir k).pend.length<1000000:=by rw[hdir];exact hpl k hk
         rw[←hbd3]
         first|with_reducible refine ks [36,37] (And.intro @zr_ (And.intro @rk3 (And.intro @hkd (@e5)))) ?_|refine kp (And.intro @zr_ (And.intro @rk3 (And.intro @hkd (@e5)))) ?_
         refine Cw.regionG [G3.bd,b15] [9] 10 (by kernel_rfl) rfl ?_
         simp only[List.replicate_succ,List.replicate_zero]
         refine OwG.run [0,1,2,3,4,5] [true,true,true,true,true,true,false,false,false,false] 4 rfl (by kernel_rfl) (by kernel_rfl) fun k hk=> ?_
         simp only[zo_, ↓zi_, ↓zd_, ↓zz_, ↓zy_,ze_]
         simp(disch:=(first|assumption|omega| (simp only[KC_,XQ_,UInt64.reduceToNat];try omega))) only[↓Sx.S0,Sx.S1,Tryz.fx,zr_,Nat.reduceAdd,Nat.reducePow,Int.reducePow,Nat.reduceBEq, ↓reduceIte,UInt8.reduceToNat,UInt16.reduceToNat,UInt32.reduceToNat,UInt64.reduceToNat,Int.reduceToNat,Md.next_sofnil,rd3,ls3,rk3]
         (with_reducible refine hk _ _ _ ?_);clear hk k
         refine OwG.one 6 _ (by kernel_rfl) rfl ?_
         refine Ow.callC rfl rfl Tryz.call91 (fun w' hw'=>Wl_ (G3.s k) (S3.dir k).seen d w' (Gr.slW (hP3.seen k hk) (fun b o h=>hw'.has b o (zp_ h)) zP_) hsl3 hdk) (fun B6 v6 D6 hA6 hB6 hN6 hS6=> ?_)
         have hN6':=hN6.mono hB6
         have hd6:Sx.look (X3++D6) G3.bd=some (dcO G3 S3):=zl_ hP3.disk
         have st6:=fun x=>X4_ G3 S3 hk x (afj_ hS6)
         with_reducible refine Ow.nil ?_
         refine⟨(xv_ (fun r hr=>by simp only[List.mem_cons,List.not_mem_nil,or_false] at hr;rcases hr with rfl|rfl;exact zh_ hP3.disk;exact zh_ hk3)), ?_⟩
         simp only[List.set_cons_zero,List.set_cons_succ,jH_,v7_,v8_]
         refine OwG.rest [7,8,9] rfl (by kernel_rfl) (by kernel_rfl) ?_
         simp only[zo_, ↓zi_, ↓zd_, ↓zz_, ↓zy_,ze_]
         refine kq @zr_ ?_
         refine Ow.store rfl rfl rfl (ke (And.intro @zr_ (And.intro @hd6 (@st6)))) ?_
         refine ko @zr_ ?_
         refine Cw.world fun wz hwz=> ?_
         have hnd:=hwz.nodup
         clear hwz wz
         rw[zQ_] at hnd
         obtain⟨Xs,hXs,hGs⟩:=hS6
         have hS7:NdP (X3++D6) v6 (qr_ (S3.dir k).seen d):=hGs.keep fun b o _ ho=>jV_ hnd (List.mem_append_right _ (hXs _ (zp_ ho)))
         obtain⟨pl,hpn,hGp⟩:=hP3.pend k hk
         have hpll:pl.length=(S3.dir k).pend.length:=by have:=congrArg List.length hpn;simpa using this
         have hGp6:KcP (X3++D6) (G3.p k) pl:=hGp.keep fun b o _ ho=>zl_ ho
         have hk6:Sx.look (X3++D6) b15=some (.cells (kcC (Vc_ d)).toArray 150 (0,0)):=zl_ hk3
         have hE6:Ext w X (setB (X3++D6) G3.bd (dcO (jQ_ G3 k v6) S3)):=Ext.setB ⟨fun c hc=>by
          rw[zt_] at hc
          rcases List.mem_append.1 hc with hc|hc
          ·exact hE3.new c hc
          ·exact .inr (hN6'.le c hc),fun c hc=>by rw[zt_];exact List.mem_append_left _ (hE3.all c hc)⟩
         have hd7:Sx.look (setB (X3++D6) G3.bd (dcO (jQ_ G3 k v6) S3)) G3.bd=some (dcO (jQ_ G3 k v6) S3):=zw_ hd6
         have hk7:Sx.look (setB (X3++D6) G3.bd (dcO (jQ_ G3 k v6) S3)) b15=some (.cells (kcC (Vc_ d)).toArray 150 (0,0)):=by rw[zb_ (fun e=>h15b (hbd3.symm.trans e))];exact hk6
         have hS8:NdP (setB (X3++D6) G3.bd (dcO (jQ_ G3 k v6) S3)) v6 (qr_ (S3.dir k).seen d):=Gr.keepTy hS7 hd6 (by rw[xc_];exact v6_) fun b o hb ho=>by rw[zb_ (Ne.symm hb)];exact ho
         have hGp8:KcP (setB (X3++D6) G3.bd (dcO (jQ_ G3 k v6) S3)) (G3.p k) pl:=Gr.keepTy hGp6 hd6 (by rw[xc_];exact VW_) fun b o hb ho=>by rw[zb_ (Ne.symm hb)];exact ho
         have hkp8: ∀b o,b≠G3.bd→Sx.look X3 b=some o→Sx.look (setB (X3++D6) G3.bd (dcO (jQ_ G3 k v6) S3)) b=some o:=fun b o hb ho=>by rw[zb_ (Ne.symm hb)];exact zl_ ho
         have hkeys: ∀b,b∈keys X3→b∈keys (setB (X3++D6) G3.bd (dcO (jQ_ G3 k v6) S3)):=fun b hb=>by rw[zQ_,zt_];exact List.mem_append_left _ hb
         clear hnd hS7 hGp6 hk6 hd6 hGs hXs
         generalize setB (X3++D6) G3.bd (dcO (jQ_ G3 k v6) S3)=L4 at*
         have rd7:=za_ (w0:=w) hd7
         have rk7:=za_ (w0:=w) hk7
         have lp7: ∀n,zk_ (some (false,n)) (some (dcO (jQ_ G3 k v6) S3)) (k*3+2)=some (G3.p k):=fun n=>afl_ (jQ_ G3 k v6) S3 hk n
         first|with_reducible refine ks [37] @zr_ ?_|refine kp @zr_ ?_
         refine Cw.regionG [G3.bd,b15] [10] 11 (by kernel_rfl) rfl ?_
         simp only[List.replicate_succ,List.replicate_zero]
         refine OwG.run [0,1,2,3,4,5] [true,true,true,true,true,true,false,false,false,false,false] 5 rfl (by kernel_rfl) (by kernel_rfl) fun k hk=> ?_
         simp only[zo_, ↓zi_, ↓zd_, ↓zz_, ↓zy_,ze_]
         simp(disch:=(first|assumption|omega| (simp only[KC_,XQ_,UInt64.reduceToNat];try omega))) only[↓Sx.S0,Sx.S1,Tryz.fx,zr_,Nat.reduceAdd,Nat.reducePow,Int.reducePow,Nat.reduceBEq, ↓reduceIte,UInt8.reduceToNat,UInt16.reduceToNat,UInt32.reduceToNat,UInt64.reduceToNat,Int.reduceToNat,Md.next_sofnil,rd7,lp7,rk7]
         (with_reducible refine hk _ _ _ ?_);clear hk k
         refine OwG.one 6 _ (by kernel_rfl) rfl ?_
         refine Ow.buildSlice (e:=150) (kcC (Vc_ d)).toArray rfl rfl (zV_ Tryz.underlying54 aqY_ zrKc (by decide) (vN_ _)) fun bp hbp hwp=> ?_
         have hR9: ∀r,r∈ [G3.bd,b15]→r∈keys L4:=fun r hr=>by simp only[List.mem_cons,List.not_mem_nil,or_false] at hr;rcases hr with rfl|rfl;exact zh_ hd7;exact zh_ hk7
         with_reducible refine Ow.nil ?_
         refine⟨(xv_ hR9), ?_⟩
         simp only[List.set_cons_zero,List.set_cons_succ,jH_,v7_,v8_]
         refine OwG.one 7 _ (by kernel_rfl) rfl ?_
         refine Ow.appendG (e:=150) (k:=1) (new:=kcC (Vc_ d)) (G3.p k) rfl rfl rfl Tryz.underlying54 aqY_ (by kernel_rfl) zrKc (by rw[Wu_,List.size_toArray,vN_]) Tryz.underlying54 (by intro k h;cases h) hGp8.app (fun w' hw'=>AppX.one1 (hw'.has bp (.cells (kcC (Vc_ d)).toArray 150 (0,0)) (by simp)) (vN_ _) (aiM_ _)) (vN_ _) (by rw[List.length_map,hpll];omega) (fun v7 L5 hB7 _ hg7 hs7=> ?_)
         have hnb:slB (G3.p k)≠some G3.bd:=fun e=>by
          obtain⟨arr,ha⟩:=kC_ hGp8 e
          rw[hd7] at ha
          have:=congrArg tyO (Option.some.inj ha)
          rw[xc_] at this
          exact VW_ this
         have hd9:Sx.look L5 G3.bd=some (dcO (jQ_ G3 k v6) S3):=hg7.look _ _ hnb (zl_ hd7)
         have rd9:=za_ (w0:=w) hd9
         have st9:=fun x=>XM_ (jQ_ G3 k v6) S3 hk x hB7.cell
         have hk9:Sx.look L5 b15=some (.cells (kcC (Vc_ d)).toArray 150 (0,0)):=hg7.look _ _ (fun e=>by
          exact hb15n e) (zl_ hk7)
         with_reducible refine Ow.nil ?_
         refine⟨(fun r hr=>by simp only[List.mem_cons,List.not_mem_nil,or_false] at hr;rcases hr with rfl|rfl;exact rd9.trans (za_ (zl_ hd7)).symm;exact(za_ hk9).trans (za_ (zl_ hk7)).symm), ?_⟩
         simp only[List.set_cons_zero,List.set_cons_succ,jH_,v7_,v8_]
         refine OwG.rest [8,9,10] rfl (by kernel_rfl) (by kernel_rfl) ?_
         simp only[zo_, ↓zi_, ↓zd_, ↓zz_, ↓zy_,ze_]
         refine kq @zr_ ?_
         refine Ow.store rfl rfl rfl (ke (And.intro @zr_ (And.intro @hd9 (@st9)))) ?_
         refine ko @zr_ ?_
         first|with_reducible refine ks [] @zr_ ?_|refine kp @zr_ ?_
         refine⟨_,(ke @zr_), ?_⟩
         rw[hT]
         have hEf:=((hE6.app (o:= .cells (kcC (Vc_ d)).toArray 150 (0,0)) hwp).grew hg7).setB (b:=G3.bd) (o:=dcO (qX_ (jQ_ G3 k v6) k v7) S3)
         have hkf: ∀b o,b≠G3.bd→slB (G3.p k)≠some b→Sx.look L4 b=some o→Sx.look (setB L5 G3.bd (dcO (qX_ (jQ_ G3 k v6) k v7) S3)) b=some o:=fun b o hb hf ho=>by
          rw[zb_ (Ne.symm hb)];exact hg7.look _ _ hf (zl_ ho)
         have hPf:DcP (setB L5 G3.bd (dcO (qX_ (jQ_ G3 k v6) k v7) S3)) (qX_ (jQ_ G3 k v6) k v7) (zZ_ S3 k ⟨qr_ (S3.dir k).seen d,(S3.dir k).stl,(S3.dir k).pend++ [kz_ d]⟩):=by
          refine hP3.updP hk (pl:=pl) (pl':=pl++ [d]) hGp (fun b o hb hf ho=>hkf b o hb hf (hkp8 b o hb ho)) (zw_ hd9) ?_ ?_ ?_ ?_
          ·exact Gr.keep2 hS8 hGp8 aiy_ hd7 (by rw[xc_];exact v6_) hkf
          ·have hG9:KcP L5 v7 (pl++ [d]):=by
            unfold KcP
            simpa using hB7
           exact Gr.keepTy hG9 hd9 (by rw[xc_];exact VW_) fun b o hb ho=>by rw[zb_ (Ne.symm hb)];exact ho
          ·rw[List.map_append,List.map_append,hpn]
           simp[aiQ_]
          ·intro b hb
           rcases hs7 with h| ⟨c,h,hab⟩
           ·exact .inl (by rw[←h];exact hb)
           ·right
            rw[h] at hb
            cases hb
            intro hm
            have:=zv_ hab (b:=b) (by rw[zt_];exact List.mem_append_left _ (hkeys _ hm))
            omega
         refine⟨hEf,rfl,qX_ (jQ_ G3 k v6) k v7,hbd3, ?_⟩
         unfold Qh_
         rw[J5_]
         exact hPf
      ·have e2:=xu_ hbn
       rw[if_pos hbn]
       refine ko (And.intro @zr_ @e2) ?_
       first|with_reducible refine ks [] (And.intro @zr_ @e2) ?_|refine kp (And.intro @zr_ @e2) ?_
       refine⟨_,(ke @zr_), ?_⟩
       exact⟨hE1,rfl,G,rfl,hP1⟩
end Go.Proofs
end
