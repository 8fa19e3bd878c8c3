/-
  Part 3 of the walk: contracts of the functions that the law reaches, and the calculus they stand on.
  No conditions.
-/
import Derived.Test.YtjjiclcgdngfdaaGreatDoorD2
import Derived.Shelf.SlIter.Nil
import Derived.Shelf.SortM.Plain
import Derived.Shelf.SortM.SortNone
import Derived.Ground.GgzProg
import Derived.Ground.SlgmProg
section
open Go Go.Proofs Go.Sx Go.StP
namespace Go.Proofs
set_option maxRecDepth 10000
set_option maxHeartbeats 400000
set_option linter.unusedSimpArgs false
theorem apT_ (b o:Nat):qz_ Tryz.prog .neq 120 (vp b o) (.pointer none)=some (.bool true):=by
 simp[qz_,eqX,qb_,qd_,Tryz.underlying120,vp]
theorem anQ_:qz_ Tryz.prog .neq 120 (.pointer none) (.pointer none)=some (.bool false):=by
 simp[qz_,eqX,qb_,qd_,Tryz.underlying120]
theorem afO_ (s:List UInt8) (n:Nat):xh_ (Zh_ Tryz.prog 126) (zX_ Tryz.prog 126) [(0,vs s),(1,vi (n:Int))]=some (.agg #[vs s,vi (n:Int)]):=by
 rw[show Zh_ Tryz.prog 126=some [(0,1),(1,1)] from id (by kernel_rfl),show zX_ Tryz.prog 126=some (.agg #[vs [],vi 0]) from id (by kernel_rfl)];rfl
theorem QC_ {X:za_} {c:Nat} {x:Obj} (h:jK_ X c) {b:Nat} {o:Obj} (hb:Sx.look X b=some o):Sx.look ((c,x)::X) b=some o:=by
 have:=zu_ h (ze_ hb)
 simp only[Sx.look]
 rw[if_neg (by omega)];exact hb
structure OfKG where
 i:Nat
 G:DkG
 X:za_
structure OvKG where
 vis:List Nat
 dn:List (List UInt8×Option Nat)
 lf:List (List UInt8×Option Nat)
 it:Obj
 G:DkG
 X:za_
def FiB (l:List FiL):Prop:= ∀f,f∈l→f.name.length<1099511627776∧f.data.length<1099511627776
set_option linter.defProp false
def z9_:=And.intro (And.intro (And.intro (And.intro (@zc_) (@zd_)) (And.intro (@qu_) (And.intro (@qT_) (@qV_)))) (And.intro (And.intro (@qR_) (@apT_)) (And.intro (@anQ_) (And.intro (@Sx.tup2_0) (@Sx.tup2_1))))) (And.intro (And.intro (And.intro (@wF_) (@acW_)) (And.intro (@aeV_) (And.intro (@ae4_) (@aen_)))) (And.intro (And.intro (@aaz_) (@QU_)) (And.intro (@Sx.tup3_0) (And.intro (@Sx.tup3_1) (@Sx.tup3_2)))))
theorem Wr_ (quota:Int) (v:Value) (l:List FiL) (w:World) (hq: -9223372036854775808≤quota∧quota<9223372036854775808) (hG:wR_ w) (hv:FiSl w v l) (hl:l.length<1000000) (hb:FiB l):
  Rets Tryz.prog 16 #[vi quota,v] w (XS w [] (fun v D=> ∃G,v=vp G.bd 0∧DkP D G (ofD quota l))):=by
 have ln:=hv.len
 obtain⟨rb,off,arr,E,fz,hr⟩:=hv.row
 refine Rets.enterX Tryz.func16 rfl (rs:= [.tmp 4]) Tryz.results16 Tryz.ntmps16 (fun p hp=>by cases hp) (by simp[keys]) ?_
 refine kf ?_
 first|with_reducible refine ks [] @z9_ ?_|refine kp @z9_ ?_
 refine Ow.callC rfl rfl Tryz.call28 (fun w' hw'=>aai_ quota w' hq (by obtain⟨e,f,hg⟩:=hG;exact⟨e,f,by rw[hw'.old _ (Array.getElem?_eq_some_iff.1 hg).1 (by simp[keys])];exact hg⟩)) (fun B2 v2 D2 hA2 hB2 hN2 hS2=> ?_)
 obtain⟨G0,rfl,hP0⟩:=hS2
 rw[List.nil_append]
 have hN0:New w.heap.size D2:=hN2.mono hB2
 refine ko @z9_ ?_
 first|with_reducible refine ks [] (And.intro @z9_ @ln) ?_|refine kp (And.intro @z9_ @ln) ?_
 refine Cw.loopG (G:=OfKG) [16,17,18,7,19,20,21,22,23,24,25,8,26,27,28,29,30,31,32,33,34,35,36,37,38,39,40,41,42,43,44,45,46,47,48,49,50,51,52,15] (fun g=> [(15,vi g.i)]) (fun g=>g.X) (fun g=>g.i≤l.length∧DkP g.X g.G ((l.take g.i).foldl zS_ (Qr_ quota))∧g.G.bd=G0.bd∧New w.heap.size g.X) (fun g=>l.length - g.i) ⟨0,G0,D2⟩ rfl rfl ?_ ?_
 ·exact⟨Nat.zero_le _,hP0,rfl,hN0⟩
 intro g j hg
 refine kv ?_
 clear hP0 hN0
 obtain⟨i,G,X⟩:=g
 simp only at hg ⊢
 obtain⟨hi,hP,hbd,hN⟩:=hg
 rw[←hbd]
 by_cases hlt:i<l.length
 ·have d1:decide ((i:Int)< (l.length:Int))=true:=decide_eq_true (by omega)
  have hrl:=hr.lt (by omega)
  have ixl:=hr.idx true i hlt
  have ldl:=hr.load q4_ (by omega) hlt
  have rdl:zx_ w X rb=some (.cells arr E fz):=by rw[z5_ (hN.not hrl)];exact hr.has (by omega)
  have hts: (l.take (i+1)).foldl zS_ (Qr_ quota)=zS_ ((l.take i).foldl zS_ (Qr_ quota)) (l.getD i fi0):=by
   rw[StP.take_snoc (z:=fi0) hlt,List.foldl_append];rfl
  have hfb:=hb (l.getD i fi0) (by rw[List.getD_eq_getElem?_getD,List.getElem?_eq_getElem hlt];exact List.getElem_mem _)
  generalize l.getD i fi0=r at*
  generalize (l.take i).foldl zS_ (Qr_ quota)=S at*
  first|with_reducible refine ks [] (And.intro @z9_ (And.intro @d1 (And.intro @ixl (And.intro @rdl (@ldl))))) ?_|refine kp (And.intro @z9_ (And.intro @d1 (And.intro @ixl (And.intro @rdl (@ldl))))) ?_
  refine Ow.alloc rfl rfl zrFi fun b7 hb7 hw7=> ?_
  simp only[zf_,List.nil_append,List.cons_append]
  refine Ow.permL (M:=(b7, .cells (fiC fi0).toArray 36 (0,0))::X) (by classical exact List.perm_iff_count.2 fun a=>by simp only[List.count_append,List.count_cons,List.count_nil]<;>omega) ?_
  refine ko @z9_ ?_
  have hP1:DkP ((b7, .cells (fiC r).toArray 36 (0,0))::X) G S:=hP.mono fun b o h=>QC_ hb7 h
  have hl7:Sx.look ((b7,Obj.cells (fiC r).toArray 36 (0,0))::X) b7=some (.cells (fiC r).toArray 36 (0,0)):=by simp[Sx.look]
  have hN1:New w.heap.size ((b7,Obj.cells (fiC r).toArray 36 (0,0))::X):=⟨hw7,hN⟩
  generalize (b7,Obj.cells (fiC r).toArray 36 (0,0))::X=L1 at*
  have hr7:=zb_ (w0:=w) hl7
  have hrb:=zb_ (w0:=w) hP1.disk
  obtain⟨om,hom,hM⟩:=hP1.dirs
  first|with_reducible refine ks [] @z9_ ?_|refine kp @z9_ ?_
  refine Cw.regionS [G.bd,b7] [0,1,2,4,3,5,6,7] [] (by kernel_rfl) (by kernel_rfl) (by kernel_rfl) ?_
  simp only[zz_, ↓zk_, ↓zg_, ↓zK_, ↓zJ_,zh_]
  refine kq (And.intro @z9_ (And.intro @hrb (@hr7))) ?_
  refine Ow.soft rfl rfl rfl ?_
  refine Ow.mapGetG (encK:=vs) (encV:=qS_) (k:=r.dir) (z:=none) rfl rfl Tryz.underlying121 jD_ zrPd rfl rfl (zb_ hom) hM ?_
  with_reducible refine Ow.nil ?_
  refine⟨by intro b hb;simp only[List.mem_cons,List.not_mem_nil,or_false] at hb;(try subst hb);rfl, ?_⟩
  rw[Zp_]
  cases hwd:z2_ r.dir with
  |none=>
   have hp0:qS_ none= .pointer none:=rfl
   refine kq (And.intro @z9_ @hp0) ?_
   try with_reducible refine Ow.nil ?_
   first|with_reducible refine ks [] @z9_ ?_|refine kp @z9_ ?_
   exact Again.mk ⟨i+1,G,L1⟩ (by show l.length - (i+1)<l.length - i;omega) ⟨hlt,by show DkP L1 G ((l.take (i+1)).foldl zS_ (Qr_ quota));rw[hts];unfold zS_;rw[hwd];exact hP1,rfl,hN1⟩ rfl rfl
  |some k=>
   have hp: ∀q:Nat,qS_ (some q)=vp q 0:=fun _=>rfl
   have hk3:=(zG_ hwd).1
   refine kq (And.intro @z9_ @hp) ?_
   try with_reducible refine Ow.nil ?_
   first|with_reducible refine ks [] (And.intro @z9_ @hr7) ?_|refine kp (And.intro @z9_ @hr7) ?_
   refine Ow.callFV rfl Tryz.call74 (fun w' hw'=>QT_ r.name w' hfb.1) ?_
   have hno: ¬ (xG_ r.name=true∧r.data.length≤1048576)→zS_ S r=S:=fun h=>by unfold zS_;rw[hwd];simp only;rw[if_neg h]
   cases hfn:xG_ r.name with
   |false=>
    refine ko @z9_ ?_
    first|with_reducible refine ks [] @z9_ ?_|refine kp @z9_ ?_
    exact Again.mk ⟨i+1,G,L1⟩ (by show l.length - (i+1)<l.length - i;omega) ⟨hlt,by show DkP L1 G ((l.take (i+1)).foldl zS_ (Qr_ quota));rw[hts,hno (fun h=>by rw[hfn] at h;cases h.1)];exact hP1,rfl,hN1⟩ rfl rfl
   |true=>
    by_cases hdl:r.data.length≤1048576
    ·have d2:decide ((r.data.length:Int)≤1048576)=true:=decide_eq_true (by omega)
     have hrd:=zb_ (w0:=w) (hP1.dir k hk3)
     obtain⟨os,ms,hos,hms,hnp⟩:=hP1.seen k hk3
     refine ko (And.intro @z9_ (And.intro @hr7 (@d2))) ?_
     first|with_reducible refine ks [] @z9_ ?_|refine kp @z9_ ?_
     refine Cw.regionS [G.d k,b7] [0,1,2,4,6,8,3,5,7,9,10,11,12,13] [13] (by kernel_rfl) (by kernel_rfl) (by kernel_rfl) ?_
     simp only[zz_, ↓zk_, ↓zg_, ↓zK_, ↓zJ_,zh_]
     refine kq (And.intro @z9_ (And.intro @hrd (@hr7))) ?_
     refine Ow.build (.agg #[vs r.data,vi (r.data.length:Int)]) rfl (afO_ r.data r.data.length) ?_
     refine kq @z9_ ?_
     refine Ow.soft rfl rfl rfl ?_
     refine Ow.box rfl rfl fun b8 hb8 hw8=> ?_
     simp only[qD_,qE_,qI_,zf_]
     have hP2:=(hP1.mono (X':=L1++ [(b8,ko_ ⟨r.data,r.data.length⟩)]) fun b o h=>zi_ h).addFile (xp_ hb8) (fun hm=>by have:=zu_ hb8 (hP1.fb_key hm);omega) ⟨hdl,Nat.le_refl _⟩
     have hN2:New w.heap.size (L1++ [(b8,ko_ ⟨r.data,r.data.length⟩)]):=hN1.app (show New w.heap.size [(b8,ko_ ⟨r.data,r.data.length⟩)] from⟨hw8,trivial⟩)
     refine Ow.permL (M:=L1++ [(b8,ko_ ⟨r.data,r.data.length⟩)]) (List.Perm.refl _) ?_
     have hu1:=zb_ (w0:=w) (zi_ (M:= [(b8,ko_ ⟨r.data,r.data.length⟩)]) (hP1.dir k hk3))
     have hu2:=zb_ (w0:=w) (zi_ (M:= [(b8,ko_ ⟨r.data,r.data.length⟩)]) hl7)
     generalize L1++ [(b8,ko_ ⟨r.data,r.data.length⟩)]=L2 at*
     with_reducible refine Ow.nil ?_
     refine⟨fun b hb=>by
      simp only[List.mem_cons,List.not_mem_nil,or_false] at hb
      rcases hb with rfl|rfl
      ·rw[hu1,hrd]
      ·rw[hu2,hr7], ?_⟩
     obtain⟨os2,ms2,hos2,hms2,hnp2⟩:=hP2.seen k hk3
     refine kq @z9_ ?_
     refine Ow.mapUpdateG (encK:=vs) (encV:=qS_) (k:=r.name) (v:=some b8) rfl rfl Tryz.underlying127 jD_ rfl rfl rfl hos2 hms2 (fun o3 hm3=> ?_)
     have hnp3:=hnp2.put (hP2.ok.seen k hk3).nodup r.name S.files.length
     have hfe: (addF G b8).fb.getD S.files.length 0=b8:=Zb_ _ _ hP.len
     rw[hfe] at hnp3
     have hP3:=hP2.seen1 (L:=setB L2 (G.s k) o3) hk3 (l':=Ki_ (S.dir k).seen (r.name,S.files.length)) (fun b o hb h1=>(zj_ (Ne.symm h1)).trans hb) ⟨o3,_,qt_ hos2,hm3,hnp3⟩ (Jt_ _ (hP2.ok.seen k hk3)) (Wg_ (c:=⟨0,r.name,[],S.files.length⟩) (hP2.ok.seenN k hk3) (fun h=>by cases h) (fun _=>by show S.files.length< (S.files++ [_]).length;simp))
     have hN3:New w.heap.size (setB L2 (G.s k) o3):=New.of_le fun q hq=>hN2.le q (by rwa [jF_] at hq)
     refine ko @z9_ ?_
     first|with_reducible refine ks [] @z9_ ?_|refine kp @z9_ ?_
     exact Again.mk ⟨i+1,addF G b8,setB L2 (G.s k) o3⟩ (by show l.length - (i+1)<l.length - i;omega) ⟨hlt,by show DkP (setB L2 (G.s k) o3) (addF G b8) ((l.take (i+1)).foldl zS_ (Qr_ quota));rw[hts];unfold zS_;rw[hwd];simp only;rw[if_pos ⟨hfn,hdl⟩];exact hP3,rfl,hN3⟩ rfl rfl
    ·have d2:decide ((r.data.length:Int)≤1048576)=false:=decide_eq_false (by omega)
     refine ko (And.intro @z9_ (And.intro @hr7 (@d2))) ?_
     first|with_reducible refine ks [] @z9_ ?_|refine kp @z9_ ?_
     exact Again.mk ⟨i+1,G,L1⟩ (by show l.length - (i+1)<l.length - i;omega) ⟨hlt,by show DkP L1 G ((l.take (i+1)).foldl zS_ (Qr_ quota));rw[hts,hno (fun h=>hdl h.2)];exact hP1,rfl,hN1⟩ rfl rfl
 ·obtain rfl:i=l.length:=by omega
  have d1:decide ((l.length:Int)< (l.length:Int))=false:=decide_eq_false (by omega)
  rw[List.take_length] at hP
  unfold ofD
  generalize l.foldl zS_ (Qr_ quota)=S at*
  have hrb:=zb_ (w0:=w) hP.disk
  obtain⟨om,hom,hM⟩:=hP.dirs
  first|with_reducible refine ks [] (And.intro @z9_ (And.intro @d1 (@hrb))) ?_|refine kp (And.intro @z9_ (And.intro @d1 (@hrb))) ?_
  refine Ow.rangeMapG (encK:=vs) (encV:=qS_) rfl rfl Tryz.underlying121 rfl (zb_ hom) hM fun bi oi hbi hwi hI=> ?_
  refine Ow.permL (M:=(bi,oi)::X) (by classical exact List.perm_iff_count.2 fun a=>by simp only[List.count_append,List.count_cons,List.count_nil]<;>omega) ?_
  have hbX:bi∉keys X:=fun hm=>by have:=zu_ hbi hm;omega
  refine ko @z9_ ?_
  first|with_reducible refine ks [] @z9_ ?_|refine kp @z9_ ?_
  refine Cw.loopG (G:=OvKG) [58,59,60,61,10,62,63] (fun g=> []) (fun g=>(bi,g.it)::g.X) (fun g=>ItG vs qS_ g.it G.bm om (Jb_ G) g.dn g.lf∧DkP g.X g.G (setV S g.vis)∧g.dn.map Prod.fst=g.vis.map j5_∧(∀k,k∈g.vis→k<3)∧bi∉keys g.X∧g.G.d=G.d∧g.G.bm=G.bm∧g.G.bd=G.bd∧Sx.look g.X G.bm=some om∧New w.heap.size g.X) (fun g=>g.lf.length) ⟨[],[],Jb_ G,oi,G,X⟩ rfl rfl ?_ ?_
  ·exact⟨hI,by rw[alK_];exact hP,rfl,fun k hk=>(by cases hk),hbX,rfl,rfl,rfl,hom,hN⟩
  intro g j hg
  refine kv ?_
  clear hI hP hN hbX hrb
  obtain⟨vis,dn,lf,it,G1,X1⟩:=g
  simp only at hg ⊢
  obtain⟨hI,hP,hvs,hv3,hbX,hgd,hgm,hgb,hom1,hN⟩:=hg
  have hoX: ∀x b o,Sx.look X1 b=some o→Sx.look ((bi,x)::X1) b=some o:=fun x b o hb=>by
   simp only[Sx.look]
   rw[if_neg (fun e=>hbX (by have e':b=bi:=(by omega); rw[←e'];exact ze_ hb))]
   exact hb
  first|with_reducible refine ks [] @z9_ ?_|refine kp @z9_ ?_
  refine Ow.nextMapG rfl rfl rfl (kb_ _ _ _) (zb_ (hoX _ _ _ hom1)) hI (fun hlf=> ?_) (fun p it' lf' hl' hI'=> ?_)
  ·subst hlf
   have hp:=kE_ hI
   rw[List.append_nil] at hp
   refine ko @z9_ ?_
   first|with_reducible refine ks [] @z9_ ?_|refine kp @z9_ ?_
   refine⟨_,(ke @z9_), ?_⟩
   refine⟨Ext.of_new ⟨hwi,hN⟩,G1,by rw[hgb];rfl, ?_⟩
   rw[show setV S [0,1,2]=setV S vis from af4_ S fun k=>⟨fun hk=> ?_,fun hk=> ?_⟩]
   ·exact hP.mono fun b o hb=>hoX _ _ _ hb
   ·have hk3:k<3:=by simp only[List.mem_cons,List.not_mem_nil,or_false] at hk;omega
    have hm:j5_ k∈dn.map Prod.fst:=by
     refine List.mem_map.2 ⟨(j5_ k,some (G.d k)),hp.mem_iff.2 ?_,rfl⟩
     have:k=0∨k=1∨k=2:=by omega
     rcases this with rfl|rfl|rfl<;>simp[Jb_,j5_]
    rw[hvs] at hm
    obtain⟨j,hj,e⟩:=List.mem_map.1 hm
    have h1:=qv_ (hv3 j hj)
    rw[e,qv_ hk3] at h1
    cases h1;exact hj
   ·have:=hv3 k hk
    simp only[List.mem_cons,List.not_mem_nil,or_false];omega
  ·refine kn ?_
   refine ko @z9_ ?_
   first|with_reducible refine ks [] @z9_ ?_|refine kp @z9_ ?_
   refine Ow.entryMapG (encK:=vs) (encV:=qS_) rfl rfl rfl (wv_ _ _ _ _) (zb_ (hoX _ _ _ hom1)) hI' ?_
   have hp:=kE_ hI'
   obtain⟨k,hk3,rfl⟩:=W1_ (hp.mem_iff.1 (List.mem_append_left _ (List.mem_append_right _ List.mem_cons_self)))
   have hpp: ∀q:Nat,qS_ (some q)=vp q 0:=fun _=>rfl
   refine ko (And.intro @z9_ @hpp) ?_
   first|with_reducible refine ks [] @z9_ ?_|refine kp @z9_ ?_
   refine Ow.permL (M:=X1++ [(bi,it')]) (by classical exact List.perm_iff_count.2 fun a=>by simp only[List.count_append,List.count_cons,List.count_nil]<;>omega) ?_
   refine Ow.callX (X:=X1) (Y:= [(bi,it')]) rfl rfl rfl Tryz.call75 (fun w' hw' hX' hn'=>by rw[show vp (G.d k) 0=vp (G1.d k) 0 by rw[hgd]];exact JQ_ X1 G1 (setV S vis) k w' hX' hn' hP hk3) (fun v4 D4 hC4 hS4=> ?_)
   obtain⟨rfl,hP4,hkeep⟩:=hS4
   rw[ack_] at hP4
   have hbm2:=hP.dirs
   have hom4:Sx.look D4 G.bm=some om:=hkeep _ _ hom1 (by rw[←hgm];exact(hP.nodb k hk3).2) (fun e=>by
    have h1:=hP.dir k hk3
    rw[←e,hom1] at h1
    cases h1
    obtain⟨es,cl,h,-⟩:=hM;cases h)
   have hbD:bi∉keys D4:=fun hm=>by
    rcases hC4.new bi hm with h| ⟨h,-⟩
    ·exact hbX h
    ·have:=zu_ h (b:=bi) (by rw[zr_];simp[keys]);omega
   have hN4:New w.heap.size D4:=jE_ hC4 hN
   refine Ow.permL (M:=(bi,it')::D4) (by classical exact List.perm_iff_count.2 fun a=>by simp only[List.count_append,List.count_cons,List.count_nil]<;>omega) ?_
   refine ko @z9_ ?_
   first|with_reducible refine ks [] @z9_ ?_|refine kp @z9_ ?_
   exact Again.mk ⟨vis++ [k],dn++ [(j5_ k,some (G.d k))],lf',it',aiw_ G1 k (G1.s k),D4⟩ (by show lf'.length<lf.length;omega) ⟨hI',hP4,by show(dn++ [_]).map Prod.fst=(vis++ [k]).map j5_;rw[List.map_append,List.map_append,hvs];rfl,fun j hj=>by
    rcases List.mem_append.1 hj with hj|hj
    ·exact hv3 j hj
    ·rw[List.mem_singleton.1 hj];exact hk3,hbD,hgd,hgm,hgb,hom4,hN4⟩ rfl rfl
end Go.Proofs
end
section
namespace Go.Proofs
open Go Go.Sx Go.StP Go.Shelf
set_option maxRecDepth 100000
def Tryz.keysL_ren:Go.Shelf.Ren:=⟨fun|7=>124|10=>164|n=>n,fun|23=>127|26=>9|3=>124|28=>185|0=>0|27=>184|33=>74|4=>4|n=>n,fun|n=>n⟩
theorem Tryz.keysL:Go.Proofs.SlLaysZ.n7 Tryz.prog Tryz.keysL_ren:={
 mixed:=by kernel_rfl
 f7:=⟨Tryz.f124.name,by decide,Tryz.func124.trans (congrArg some (by kernel_rfl))⟩
 f10:=⟨Tryz.f164.name,by decide,Tryz.func164.trans (congrArg some (by kernel_rfl))⟩
 t0:=Tryz.underlying0
 a0:=Tryz.isAgg0
 z0:=Tryz.sizeOf0
 v0:=Tryz.zeroValue0
 t4:=Tryz.underlying4
 a4:=Tryz.isAgg4
 z4:=Tryz.sizeOf4
 v4:=Tryz.zeroValue4
 t23:=Tryz.underlying127
 a23:=Tryz.isAgg127
 z23:=Tryz.sizeOf127
 v23:=Tryz.zeroValue127
 t26:=Tryz.underlying9
 a26:=Tryz.isAgg9
 z26:=Tryz.sizeOf9
 v26:=Tryz.zeroValue9
 t27:=Tryz.underlying184
 a27:=Tryz.isAgg184
 z27:=Tryz.sizeOf184
 v27:=Tryz.zeroValue184
 t28:=Tryz.underlying185
 a28:=Tryz.isAgg185
 z28:=Tryz.sizeOf185
 v28:=Tryz.zeroValue185
 t33:=Tryz.underlying74
 a33:=Tryz.isAgg74
 z33:=Tryz.sizeOf74
 v33:=Tryz.zeroValue74}
def Tryz.sortedL_ren:Go.Shelf.Ren:=⟨fun|6=>123|8=>162|9=>163|11=>192|13=>194|12=>193|23=>225|24=>226|14=>216|15=>217|16=>218|17=>219|18=>220|19=>221|20=>222|21=>223|22=>224|25=>236|26=>237|27=>238|28=>239|29=>240|30=>241|31=>248|n=>n,fun|26=>9|28=>185|24=>72|0=>0|3=>3|37=>219|48=>207|50=>252|4=>4|40=>284|39=>283|45=>288|5=>5|9=>9|51=>301|55=>305|57=>316|58=>77|33=>74|n=>n,fun|n=>n⟩
theorem Tryz.sortedL:Go.Proofs.SlLaysZ.n6 Tryz.prog Tryz.sortedL_ren:={
 mixed:=by kernel_rfl
 f6:=⟨Tryz.f123.name,by decide,Tryz.func123.trans (congrArg some (by kernel_rfl))⟩
 f8:=⟨Tryz.f162.name,by decide,Tryz.func162.trans (congrArg some (by kernel_rfl))⟩
 f11:=⟨Tryz.f192.name,by decide,Tryz.func192.trans (congrArg some (by kernel_rfl))⟩
 t0:=Tryz.underlying0
 a0:=Tryz.isAgg0
 z0:=Tryz.sizeOf0
 v0:=Tryz.zeroValue0
 t24:=Tryz.underlying72
 a24:=Tryz.isAgg72
 z24:=Tryz.sizeOf72
 v24:=Tryz.zeroValue72
 t26:=Tryz.underlying9
 a26:=Tryz.isAgg9
 z26:=Tryz.sizeOf9
 v26:=Tryz.zeroValue9
 t28:=Tryz.underlying185
 a28:=Tryz.isAgg185
 z28:=Tryz.sizeOf185
 v28:=Tryz.zeroValue185
 i26:=by kernel_rfl}
def Tryz.sortL_ren:Go.Shelf.Ren:=⟨fun|6=>163|8=>194|9=>193|19=>225|20=>226|21=>216|22=>217|23=>218|24=>219|25=>220|26=>221|27=>222|28=>223|29=>224|36=>236|31=>237|32=>238|37=>239|38=>240|39=>241|41=>248|n=>n,fun|27=>72|29=>9|3=>3|32=>219|26=>72|0=>0|44=>207|46=>252|4=>4|36=>284|35=>283|41=>288|5=>5|9=>9|53=>301|57=>305|63=>316|64=>77|n=>n,fun|n=>n⟩
theorem Tryz.sortL:Go.Proofs.SlLaysM.n6 Tryz.prog Tryz.sortL_ren:={
 mixed:=by kernel_rfl
 f6:=⟨Tryz.f163.name,by decide,Tryz.func163.trans (congrArg some (by kernel_rfl))⟩
 f8:=Tryz.func194.trans (congrArg some (by kernel_rfl))
 f9:=⟨Tryz.f193.name,by decide,Tryz.func193.trans (congrArg some (by kernel_rfl))⟩
 f19:=Tryz.func225.trans (congrArg some (by kernel_rfl))
 f20:=Tryz.func226.trans (congrArg some (by kernel_rfl))
 f21:=⟨Tryz.f216.name,by decide,Tryz.func216.trans (congrArg some (by kernel_rfl))⟩
 f22:=⟨Tryz.f217.name,by decide,Tryz.func217.trans (congrArg some (by kernel_rfl))⟩
 f23:=⟨Tryz.f218.name,by decide,Tryz.func218.trans (congrArg some (by kernel_rfl))⟩
 f24:=⟨Tryz.f219.name,by decide,Tryz.func219.trans (congrArg some (by kernel_rfl))⟩
 f25:=⟨Tryz.f220.name,by decide,Tryz.func220.trans (congrArg some (by kernel_rfl))⟩
 f26:=⟨Tryz.f221.name,by decide,Tryz.func221.trans (congrArg some (by kernel_rfl))⟩
 f27:=⟨Tryz.f222.name,by decide,Tryz.func222.trans (congrArg some (by kernel_rfl))⟩
 f28:=⟨Tryz.f223.name,by decide,Tryz.func223.trans (congrArg some (by kernel_rfl))⟩
 f29:=⟨Tryz.f224.name,by decide,Tryz.func224.trans (congrArg some (by kernel_rfl))⟩
 f31:=Tryz.func237.trans (congrArg some (by kernel_rfl))
 f32:=Tryz.func238.trans (congrArg some (by kernel_rfl))
 f36:=⟨Tryz.f236.name,by decide,Tryz.func236.trans (congrArg some (by kernel_rfl))⟩
 f37:=⟨Tryz.f239.name,by decide,Tryz.func239.trans (congrArg some (by kernel_rfl))⟩
 f38:=⟨Tryz.f240.name,by decide,Tryz.func240.trans (congrArg some (by kernel_rfl))⟩
 f39:=⟨Tryz.f241.name,by decide,Tryz.func241.trans (congrArg some (by kernel_rfl))⟩
 f41:=⟨Tryz.f248.name,by decide,Tryz.func248.trans (congrArg some (by kernel_rfl))⟩
 t0:=Tryz.underlying0
 a0:=Tryz.isAgg0
 z0:=Tryz.sizeOf0
 v0:=Tryz.zeroValue0
 t3:=Tryz.underlying3
 a3:=Tryz.isAgg3
 z3:=Tryz.sizeOf3
 v3:=Tryz.zeroValue3
 t4:=Tryz.underlying4
 a4:=Tryz.isAgg4
 z4:=Tryz.sizeOf4
 v4:=Tryz.zeroValue4
 t5:=Tryz.underlying5
 a5:=Tryz.isAgg5
 z5:=Tryz.sizeOf5
 v5:=Tryz.zeroValue5
 t9:=Tryz.underlying9
 a9:=Tryz.isAgg9
 z9:=Tryz.sizeOf9
 v9:=Tryz.zeroValue9
 t26:=Tryz.underlying72
 a26:=Tryz.isAgg72
 z26:=Tryz.sizeOf72
 v26:=Tryz.zeroValue72
 t27:=Tryz.underlying72
 a27:=Tryz.isAgg72
 z27:=Tryz.sizeOf72
 v27:=Tryz.zeroValue72
 t29:=Tryz.underlying9
 a29:=Tryz.isAgg9
 z29:=Tryz.sizeOf9
 v29:=Tryz.zeroValue9
 t32:=Tryz.underlying219
 a32:=Tryz.isAgg219
 z32:=Tryz.sizeOf219
 v32:=Tryz.zeroValue219
 t35:=Tryz.underlying283
 a35:=Tryz.isAgg283
 z35:=Tryz.sizeOf283
 v35:=Tryz.zeroValue283
 t36:=Tryz.underlying284
 a36:=Tryz.isAgg284
 z36:=Tryz.sizeOf284
 v36:=Tryz.zeroValue284
 t41:=Tryz.underlying288
 a41:=Tryz.isAgg288
 z41:=Tryz.sizeOf288
 v41:=Tryz.zeroValue288
 t44:=Tryz.underlying207
 a44:=Tryz.isAgg207
 z44:=Tryz.sizeOf207
 v44:=Tryz.zeroValue207
 t46:=Tryz.underlying252
 a46:=Tryz.isAgg252
 z46:=Tryz.sizeOf252
 v46:=Tryz.zeroValue252
 t53:=Tryz.underlying301
 a53:=Tryz.isAgg301
 z53:=Tryz.sizeOf301
 v53:=Tryz.zeroValue301
 t57:=Tryz.underlying305
 a57:=Tryz.isAgg305
 z57:=Tryz.sizeOf305
 v57:=Tryz.zeroValue305
 t63:=Tryz.underlying316
 a63:=Tryz.isAgg316
 z63:=Tryz.sizeOf316
 v63:=Tryz.zeroValue316
 t64:=Tryz.underlying77
 a64:=Tryz.isAgg77
 z64:=Tryz.sizeOf77
 v64:=Tryz.zeroValue77}
open Go.RowKit Go.Maps Go.Sort
theorem apy_ (m:Nat):AnyZ.SortsIn Tryz.prog Tryz.sortedL_ren Fence.wide m:=
 ⟨fun blk off cap ss W hH hblk hsz=>callsIn_wide.2 (AnyM.slices_Sort_string Tryz.sortL blk off cap ss W hH hblk hsz),
 fun p cap W=>callsIn_wide.2 (AnyM.slices_Sort_string_none Tryz.sortL p cap W)⟩
theorem agm_ {a b:List UInt8} (h:ltB a b=true):leB a b=true:=by
 rw[Vj_,decide_eq_true_eq] at h
 simp only[leB,decide_eq_true_eq]
 exact List.le_of_lt h
theorem aiG_ {l:NmL} (h:SrtN l) {ss:List (List UInt8)} (hp:ss.Perm (l.map Prod.fst)):ss.mergeSort (fun x y=>decide (x≤y))=l.map Prod.fst:=by
 show ss.mergeSort leB=_
 rw[mergeSort_of_perm hp]
 refine List.mergeSort_of_pairwise ?_
 exact List.pairwise_map.2 (h.imp fun h=>agm_ h)
theorem ao8_ {W:World} {base n:Nat} {T:TypeId} {v:Value} {xs:List Value} (h:W.ownsRow base T 1 v n xs): ∃D:za_,(∀p,p∈D→W.heap[p.1]? =some p.2∧base≤p.1)∧(keys D).Nodup∧Gr D T 1 v n xs:=by
 obtain⟨hl,h⟩:=h
 rcases h with⟨rfl,rfl⟩ | ⟨g,cap,cur,rfl,hb,hg,hc,hm,hs,ht⟩
 ·obtain rfl:xs= []:=List.eq_nil_of_length_eq_zero (by simpa using hl)
  exact⟨[],fun p hp=>(by cases hp),List.nodup_nil,Gr.nl⟩
 ·refine⟨[(g, .cells cur T (0,0))], ?_,by simp[keys], ?_⟩
  ·intro p hp
   simp only[List.mem_singleton] at hp
   subst hp
   exact⟨hg,hb⟩
  ·by_cases h0:0<cap
   ·refine .inl (Buf.at_ (rest:=cur.toList.drop (n*1)) ?_ hl ?_ hc h0)
    ·rw[←ht,List.take_append_drop]
     simp[Sx.look]
    ·rw[List.length_drop,Array.length_toList,hs];omega
   ·obtain rfl:cap=0:=by omega
    obtain rfl:n=0:=by omega
    refine .inr ⟨rfl,List.eq_nil_of_length_eq_zero (by simpa using hl),g,rfl, ?_⟩
    have:cur= #[]:=Array.eq_empty_of_size_eq_zero (by simpa using hs)
    simp[Sx.look,this]
def RN (_:Value):Option (DataW Unit×List MemPlace):=some (.nil,[])
theorem am6_ {w:World} {b:Nat} {o:Obj} {m:List (List UInt8×Option Nat)} (ho:w.heap[b]? =some o) (hM:wK_ vs qS_ o m) (hn: (m.map Prod.fst).Nodup) (hk: ∀p,p∈m→p.1.length≤1000000) (hs:m.length≤1000000):
  ∃D0:DataW Unit,w.ownsMap Tryz.prog 9 RN b m.length D0∧Maps.size D0≤1000000∧(strKeys D0).Perm (m.map Prod.fst):=by
 obtain⟨es,clock,rfl,he,hb⟩:=hM
 have hlen:es.size=m.length:=by have:=congrArg List.length he;simpa using this
 have hkey:es.toList.map (·.key)=m.map fun p=>vs p.1:=by
  have:=congrArg (List.map Prod.fst) he
  simpa [x7_,Function.comp_def] using this
 have hrd: ∀x,x∈es.toList→ ∃s:List UInt8,x.key=vs s∧s.length≤1000000:=by
  intro x hx
  have:x.key∈m.map fun p=>vs p.1:=by rw[←hkey];exact List.mem_map.2 ⟨x,hx,rfl⟩
  obtain⟨p,hp,e⟩:=List.mem_map.1 this
  exact⟨p.1,e.symm,hk p hp⟩
 have hrd2: ∀x,x∈es.toList→ ∀s:List UInt8,x.key=vs s→s.length≤1000000→WideElems.rd Tryz.prog 9 RN x=some (.string s, .nil):=by
  intro x hx s hs hl
  have hL:s.length≤maxLen:=Nat.le_trans hl (by decide)
  have hL2: (ByteArray.mk s.toArray).size≤maxLen:=hL
  simp[WideElems.rd,keyOf,Tryz.underlying9,mapKey,hs,RN,vs,hL2]
 have hbo:=List.pairwise_append.1 hb
 refine⟨_,⟨es,clock,ho,⟨?_,⟨?_, ?_, ?_⟩, ?_⟩,by omega,rfl⟩, ?_, ?_⟩
 ·rw[hlen];exact Nat.le_trans hs (by decide)
 ·intro x hx
  exact hbo.2.2 x.born (List.mem_map.2 ⟨x,hx,rfl⟩) clock (by simp)
 ·exact hbo.1.imp fun h=>Nat.ne_of_lt h
 ·rw[hkey]
  have: (m.map Prod.fst).map vs=m.map fun p=>vs p.1:=by simp[Function.comp_def]
  rw[←this]
  refine List.pairwise_map.2 (hn.imp fun h e=>h ?_)
  simpa [vs] using e
 ·intro x hx
  obtain⟨s,e,hl⟩:=hrd x hx
  exact⟨_,hrd2 x hx s e hl⟩
 ·rw[Maps.size_eq,(WideShapes.sorted_perm _).length_eq,List.length_map,Array.length_toList,hlen];exact hs
 ·show(List.map (fun p:Lit×DataW Unit=>strOf p.1) _).Perm _
  refine((WideShapes.sorted_perm _).map _).trans (List.Perm.of_eq ?_)
  rw[List.map_map]
  refine List.map_congr_left ?_|>.trans (?_:es.toList.map (fun x=>match x.key with| .string s=>s.data.toList|_=> [])=_)
  ·intro x hx
   obtain⟨s,e,hl⟩:=hrd x hx
   simp only[Function.comp]
   rw[WideElems.rg_of (hrd2 x hx s e hl),e]
   rfl
  ·have:es.toList.map (fun x=>match x.key with| .string s=>s.data.toList|_=> [])=(es.toList.map (·.key)).map (fun k=>match k with| .string s=>s.data.toList|_=> []):=by rw[List.map_map];rfl
   rw[this,hkey,List.map_map]
   rfl
theorem abu_ (X:za_) (G:DkG) (S:DiskL) (k c:Nat) (w:World) (hP:DkP X G S) (hX: ∀b o,Sx.look X b=some o→w.heap[b]? =some o) (hk:k<3) (hs: (S.dir k).seen.length≤1000000) (hl: ∀p,p∈ (S.dir k).seen→p.1.length≤1000000)
  (hc:w.heap[c]? =some (.cells #[vm (G.s k)] 127 (0,0))):
  Rets Tryz.prog 123 #[.func (.func 164) #[] #[vp c 0]] w (XS w [] (fun v D=>GrI D 9 1 v (S.dir k).seen.length ((S.dir k).seen.map fun p=>vs p.1))):=by
 obtain⟨o,m,h1,h2,h3⟩:=hP.seen k hk
 have ho:=hX _ _ h1
 have hlen:m.length=(S.dir k).seen.length:=by have:=h3.length_eq;simpa using this
 have hmk: ∀p,p∈m→p.1.length≤1000000:=by
  intro p hp
  have:=h3.mem_iff.1 hp
  obtain⟨q,hq,e⟩:=List.mem_map.1 this
  rw[←e];exact hl q hq
 obtain⟨D0,hown,hsz,hperm⟩:=am6_ ho h2 (h3.keys (hP.ok.seen k hk).nodup) hmk (by omega)
 have hcl:=(Array.getElem?_eq_some_iff.1 hc).1
 have hseq:SeqGives Fence.wide 2 Tryz.prog 164 #[.pointer (some ⟨c,0,none⟩)] encStr (fun ss=>ss.Perm (strKeys D0)) (Maps.size D0) w:=
  AnyZ.keys_gives (ρ:=Tryz.keysL_ren) {Tryz.keysL with} Fence.wide _ trivial rfl (by omega) c (G.s k) m.length D0 _ hcl (by simp[World.cell?,hc,vm]) hown
 have h:=AnyZ.sorted_in Tryz.sortedL Fence.wide 5 trivial trivial trivial trivial rfl (by omega) (apy_ _) (enters_of Tryz.func163 (by kernel_rfl) rfl) 164 #[.pointer (some ⟨c,0,none⟩)] trivial (enters_of Tryz.func164 (by kernel_rfl) rfl) _ (Maps.size D0) (Nat.le_trans hsz (by decide)) (by omega) w hseq
 refine Calls.mono (callsIn_wide.1 h) ?_
 rintro e w' ⟨v,ss,rfl,hS,hrow,-,hb⟩
 obtain⟨D,hD,hDn,hG⟩:=ao8_ hrow
 have hss:ss.mergeSort (fun x y=>decide (x≤y))=(S.dir k).seen.map Prod.fst:=by
  refine aiG_ (hP.ok.seen k hk) ((hS.trans hperm).trans ?_)
  have:=h3.map Prod.fst
  refine this.trans (List.Perm.of_eq ?_)
  rw[List.map_map];rfl
 have hsl:ss.length=(S.dir k).seen.length:=by
  have:=congrArg List.length hss
  simpa using this
 refine⟨v,D,rfl,⟨fun b o hm=>(hD _ hm).1,hDn,fun b hb' _=>hb.block b hb',hb.size,hb.tape,hb.os,hb.output⟩,⟨fun b hb'=> ?_,fun b hb'=>(by cases hb')⟩,⟨D,fun _ h=>h, ?_⟩⟩
 ·obtain⟨p,hp,rfl⟩:=List.mem_map.1 hb'
  exact .inr (hD p hp).2
 rw[hss,hsl] at hG
 have: ((S.dir k).seen.map Prod.fst).map encStr=(S.dir k).seen.map fun p=>vs p.1:=by rw[List.map_map];rfl
 rw[this] at hG
 exact hG
end Go.Proofs
end
section
open Go Go.Proofs Go.Sx Go.StP
namespace Go.Proofs
set_option maxRecDepth 10000
set_option maxHeartbeats 400000
set_option linter.unusedSimpArgs false
theorem afi_ (b:Nat) (w:World):
  Rets Tryz.prog 124 #[vm b] w (XS w [] (fun v' D=> ∃b1,v'= .func (.func 164) #[] #[vp b1 0]∧D= [(b1, .cells #[vm b] 127 (0,0))])):=by
 refine Rets.enter Tryz.func124 rfl (rs:= [.tmp 2]) Tryz.results124 Tryz.ntmps124 ?_
 refine kf ?_
 first|with_reducible refine ks [] @Nat.add_zero ?_|refine kp @Nat.add_zero ?_
 refine Ow.box rfl rfl fun b1 hb1 hw1=> ?_
 simp only[qD_,qE_,vm,List.nil_append]
 refine ko @Nat.add_zero ?_
 refine⟨_,(ke @Nat.add_zero), ?_⟩
 exact⟨⟨fun c hc=>(by simp only[keys,List.map_cons,List.map_nil,List.mem_singleton] at hc;exact .inr (hc▸hw1)),fun c hc=>(by cases hc)⟩,b1,by simp[vz_,ev,Zg_],rfl⟩
def DkB (S:DiskL):Prop:= ∀k,k<3→(S.dir k).seen.length≤1000000∧ ∀p,p∈ (S.dir k).seen→p.1.length≤1000000
def ahP_ (S:DiskL) (dir:List UInt8):List (List UInt8):=if jS_ S dir []≠0 then [] else(S.dir ((z2_ dir).getD 0)).seen.map Prod.fst
set_option linter.defProp false
def Jf_:=And.intro (And.intro (And.intro (@zc_) (@zd_)) (And.intro (@qu_) (@qT_))) (And.intro (And.intro (@qV_) (@qR_)) (And.intro (@Sx.tup2_0) (And.intro (@Sx.tup2_1) (@QU_))))
theorem Ve_ (w:World) (G:DkG) (S:DiskL) (dir:List UInt8) (hD:DkW w G S) (hB:DkB S):
  Rets Tryz.prog 79 #[vp G.bd 0,vs dir] w (XS w [] (fun v D=>GrI D 9 1 v (ahP_ S dir).length ((ahP_ S dir).map vs))):=by
 have hD':=hD
 obtain⟨X,hX,hP⟩:=hD
 refine Rets.enter Tryz.func79 rfl (rs:= [.tmp 4]) Tryz.results79 Tryz.ntmps79 ?_
 refine kf ?_
 first|with_reducible refine ks [] @Jf_ ?_|refine kp @Jf_ ?_
 have hN1:New w.heap.size ([]:za_):=trivial
 refine Ow.callC rfl rfl Tryz.call80 (fun w' hw'=>Rets.toX (jT_ w' G S dir (.slice none 0 0) [] (hD'.old hw' hN1) (SlV.nil w') (by simp) (fun s hs=>by cases hs))) (fun B2 v2 D2 hA2 hB2 hN2 hS2=> ?_)
 obtain⟨rfl,hS2⟩:=hS2
 rw[List.append_nil]
 unfold ahP_
 rcases hS2 with⟨he,rfl⟩ | ⟨he,k,hk,rfl⟩
 ·rw[if_pos he]
  have e1:=xE_ he
  refine ko @Jf_ ?_
  first|with_reducible refine ks [] (And.intro @Jf_ @e1) ?_|refine kp (And.intro @Jf_ @e1) ?_
  refine⟨_,(ke @Jf_), ?_⟩
  exact⟨Ext.refl w [],Gr.nl.i fun _ h=>h⟩
 ·rw[if_neg (by rw[he];simp),hk]
  have hk3:=(zG_ hk).1
  have hdr:=hX _ _ (hP.dir k hk3)
  have e1: ((0:Int) !=0)=false:=rfl
  refine ko @Jf_ ?_
  first|with_reducible refine ks [] (And.intro @Jf_ (And.intro @e1 (@hdr))) ?_|refine kp (And.intro @Jf_ (And.intro @e1 (@hdr))) ?_
  refine Ow.callC rfl rfl Tryz.call124 (fun w' hw'=>afi_ (G.s k) w') (fun B3 v3 D3 hA3 hB3 hN3 hS3=> ?_)
  obtain⟨b1,rfl,rfl⟩:=hS3
  rw[List.nil_append]
  have hN3':=hN3.mono hB3
  refine ko @Jf_ ?_
  refine Ow.callC rfl rfl Tryz.call123 (fun w' hw'=>abu_ X G S k b1 w' hP (fun b o h=>(hw'.old b (Array.getElem?_eq_some_iff.1 (hX b o h)).1 (hN3'.not (Array.getElem?_eq_some_iff.1 (hX b o h)).1)).trans (hX b o h)) hk3 (hB k hk3).1 (hB k hk3).2 (hw'.has _ _ List.mem_cons_self)) (fun B4 v4 D4 hA4 hB4 hN4 hS4=> ?_)
  refine ko @Jf_ ?_
  refine⟨_,(ke @Jf_), ?_⟩
  refine⟨Ext.of_new (hN3'.app (hN4.mono hB4)), ?_⟩
  rw[List.length_map,List.map_map]
  exact hS4.mono fun p hp=>List.mem_cons_of_mem _ hp
end Go.Proofs
end
section
open Go Go.Proofs Go.Sx Go.StP
namespace Go.Proofs
set_option maxRecDepth 10000
set_option maxHeartbeats 400000
set_option linter.unusedSimpArgs false
def qy_ (S:DiskL) (k:Nat):List FiL:=(if S.off=true then [] else(S.dir k).seen).map fun p=>⟨j5_ k,p.1,(S.files.getD p.2 qK_).data⟩
def xi_ (S:DiskL):Nat→List FiL
 |0=> []
 |k+1=>xi_ S k++qy_ S k
def zM_ (S:DiskL):List FiL:=xi_ S 3
theorem aaJ_ {S:DiskL} {k:Nat} (hk:k<3):ahP_ S (j5_ k)=(if S.off=true then [] else(S.dir k).seen).map Prod.fst:=by
 unfold ahP_ jS_
 rw[qv_ hk]
 cases S.off<;>simp
theorem abI_ (l:List (List UInt8)): (l.map strC).flatten=l.map vs:=by
 induction l with
 |nil=>rfl
 |cons x l ih=>simp[strC,ih]
theorem QI_ {S:DiskL} (hB:DkB S) {k:Nat} (hk:k<3): (qy_ S k).length≤1000000:=by
 unfold qy_
 rw[List.length_map]
 split
 ·simp
 ·exact(hB k hk).1
theorem xm_ {S:DiskL} (hB:DkB S): ∀k,k≤3→(xi_ S k).length≤k*1000000
 |0,_=>Nat.zero_le _
 |k+1,hk=>by
  have h1:=xm_ hB k (by omega)
  have h2:=QI_ hB (k:=k) (by omega)
  show(xi_ S k++qy_ S k).length≤_
  rw[List.length_append];omega
structure FlG where
 k:Nat
 v:Value
 D1:za_
 DG:za_
structure FjG where
 j:Nat
 v:Value
 D1:za_
 DG:za_
set_option linter.defProp false
def kL_:=And.intro (And.intro (And.intro (@zc_) (And.intro (@zd_) (@qu_))) (And.intro (@qT_) (And.intro (@qV_) (@qR_)))) (And.intro (And.intro (@kn_) (And.intro (@x4_) (@Sx.tup2_0))) (And.intro (@Sx.tup2_1) (And.intro (@QU_) (@wF_))))
theorem jO_ (w:World) (G:DkG) (S:DiskL) (hD:DkW w G S) (hGl:wR_ w) (hB:DkB S):
  Rets Tryz.prog 19 #[vp G.bd 0] w (XS w [] (fun v D=>GrI D 36 3 v (zM_ S).length ((zM_ S).map fiC).flatten)):=by
 have hD':=hD
 obtain⟨X,hX,hP⟩:=hD
 obtain⟨eg,fzg,hgl⟩:=hGl
 have hd:=hX _ _ hP.disk
 obtain⟨om,hom,hM⟩:=hP.dirs
 have hbm:=hX _ _ hom
 have old: ∀b o,w.heap[b]? =some o→ ∀Y,New w.heap.size Y→zx_ w Y b=some o:=fun b o hb Y hY=>by
  rw[z5_ (hY.not (Array.getElem?_eq_some_iff.1 hb).1)];exact hb
 refine Rets.enterX Tryz.func19 rfl (rs:= [.tmp 2]) Tryz.results19 Tryz.ntmps19 (fun p hp=>by cases hp) (by simp[keys]) ?_
 refine kf ?_
 first|with_reducible refine ks [] (And.intro @kL_ (And.intro @hgl (@kC_))) ?_|refine kp (And.intro @kL_ (And.intro @hgl (@kC_))) ?_
 refine Cw.permL (M:= []++ []) (List.Perm.refl _) ?_
 refine Cw.loopG (G:=FlG) [10,11,5,12,13,14,15,16,17,18,19,7,20,21,22,23,24,25,26,27,28,29,30,31,32,33,34,35,36,37,38,39,3,40,41,9] (fun g=> [(3,g.v),(9,vi g.k)]) (fun g=>g.D1++g.DG) (fun g=>g.k≤3∧New w.heap.size g.D1∧New w.heap.size g.DG∧Gr g.D1 36 3 g.v (xi_ S g.k).length ((xi_ S g.k).map fiC).flatten) (fun g=>3 - g.k) ⟨0, .slice none 0 0,[],[]⟩ rfl rfl ?_ ?_
 ·exact⟨Nat.zero_le _,trivial,trivial,Gr.nl⟩
 intro g j hg
 refine kv ?_
 obtain⟨k,v,D1,DG⟩:=g
 simp only at hg ⊢
 obtain⟨hk,hN1,hN2,hGr⟩:=hg
 by_cases hlt:k<3
 ·have d1:decide ((k:Int)<3)=true:=decide_eq_true (by omega)
  have ixk:=ZS_ hlt
  have hfl:=xm_ hB k hk
  have hdl:=QI_ hB hlt
  first|with_reducible refine ks [10] (And.intro @kL_ (And.intro @d1 (@ixk))) ?_|refine kp (And.intro @kL_ (And.intro @d1 (@ixk))) ?_
  refine Ow.callC rfl rfl Tryz.call79 (fun w' hw'=>Ve_ w' G S (j5_ k) (hD'.old hw' (hN1.app hN2)) hB) (fun B3 v3 D3 hA3 hB3 hN3 hS3=> ?_)
  rw[aaJ_ hlt,←abI_] at hS3
  obtain⟨sn,hsn⟩: ∃sn,(if S.off=true then [] else(S.dir k).seen)=sn:=⟨_,rfl⟩
  have hdf:qy_ S k=sn.map fun p=>⟨j5_ k,p.1,(S.files.getD p.2 qK_).data⟩:=by unfold qy_;rw[hsn]
  have hsm: ∀p,p∈sn→p∈ (S.dir k).seen:=by
   intro p hp
   rw[←hsn] at hp
   split at hp
   ·cases hp
   ·exact hp
  rw[hsn] at hS3
  rw[hdf,List.length_map] at hdl
  have hN3':New w.heap.size D3:=hN3.mono hB3
  have ln3:=km_ hS3
  rw[List.length_map] at ln3
  refine ko (And.intro @kL_ @ln3) ?_
  refine Cw.world fun w1 hw1=> ?_
  obtain⟨rb,off,arr,E,fz,hr3,hlk⟩:=hS3.rowL (z:= []) (by rw[List.length_map]) ((hw1.perm (M:=D3++ (D1++DG)) List.perm_append_comm).part) aeN_
  have hlk': ∀ (G:za_),0<sn.length→zx_ w (D3++G) rb=some (.cells arr E fz):=by
   intro G h0
   exact zb_ (zi_ (hlk (by rw[List.length_map];exact h0)))
  clear hw1 hlk
  refine Cw.permL (M:=D3++ (D1++DG)) List.perm_append_comm ?_
  refine Cw.loopG (G:=FjG) [17,18,19,7,20,21,22,23,24,25,26,27,28,29,30,31,32,33,34,35,36,37,38,39,3,40,16] (fun g=> [(3,g.v),(16,vi g.j)]) (fun g=>D3++ (g.D1++g.DG)) (fun g=>g.j≤sn.length∧New w.heap.size g.D1∧New w.heap.size g.DG∧Gr g.D1 36 3 g.v ((xi_ S k).length+g.j) ((xi_ S k++ (qy_ S k).take g.j).map fiC).flatten) (fun g=>sn.length - g.j) ⟨0,v,D1,DG⟩ rfl rfl ?_ ?_
  ·exact⟨Nat.zero_le _,hN1,hN2,by simpa using hGr⟩
  intro g j hg
  refine kv ?_
  clear hGr hN1 hN2
  obtain⟨j,v,D1,DG⟩:=g
  simp only at hg ⊢
  obtain⟨hj,hN1,hN2,hGr⟩:=hg
  by_cases hjt:j<sn.length
  ·have d2:decide ((j:Int)< (sn.length:Int))=true:=decide_eq_true (by omega)
   have hjm:j< (sn.map Prod.fst).length:=by rw[List.length_map];exact hjt
   have ix3:=hr3.idx false j hjm
   have ld3:=fun n=>acm_ hr3 hjm n
   have rd3:=hlk' (D1++DG) (by omega)
   have hp:sn[j]'hjt∈ (S.dir k).seen:=hsm _ (List.getElem_mem _)
   have hse: (sn.map Prod.fst).getD j []=(sn[j]'hjt).1:=by simp[List.getD_eq_getElem?_getD,hjt]
   have hts: (qy_ S k).take (j+1)=(qy_ S k).take j++ [⟨j5_ k,(sn[j]'hjt).1,(S.files.getD (sn[j]'hjt).2 qK_).data⟩]:=by
    rw[hdf,List.take_add_one]
    simp[hjt]
   rw[hse] at ld3
   generalize sn[j]'hjt=p at*
   obtain⟨x,n⟩:=p
   simp only at hp hts ld3
   have hfn:zL_ (S.dir k).seen x=some n:=ZF_ (hP.ok.seen k hlt).nodup hp
   have hnl:n<S.files.length:=hP.ok.seenN k hlt _ hp
   have hNN:New w.heap.size (D3++ (D1++DG)):=hN3'.app (hN1.app hN2)
   have rdd:=old _ _ hd _ hNN
   have rdm:=old _ _ hbm _ hNN
   have rdr:=old _ _ (hX _ _ (hP.dir k hlt)) _ hNN
   obtain⟨os,ms,hos,hms,hnp⟩:=hP.seen k hlt
   have rds:=old _ _ (hX _ _ hos) _ hNN
   have rdf:=old _ _ (hX _ _ (hP.file n hnl)) _ hNN
   first|with_reducible refine ks [] (And.intro @kL_ (And.intro @d2 (And.intro @ix3 (And.intro @ld3 (And.intro @rd3 (@rdd)))))) ?_|refine kp (And.intro @kL_ (And.intro @d2 (And.intro @ix3 (And.intro @ld3 (And.intro @rd3 (@rdd)))))) ?_
   refine kq (And.intro @kL_ @rdd) ?_
   refine Ow.mapGetG (encK:=vs) (encV:=qS_) (k:=j5_ k) (z:=none) rfl rfl Tryz.underlying121 jD_ zrPd rfl rfl rdm hM ?_
   rw[Zp_,qv_ hlt]
   show Ow _ _ _ _ _ _ _ _
   have hpd:qS_ (some (G.d k))=vp (G.d k) 0:=rfl
   refine ko (And.intro @kL_ (And.intro @hpd (@rdr))) ?_
   refine Ow.mapGetG (encK:=vs) (encV:=qS_) (k:=x) (z:=none) rfl rfl Tryz.underlying127 jD_ zrPf rfl rfl rds hms ?_
   rw[hnp.get (hP.ok.seen k hlt).nodup,hfn]
   show Ow _ _ _ _ _ _ _ _
   have hpf:qS_ (some (G.fb.getD n 0))=vp (G.fb.getD n 0) 0:=rfl
   refine ko (And.intro @kL_ (And.intro @hpf (@rdf))) ?_
   refine Ow.build (.agg (fiC ⟨j5_ k,x,(S.files.getD n qK_).data⟩).toArray) rfl (akX_ ⟨j5_ k,x,(S.files.getD n qK_).data⟩) ?_
   refine ko @kL_ ?_
   refine Ow.buildSlice (e:=36) (fiC ⟨j5_ k,x,(S.files.getD n qK_).data⟩).toArray rfl rfl (j3_ Tryz.underlying22 an8_ zrFi (by decide) (q4_ _)) fun ba hba hwa=> ?_
   refine Ow.permL (M:=D1++ (D3++ (DG++ [(ba, .cells (fiC ⟨j5_ k,x,(S.files.getD n qK_).data⟩).toArray 36 (0,0))]))) (by classical exact List.perm_iff_count.2 fun a=>by simp only[List.count_append,List.count_cons,List.count_nil]<;>omega) ?_
   refine Ow.appendXG (e:=36) (k:=1) (new:=fiC ⟨j5_ k,x,(S.files.getD n qK_).data⟩) (X:=D1) v rfl rfl rfl rfl Tryz.underlying22 an8_ (by kernel_rfl) zrFi (by rw[wF_,List.size_toArray,q4_]) Tryz.underlying22 (by intro k h;cases h) hGr (fun w' hw'=>AppX.one1 (hw'.has ba (.cells (fiC ⟨j5_ k,x,(S.files.getD n qK_).data⟩).toArray 36 (0,0)) (by simp)) (q4_ _) (adu_ _)) (by omega) (fun B4 v4 D4 hA4 hB4 hG4 hk41 hk42 hlk4=> ?_)
   have hN4:New w.heap.size D4:=New.of_le fun q hq=>by
    rcases hk42 q hq with h|h
    ·exact hN1.le q h
    ·omega
   refine Ow.permL (M:=D3++ (D4++ (DG++ [(ba, .cells (fiC ⟨j5_ k,x,(S.files.getD n qK_).data⟩).toArray 36 (0,0))]))) (by classical exact List.perm_iff_count.2 fun a=>by simp only[List.count_append,List.count_cons,List.count_nil]<;>omega) ?_
   refine ko @kL_ ?_
   first|with_reducible refine ks [] @kL_ ?_|refine kp @kL_ ?_
   refine Again.mk ⟨j+1,v4,D4,DG++ [(ba, .cells (fiC ⟨j5_ k,x,(S.files.getD n qK_).data⟩).toArray 36 (0,0))]⟩ (by show sn.length - (j+1)<sn.length - j;omega) ⟨hjt,hN4,hN2.app ⟨hwa,trivial⟩, ?_⟩ rfl rfl
   show Gr D4 36 3 v4 ((xi_ S k).length+j+1) ((xi_ S k++ (qy_ S k).take (j+1)).map fiC).flatten
   rw[hts]
   simpa only[List.map_append,List.map_cons,List.map_nil,List.flatten_append,List.flatten_cons,List.flatten_nil,List.append_nil,List.append_assoc] using hG4
  ·obtain rfl:j=sn.length:=by omega
   have d2:decide ((sn.length:Int)< (sn.length:Int))=false:=decide_eq_false (by omega)
   have hdl2: (qy_ S k).length=sn.length:=by rw[hdf,List.length_map]
   rw[←hdl2,List.take_length] at hGr
   first|with_reducible refine ks [10] (And.intro @kL_ @d2) ?_|refine kp (And.intro @kL_ @d2) ?_
   refine Cw.permL (M:=D1++ (D3++DG)) (by classical exact List.perm_iff_count.2 fun a=>by simp only[List.count_append,List.count_cons,List.count_nil]<;>omega) ?_
   first|with_reducible refine ks [] @kL_ ?_|refine kp @kL_ ?_
   refine Again.mk ⟨k+1,v,D1,D3++DG⟩ (by show 3 - (k+1)<3 - k;omega) ⟨hlt,hN1,hN3'.app hN2, ?_⟩ rfl rfl
   show Gr D1 36 3 v (xi_ S k++qy_ S k).length ((xi_ S k++qy_ S k).map fiC).flatten
   rw[List.length_append];exact hGr
 ·obtain rfl:k=3:=by omega
  have d1:decide (((3:Nat):Int)<3)=false:=rfl
  first|with_reducible refine ks [] (And.intro @kL_ @d1) ?_|refine kp (And.intro @kL_ @d1) ?_
  refine⟨_,(ke @kL_), ?_⟩
  exact⟨Ext.of_new (hN1.app hN2),hGr.i fun p hp=>List.mem_append_left _ hp⟩
end Go.Proofs
end
section
open Go Go.Proofs Go.Sx Go.StP
namespace Go.Proofs
set_option maxRecDepth 10000
set_option maxHeartbeats 400000
set_option linter.unusedSimpArgs false
theorem aqY_ (b:Nat):qz_ Tryz.prog .eql 127 (vm b) (.map none)=some (.bool false):=by
 simp[qz_,eqX,qb_,qd_,Tryz.underlying127,vm]
theorem adU_ (b:Nat) (o:Obj) (m:List (List UInt8×Option Nat)) (w:World) (ho:w.heap[b]? =some o) (hm:wK_ vs qS_ o m):
  Rets Tryz.prog 83 #[vm b] w (XS w [] (fun v D=> ∃c o',v=vm c∧D= [(c,o')]∧wK_ vs qS_ o' m)):=by
 refine Rets.enterX Tryz.func83 rfl (rs:= [.tmp 2]) Tryz.results83 Tryz.ntmps83 (fun p hp=>by cases hp) (by simp[keys]) ?_
 refine kf ?_
 have e1:=aqY_ b
 first|with_reducible refine ks [] @e1 ?_|refine kp @e1 ?_
 refine Ow.ifaceMap rfl Tryz.underlying127 rfl ?_
 refine Ow.cloneMap (encK:=vs) (encV:=qS_) rfl rfl (fun a w=>run_callFunc_extern Tryz.func127 (by kernel_rfl) (by kernel_rfl) (by kernel_rfl) (e:=Extern.MapsClone.clone) (by kernel_rfl) #[a] w) rfl (by rw[z5_ (by simp[keys])];exact ho) hm fun c o' hc hwc hm'=> ?_
 refine Ow.assertMap rfl Tryz.underlying127 rfl ?_
 refine ko @Nat.add_zero ?_
 refine⟨_,(ke @Nat.add_zero), ?_⟩
 exact⟨(Ext.refl w []).app hwc,c,o',rfl,rfl,hm'⟩
def u16C (x:UInt16):List Value:= [v16 x]
theorem akK_ (x:UInt16): (u16C x).length=1:=rfl
abbrev akm_ (w:World) (v:Value) (l:List UInt16):Prop:=SlV 1 u16C 0 w v l
def PkS (w:World) (v:Value) (l:List UInt16):Prop:=akm_ w v l∨(l= []∧ ∃a c,v= .slice (some a) 0 c)
theorem PkS.len {w:World} {v:Value} {l:List UInt16} (h:PkS w v l) (x:Bool×Nat):QO_ (.sl x) v=some (vi l.length):=by
 rcases h with h| ⟨rfl,a,c,rfl⟩
 ·exact SlV.len h x
 ·rfl
theorem PkS.cell {w:World} {v:Value} {l:List UInt16} (h:PkS w v l):Value.oneCell' v=true∧v.cells= #[v]:=by
 rcases h with⟨b,off,c,arr,E,fz,hr,hc,⟨rfl,-,-⟩ | ⟨rfl,-,-⟩⟩ | ⟨rfl,a,c,rfl⟩
 ·exact⟨rfl,rfl⟩
 ·exact⟨rfl,rfl⟩
 ·exact⟨rfl,rfl⟩
theorem PkS.old {w w':World} {L:za_} {v:Value} {l:List UInt16} (h:PkS w v l) (hw:Hp w L w') (hb:l≠ []→ ∀b,slB v=some b→b∉keys L):PkS w' v l:=by
 by_cases hl:l= []
 ·subst hl
  rcases h with⟨b,off,c,arr,E,fz,hr,hc,⟨rfl,-,-⟩ | ⟨rfl,-,-⟩⟩ |h
  ·exact .inl (SlV.nil w')
  ·exact .inr ⟨rfl,_,_,rfl⟩
  ·exact .inr h
 ·exact .inl ((h.resolve_right fun e=>hl e.1).old hw fun b h1 _=>hb hl b h1)
def PkB (w:World) (X:za_) (l:List UInt16) (v:Value):Prop:=l≠ []→ ∀b,slB v=some b→b<w.heap.size∧b∉keys X
theorem aof_ {w:World} {v:Value} {l:List UInt16} {b off:Nat} {arr:Array Value} {E:TypeId} {fz:Nat×Nat} (h:RowS 1 u16C 0 w v l b off arr E fz) {k:Nat} (hk:k<l.length) (n:Nat):
  zm_ (some (false,n)) (some (.cells arr E fz)) (off+k)=some (v16 (l.getD k 0)):=by
 have:=h.cell (j:=0) (n:=n) hk (by omega)
 rwa [Nat.mul_one,Nat.add_zero] at this
def kU_ (l:List UInt16) (n:Nat):Nat:=match l with
 | []=>0
 |x::_=>x.toNat% (n+1)
def kz_ (v:Value):Obj:= .cells #[v] 24 (0,0)
theorem aev_ (v:Value) (n:Nat):zm_ (some (false,n)) (some (kz_ v)) 0=some v:=(rfl)
theorem ahK_ (v x:Value) (a:Bool) (hx:Value.oneCell' x=true∧x.cells= #[x]):zq_ (some (a,1)) (some (kz_ v)) 0 x=some (kz_ x):=
 zO_ [] [v] [x] [] a _ 24 rfl rfl hx.2 rfl (by simp[hx.1])
theorem aoa_ {m:Nat} {α:Type} {enc:α→List Value} {z:α} {w:World} {v:Value} {l:List α} (h:SlV m enc z w v l):Value.oneCell' v=true∧v.cells= #[v]:=by
 obtain⟨b,off,c,arr,E,fz,hr,hc,⟨rfl,-,-⟩ | ⟨rfl,-,-⟩⟩:=h
 ·exact⟨rfl,rfl⟩
 ·exact⟨rfl,rfl⟩
set_option linter.defProp false
def ago_:=And.intro (@zc_) (And.intro (@zd_) (@aev_))
theorem K4_ (n:Nat) (b:Nat) (v:Value) (l:List UInt16) (w:World) (hn:n<4611686018427387904) (hv:PkS w v l) (hl:l.length<1000000) (hnb:l≠ []→slB v≠some b) (ho:w.heap[b]? =some (kz_ v)):
  Rets Tryz.prog 82 #[vi n,vp b 0] w (fun r D=> ∃o,D= [(b,o)]∧r=vi (kU_ l n:Nat)∧ ∃v',o=kz_ v'∧(l= []→v'=v)∧(l≠ []→jz_ (.sl (false,1)) v (some (some 1)) none=some v')):=by
 refine Rets.enterM Tryz.func82 rfl (rs:= [.tmp 3]) Tryz.results82 Tryz.ntmps82 ho ?_
 refine kf ?_
 have ln:=hv.len
 cases l with
 |nil=>
  first|with_reducible refine ks [] (And.intro @ago_ @ln) ?_|refine kp (And.intro @ago_ @ln) ?_
  refine⟨_,_,_,(ke @ago_),rfl,trivial, ?_⟩
  exact⟨rfl,v,rfl,fun _=>rfl,fun h=>absurd rfl h⟩
 |cons x l=>
  have hv:akm_ w v (x::l):=hv.resolve_right fun e=>by cases e.1
  obtain⟨v1,h1,h2,-⟩:=hv.dropE (k:=1) (by simp) false
  have hc1:=aoa_ h2
  have st:=fun a=>ahK_ v v1 a hc1
  obtain⟨rb,off,c,arr,E,fz,hr,hc,⟨q1,q2,q3⟩ | ⟨rfl,hb,-⟩⟩:=hv
  ·exact absurd q2 (by simp)
  have hne:rb≠b:=fun e=>hnb (by simp) (by rw[e];rfl)
  have ix:=hr.idx false 0 (by simp)
  have ld:=fun n=>aof_ hr (k:=0) (by simp) n
  have e0: ((((x::l).length:Nat):Int)==0)=false:=beq_eq_false_iff_ne.2 (by simp;omega)
  have rd:zx_ w [(b,kz_ (vsl rb off (x::l).length c))] rb=some (.cells arr E fz):=by rw[z5_ (by simpa [keys] using hne)];exact hb
  rw[Nat.zero_mul,Nat.add_zero] at ix
  rw[show((1:Nat):Int)=1 from rfl] at h1
  simp only[Nat.add_zero] at ld
  first|with_reducible refine ks [] (And.intro @ago_ (And.intro @ln (And.intro @e0 (And.intro @ix (And.intro @ld (And.intro @rd (And.intro @h1 (@st)))))))) ?_|refine kp (And.intro @ago_ (And.intro @ln (And.intro @e0 (And.intro @ix (And.intro @ld (And.intro @rd (And.intro @h1 (@st)))))))) ?_
  refine⟨_,_,_,(ke @ago_),rfl,trivial, ?_⟩
  refine⟨?_,v1,rfl,fun h=>absurd h (by simp),fun _=>h1⟩
  show vi _=vi _
  congr 1
end Go.Proofs
end
section
open Go Go.Proofs Go.Sx Go.StP
namespace Go.Proofs
set_option maxRecDepth 10000
set_option maxHeartbeats 400000
set_option linter.unusedSimpArgs false
theorem DkP.stl1 {X L:za_} {G:DkG} {S:DiskL} (h:DkP X G S) {k:Nat} (hk:k<3) {l':NmL} (keep: ∀b o,Sx.look X b=some o→b≠G.t k→Sx.look L b=some o) (hs:NmM L G.fb (G.t k) l') (h1:SrtN l') (h3: ∀p,p∈l'→p.2<S.files.length):
  DkP L G (z3_ S k ⟨(S.dir k).seen,l',(S.dir k).pend⟩):=by
 obtain⟨osk,msk,hosk,hmsk,-⟩:=h.stl k hk
 have hns: ∀b o,Sx.look X b=some o→tyO o≠none→b≠G.t k:=by
  rintro b o hb ht rfl
  rw[hosk] at hb;cases hb;exact ht (qQ_ hmsk)
 have K: ∀b o,Sx.look X b=some o→tyO o≠none→Sx.look L b=some o:=fun b o hb h1=>keep b o hb (hns b o hb h1)
 have es: ∀j,(z3_ S k ⟨(S.dir k).seen,l',(S.dir k).pend⟩).dir j=if j=k then⟨(S.dir k).seen,l',(S.dir k).pend⟩ else S.dir j:=fun _=>rfl
 have e2: ∀j,((z3_ S k ⟨(S.dir k).seen,l',(S.dir k).pend⟩).dir j).seen=(S.dir j).seen:=fun j=>by
  rw[es];by_cases e:j=k
  ·subst e;rw[if_pos rfl]
  ·rw[if_neg e]
 have e3: ∀j,((z3_ S k ⟨(S.dir k).seen,l',(S.dir k).pend⟩).dir j).pend=(S.dir j).pend:=fun j=>by
  rw[es];by_cases e:j=k
  ·subst e;rw[if_pos rfl]
  ·rw[if_neg e]
 refine⟨K _ _ h.disk (by simp[tyO,jo_]), ?_,fun j hj=>K _ _ (h.dir j hj) (by simp[tyO,xR_]),fun j hj=> ?_,fun j hj=> ?_,fun j hj=> ?_,fun n hn=>K _ _ (h.file n hn) (by simp[tyO,ko_]),h.len,h.nodf,h.nodm,h.nodd,h.nodb,h.nodp,ZE_ h.ok _ (h.ok.seen k hk) h1 (h.ok.seenN k hk) h3 (h.ok.pendN k hk)⟩
 ·obtain⟨o,h1,h2⟩:=h.dirs
  exact⟨o,keep _ _ h1 (h.nodb k hk).2,h2⟩
 ·rw[e2]
  obtain⟨o,m,h1,h2,h3⟩:=h.seen j hj
  exact⟨o,m,keep _ _ h1 (we_ h.nodm hj hk).2.2,h2,h3⟩
 ·rw[es]
  by_cases e:j=k
  ·subst e;rw[if_pos rfl];exact hs
  ·rw[if_neg e]
   obtain⟨o,m,h1,h2,h3⟩:=h.stl j hj
   exact⟨o,m,keep _ _ h1 ((we_ h.nodm hj hk).2.1 e),h2,h3⟩
 ·rw[e3]
  obtain⟨vals,h1,h2,h3⟩:=h.pend j hj
  refine⟨vals,h1,h2.keep fun b o hb ho=> ?_,fun i hi=>(h3 i hi).keep fun b o ho hx=>K b o ho ?_⟩
  ·obtain⟨arr,ha⟩:=ZU_ h2 hb
   rw[ho] at ha;cases ha
   exact K _ _ ho (by simp[tyO])
  ·rcases hx with⟨s,rfl⟩ | ⟨a,rfl⟩<;>simp[tyO,vO_,Vf_]
theorem zI_ (S:DiskL) (k:Nat) (d:DirL): (z3_ S k d).dir k=d:=by
 unfold z3_;simp
theorem z7_ (S:DiskL) {k j:Nat} (d:DirL) (h:j≠k): (z3_ S k d).dir j=S.dir j:=by
 unfold z3_;simp[h]
theorem VF_ (S:DiskL) (k:Nat) (d d':DirL):z3_ (z3_ S k d) k d'=z3_ S k d':=by
 unfold z3_
 simp only
 congr 1
 funext j
 by_cases e:j=k
 ·rw[if_pos e,if_pos e]
 ·rw[if_neg e,if_neg e,if_neg e]
def an6_ (d:DirL):Prop:= ∀i,i<d.pend.length→okC ((d.pend.take i).foldl qW_ d.stl) (d.pend.getD i kT_)
def xW_ (S:DiskL) (k i:Nat):NmL:=((S.dir k).pend.take i).foldl qW_ (S.dir k).stl
def aez_ (q:DiskL×List UInt16) (k:Nat):DiskL×List UInt16:=
 (z3_ q.1 k ⟨xW_ q.1 k (kU_ q.2 (q.1.dir k).pend.length),xW_ q.1 k (kU_ q.2 (q.1.dir k).pend.length),[]⟩,q.2.drop 1)
def zR_ (q:DiskL×List UInt16):Nat→DiskL×List UInt16
 |0=>q
 |k+1=>aez_ (zR_ q k) k
theorem VR_ (l:List UInt16) (n:Nat):kU_ l n≤n:=by
 unfold kU_
 split
 ·exact Nat.zero_le _
 ·have:=Nat.mod_lt ‹UInt16›.toNat (show 0<n+1 by omega)
  omega
theorem agO_ {S:DiskL} {k i:Nat} (h:i< (S.dir k).pend.length):xW_ S k (i+1)=qW_ (xW_ S k i) ((S.dir k).pend.getD i kT_):=by
 unfold xW_
 rw[StP.take_snoc (z:=kT_) h,List.foldl_append];rfl
end Go.Proofs
end
section
open Go Go.Proofs Go.Sx Go.StP
namespace Go.Proofs
set_option maxRecDepth 10000
set_option maxHeartbeats 400000
set_option linter.unusedSimpArgs false
theorem DkP.away {X:za_} {G:DkG} {S:DiskL} (h:DkP X G S) {b:Nat} {v:Value} (hb:Sx.look X b=some (kz_ v)) (x:Obj):DkP (setB X b x) G S where
 disk:=qf_ hb h.disk (by simp[tyO,jo_,kz_])
 dirs:=by obtain⟨o,h1,h2⟩:=h.dirs;exact⟨o,qf_ hb h1 (by rw[qQ_ h2];intro e;cases e),h2⟩
 dir k hk':=qf_ hb (h.dir k hk') (by simp[tyO,xR_,kz_])
 seen k hk':=by
  obtain⟨o,m,h1,h2,h3⟩:=h.seen k hk'
  exact⟨o,m,qf_ hb h1 (by rw[qQ_ h2];intro e;cases e),h2,h3⟩
 stl k hk':=by
  obtain⟨o,m,h1,h2,h3⟩:=h.stl k hk'
  exact⟨o,m,qf_ hb h1 (by rw[qQ_ h2];intro e;cases e),h2,h3⟩
 pend k hk':=by
  obtain⟨vals,h1,h2,h3⟩:=h.pend k hk'
  refine⟨vals,h1,h2.keep fun b o hb' ho=> ?_,fun i hi=>(h3 i hi).keep fun b o ho hx=>qf_ hb ho ?_⟩
  ·obtain⟨arr,ha⟩:=ZU_ h2 hb'
   rw[ho] at ha;cases ha
   exact qf_ hb ho (by simp[tyO,kz_])
  ·rcases hx with⟨s,rfl⟩ | ⟨a,rfl⟩<;>simp[tyO,kz_,vO_,Vf_]
 file n hn:=qf_ hb (h.file n hn) (by simp[tyO,ko_,kz_])
 len:=h.len
 nodf:=h.nodf
 nodm:=h.nodm
 nodd:=h.nodd
 nodb:=h.nodb
 nodp:=h.nodp
 ok:=h.ok
theorem aaM_ {w:World} {v v':Value} {q:List UInt16} (hv:PkS w v q) (h1:q= []→v'=v) (h2:q≠ []→jz_ (.sl (false,1)) v (some (some 1)) none=some v'):PkS w v' (q.drop 1)∧ ∀ {X:za_},PkB w X q v→PkB w X (q.drop 1) v':=by
 cases q with
 |nil=>rw[h1 rfl];exact⟨hv,fun h=>h⟩
 |cons x l=>
  have hv:akm_ w v (x::l):=hv.resolve_right fun e=>by cases e.1
  obtain⟨v2,e1,e2,e3⟩:=hv.dropE (k:=1) (by simp) false
  have:=h2 (by simp)
  rw[show((1:Nat):Int)=1 from rfl,this] at e1
  cases e1
  exact⟨.inl e2,fun h _ b hb=>h (by simp) b (e3 b hb)⟩
theorem anR_ {w w1:World} {L:za_} {T:TypeId} {v:Value} {vals:List Value} (h:Gr L T 1 v vals.length vals) (hw:Hp w L w1) {n:Nat} (hn:n≤vals.length):
  ∃vc rb off arr E fz,jz_ (.sl (false,1)) v none (some (some (n:Int)))=some vc∧RowS 1 (fun v:Value=> [v]) undef w1 vc (vals.take n) rb off arr E fz∧(0<n→Sx.look L rb=some (.cells arr E fz)):=by
 have hfl:vals=(vals.map fun v:Value=> [v]).flatten:=by
  clear h hn
  induction vals with
  |nil=>rfl
  |cons x l ih=>simp[←ih]
 have hsl:SlV 1 (fun v:Value=> [v]) undef w1 v vals:=h.slV hw rfl hfl (fun _=>rfl)
 obtain⟨vc,h1,h2,h3⟩:=hsl.take hn false
 obtain⟨b,off,c,arr,E,fz,hr,hc,⟨q1,q2,q3⟩ | ⟨q1,hb,hs⟩⟩:=h2
 ·refine⟨vc,b,off,arr,E,fz,h1,hr,fun h0=> ?_⟩
  have:=congrArg List.length q2
  rw[List.length_take,List.length_nil,Nat.min_eq_left hn] at this
  omega
 ·refine⟨vc,b,off,arr,E,fz,h1,hr,fun h0=> ?_⟩
  have hk:=h.key (h3 b (by rw[q1];rfl))
  obtain⟨o,ho⟩:=Js_ hk
  have:=hw.has _ _ (zv_ ho)
  rw[hb] at this
  rw[ho,this]
theorem amV_ {w:World} {v:Value} {l:List Value} {b off:Nat} {arr:Array Value} {E:TypeId} {fz:Nat×Nat} (h:RowS 1 (fun v:Value=> [v]) undef w v l b off arr E fz) {k:Nat} (hk:k<l.length) (n:Nat):
  zm_ (some (false,n)) (some (.cells arr E fz)) (off+k)=some (l.getD k undef):=by
 have:=h.cell (j:=0) (n:=n) hk (by omega)
 rwa [Nat.mul_one,Nat.add_zero] at this
theorem afl_ (a b y:Nat) (v:Value) (x:Bool):zq_ (some (x,1)) (some (xR_ a b v)) 0 (vm y)=some (xR_ y b v):=zO_ [] [vm a] [vm y] [vm b,v] x _ 130 rfl rfl rfl rfl rfl
theorem adC_ (S:DiskL) (k:Nat):z3_ S k (S.dir k)=S:=by
 unfold z3_
 cases S
 simp only
 congr 1
 funext j
 by_cases e:j=k
 ·subst e;simp
 ·simp[e]
def q8_ (q:DiskL×List UInt16) (p:List UInt8×Nat):DiskL×List UInt16:=
 (xy_ q.1 p.2 ⟨(zl_ q.1 p.2).data.take ((zl_ q.1 p.2).stl+kU_ q.2 ((zl_ q.1 p.2).data.length - (zl_ q.1 p.2).stl)),((zl_ q.1 p.2).data.take ((zl_ q.1 p.2).stl+kU_ q.2 ((zl_ q.1 p.2).data.length - (zl_ q.1 p.2).stl))).length⟩,q.2.drop 1)
def qL_ (q:DiskL×List UInt16):Nat→DiskL×List UInt16
 |0=>q
 |k+1=>(q.1.dir k).seen.foldl q8_ (qL_ q k)
def w1_ (S:DiskL):DiskL:={S with off:=false,fused:=false}
def zT_ (S:DiskL) (pl:List UInt16):DiskL:=(qL_ (w1_ (zR_ (S,pl) 3).1,(zR_ (S,pl) 3).2) 3).1
theorem K7_ (q:DiskL×List UInt16) (l:NmL): (l.foldl q8_ q).1.dir=q.1.dir:=by
 induction l generalizing q with
 |nil=>rfl
 |cons p l ih=>rw[List.foldl_cons,ih];rfl
theorem xj_ (q:DiskL×List UInt16): ∀k,(qL_ q k).1.dir=q.1.dir
 |0=>rfl
 |k+1=>by
  show(List.foldl q8_ (qL_ q k) _).1.dir=_
  rw[K7_,xj_ q k]
theorem agD_ (q:DiskL×List UInt16) (l:NmL): (l.foldl q8_ q).1.off=q.1.off:=by
 induction l generalizing q with
 |nil=>rfl
 |cons p l ih=>rw[List.foldl_cons,ih];rfl
theorem Qw_ (q:DiskL×List UInt16): ∀k,(qL_ q k).1.off=q.1.off
 |0=>rfl
 |k+1=>by
  show(List.foldl q8_ (qL_ q k) _).1.off=_
  rw[agD_,Qw_ q k]
structure C3G where
 k:Nat
 L:za_
 v:Value
structure C4G where
 j:Nat
 L:za_
 v:Value
structure C1G where
 k:Nat
 G:DkG
 L:za_
 v:Value
structure C2G where
 j:Nat
 L:za_
theorem Qu_ (q:DiskL×List UInt16): ∀ {k j:Nat},k≤j→(zR_ q k).1.dir j=q.1.dir j
 |0,_,_=>rfl
 |k+1,j,h=>by
  show(z3_ _ k _).dir j=_
  rw[z7_ _ _ (by omega)]
  exact Qu_ q (by omega)
set_option linter.defProp false
def qs_:=And.intro (And.intro (And.intro (@zc_) (@zd_)) (And.intro (@qu_) (And.intro (@qT_) (@qV_)))) (And.intro (And.intro (@qR_) (@kn_)) (And.intro (@x4_) (And.intro (@aev_) (@alO_))))
theorem kj_ (X:za_) (G0:DkG) (S:DiskL) (v0:Value) (pl:List UInt16) (w:World) (hX: ∀p,p∈X→w.heap[p.1]? =some p.2) (hn: (keys X).Nodup) (hP0:DkP X G0 S) (hGl:wR_ w) (hgx:0∉keys X) (hB:DkB (zR_ (S,pl) 3).1)
  (hv0:PkS w v0 pl) (hpx:PkB w X pl v0) (hpl:pl.length<1000000) (hpn: ∀k,k<3→an6_ (S.dir k)∧(S.dir k).pend.length<1000000):
  Rets Tryz.prog 22 #[vp G0.bd 0,v0] w (XS w X (fun _v D=> ∃G',G'.bd=G0.bd∧DkP D G' (zT_ S pl))):=by
 obtain⟨eg,fzg,hgl⟩:=hGl
 refine Rets.enterX Tryz.func22 rfl (rs:= []) Tryz.results22 Tryz.ntmps22 hX hn ?_
 refine kf ?_
 first|with_reducible refine ks [3] @qs_ ?_|refine kp @qs_ ?_
 refine Ow.box rfl rfl fun bk hbk hwk=> ?_
 simp only[qD_,qE_,qI_,hv0.cell.2]
 refine Ow.permL (M:=X++ [(bk,kz_ v0)]) (List.Perm.refl _) ?_
 refine ko @qs_ ?_
 first|with_reducible refine ks [3] @qs_ ?_|refine kp @qs_ ?_
 simp only[List.map_toArray,List.map_cons,List.map_nil,qD_,qE_,qI_]
 have rdg: ∀L,Ext w X L→zx_ w L 0=some (.cells #[vs z1_,vs kI_,vs WL_] eg fzg):=fun L hE=>hE.old hgl hgx
 have hE0:Ext w X (X++ [(bk,kz_ v0)]):=(Ext.refl w X).app hwk
 have hr0:=rdg _ hE0
 have hl0:Sx.look (X++ [(bk,kz_ v0)]) bk=some (kz_ v0):=xp_ hbk
 have hP1:DkP (X++ [(bk,kz_ v0)]) G0 S:=hP0.mono fun b o h=>zi_ h
 generalize X++ [(bk,kz_ v0)]=L0 at*
 first|with_reducible refine ks [5,8,12,16] (And.intro @qs_ (And.intro @hr0 (@kC_))) ?_|refine kp (And.intro @qs_ (And.intro @hr0 (@kC_))) ?_
 refine Cw.loopG (G:=C1G) [20,21,6,22,23,24,25,26,27,7,28,29,30,31,32,33,34,35,36,37,38,39,40,41,42,43,44,9,45,46,47,48,49,50,51,52,53,54,55,56,57,58,59,60,61,62,63,19] (fun g=> [(19,vi g.k)]) (fun g=>g.L) (fun g=>g.k≤3∧DkP g.L g.G (zR_ (S,pl) g.k).1∧g.G.bd=G0.bd∧Sx.look g.L bk=some (kz_ g.v)∧PkS w g.v (zR_ (S,pl) g.k).2∧PkB w X (zR_ (S,pl) g.k).2 g.v∧Ext w X g.L∧(zR_ (S,pl) g.k).2.length<1000000) (fun g=>3 - g.k) ⟨0,G0,L0,v0⟩ rfl rfl ?_ ?_
 ·exact⟨Nat.zero_le _,hP1,rfl,hl0,hv0,hpx,hE0,hpl⟩
 intro g j hg
 refine kv ?_
 clear hr0 hl0 hP1 hE0
 obtain⟨k,G,L,v⟩:=g
 simp only at hg ⊢
 obtain⟨hk,hP,hbd,hlk,hv,hvb,hE,hpl1⟩:=hg
 rw[←hbd]
 by_cases hlt:k<3
 ·have d1:decide ((k:Int)<3)=true:=decide_eq_true (by omega)
  have ixk:=ZS_ hlt
  obtain⟨om,hom,hM⟩:=hP.dirs
  have hrd:=zb_ (w0:=w) hP.disk
  have hrr:=zb_ (w0:=w) (hP.dir k hlt)
  have hpd:qS_ (some (G.d k))=vp (G.d k) 0:=rfl
  have hdk:=Qu_ (S,pl) (Nat.le_refl k)
  simp only at hdk
  obtain⟨vals,hvl,hGr,hF⟩:=hP.pend k hlt
  rw[hdk] at hvl hF
  have hpn1:=(hpn k hlt).2
  have lnp:=hGr.len (false,1)
  first|with_reducible refine ks [] (And.intro @qs_ (And.intro @d1 (And.intro @ixk (@hrd)))) ?_|refine kp (And.intro @qs_ (And.intro @d1 (And.intro @ixk (@hrd)))) ?_
  refine Ow.mapGetG (encK:=vs) (encV:=qS_) (k:=j5_ k) (z:=none) rfl rfl Tryz.underlying121 jD_ zrPd rfl rfl (zb_ hom) hM ?_
  rw[Zp_,qv_ hlt]
  show Ow _ _ _ _ _ _ _ _
  refine ko (And.intro @qs_ @hpd) ?_
  first|with_reducible refine ks [] @qs_ ?_|refine kp @qs_ ?_
  refine Cw.regionS [G.d k] [0,1,2,4,5,6,7,13,3,8,9,10,11,12] [] (by kernel_rfl) (by kernel_rfl) (by kernel_rfl) ?_
  simp only[zz_, ↓zk_, ↓zg_, ↓zK_, ↓zJ_,zh_]
  refine kq (And.intro @qs_ (And.intro @hrr (@lnp))) ?_
  refine Ow.soft rfl rfl rfl ?_
  refine Ow.callFnXC (b:=vi vals.length) (ars:= #[vi vals.length,vp bk 0]) rfl (X:=L) (Y:= []) (List.append_nil _).symm rfl rfl rfl rfl Tryz.call82 (fun w' hw' hX' hn'=>Rets.chunk hX' hn' (ze_ hlk) (K4_ vals.length bk v (zR_ (S,pl) k).2 w' (by omega) (hv.old hw' fun hq b hb=>hE.not (hvb hq b hb).1 (hvb hq b hb).2) hpl1 (fun hq e=>by have:=(hvb hq bk e).1;omega) (hX' _ (zv_ hlk)))) (fun r D hC hS=> ?_)
  obtain⟨o,rfl,rfl,v',rfl,hv1,hv2⟩:=hS
  rw[List.append_nil]
  obtain⟨hvn,hvn2⟩:=aaM_ hv hv1 hv2
  have hP1:=hP.away hlk (kz_ v')
  have hE1:=hE.came0 hC
  have hk1: ∀b o,Sx.look L b=some o→tyO o≠some 24→Sx.look (setB L bk (kz_ v')) b=some o:=fun b o hb ht=>qf_ hlk hb ht
  have hlk1:Sx.look (setB L bk (kz_ v')) bk=some (kz_ v'):=qt_ hlk
  have hrr1:=zb_ (w0:=w) (hP1.dir k hlt)
  have hGr1:Gr (setB L bk (kz_ v')) 137 1 (G.p k) vals.length vals:=hGr.keep fun b o hb ho=>by
   obtain⟨arr,ha⟩:=ZU_ hGr hb
   rw[ho] at ha;cases ha
   exact hk1 _ _ ho (by simp[tyO])
  have hF1: ∀i,i<vals.length→FnP (setB L bk (kz_ v')) G.fb (vals.getD i undef) ((S.dir k).pend.getD i kT_):=fun i hi=>(hF i hi).keep fun b o ho hx=>hk1 _ _ ho (by rcases hx with⟨s,rfl⟩ | ⟨a,rfl⟩<;>simp[tyO,vO_,Vf_])
  have hple:=VR_ (zR_ (S,pl) k).2 vals.length
  have hcr:zR_ (S,pl) (k+1)=aez_ (zR_ (S,pl) k) k:=rfl
  unfold aez_ at hcr
  rw[hdk,←hvl] at hcr
  generalize kU_ (zR_ (S,pl) k).2 vals.length=n at*
  have hbkd:bk≠G.d k:=fun e=>by
   have hdd:=hP1.dir k hlt
   rw[←e,hlk1] at hdd
   simp[xR_,kz_] at hdd
  generalize setB L bk (kz_ v')=L1 at*
  refine Ow.world fun w1 hw1=> ?_
  obtain⟨vc,rb,off,arr,E,fz,hsl,hrw,hlr⟩:=anR_ hGr1 hw1 hple
  clear hw1
  have lnc:=hrw.len (false,1)
  rw[List.length_take,Nat.min_eq_left hple] at lnc
  with_reducible refine Ow.nil ?_
  refine⟨fun b hb=>by rw[List.mem_singleton] at hb;subst hb;rw[hrr,hrr1], ?_⟩
  refine kq (And.intro @qs_ (And.intro @hsl (@lnc))) ?_
  have hself:z3_ (zR_ (S,pl) k).1 k ⟨((zR_ (S,pl) k).1.dir k).seen,xW_ (zR_ (S,pl) k).1 k 0,((zR_ (S,pl) k).1.dir k).pend⟩=(zR_ (S,pl) k).1:=adC_ _ _
  have hfe: ∀j,xW_ (zR_ (S,pl) k).1 k j=xW_ S k j:=fun j=>by unfold xW_;rw[hdk]
  have hq2: (zR_ (S,pl) (k+1)).2=(zR_ (S,pl) k).2.drop 1:=rfl
  generalize zR_ (S,pl) k=q at*
  obtain⟨Sk,pk⟩:=q
  simp only at*
  refine Cw.loopG (G:=C2G) [42,43,44,9,45,46,47,48,49,50,51,41] (fun g=> [(41,vi g.j)]) (fun g=>g.L) (fun g=>g.j≤n∧DkP g.L G (z3_ Sk k ⟨(Sk.dir k).seen,xW_ Sk k g.j,(Sk.dir k).pend⟩)∧Sx.look g.L bk=some (kz_ v')∧Ext w X g.L∧(∀b o,Sx.look L1 b=some o→b≠G.t k→Sx.look g.L b=some o)) (fun g=>n - g.j) ⟨0,L1⟩ rfl rfl ?_ ?_
  ·exact⟨Nat.zero_le _,by rw[hself];exact hP1,hlk1,hE1,fun _ _ h _=>h⟩
  intro g j hg
  refine kv ?_
  obtain⟨j,L2⟩:=g
  simp only at hg ⊢
  obtain⟨hj,hP2,hlk2,hE2,hkp⟩:=hg
  by_cases hjt:j<n
  ·have d2:decide ((j:Int)< (n:Int))=true:=decide_eq_true (by omega)
   have hjm:j< (vals.take n).length:=by rw[List.length_take,Nat.min_eq_left hple];exact hjt
   have ix3:=hrw.idx false j hjm
   rw[Nat.mul_one] at ix3
   have ld3:=fun n=>amV_ hrw hjm n
   have hvj: (vals.take n).getD j undef=vals.getD j undef:=by
    rw[List.getD_eq_getElem?_getD,List.getD_eq_getElem?_getD,List.getElem?_take_of_lt hjt]
   rw[hvj] at ld3
   have hpj:j< (S.dir k).pend.length:=by omega
   have htm: ∀ {b:Nat} {o:Obj},Sx.look L1 b=some o→tyO o≠none→b≠G.t k:=by
    intro b o hb ht e
    obtain⟨ot,mt,hot,hmt,-⟩:=hP1.stl k hlt
    rw[e,hot] at hb;cases hb
    exact ht (qQ_ hmt)
   have hFj:FnP L2 G.fb (vals.getD j undef) ((S.dir k).pend.getD j kT_):=(hF1 j (by omega)).keep fun b o ho hx=>hkp b o ho (htm ho (by rcases hx with⟨s,rfl⟩ | ⟨a,rfl⟩<;>simp[tyO,vO_,Vf_]))
   have hN2:=hP2.stl k hlt
   have hs2:=hP2.ok.stl k hlt
   have hl2:=hP2.ok.stlN k hlt
   have hp2:=hP2.ok.pendN k hlt
   rw[zI_] at hN2 hs2 hl2 hp2
   have hok:okC (xW_ Sk k j) ((S.dir k).pend.getD j kT_):=by rw[hfe];exact(hpn k hlt).1 j hpj
   obtain⟨fk,cap,hvf,hfk,hcall⟩:=XU_ hFj hN2 hs2 hok
   rw[hvf] at ld3
   have hlr2:=hkp rb _ (hlr (by omega)) (htm (hlr (by omega)) (by simp[tyO]))
   have rd3:=zb_ (w0:=w) hlr2
   have hrr2:=zb_ (w0:=w) (hP2.dir k hlt)
   have hbk2:=htm hlk1 (by simp[tyO,kz_])
   first|with_reducible refine ks [] (And.intro @qs_ (And.intro @d2 (And.intro @ix3 (And.intro @ld3 (And.intro @rd3 (@hrr2)))))) ?_|refine kp (And.intro @qs_ (And.intro @d2 (And.intro @ix3 (And.intro @ld3 (And.intro @rd3 (@hrr2)))))) ?_
   refine Ow.callFnXC (b:=vm (G.t k)) (cap:=cap) (ars:= #[vm (G.t k)]++cap) rfl (X:=L2) (Y:= []) (List.append_nil _).symm rfl rfl rfl rfl hfk (fun w' hw' hX' hn'=>hcall w' hX' hn') (fun r D hC hS=> ?_)
   rw[List.append_nil]
   obtain⟨rfl,o',hO,hN3⟩:=hS
   have hE3:=hE2.came0 hC
   have hP3:=hP2.stl1 hlt (l':=qW_ (xW_ Sk k j) ((S.dir k).pend.getD j kT_)) (fun b o hb hne=>(hO.rest b hne).trans hb) hN3 (afd_ _ hs2) (Wg_ hl2 hok fun h0=>hp2 _ (by show _∈ (Sk.dir k).pend;rw[hdk,List.getD_eq_getElem?_getD,List.getElem?_eq_getElem hpj];exact List.getElem_mem _) h0)
   rw[zI_,VF_] at hP3
   have hnx:xW_ Sk k (j+1)=qW_ (xW_ Sk k j) ((S.dir k).pend.getD j kT_):=by rw[agO_ (by rw[hdk];exact hpj),hdk]
   refine ko @qs_ ?_
   first|with_reducible refine ks [] @qs_ ?_|refine kp @qs_ ?_
   exact Again.mk ⟨j+1,D⟩ (by show n - (j+1)<n - j;omega) ⟨hjt,by rw[hnx];exact hP3,(hO.rest bk hbk2).trans hlk2,hE3,fun b o hb hne=>(hO.rest b hne).trans (hkp b o hb hne)⟩ rfl rfl
  ·obtain rfl:j=n:=by omega
   have d2:decide ((j:Int)< (j:Int))=false:=decide_eq_false (by omega)
   have hN2:=hP2.stl k hlt
   have hs2:=hP2.ok.stl k hlt
   have hl2:=hP2.ok.stlN k hlt
   rw[zI_] at hN2 hs2 hl2
   obtain⟨ot,mt,hot,hmt,hnp⟩:=hN2
   have hdl2:=hP2.dir k hlt
   have hrr2:=zb_ (w0:=w) hdl2
   first|with_reducible refine ks [13] (And.intro @qs_ (And.intro @d2 (@hrr2))) ?_|refine kp (And.intro @qs_ (And.intro @d2 (@hrr2))) ?_
   refine Ow.callC rfl rfl Tryz.call83 (fun w' hw'=>adU_ (G.t k) ot mt w' (hw'.has _ _ (zv_ hot)) hmt) (fun B4 v4 D4 hA4 hB4 hN4 hS4=> ?_)
   obtain⟨c,o4,rfl,rfl,hm4⟩:=hS4
   have hbc:jK_ L2 c:=z4_ fun b hb=>by
    have h1:=zu_ hA4 hb
    have h2:=hN4.le c (by simp[keys])
    omega
   have hcn:c∉keys L2:=fun hm=>by have:=zu_ hbc hm;omega
   have hl3:Sx.look (L2++ [(c,o4)]) (G.d k)=some (xR_ (G.s k) (G.t k) (G.p k)):=zi_ hdl2
   have hlc3:Sx.look (L2++ [(c,o4)]) c=some o4:=xp_ hbc
   have hkp3: ∀b o,Sx.look L2 b=some o→Sx.look (L2++ [(c,o4)]) b=some o:=fun b o h=>zi_ h
   have hE3:=hE2.app (o:=o4) (b:=c) (by have:=hN4.le c (by simp[keys]);omega)
   generalize L2++ [(c,o4)]=L3 at*
   have hr3:=zb_ (w0:=w) hl3
   have st0:=fun x=>afl_ (G.s k) (G.t k) c (G.p k) x
   have hcd:c≠G.d k:=fun e=>hcn (by rw[e];exact ze_ hdl2)
   have hl4:Sx.look (setB L3 (G.d k) (xR_ c (G.t k) (G.p k))) (G.d k)=some (xR_ c (G.t k) (G.p k)):=qt_ hl3
   have hlc4:Sx.look (setB L3 (G.d k) (xR_ c (G.t k) (G.p k))) c=some o4:=by rw[zj_ (Ne.symm hcd)];exact hlc3
   have hkp4: ∀b o,Sx.look L2 b=some o→b≠G.d k→Sx.look (setB L3 (G.d k) (xR_ c (G.t k) (G.p k))) b=some o:=fun b o h hne=>by rw[zj_ (Ne.symm hne)];exact hkp3 b o h
   have hE4:=hE3.setB (b:=G.d k) (o:=xR_ c (G.t k) (G.p k))
   refine ko (And.intro @qs_ (And.intro @hl3 (And.intro @st0 (@Kg_)))) ?_
   generalize setB L3 (G.d k) (xR_ c (G.t k) (G.p k))=L4 at*
   have hr4:=zb_ (w0:=w) hl4
   have st2:=fun x=>Qh_ c (G.t k) (G.p k) (.slice none 0 0) x ⟨rfl,rfl⟩
   first|with_reducible refine ks [] (And.intro @qs_ (And.intro @hl4 (And.intro @hr4 (And.intro @st2 (@Kg_))))) ?_|refine kp (And.intro @qs_ (And.intro @hl4 (And.intro @hr4 (And.intro @st2 (@Kg_))))) ?_
   have hkp5: ∀b o,Sx.look L2 b=some o→b≠G.t k→b≠G.d k→Sx.look (setB L4 (G.d k) (xR_ c (G.t k) (.slice none 0 0))) b=some o:=fun b o h _ hne=>by rw[zj_ (Ne.symm hne)];exact hkp4 b o h hne
   have hmd: ∀ {b:Nat} {o:Obj} {m:List (List UInt8×Option Nat)},Sx.look L2 b=some o→wK_ vs qS_ o m→b≠G.d k:=by
    intro b o m hb hm e
    rw[e,hdl2] at hb;cases hb
    obtain⟨es,cl,h,-⟩:=hm;cases h
   have hP5:=hP2.calm hlt (s':=c) ⟨xW_ Sk k j,xW_ Sk k j,[]⟩ rfl hkp5 ⟨o4,mt,by rw[zj_ (Ne.symm hcd)];exact hlc4,hm4,hnp⟩ ⟨ot,mt,by rw[zj_ (Ne.symm (hmd hot hmt))];exact hkp4 _ _ hot (hmd hot hmt),hmt,hnp⟩ (qt_ hl4) (.inr hcn) hs2 hs2 hl2 hl2
   rw[VF_] at hP5
   have hbkd2:bk≠G.d k:=fun e=>hbkd e
   exact Again.mk ⟨k+1,aiw_ G k c,setB L4 (G.d k) (xR_ c (G.t k) (.slice none 0 0)),v'⟩ (by show 3 - (k+1)<3 - k;omega) ⟨hlt,by rw[hcr];exact hP5,rfl,by rw[zj_ (Ne.symm hbkd)];exact hkp4 _ _ hlk2 hbkd,by rw[hcr];exact hvn,by rw[hcr];exact hvn2 hvb,hE4.setB,by rw[hcr];show(pk.drop 1).length<1000000;rw[List.length_drop];omega⟩ rfl rfl
 ·obtain rfl:k=3:=by omega
  have d1:decide (((3:Nat):Int)<3)=false:=rfl
  unfold zT_
  generalize zR_ (S,pl) 3=q at*
  obtain⟨S3,p3⟩:=q
  simp only at*
  have hok1:DkOk {S3 with off:=false}:=⟨hP.ok.seen,hP.ok.stl,hP.ok.seenN,hP.ok.stlN,hP.ok.pendN,hP.ok.file,hP.ok.fuse,hP.ok.max⟩
  have hP1:=hP.setDisk {S3 with off:=false} rfl rfl hok1
  have hok2:DkOk (w1_ S3):=⟨hP.ok.seen,hP.ok.stl,hP.ok.seenN,hP.ok.stlN,hP.ok.pendN,hP.ok.file,⟨hP.ok.fuse.1,hP.ok.fuse.2.1,fun h=>by cases h⟩,hP.ok.max⟩
  have hP2:=hP1.setDisk (w1_ S3) rfl rfl hok2
  have hr0:=zb_ (w0:=w) hP.disk
  have hl1:=hP.disk
  have hl2:=hP1.disk
  have st4:=fun x=>Vs_ G.bm S3 false x
  have st3:=fun x=>Vz_ G.bm {S3 with off:=false} false x
  have hrg:=rdg
  have hbkb:bk≠G.bd:=fun e=>by
   have hdd:=hP.disk
   rw[←e,hlk] at hdd
   simp[jo_,kz_] at hdd
  have hlk2:Sx.look (setB (setB L G.bd (jo_ G.bm {S3 with off:=false})) G.bd (jo_ G.bm (w1_ S3))) bk=some (kz_ v):=by
   rw[zj_ (Ne.symm hbkb),zj_ (Ne.symm hbkb)];exact hlk
  have hE2:=(hE.setB (b:=G.bd) (o:=jo_ G.bm {S3 with off:=false})).setB (b:=G.bd) (o:=jo_ G.bm (w1_ S3))
  have hr2:=rdg _ hE2
  have hr5:zx_ w (setB (setB L G.bd (jo_ G.bm {S3 with off:=false})) G.bd (jo_ G.bm {S3 with off:=false,fused:=false})) 0=_:=hr2
  have hlk5:Sx.look (setB (setB L G.bd (jo_ G.bm {S3 with off:=false})) G.bd (jo_ G.bm {S3 with off:=false,fused:=false})) bk=some (kz_ v):=hlk2
  have hE5:Ext w X (setB (setB L G.bd (jo_ G.bm {S3 with off:=false})) G.bd (jo_ G.bm {S3 with off:=false,fused:=false})):=hE2
  have hP5:DkP (setB (setB L G.bd (jo_ G.bm {S3 with off:=false})) G.bd (jo_ G.bm {S3 with off:=false,fused:=false})) G (w1_ S3):=hP2
  clear hr2 hlk2 hE2 hP2
  first|with_reducible refine ks [17] (And.intro @qs_ (And.intro @d1 (And.intro @hl1 (And.intro @hl2 (And.intro @st4 (And.intro @st3 (And.intro @Kg_ (And.intro @hr5 (@kC_))))))))) ?_|refine kp (And.intro @qs_ (And.intro @d1 (And.intro @hl1 (And.intro @hl2 (And.intro @st4 (And.intro @st3 (And.intro @Kg_ (And.intro @hr5 (@kC_))))))))) ?_
  generalize hL5:setB (setB L G.bd (jo_ G.bm {S3 with off:=false})) G.bd (jo_ G.bm {S3 with off:=false,fused:=false})=L5 at*
  have hdw: (w1_ S3).dir=S3.dir:=rfl
  have how: (w1_ S3).off=false:=rfl
  generalize w1_ S3=S5 at*
  refine Cw.loopG (G:=C3G) [72,73,11,74,75,76,77,78,79,80,81,13,82,83,84,85,86,87,88,89,90,91,92,14,93,94,95,96,97,98,99,100,101,102,103,104,105,106,107,108,109,110,111,112,113,114,115,116,117,118,119,120,121,122,123,124,125,126,127,71] (fun g=> [(71,vi g.k)]) (fun g=>g.L) (fun g=>g.k≤3∧DkP g.L G (qL_ (S5,p3) g.k).1∧Sx.look g.L bk=some (kz_ g.v)∧PkS w g.v (qL_ (S5,p3) g.k).2∧PkB w X (qL_ (S5,p3) g.k).2 g.v∧Ext w X g.L∧(qL_ (S5,p3) g.k).2.length<1000000) (fun g=>3 - g.k) ⟨0,L5,v⟩ rfl rfl ?_ ?_
  ·exact⟨Nat.zero_le _,hP5,hlk5,hv,hvb,hE5,hpl1⟩
  intro g j hg
  refine kv ?_
  obtain⟨k,L6,v6⟩:=g
  simp only at hg ⊢
  obtain⟨hk6,hP6,hlk6,hv6,hvb6,hE6,hpl6⟩:=hg
  by_cases hlt6:k<3
  ·have d6:decide ((k:Int)<3)=true:=decide_eq_true (by omega)
   have ixk:=ZS_ hlt6
   have hd6:=xj_ (S5,p3) k
   have ho6:=Qw_ (S5,p3) k
   simp only at hd6 ho6
   have hB6:DkB (qL_ (S5,p3) k).1:=by
    intro i hi
    rw[hd6,hdw];exact hB i hi
   have hcm:qL_ (S5,p3) (k+1)=((S5.dir k).seen).foldl q8_ (qL_ (S5,p3) k):=rfl
   first|with_reducible refine ks [26] (And.intro @qs_ (And.intro @d6 (@ixk))) ?_|refine kp (And.intro @qs_ (And.intro @d6 (@ixk))) ?_
   refine Ow.callC rfl rfl Tryz.call79 (fun w' hw'=>Ve_ w' G (qL_ (S5,p3) k).1 (j5_ k) (hP6.world hw') hB6) (fun B7 v7 D7 hA7 hB7 hN7 hS7=> ?_)
   rw[aaJ_ hlt6,hd6,ho6,how,if_neg (by simp),←abI_] at hS7
   obtain⟨sn,hsn⟩: ∃sn,(S5.dir k).seen=sn:=⟨_,rfl⟩
   rw[hsn] at hcm hS7
   have ln7:=km_ hS7
   rw[List.length_map] at ln7
   refine ko (And.intro @qs_ @ln7) ?_
   refine Cw.world fun w1 hw1=> ?_
   obtain⟨rb,off,arr,E,fz,hr7,hlk7⟩:=hS7.rowL (z:= []) (by rw[List.length_map]) ((hw1.perm (M:=D7++L6) List.perm_append_comm).part) aeN_
   clear hw1
   have hq6:=hP6.ok.seen k hlt6
   have hsl6:=(hB6 k hlt6).1
   rw[hd6,hsn] at hq6 hsl6
   have hrn: ∀c,c∈keys L6→0<sn.length→rb≠c:=fun c hc h0 e=>by
    have h1:=zu_ hA7 hc
    have h2:=hN7.le rb (ze_ (hlk7 (by rw[List.length_map];exact h0)))
    omega
   have hlr7:0<sn.length→Sx.look (L6++D7) rb=some (.cells arr E fz):=fun h0=>by
    rw[qc_ (fun hm=>hrn rb hm h0 rfl)]
    exact hlk7 (by rw[List.length_map];exact h0)
   have hP7:DkP (L6++D7) G (qL_ (S5,p3) k).1:=hP6.mono fun b o h=>zi_ h
   have hlk8:Sx.look (L6++D7) bk=some (kz_ v6):=zi_ hlk6
   have hE7:Ext w X (L6++D7):=⟨fun c hc=>by
    rw[zr_] at hc
    rcases List.mem_append.1 hc with h|h
    ·exact hE6.new c h
    ·exact .inr (Nat.le_trans hB7 (hN7.le c h)),fun c hc=>by rw[zr_];exact List.mem_append_left _ (hE6.all c hc)⟩
   have hfk: ∀n,n< (qL_ (S5,p3) k).1.files.length→G.fb.getD n 0∈keys L6:=fun n hn=>ze_ (hP6.file n hn)
   have hbk6:=ze_ hlk6
   clear hlk7 hS7
   generalize L6++D7=L7 at*
   refine Cw.loopG (G:=C4G) [79,80,81,13,82,83,84,85,86,87,88,89,90,91,92,14,93,94,95,96,97,98,99,100,101,102,103,104,105,106,107,108,109,110,111,112,113,114,115,116,117,118,119,120,121,122,123,124,125,126,78] (fun g=> [(78,vi g.j)]) (fun g=>g.L) (fun g=>g.j≤sn.length∧DkP g.L G ((sn.take g.j).foldl q8_ (qL_ (S5,p3) k)).1∧Sx.look g.L bk=some (kz_ g.v)∧PkS w g.v ((sn.take g.j).foldl q8_ (qL_ (S5,p3) k)).2∧PkB w X ((sn.take g.j).foldl q8_ (qL_ (S5,p3) k)).2 g.v∧Ext w X g.L∧((sn.take g.j).foldl q8_ (qL_ (S5,p3) k)).2.length<1000000∧(0<sn.length→Sx.look g.L rb=some (.cells arr E fz))) (fun g=>sn.length - g.j) ⟨0,L7,v6⟩ rfl rfl ?_ ?_
   ·exact⟨Nat.zero_le _,hP7,hlk8,hv6,hvb6,hE7,hpl6,hlr7⟩
   intro g j hg
   refine kv ?_
   obtain⟨j,L8,v8⟩:=g
   simp only at hg ⊢
   obtain⟨hj,hP8,hlk9,hv8,hvb8,hE8,hpl8,hlr8⟩:=hg
   by_cases hjt:j<sn.length
   ·have d2:decide ((j:Int)< (sn.length:Int))=true:=decide_eq_true (by omega)
    have hjm:j< (sn.map Prod.fst).length:=by rw[List.length_map];exact hjt
    have ix3:=hr7.idx false j hjm
    rw[Nat.mul_one] at ix3
    have ld3:=fun n=>acm_ hr7 hjm n
    have hlrb:=hlr8 (by omega)
    have rd3:=zb_ (w0:=w) hlrb
    have hp:sn[j]'hjt∈sn:=List.getElem_mem _
    have hse: (sn.map Prod.fst).getD j []=(sn[j]'hjt).1:=by simp[List.getD_eq_getElem?_getD,hjt]
    have hts:sn.take (j+1)=sn.take j++ [sn[j]'hjt]:=by
     rw[List.take_add_one];simp[hjt]
    rw[hse] at ld3
    generalize sn[j]'hjt=p at*
    obtain⟨x,n⟩:=p
    have hd8: ((sn.take j).foldl q8_ (qL_ (S5,p3) k)).1.dir=S5.dir:=by rw[K7_,xj_]
    have hfl8: ((sn.take (j+1)).foldl q8_ (qL_ (S5,p3) k))=q8_ ((sn.take j).foldl q8_ (qL_ (S5,p3) k)) (x,n):=by rw[hts,List.foldl_append];rfl
    generalize (sn.take j).foldl q8_ (qL_ (S5,p3) k)=q8 at*
    obtain⟨S8,p8⟩:=q8
    simp only at hP8 hv8 hpl8 hd8 ld3
    have hsk: (S8.dir k).seen=sn:=by rw[hd8];exact hsn
    obtain⟨om,hom,hM⟩:=hP8.dirs
    obtain⟨os,ms,hos,hms,hnp⟩:=hP8.seen k hlt6
    rw[hsk] at hnp
    have hfn:zL_ sn x=some n:=ZF_ hq6.nodup hp
    have hnl:n<S8.files.length:=hP8.ok.seenN k hlt6 _ (by rw[hsk];exact hp)
    have rdd:=zb_ (w0:=w) hP8.disk
    have rdr:=zb_ (w0:=w) (hP8.dir k hlt6)
    have hlf:=hP8.file n hnl
    have rdf:=zb_ (w0:=w) hlf
    have hpd:qS_ (some (G.d k))=vp (G.d k) 0:=rfl
    have hpf:qS_ (some (G.fb.getD n 0))=vp (G.fb.getD n 0) 0:=rfl
    first|with_reducible refine ks [] (And.intro @qs_ (And.intro @d2 (And.intro @ix3 (And.intro @ld3 (And.intro @rd3 (@rdd)))))) ?_|refine kp (And.intro @qs_ (And.intro @d2 (And.intro @ix3 (And.intro @ld3 (And.intro @rd3 (@rdd)))))) ?_
    refine kq (And.intro @qs_ @rdd) ?_
    refine Ow.mapGetG (encK:=vs) (encV:=qS_) (k:=j5_ k) (z:=none) rfl rfl Tryz.underlying121 jD_ zrPd rfl rfl (zb_ hom) hM ?_
    rw[Zp_,qv_ hlt6]
    show Ow _ _ _ _ _ _ _ _
    refine ko (And.intro @qs_ (And.intro @hpd (@rdr))) ?_
    refine Ow.mapGetG (encK:=vs) (encV:=qS_) (k:=x) (z:=none) rfl rfl Tryz.underlying127 jD_ zrPf rfl rfl (zb_ hos) hms ?_
    rw[hnp.get hq6.nodup,hfn]
    show Ow _ _ _ _ _ _ _ _
    refine ko (And.intro @qs_ @hpf) ?_
    have hfo:=Wz_ hP8.ok hnl
    have hrf2:zx_ w L8 (G.fb.getD n 0)=some (ko_ (zl_ S8 n)):=rdf
    have hfd:S8.files.getD n qK_=zl_ S8 n:=rfl
    rw[hfd] at hlf
    clear rdf
    have hcf:q8_ (S8,p8) (x,n)=(xy_ S8 n ⟨(zl_ S8 n).data.take ((zl_ S8 n).stl+kU_ p8 ((zl_ S8 n).data.length - (zl_ S8 n).stl)),((zl_ S8 n).data.take ((zl_ S8 n).stl+kU_ p8 ((zl_ S8 n).data.length - (zl_ S8 n).stl))).length⟩,p8.drop 1):=rfl
    rw[hcf] at hfl8
    have hple8:=VR_ p8 ((zl_ S8 n).data.length - (zl_ S8 n).stl)
    generalize zl_ S8 n=f at*
    have hsub: (f.data.length:Int) - (f.stl:Int)=((f.data.length - f.stl:Nat):Int):=by omega
    refine Cw.regionG [G.fb.getD n 0] [25] 26 (by kernel_rfl) rfl ?_
    simp only[List.replicate_succ,List.replicate_zero]
    refine OwG.run [0,1,2,3,4,5,6,7,8,9,10,11,12,13,14,15,16,17,18,19] [true,true,true,true,true,true,true,true,true,true,true,true,true,true,true,true,true,true,true,true,false,false,false,false,false,false] 6 rfl (by kernel_rfl) (by kernel_rfl) fun k hk=> ?_
    simp only[zz_, ↓zk_, ↓zg_, ↓zK_, ↓zJ_,zh_]
    simp(disch:=(first|assumption|omega| (simp only[lenS,lenT,UInt64.reduceToNat];try omega))) only[↓Sx.S0,Sx.S1,Tryz.fx,qs_,Nat.reduceAdd,Nat.reducePow,Int.reducePow,Nat.reduceBEq, ↓reduceIte,UInt8.reduceToNat,UInt16.reduceToNat,UInt32.reduceToNat,UInt64.reduceToNat,Int.reduceToNat,Md.next_sofnil,hrf2,hsub]
    (with_reducible refine hk _ _ _ ?_);clear hk k
    refine OwG.one 20 _ (by kernel_rfl) rfl ?_
    refine Ow.callFnXC (b:=vi ((f.data.length - f.stl:Nat):Int)) (ars:= #[vi ((f.data.length - f.stl:Nat):Int),vp bk 0]) rfl (X:=L8) (Y:= []) (List.append_nil _).symm rfl rfl rfl rfl Tryz.call82 (fun w' hw' hX' hn'=>Rets.chunk hX' hn' (ze_ hlk9) (K4_ (f.data.length - f.stl) bk v8 p8 w' (by omega) (hv8.old hw' fun hq b hb=>hE8.not (hvb8 hq b hb).1 (hvb8 hq b hb).2) hpl8 (fun hq e=>by have:=(hvb8 hq bk e).1;omega) (hX' _ (zv_ hlk9)))) (fun r D hC hS=> ?_)
    rw[List.append_nil]
    obtain⟨o,rfl,rfl,v9,rfl,hv1,hv2⟩:=hS
    obtain⟨hvn,hvn2⟩:=aaM_ hv8 hv1 hv2
    have hE9:=hE8.came0 hC
    have hP9:=hP8.away hlk9 (kz_ v9)
    have hk9: ∀b o,Sx.look L8 b=some o→tyO o≠some 24→Sx.look (setB L8 bk (kz_ v9)) b=some o:=fun b o hb ht=>qf_ hlk9 hb ht
    have hlf9:Sx.look (setB L8 bk (kz_ v9)) (G.fb.getD n 0)=some (ko_ f):=hk9 _ _ hlf (by simp[tyO,ko_])
    have hlkA:Sx.look (setB L8 bk (kz_ v9)) bk=some (kz_ v9):=qt_ hlk9
    have hrbA:Sx.look (setB L8 bk (kz_ v9)) rb=some (.cells arr E fz):=by rw[zj_ (fun e=>hrn bk hbk6 (by omega) e.symm)];exact hlrb
    have hrf9:=zb_ (w0:=w) hlf9
    generalize kU_ p8 (f.data.length - f.stl)=m at*
    have hadd: (f.stl:Int)+ (m:Int)=((f.stl+m:Nat):Int):=by omega
    have hbkf:bk≠G.fb.getD n 0:=fun e=>by
     rw[←e,hlkA] at hlf9
     simp[ko_,kz_] at hlf9
    generalize setB L8 bk (kz_ v9)=L9 at*
    have st0:=fun x=>QG_ f (f.data.take (f.stl+m)) x
    with_reducible refine Ow.nil ?_
    refine⟨(fun b hb=>by rw[List.mem_singleton] at hb;subst hb;rw[hrf2,hrf9]), ?_⟩
    simp only[List.set_cons_zero,List.set_cons_succ,abh_,aeD_,aeF_]
    refine OwG.rest [21,22,23,24,25] rfl (by kernel_rfl) (by kernel_rfl) ?_
    simp only[zz_, ↓zk_, ↓zg_, ↓zK_, ↓zJ_,zh_]
    refine kq (And.intro @qs_ @hadd) ?_
    refine Ow.store rfl rfl rfl (ke (And.intro @qs_ (And.intro @hlf9 (@st0)))) ?_
    have htl: (f.data.take (f.stl+m)).length≤f.data.length:=by rw[List.length_take];omega
    have htl2:f.stl≤ (f.data.take (f.stl+m)).length:=by rw[List.length_take];omega
    have hlB:Sx.look (setB L9 (G.fb.getD n 0) (ko_ ⟨f.data.take (f.stl+m),f.stl⟩)) (G.fb.getD n 0)=some (ko_ ⟨f.data.take (f.stl+m),f.stl⟩):=qt_ hlf9
    have hrB:=zb_ (w0:=w) hlB
    have st1:=fun x=>Qk_ ⟨f.data.take (f.stl+m),f.stl⟩ (f.data.take (f.stl+m)).length x
    have hokA:=JB_ (n:=n) (f:=⟨f.data.take (f.stl+m),f.stl⟩) hP8.ok ⟨Nat.le_trans htl hfo.1,htl2⟩
    have hPA:=hP9.setFile hnl ⟨f.data.take (f.stl+m),f.stl⟩ hokA
    have hokB:=JB_ (n:=n) (f:=⟨f.data.take (f.stl+m),(f.data.take (f.stl+m)).length⟩) hokA ⟨Nat.le_trans htl hfo.1,Nat.le_refl _⟩
    have hPB:=hPA.setFile (by rw[List.length_set];exact hnl) ⟨f.data.take (f.stl+m),(f.data.take (f.stl+m)).length⟩ hokB
    simp only[List.set_set] at hPB
    have hEB:=(hE9.setB (b:=G.fb.getD n 0) (o:=ko_ ⟨f.data.take (f.stl+m),f.stl⟩)).setB (b:=G.fb.getD n 0) (o:=ko_ ⟨f.data.take (f.stl+m),(f.data.take (f.stl+m)).length⟩)
    have hrf:rb≠G.fb.getD n 0:=hrn _ (hfk n (by have:=hP6.len;have:=hP8.len;omega)) (by omega)
    have hlkB:Sx.look (setB (setB L9 (G.fb.getD n 0) (ko_ ⟨f.data.take (f.stl+m),f.stl⟩)) (G.fb.getD n 0) (ko_ ⟨f.data.take (f.stl+m),(f.data.take (f.stl+m)).length⟩)) bk=some (kz_ v9):=by
     rw[zj_ (Ne.symm hbkf),zj_ (Ne.symm hbkf)];exact hlkA
    have hrbB:Sx.look (setB (setB L9 (G.fb.getD n 0) (ko_ ⟨f.data.take (f.stl+m),f.stl⟩)) (G.fb.getD n 0) (ko_ ⟨f.data.take (f.stl+m),(f.data.take (f.stl+m)).length⟩)) rb=some (.cells arr E fz):=by
     rw[zj_ (Ne.symm hrf),zj_ (Ne.symm hrf)];exact hrbA
    refine ko (And.intro @qs_ (And.intro @Kg_ (And.intro @hrB (And.intro @hlB (@st1))))) ?_
    first|with_reducible refine ks [] @qs_ ?_|refine kp @qs_ ?_
    exact Again.mk ⟨j+1,setB (setB L9 (G.fb.getD n 0) (ko_ ⟨f.data.take (f.stl+m),f.stl⟩)) (G.fb.getD n 0) (ko_ ⟨f.data.take (f.stl+m),(f.data.take (f.stl+m)).length⟩),v9⟩ (by show sn.length - (j+1)<sn.length - j;omega) ⟨hjt,by rw[hfl8];exact hPB,hlkB,by rw[hfl8];exact hvn,by rw[hfl8];exact hvn2 hvb8,hEB,by rw[hfl8];show(p8.drop 1).length<1000000;rw[List.length_drop];omega,fun _=>hrbB⟩ rfl rfl
   ·obtain rfl:j=sn.length:=by omega
    have d2:decide ((sn.length:Int)< (sn.length:Int))=false:=decide_eq_false (by omega)
    rw[List.take_length] at hP8 hv8 hvb8 hpl8
    first|with_reducible refine ks [] (And.intro @qs_ @d2) ?_|refine kp (And.intro @qs_ @d2) ?_
    first|with_reducible refine ks [] @qs_ ?_|refine kp @qs_ ?_
    exact Again.mk ⟨k+1,L8,v8⟩ (by show 3 - (k+1)<3 - k;omega) ⟨hlt6,by rw[hcm];exact hP8,hlk9,by rw[hcm];exact hv8,by rw[hcm];exact hvb8,hE8,by rw[hcm];exact hpl8⟩ rfl rfl
  ·obtain rfl:k=3:=by omega
   have d6:decide (((3:Nat):Int)<3)=false:=rfl
   first|with_reducible refine ks [] (And.intro @qs_ @d6) ?_|refine kp (And.intro @qs_ @d6) ?_
   refine⟨_,(ke @qs_), ?_⟩
   exact⟨hE6,G,rfl,hP6⟩
end Go.Proofs
end
section
open Go Go.Proofs Go.Sx Go.StP
namespace Go.Proofs
set_option maxRecDepth 10000
set_option maxHeartbeats 400000
set_option linter.unusedSimpArgs false
def agp_ (d:DirL):Prop:=d.pend.foldl qW_ d.stl=d.seen∧an6_ d
def jA_ (S:DiskL):Prop:= ∀k,agp_ (S.dir k)
theorem kZ_ (l:NmL):agp_ ⟨l,l,[]⟩:=⟨rfl,fun i hi=>absurd hi (Nat.not_lt_zero i)⟩
theorem ahz_ {d:DirL} {c:CallL} (h:agp_ d) (hok:okC d.seen c):agp_ ⟨qW_ d.seen c,d.stl,d.pend++ [c]⟩:=by
 refine⟨by show(d.pend++ [c]).foldl qW_ d.stl=_;rw[List.foldl_append,h.1];rfl,fun i hi=> ?_⟩
 have hi':i< (d.pend++ [c]).length:=hi
 show okC (((d.pend++ [c]).take i).foldl qW_ d.stl) ((d.pend++ [c]).getD i kT_)
 by_cases e:i<d.pend.length
 ·rw[List.take_append_of_le_length (by omega),List.getD_eq_getElem?_getD,List.getElem?_append_left e,←List.getD_eq_getElem?_getD]
  exact h.2 i e
 ·rw[List.length_append,List.length_singleton] at hi'
  obtain rfl:i=d.pend.length:=by omega
  rw[List.take_append_of_le_length (Nat.le_refl _),List.take_length,h.1,List.getD_eq_getElem?_getD,List.getElem?_append_right (Nat.le_refl _),Nat.sub_self]
  exact hok
theorem xe_ {S S':DiskL} (h:jA_ S) (e:S'.dir=S.dir):jA_ S':=fun k=>by rw[e];exact h k
theorem vi_ {S:DiskL} (h:jA_ S) {k:Nat} {d:DirL} (hd:agp_ d):jA_ (z3_ S k d):=fun j=>by
 by_cases e:j=k
 ·subst e;rw[zI_];exact hd
 ·rw[z7_ _ _ e];exact h j
theorem wE_ {S:DiskL} (h:jA_ S) {k:Nat} {c:CallL} (hok:okC (S.dir k).seen c):jA_ (k7_ S k c):=vi_ h (ahz_ (h k) hok)
theorem jZ_ {S:DiskL} (h:jA_ S):jA_ (zp_ S).1:=xe_ h (qN_ S).1
theorem ali_ (q:Int):jA_ (Qr_ q):=fun _=>kZ_ []
theorem acJ_ {S:DiskL} (h:jA_ S) (dir name:List UInt8):jA_ (xf_ S dir name).1:=by
 unfold xf_
 split
 ·exact h
 ·split
  ·exact h
  ·split
   ·exact jZ_ h
   ·exact wE_ (xe_ (jZ_ h) rfl) (fun e=>by cases e)
theorem JM_ {S:DiskL} (h:jA_ S) (dir name s:List UInt8):jA_ (jm_ S dir name s).1:=by
 unfold jm_
 split
 ·exact h
 ·split
  ·exact h
  ·split
   ·exact h
   ·split
    ·exact jZ_ h
    ·exact xe_ (jZ_ h) rfl
theorem aaf_ {S:DiskL} (h:jA_ S) (dir name:List UInt8):jA_ (vb_ S dir name).1:=by
 unfold vb_
 split
 ·exact h
 ·split
  ·exact h
  ·split
   ·exact jZ_ h
   ·exact xe_ (jZ_ h) rfl
theorem QN_ {S:DiskL} (h:jA_ S) (dir:List UInt8):jA_ (qr_ S dir).1:=by
 unfold qr_
 split
 ·exact h
 ·split
  ·exact jZ_ h
  ·exact vi_ (jZ_ h) (kZ_ _)
theorem JH_ {q:DiskL×List UInt16} (h:jA_ q.1): ∀k,jA_ (zR_ q k).1
 |0=>h
 |k+1=>vi_ (JH_ h k) (kZ_ _)
theorem Qe_ {S:DiskL} (h:jA_ S) (pl:List UInt16):jA_ (zT_ S pl):=by
 unfold zT_
 refine xe_ (S:=w1_ (zR_ (S,pl) 3).1) ?_ (xj_ _ 3)
 exact xe_ (JH_ (q:=(S,pl)) h 3) rfl
end Go.Proofs
end
section
open Go Go.Proofs Go.Sx Go.StP
namespace Go.Proofs
set_option maxRecDepth 10000
set_option maxHeartbeats 400000
set_option linter.unusedSimpArgs false
def NmB (l:NmL):Prop:= ∀p,p∈l→p.1.length≤1000000
def ahm_ (c:CallL):Prop:=c.a.length≤1000000∧c.b.length≤1000000
structure DirB (N:Nat) (d:DirL):Prop where
 seen:d.seen.length≤N
 stl:d.stl.length+d.pend.length≤N
 seenB:NmB d.seen
 stlB:NmB d.stl
 pendB: ∀c,c∈d.pend→ahm_ c
def DkN (N:Nat) (S:DiskL):Prop:= ∀k,DirB N (S.dir k)
theorem DkN.b {N:Nat} {S:DiskL} (h:DkN N S) (hN:N≤1000000):DkB S:=fun k _=>⟨Nat.le_trans (h k).seen hN,(h k).seenB⟩
theorem DirB.mono {N M:Nat} {d:DirL} (h:DirB N d) (hm:N≤M):DirB M d:=⟨Nat.le_trans h.seen hm,Nat.le_trans h.stl hm,h.seenB,h.stlB,h.pendB⟩
theorem DkN.mono {N M:Nat} {S:DiskL} (h:DkN N S) (hm:N≤M):DkN M S:=fun k=>(h k).mono hm
theorem Xh_ (l:NmL) (s:List UInt8): (q6_ l s).length≤l.length:=List.length_filter_le _ _
theorem Wa_ (l:NmL) (x:List UInt8×Nat): (Ki_ l x).length≤l.length+1:=by
 have h1:=(jC_ x (q6_ l x.1)).length_eq
 have h2:=Xh_ l x.1
 rw[List.length_cons] at h1
 show(insN (q6_ l x.1) x).length≤_
 omega
theorem WY_ (l:NmL) (c:CallL): (qW_ l c).length≤l.length+1:=by
 unfold qW_
 split
 ·exact Wa_ l _
 ·have h1:=Wa_ (q6_ l c.a) (c.b,(zL_ l c.a).getD 0)
  have h2:=Xh_ l c.a
  omega
 ·exact Nat.le_succ_of_le (Xh_ l _)
theorem adB_ {l:NmL} (h:NmB l) (s:List UInt8):NmB (q6_ l s):=fun p hp=>h p (List.mem_filter.1 hp).1
theorem ahy_ {l:NmL} (h:NmB l) {x:List UInt8×Nat} (hx:x.1.length≤1000000):NmB (Ki_ l x):=fun p hp=>by
 have:=(jC_ x (q6_ l x.1)).mem_iff.1 hp
 rcases List.mem_cons.1 this with rfl|h1
 ·exact hx
 ·exact adB_ h _ p h1
theorem aka_ {l:NmL} (h:NmB l) {c:CallL} (hc:ahm_ c):NmB (qW_ l c):=by
 unfold qW_
 split
 ·exact ahy_ h hc.1
 ·exact ahy_ (adB_ h _) hc.2
 ·exact adB_ h _
theorem aiW_: ∀ (cs:List CallL) {l:NmL},NmB l→(∀c,c∈cs→ahm_ c)→NmB (cs.foldl qW_ l)∧(cs.foldl qW_ l).length≤l.length+cs.length
 | [],l,h,_=>⟨h,Nat.le_refl _⟩
 |c::cs,l,h,hc=>by
  have h1:=aiW_ cs (aka_ h (hc c List.mem_cons_self)) (fun c' h'=>hc c' (List.mem_cons_of_mem _ h'))
  have h2:=WY_ l c
  refine⟨h1.1, ?_⟩
  have h3:=h1.2
  rw[List.length_cons]
  show(List.foldl qW_ (qW_ l c) cs).length≤_
  omega
theorem aia_ {N:Nat} {d:DirL} {c:CallL} (h:DirB N d) (hc:ahm_ c):DirB (N+1) ⟨qW_ d.seen c,d.stl,d.pend++ [c]⟩ where
 seen:=by have:=WY_ d.seen c;have:=h.seen;show(qW_ d.seen c).length≤_;omega
 stl:=by have:=h.stl;show d.stl.length+ (d.pend++ [c]).length≤_;rw[List.length_append,List.length_singleton];omega
 seenB:=aka_ h.seenB hc
 stlB:=h.stlB
 pendB:=fun c' h'=>by
  rcases List.mem_append.1 h' with h'|h'
  ·exact h.pendB c' h'
  ·rw[List.mem_singleton.1 h'];exact hc
theorem wf_ {N:Nat} {l:NmL} (h:l.length≤N) (hb:NmB l):DirB N ⟨l,l,[]⟩:=⟨h,h,hb,hb,fun c hc=>by cases hc⟩
theorem kS_ {N:Nat} {S:DiskL} (h:DkN N S) {k:Nat} {d:DirL} (hd:DirB N d):DkN N (z3_ S k d):=fun j=>by
 by_cases e:j=k
 ·subst e;rw[zI_];exact hd
 ·rw[z7_ _ _ e];exact h j
theorem xH_ {N:Nat} {S S':DiskL} (h:DkN N S) (e:S'.dir=S.dir):DkN N S':=fun k=>by rw[e];exact h k
theorem ZB_ {N:Nat} {S:DiskL} (h:DkN N S) {k:Nat} {c:CallL} (hc:ahm_ c):DkN (N+1) (k7_ S k c):=kS_ (h.mono (Nat.le_succ N)) (aia_ (h k) hc)
theorem xk_ {N:Nat} {q:DiskL×List UInt16} (h:DkN N q.1): ∀k,DkN N (zR_ q k).1
 |0=>h
 |k+1=>by
  have h1:=xk_ h k
  have hd:=h1 k
  show DkN N (aez_ (zR_ q k) k).1
  generalize zR_ q k=r at*
  refine kS_ h1 ?_
  have h2:=aiW_ ((r.1.dir k).pend.take (kU_ r.2 (r.1.dir k).pend.length)) hd.stlB (fun c hc=>hd.pendB c (List.mem_of_mem_take hc))
  refine wf_ ?_ h2.1
  have h3:=h2.2
  rw[List.length_take] at h3
  have h4:=hd.stl
  show(List.foldl qW_ _ _).length≤N
  omega
theorem Zn_ {N:Nat} {S:DiskL} (h:DkN N S) (pl:List UInt16):DkN N (zT_ S pl):=by
 unfold zT_
 refine xH_ (S:=w1_ (zR_ (S,pl) 3).1) ?_ (xj_ _ 3)
 exact xH_ (xk_ (q:=(S,pl)) h 3) rfl
theorem ahJ_ (q:Int):DkN 0 (Qr_ q):=fun _=>wf_ (Nat.le_refl 0) fun _ h=>by cases h
end Go.Proofs
end
section
open Go Go.Proofs Go.Sx Go.StP
namespace Go.Proofs
set_option maxRecDepth 10000
set_option maxHeartbeats 400000
set_option linter.unusedSimpArgs false
theorem ab4_ (X:za_) (G:DkG) (S:DiskL) (n:Int) (w:World) (hX: ∀p,p∈X→w.heap[p.1]? =some p.2) (hnd: (keys X).Nodup) (hP:DkP X G S) (hn: -9223372036854775808≤n∧n<9223372036854775808):
  Rets Tryz.prog 78 #[vp G.bd 0,vi n] w (XS w X (fun v D=>v=vz_ []∧ ∃G',G'.bd=G.bd∧DkP D G' {S with max:=n})):=by
 refine Rets.mono (Rets.chunk hX hnd (ze_ hP.disk) (aej_ G.bd G.bm S n w (hX _ (zv_ hP.disk)))) ?_
 rintro v D ⟨hE,o,rfl,rfl,rfl⟩
 exact⟨hE,rfl,G,rfl,hP.setDisk {S with max:=n} rfl rfl ⟨hP.ok.seen,hP.ok.stl,hP.ok.seenN,hP.ok.stlN,hP.ok.pendN,hP.ok.file,hP.ok.fuse,hn⟩⟩
theorem afK_ (X:za_) (G:DkG) (S:DiskL) (n:Int) (w:World) (hX: ∀p,p∈X→w.heap[p.1]? =some p.2) (hnd: (keys X).Nodup) (hP:DkP X G S) (hn: -9223372036854775808≤n∧n<9223372036854775808):
  Rets Tryz.prog 37 #[vp G.bd 0,vi n] w (XS w X (fun v D=>v=vz_ []∧ ∃G',G'.bd=G.bd∧DkP D G' {S with fuse:=n,fused:=decide (0≤n)})):=by
 refine Rets.mono (Rets.chunk hX hnd (ze_ hP.disk) (afI_ G.bd G.bm S n w (hX _ (zv_ hP.disk)))) ?_
 rintro v D ⟨hE,o,rfl,rfl,rfl⟩
 exact⟨hE,rfl,G,rfl,hP.setDisk {S with fuse:=n,fused:=decide (0≤n)} rfl rfl ⟨hP.ok.seen,hP.ok.stl,hP.ok.seenN,hP.ok.stlN,hP.ok.pendN,hP.ok.file,⟨hn.1,hn.2,fun h=>by simpa using h⟩,hP.ok.max⟩⟩
end Go.Proofs
end
section
open Go Go.Proofs Go.Sx Go.StP
namespace Go.Proofs
set_option maxRecDepth 10000
set_option maxHeartbeats 400000
set_option linter.unusedSimpArgs false
theorem acV_ (S:DiskL) (f:FiL) (h: ∀k,(S.dir k).pend= []∧(S.dir k).stl= []): ∀k,((zS_ S f).dir k).pend= []∧((zS_ S f).dir k).stl= []:=by
 intro k
 unfold zS_
 split
 ·rename_i j hj
  split
  ·by_cases e:k=j
   ·subst e;rw[zI_];exact⟨(h k).1,(h k).2⟩
   ·rw[z7_ _ _ e];exact h k
  ·exact h k
 ·exact h k
theorem ab3_ (l:List FiL): ∀ (S:DiskL),(∀k,(S.dir k).pend= []∧(S.dir k).stl= [])→ ∀k,((l.foldl zS_ S).dir k).pend= []∧((l.foldl zS_ S).dir k).stl= []:=by
 induction l with
 |nil=>exact fun _ h=>h
 |cons f l ih=>exact fun S h=>ih _ (acV_ S f h)
theorem ako_ {N:Nat} {S:DiskL} (h:DkN N S) (f:FiL) (hf:f.name.length≤1000000):DkN (N+1) (zS_ S f):=by
 unfold zS_
 split
 ·split
  ·rename_i k hk hc
   refine kS_ (xH_ (h.mono (Nat.le_succ N)) rfl) ⟨?_,Nat.le_succ_of_le (h k).stl,ahy_ (h k).seenB hf,(h k).stlB,(h k).pendB⟩
   have h1:=Wa_ (S.dir k).seen (f.name,S.files.length)
   have h2:=(h k).seen
   show(Ki_ (S.dir k).seen (f.name,S.files.length)).length≤N+1
   omega
  ·exact h.mono (Nat.le_succ N)
 ·exact h.mono (Nat.le_succ N)
theorem ae3_: ∀ (l:List FiL) {N:Nat} {S:DiskL},DkN N S→(∀f,f∈l→f.name.length≤1000000)→DkN (N+l.length) (l.foldl zS_ S)
 | [],_,_,h,_=>h
 |f::l,N,S,h,hf=>by
  have h1:=ae3_ l (ako_ h f (hf f List.mem_cons_self)) (fun g hg=>hf g (List.mem_cons_of_mem _ hg))
  rw[List.length_cons,show N+ (l.length+1)=N+1+l.length by omega]
  exact h1
theorem agG_ (S:DiskL) (f:FiL) (h: ∀k,3≤k→(S.dir k).seen= []): ∀k,3≤k→((zS_ S f).dir k).seen= []:=by
 intro k hk
 unfold zS_
 split
 ·rename_i j hj
  split
  ·have h3:=(zG_ hj).1
   rw[z7_ _ _ (by omega)];exact h k hk
  ·exact h k hk
 ·exact h k hk
theorem agI_ (l:List FiL): ∀ (S:DiskL),(∀k,3≤k→(S.dir k).seen= [])→ ∀k,3≤k→((l.foldl zS_ S).dir k).seen= []:=by
 induction l with
 |nil=>exact fun _ h=>h
 |cons f l ih=>exact fun S h=>ih _ (agG_ S f h)
theorem Jx_ (S:DiskL) (k:Nat): (setV S [0,1,2]).dir k=if k∈ [0,1,2] then⟨(S.dir k).seen,(S.dir k).seen,[]⟩ else S.dir k:=rfl
theorem acb_ (q:Int) (l:List FiL):jA_ (ofD q l):=fun k=>by
 have h1:=ab3_ l (Qr_ q) (fun _=>⟨rfl,rfl⟩) k
 have h2:=agI_ l (Qr_ q) (fun _ _=>rfl) k
 unfold ofD
 rw[Jx_]
 generalize l.foldl zS_ (Qr_ q)=S at*
 split
 ·exact kZ_ _
 ·rename_i hk
  have h3:3≤k:=by
   simp only[List.mem_cons,List.not_mem_nil,or_false,not_or] at hk
   omega
  have h4:=h2 h3
  generalize S.dir k=d at*
  obtain⟨a,b,c⟩:=d
  simp only at h1 h4
  obtain⟨rfl,rfl⟩:=h1
  subst h4
  exact kZ_ []
theorem ajD_ (q:Int) (l:List FiL) (hf: ∀f,f∈l→f.name.length≤1000000):DkN l.length (ofD q l):=fun k=>by
 have h1:=ae3_ l (ahJ_ q) hf k
 rw[Nat.zero_add] at h1
 unfold ofD
 rw[Jx_]
 split
 ·exact wf_ h1.seen h1.seenB
 ·exact h1
end Go.Proofs
end
section
open Go Go.Proofs Go.Sx Go.StP
namespace Go.Proofs
set_option maxRecDepth 10000
set_option maxHeartbeats 400000
set_option linter.unusedSimpArgs false
theorem xb_ {N:Nat} {S:DiskL} (h:DkN N S):DkN N (zp_ S).1:=xH_ h (qN_ S).1
theorem vY_ {N:Nat} {S:DiskL} (h:DkN N S):DkN (N+1) S:=h.mono (Nat.le_succ N)
theorem afM_ {N:Nat} {S:DiskL} (h:DkN N S) (dir:List UInt8) {name:List UInt8} (hn:name.length≤1000000):DkN (N+1) (xf_ S dir name).1:=by
 unfold xf_
 split
 ·exact vY_ h
 ·split
  ·exact vY_ h
  ·split
   ·exact vY_ (xb_ h)
   ·exact ZB_ (xH_ (xb_ h) rfl) ⟨hn,Nat.zero_le _⟩
theorem VC_ {N:Nat} {S:DiskL} (h:DkN N S) (dir name s:List UInt8):DkN N (jm_ S dir name s).1:=by
 unfold jm_
 split
 ·exact h
 ·split
  ·exact h
  ·split
   ·exact h
   ·split
    ·exact xb_ h
    ·exact xH_ (xb_ h) rfl
theorem aeQ_ {N:Nat} {S:DiskL} (h:DkN N S) (dir name:List UInt8):DkN N (vb_ S dir name).1:=by
 unfold vb_
 split
 ·exact h
 ·split
  ·exact h
  ·split
   ·exact xb_ h
   ·exact xH_ (xb_ h) rfl
theorem Xi_ {N:Nat} {S:DiskL} (h:DkN N S) (dir:List UInt8):DkN N (qr_ S dir).1:=by
 unfold qr_
 split
 ·exact h
 ·split
  ·exact xb_ h
  ·exact kS_ (xb_ h) (wf_ ((xb_ h) _).seen ((xb_ h) _).seenB)
theorem JC_ {S:DiskL} (ok:DkOk S): ∀ (l:NmL),(∀p,p∈l→p.2<S.files.length)→qk_ S l≤l.length*1048576
 | [],_=>Nat.zero_le _
 |p::l,h=>by
  have h1:=JC_ ok l fun q hq=>h q (List.mem_cons_of_mem _ hq)
  have h2:=(Wz_ ok (h p List.mem_cons_self)).1
  unfold qk_ zl_ at*
  rw[List.map_cons,List.sum_cons,List.length_cons]
  omega
theorem ald_ {N:Nat} {S:DiskL} (ok:DkOk S) (h:DkN N S):qX_ S≤3* (N*1048576):=by
 have h0:=JC_ ok _ (ok.seenN 0 (by omega))
 have h1:=JC_ ok _ (ok.seenN 1 (by omega))
 have h2:=JC_ ok _ (ok.seenN 2 (by omega))
 have g0:=Nat.mul_le_mul_right 1048576 (h 0).seen
 have g1:=Nat.mul_le_mul_right 1048576 (h 1).seen
 have g2:=Nat.mul_le_mul_right 1048576 (h 2).seen
 unfold qX_
 omega
end Go.Proofs
end
section
open Go Go.Proofs Go.Sx Go.StP
namespace Go.Proofs
set_option maxRecDepth 10000
set_option maxHeartbeats 400000
set_option linter.unusedSimpArgs false
theorem mem_wipe {l:NmL} {s:List UInt8} {p:List UInt8×Nat}:p∈q6_ l s↔p∈l∧p.1≠s:=by
 unfold q6_
 rw[List.mem_filter]
 constructor
 ·rintro⟨h1,h2⟩
  exact⟨h1,fun e=>by rw[e] at h2;simp at h2⟩
 ·rintro⟨h1,h2⟩
  exact⟨h1,by simpa using Ne.symm h2⟩
theorem mem_put {l:NmL} {x p:List UInt8×Nat}:p∈Ki_ l x↔p=x∨(p∈l∧p.1≠x.1):=by
 unfold Ki_
 rw[(jC_ x _).mem_iff,List.mem_cons,mem_wipe]
theorem aeU_ {l:NmL} {c:CallL} {p:List UInt8×Nat} (hok:okC l c) (h:p∈qW_ l c): (c.kind=0∧p=(c.a,c.n))∨(c.kind=1∧ ∃m,zL_ l c.a=some m∧p=(c.b,m))∨(p∈l∧p.1≠c.a∧(c.kind=1→p.1≠c.b)):=by
 unfold qW_ at h
 split at h
 ·rename_i hk
  rcases mem_put.1 h with rfl| ⟨h1,h2⟩
  ·exact .inl ⟨hk,rfl⟩
  ·exact .inr (.inr ⟨h1,h2,fun e=>by rw[hk] at e;cases e⟩)
 ·rename_i hk
  cases hm:zL_ l c.a with
  |none=>exact absurd hm (hok hk).1
  |some m=>
   rw[hm] at h
   rcases mem_put.1 h with rfl| ⟨h1,h2⟩
   ·exact .inr (.inl ⟨hk,m,rfl,rfl⟩)
   ·have h3:=mem_wipe.1 h1
    exact .inr (.inr ⟨h3.1,h3.2,fun _=>h2⟩)
 ·rename_i h0 h1
  have h3:=mem_wipe.1 h
  exact .inr (.inr ⟨h3.1,h3.2,fun e=>absurd e h1⟩)
def x8_ (S:DiskL):Prop:= ∀j k,j<3→k<3→ ∀p,p∈ (S.dir j).seen→ ∀q,q∈ (S.dir k).seen→p.2=q.2→j=k∧p=q
theorem xd_ {S S':DiskL} (h:x8_ S) (e: ∀k,k<3→(S'.dir k).seen=(S.dir k).seen):x8_ S':=fun j k hj hk p hp q hq=>by
 rw[e j hj] at hp
 rw[e k hk] at hq
 exact h j k hj hk p hp q hq
theorem xB_ (S:DiskL) (k j:Nat) (c:CallL): ((k7_ S k c).dir j).seen=if j=k then qW_ (S.dir k).seen c else(S.dir j).seen:=by
 unfold k7_
 by_cases e:j=k
 ·subst e;rw[zI_,if_pos rfl]
 ·rw[z7_ _ _ e,if_neg e]
theorem ZL_ {S:DiskL} {k j:Nat} {c:CallL} {p:List UInt8×Nat} (hok:okC (S.dir k).seen c) (h:p∈ ((k7_ S k c).dir j).seen):
  (p∈ (S.dir j).seen∧(j=k→p.1≠c.a∧(c.kind=1→p.1≠c.b)))∨(j=k∧c.kind=0∧p=(c.a,c.n))∨(j=k∧c.kind=1∧ ∃m,zL_ (S.dir k).seen c.a=some m∧p=(c.b,m)):=by
 rw[xB_] at h
 by_cases e:j=k
 ·rw[if_pos e] at h
  subst e
  rcases aeU_ hok h with⟨h1,h2⟩ | ⟨h1,h2⟩ | ⟨h1,h2⟩
  ·exact .inr (.inl ⟨rfl,h1,h2⟩)
  ·exact .inr (.inr ⟨rfl,h1,h2⟩)
  ·exact .inl ⟨h1,fun _=>h2⟩
 ·rw[if_neg e] at h
  exact .inl ⟨h,fun e'=>absurd e' e⟩
theorem Qv_ {S:DiskL} (h:x8_ S) {k:Nat} {c:CallL} (hk:k<3) (hok:okC (S.dir k).seen c) (hn:c.kind=0→ ∀j,j<3→ ∀q,q∈ (S.dir j).seen→q.2≠c.n):x8_ (k7_ S k c):=by
 intro i j hi hj p hp q hq e
 rcases ZL_ hok hp with⟨p1,p2⟩ | ⟨rfl,p1,rfl⟩ | ⟨rfl,p1,m,pm,rfl⟩
 ·rcases ZL_ hok hq with⟨q1,q2⟩ | ⟨rfl,q1,rfl⟩ | ⟨rfl,q1,m,qm,rfl⟩
  ·exact h i j hi hj p p1 q q1 e
  ·exact absurd e (hn q1 i hi p p1)
  ·have h1:=h i j hi hj p p1 _ (zQ_ qm) e
   exact absurd (by rw[h1.2]) (p2 h1.1).1
 ·rcases ZL_ hok hq with⟨q1,q2⟩ | ⟨rfl,q1,rfl⟩ | ⟨rfl,q1,m,qm,rfl⟩
  ·exact absurd e.symm (hn p1 j hj q q1)
  ·exact⟨rfl,rfl⟩
  ·rw[p1] at q1;cases q1
 ·rcases ZL_ hok hq with⟨q1,q2⟩ | ⟨rfl,q1,rfl⟩ | ⟨rfl,q1,m',qm,rfl⟩
  ·have h1:=h j i hj hi q q1 _ (zQ_ pm) e.symm
   exact absurd (by rw[h1.2]) (q2 h1.1).1
  ·rw[p1] at q1;cases q1
  ·rw[pm] at qm;cases qm;exact⟨rfl,rfl⟩
def LtS (S:DiskL):Prop:= ∀k,k<3→ ∀p,p∈ (S.dir k).seen→p.2<S.files.length
theorem akC_ {S:DiskL} (h:x8_ S) (hl:LtS S) {k:Nat} (hk:k<3) (s:List UInt8) (f:FileL) {d:DirL} (hd:d.seen=Ki_ (S.dir k).seen (s,S.files.length)):x8_ (z3_ (xg_ S f) k d)∧LtS (z3_ (xg_ S f) k d):=by
 have hm: ∀j p,p∈ ((z3_ (xg_ S f) k d).dir j).seen→p∈ (S.dir j).seen∨(j=k∧p=(s,S.files.length)):=fun j p hp=>by
  by_cases e:j=k
  ·subst e
   rw[zI_,hd] at hp
   rcases mem_put.1 hp with rfl|h1
   ·exact .inr ⟨rfl,rfl⟩
   ·exact .inl h1.1
  ·rw[z7_ _ _ e] at hp
   exact .inl hp
 constructor
 ·intro i j hi hj p hp q hq e
  rcases hm i p hp with p1| ⟨rfl,rfl⟩
  ·rcases hm j q hq with q1| ⟨rfl,rfl⟩
   ·exact h i j hi hj p p1 q q1 e
   ·have:=hl i hi p p1
    simp only at e
    omega
  ·rcases hm j q hq with q1| ⟨rfl,rfl⟩
   ·have:=hl j hj q q1
    simp only at e
    omega
   ·exact⟨rfl,rfl⟩
 ·intro j hj p hp
  show p.2< (S.files++ [f]).length
  rw[List.length_append,List.length_singleton]
  rcases hm j p hp with p1| ⟨-,rfl⟩
  ·have:=hl j hj p p1
   omega
  ·simp
theorem adJ_ {S:DiskL} (h:x8_ S∧LtS S) (f:FiL):x8_ (zS_ S f)∧LtS (zS_ S f):=by
 unfold zS_
 split
 ·rename_i k hk
  split
  ·exact akC_ h.1 h.2 (zG_ hk).1 _ _ rfl
  ·exact h
 ·exact h
theorem ac3_ (l:List FiL): ∀ {S:DiskL},x8_ S∧LtS S→x8_ (l.foldl zS_ S)∧LtS (l.foldl zS_ S):=by
 induction l with
 |nil=>exact fun h=>h
 |cons f l ih=>exact fun h=>ih (adJ_ h f)
theorem aax_ (S:DiskL) (k:Nat): ((setV S [0,1,2]).dir k).seen=(S.dir k).seen:=by
 rw[Jx_]
 split
 ·rfl
 ·rfl
theorem acF_ (q:Int) (l:List FiL):x8_ (ofD q l):=
 xd_ (ac3_ l (S:=Qr_ q) ⟨fun _ _ _ _ p hp=>(by cases hp),fun _ _ p hp=>(by cases hp)⟩).1 fun k _=>aax_ _ k
def Zc_ (S:DiskL):Prop:= ∀k,k<3→ ∀p,p∈ (S.dir k).seen→xG_ p.1=true
theorem vd_ {S S':DiskL} (h:Zc_ S) (e: ∀k,k<3→(S'.dir k).seen=(S.dir k).seen):Zc_ S':=fun k hk p hp=>by
 rw[e k hk] at hp
 exact h k hk p hp
theorem QF_ {S:DiskL} (h:Zc_ S) {k:Nat} {c:CallL} (hk:k<3) (hok:okC (S.dir k).seen c) (h0:c.kind=0→xG_ c.a=true) (h1:c.kind=1→xG_ c.b=true):Zc_ (k7_ S k c):=by
 intro j hj p hp
 rcases ZL_ hok hp with⟨p1,p2⟩ | ⟨rfl,p1,rfl⟩ | ⟨rfl,p1,m,pm,rfl⟩
 ·exact h j hj p p1
 ·exact h0 p1
 ·exact h1 p1
theorem adR_ {S:DiskL} (h:Zc_ S) (f:FiL):Zc_ (zS_ S f):=by
 unfold zS_
 split
 ·rename_i k hk
  split
  ·rename_i hc
   intro j hj p hp
   by_cases e:j=k
   ·subst e
    rw[zI_] at hp
    rcases mem_put.1 hp with rfl|h1
    ·exact hc.1
    ·exact h j hj p h1.1
   ·rw[z7_ _ _ e] at hp
    exact h j hj p hp
  ·exact h
 ·exact h
theorem aoC_ (q:Int) (l:List FiL):Zc_ (ofD q l):=by
 have h1: ∀ (l:List FiL) (S:DiskL),Zc_ S→Zc_ (l.foldl zS_ S):=fun l=>by
  induction l with
  |nil=>exact fun _ h=>h
  |cons f l ih=>exact fun S h=>ih _ (adR_ h f)
 exact vd_ (h1 l (Qr_ q) (fun _ _ p hp=>by cases hp)) fun k _=>aax_ _ k
end Go.Proofs
end
section
open Go Go.Proofs Go.Sx Go.StP
namespace Go.Proofs
set_option maxRecDepth 10000
set_option maxHeartbeats 400000
set_option linter.unusedSimpArgs false
def doV (S:DiskL) (kind:Int) (dir name s:List UInt8):DiskL×Nat:=
 if kind=0 then xf_ S dir name else if kind=1 then jm_ S dir name s else if kind=2 then vb_ S dir name else if kind=3 then qr_ S dir else if kind=4 then v5_ S dir name s else if kind=5 then v4_ S dir name else(S,0)
inductive StepD (S:DiskL) (kind:Int) (dir name s:List UInt8):DiskL→Nat→Prop
 |same (e:Nat) (h:e≠0∨(kind≠2∧kind≠3)):StepD S kind dir name s S e
 |burn (h:kind≠2∧kind≠3∨(zp_ S).2≠0):StepD S kind dir name s (zp_ S).1 (zp_ S).2
 |create (k:Nat) (hk:z2_ dir=some k) (hf:xG_ name=true) (hn:zL_ (S.dir k).seen name=none) (hb: (zp_ S).2=0):StepD S kind dir name s (k7_ (xg_ (zp_ S).1 qK_) k ⟨0,name,[],S.files.length⟩) 0
 |append (k m:Nat) (hk:z2_ dir=some k) (hm:zL_ (S.dir k).seen name=some m) (hf:Xz_ S m s=false) (hb: (zp_ S).2=0):StepD S kind dir name s (xy_ (zp_ S).1 m ⟨(zl_ S m).data++s,(zl_ S m).stl⟩) 0
 |sync (k m:Nat) (hk:z2_ dir=some k) (hm:zL_ (S.dir k).seen name=some m) (hb: (zp_ S).2=0):StepD S kind dir name s (xy_ (zp_ S).1 m ⟨(zl_ S m).data,(zl_ S m).data.length⟩) 0
 |syncDir (k:Nat) (hk:z2_ dir=some k) (hb: (zp_ S).2=0):StepD S kind dir name s (j4_ (zp_ S).1 k) 0
 |rename (k m:Nat) (h4:kind=4) (hk:z2_ dir=some k) (hm:zL_ (S.dir k).seen name=some m) (hf:xG_ s=true) (hne:name≠s) (hb: (zp_ S).2=0):StepD S kind dir name s (k7_ (zp_ S).1 k ⟨1,name,s,0⟩) 0
 |remove (k m:Nat) (hk:z2_ dir=some k) (hm:zL_ (S.dir k).seen name=some m) (hb: (zp_ S).2=0):StepD S kind dir name s (k7_ (zp_ S).1 k ⟨2,name,[],0⟩) 0
theorem VL_ {S:DiskL} {dir name:List UInt8} {m:Nat} (h:atD S dir name=some m): ∃k,z2_ dir=some k∧zL_ (S.dir k).seen name=some m:=by
 unfold atD at h
 cases hk:z2_ dir with
 |none=>rw[hk] at h;cases h
 |some k=>rw[hk] at h;exact⟨k,rfl,h⟩
theorem an0_ {S:DiskL} {dir name:List UInt8} {k:Nat} (hk:z2_ dir=some k) (h:atD S dir name=none):zL_ (S.dir k).seen name=none:=by
 unfold atD at h
 rw[hk] at h;exact h
theorem XW_ {S:DiskL} {dir:List UInt8} {names:List (List UInt8)} (h:jS_ S dir names=0): ∃k,z2_ dir=some k∧names.all xG_=true:=by
 obtain⟨h1,h2,-⟩:=agd_ h
 cases hk:z2_ dir with
 |none=>exact absurd hk h1
 |some k=>exact⟨k,rfl,h2⟩
theorem acc_ (S:DiskL) (dir name s:List UInt8):StepD S 0 dir name s (xf_ S dir name).1 (xf_ S dir name).2:=by
 unfold xf_
 split
 ·exact .same _ (.inr ⟨by decide,by decide⟩)
 ·rename_i hf
  split
  ·exact .same _ (.inr ⟨by decide,by decide⟩)
  ·rename_i ha
   split
   ·exact .burn (.inl ⟨by decide,by decide⟩)
   ·rename_i hb
    obtain⟨k,hk,hn⟩:=XW_ (S:=S) (dir:=dir) (names:= [name]) (by simpa using hf)
    rw[hk]
    exact .create k hk (by simpa using hn) (an0_ hk ha) (by simpa using hb)
theorem adP_ (S:DiskL) (dir name s:List UInt8):StepD S 5 dir name s (v4_ S dir name).1 (v4_ S dir name).2:=by
 unfold v4_
 split
 ·exact .same _ (.inr ⟨by decide,by decide⟩)
 ·split
  ·exact .same _ (.inr ⟨by decide,by decide⟩)
  ·rename_i m ha
   split
   ·exact .burn (.inl ⟨by decide,by decide⟩)
   ·rename_i hb
    obtain⟨k,hk,hm⟩:=VL_ ha
    rw[hk]
    exact .remove k m hk hm (by simpa using hb)
theorem acC_ (S:DiskL) (dir name s:List UInt8):StepD S 4 dir name s (v5_ S dir name s).1 (v5_ S dir name s).2:=by
 unfold v5_
 split
 ·exact .same _ (.inr ⟨by decide,by decide⟩)
 ·rename_i hf
  split
  ·exact .same _ (.inr ⟨by decide,by decide⟩)
  ·rename_i m ha
   split
   ·exact .burn (.inl ⟨by decide,by decide⟩)
   ·rename_i hne
    split
    ·exact .burn (.inl ⟨by decide,by decide⟩)
    ·rename_i hb
     obtain⟨k,hk,hm⟩:=VL_ ha
     obtain⟨-,-,hn⟩:=XW_ (S:=S) (dir:=dir) (names:= [name,s]) (by simpa using hf)
     simp only[List.all_cons,List.all_nil,Bool.and_true,Bool.and_eq_true] at hn
     rw[hk]
     exact .rename k m rfl hk hm hn.2 hne (by simpa using hb)
theorem ad2_ (S:DiskL) (dir name s:List UInt8):StepD S 1 dir name s (jm_ S dir name s).1 (jm_ S dir name s).2:=by
 unfold jm_
 split
 ·exact .same _ (.inr ⟨by decide,by decide⟩)
 ·split
  ·exact .same _ (.inr ⟨by decide,by decide⟩)
  ·rename_i m ha
   split
   ·exact .same _ (.inr ⟨by decide,by decide⟩)
   ·rename_i hfl
    split
    ·exact .burn (.inl ⟨by decide,by decide⟩)
    ·rename_i hb
     obtain⟨k,hk,hm⟩:=VL_ ha
     exact .append k m hk hm (by simpa using hfl) (by simpa using hb)
theorem abF_ (S:DiskL) (dir name s:List UInt8):StepD S 2 dir name s (vb_ S dir name).1 (vb_ S dir name).2:=by
 unfold vb_
 split
 ·rename_i hf
  exact .same _ (.inl hf)
 ·split
  ·exact .same _ (.inl (Nat.succ_ne_zero 5))
  ·rename_i m ha
   split
   ·rename_i hb
    exact .burn (.inr hb)
   ·rename_i hb
    obtain⟨k,hk,hm⟩:=VL_ ha
    exact .sync k m hk hm (by simpa using hb)
theorem Q1_ (S:DiskL) (dir name s:List UInt8):StepD S 3 dir name s (qr_ S dir).1 (qr_ S dir).2:=by
 unfold qr_
 split
 ·rename_i hf
  exact .same _ (.inl hf)
 ·rename_i hf
  split
  ·rename_i hb
   exact .burn (.inr hb)
  ·rename_i hb
   obtain⟨k,hk,-⟩:=XW_ (S:=S) (dir:=dir) (names:= []) (by simpa using hf)
   rw[hk]
   exact .syncDir k hk (by simpa using hb)
theorem Qc_ (S:DiskL) (kind:Int) (dir name s:List UInt8):StepD S kind dir name s (doV S kind dir name s).1 (doV S kind dir name s).2:=by
 unfold doV
 split
 ·rename_i h;subst h;exact acc_ S dir name s
 split
 ·rename_i h;subst h;exact ad2_ S dir name s
 split
 ·rename_i h;subst h;exact abF_ S dir name s
 split
 ·rename_i h;subst h;exact Q1_ S dir name s
 split
 ·rename_i h;subst h;exact acC_ S dir name s
 split
 ·rename_i h;subst h;exact adP_ S dir name s
 ·rename_i h0 h1 h2 h3 h4 h5
  exact .same 0 (.inr ⟨h2,h3⟩)
theorem acA_ {l:NmL} {a b:List UInt8} {m:Nat} (h:zL_ l a=some m) (hne:a≠b):okC l ⟨1,a,b,0⟩:=fun _=>⟨by rw[h];simp,hne⟩
section
variable {S S':DiskL} {kind:Int} {dir name s:List UInt8} {e:Nat}
theorem akL_ (h:StepD S kind dir name s S' e):S'.max=S.max:=by
 have hb:=(qN_ S).2.2
 cases h<;>first|rfl|exact hb
theorem w3_ (S:DiskL) (k j:Nat): ((j4_ S k).dir j).seen=(S.dir j).seen:=by
 unfold j4_
 by_cases e:j=k
 ·subst e;rw[zI_]
 ·rw[z7_ _ _ e]
theorem wl_ (ok:DkOk S) (hu:x8_ S) (h:StepD S kind dir name s S' e):x8_ S':=by
 obtain⟨hb1,hb2,-⟩:=qN_ S
 have hbu:x8_ (zp_ S).1:=xd_ hu fun k _=>by rw[hb1]
 cases h with
 |same=>exact hu
 |burn=>exact hbu
 |create k hk hf hn hb=>
  refine Qv_ (xd_ hbu fun _ _=>rfl) (zG_ hk).1 (fun e=>by cases e) (fun _ j hj q hq=> ?_)
  have hq':q∈ (S.dir j).seen:=by rw[←hb1];exact hq
  have:=ok.seenN j hj q hq'
  show q.2≠S.files.length
  omega
 |append k m hk hm hf hb=>exact xd_ hbu fun _ _=>rfl
 |sync k m hk hm hb=>exact xd_ hbu fun _ _=>rfl
 |syncDir k hk hb=>exact xd_ hbu fun j _=>w3_ _ _ _
 |rename k m h4 hk hm hf hne hb=>exact Qv_ hbu (zG_ hk).1 (by rw[hb1];exact acA_ hm hne) (fun e=>by cases e)
 |remove k m hk hm hb=>exact Qv_ hbu (zG_ hk).1 (fun e=>by cases e) (fun e=>by cases e)
theorem aix_ (hu:Zc_ S) (h:StepD S kind dir name s S' e):Zc_ S':=by
 obtain⟨hb1,hb2,-⟩:=qN_ S
 have hbu:Zc_ (zp_ S).1:=vd_ hu fun k _=>by rw[hb1]
 cases h with
 |same=>exact hu
 |burn=>exact hbu
 |create k hk hf hn hb=>exact QF_ (vd_ hbu fun _ _=>rfl) (zG_ hk).1 (fun e=>by cases e) (fun _=>hf) (fun e=>by cases e)
 |append k m hk hm hf hb=>exact vd_ hbu fun _ _=>rfl
 |sync k m hk hm hb=>exact vd_ hbu fun _ _=>rfl
 |syncDir k hk hb=>exact vd_ hbu fun j _=>w3_ _ _ _
 |rename k m h4 hk hm hf hne hb=>exact QF_ hbu (zG_ hk).1 (by rw[hb1];exact acA_ hm hne) (fun e=>by cases e) (fun _=>hf)
 |remove k m hk hm hb=>exact QF_ hbu (zG_ hk).1 (fun e=>by cases e) (fun e=>by cases e) (fun e=>by cases e)
theorem aiu_ (hu:jA_ S) (h:StepD S kind dir name s S' e):jA_ S':=by
 obtain⟨hb1,hb2,-⟩:=qN_ S
 have hbu:=jZ_ hu
 cases h with
 |same=>exact hu
 |burn=>exact hbu
 |create k hk hf hn hb=>exact wE_ (xe_ hbu rfl) (fun e=>by cases e)
 |append k m hk hm hf hb=>exact xe_ hbu rfl
 |sync k m hk hm hb=>exact xe_ hbu rfl
 |syncDir k hk hb=>exact vi_ hbu (kZ_ _)
 |rename k m h4 hk hm hf hne hb=>exact wE_ hbu (by rw[hb1];exact acA_ hm hne)
 |remove k m hk hm hb=>exact wE_ hbu (fun e=>by cases e)
theorem alC_ {N:Nat} (hu:DkN N S) (hn:name.length≤1000000) (hs:s.length≤1000000) (h:StepD S kind dir name s S' e):DkN (N+1) S':=by
 have hbu:=xb_ hu
 cases h with
 |same=>exact vY_ hu
 |burn=>exact vY_ hbu
 |create k hk hf hn' hb=>exact ZB_ (xH_ hbu rfl) ⟨hn,Nat.zero_le _⟩
 |append k m hk hm hf hb=>exact vY_ (xH_ hbu rfl)
 |sync k m hk hm hb=>exact vY_ (xH_ hbu rfl)
 |syncDir k hk hb=>exact vY_ (kS_ hbu (wf_ (hbu k).seen (hbu k).seenB))
 |rename k m h4 hk hm hf hne hb=>exact ZB_ hbu ⟨hn,hs⟩
 |remove k m hk hm hb=>exact ZB_ hbu ⟨hn,Nat.zero_le _⟩
end
end Go.Proofs
end
section
open Go Go.Proofs Go.Sx Go.StP
namespace Go.Proofs
set_option maxRecDepth 10000
set_option maxHeartbeats 400000
set_option linter.unusedSimpArgs false
theorem kp_ (S:DiskL) (p:List UInt8×Nat) (l:NmL):qk_ S (p::l)=(zl_ S p.2).data.length+qk_ S l:=by
 unfold qk_ zl_
 rw[List.map_cons,List.sum_cons]
theorem ajO_ (S:DiskL) {l m:NmL} (h:l.Perm m):qk_ S l=qk_ S m:=(h.map _).sum_nat
theorem wq_ (S:DiskL) (s:List UInt8): ∀l:NmL,qk_ S (q6_ l s)≤qk_ S l
 | []=>Nat.le_refl _
 |p::l=>by
  have h:=wq_ S s l
  rw[kp_]
  unfold q6_ at h ⊢
  rw[List.filter_cons]
  split
  ·rw[kp_];omega
  ·omega
theorem aeE_ (S:DiskL) (l:NmL) (x:List UInt8×Nat):qk_ S (Ki_ l x)=(zl_ S x.2).data.length+qk_ S (q6_ l x.1):=by
 unfold Ki_
 rw[ajO_ S (jC_ x _),kp_]
theorem aaE_ (S:DiskL) {a:List UInt8} {m:Nat}: ∀ {l:NmL},(a,m)∈l→(zl_ S m).data.length+qk_ S (q6_ l a)≤qk_ S l
 |p::l,h=>by
  have h0:=wq_ S a l
  rw[kp_]
  rcases List.mem_cons.1 h with rfl|h
  ·unfold q6_ at h0 ⊢
   rw[List.filter_cons]
   simp only[beq_self_eq_true,Bool.not_true,Bool.false_eq_true, ↓reduceIte]
   omega
  ·have h1:=aaE_ S h
   unfold q6_ at h1 ⊢
   rw[List.filter_cons]
   split
   ·rw[kp_];omega
   ·omega
theorem xZ_ {S S':DiskL} {l:NmL} (h: ∀p,p∈l→(zl_ S' p.2).data.length=(zl_ S p.2).data.length):qk_ S' l=qk_ S l:=by
 unfold qk_
 congr 1
 exact List.map_congr_left h
theorem kg_ (S:DiskL) {m:Nat} (f:FileL) (hm:m<S.files.length) (n:Nat):zl_ (xy_ S m f) n=if n=m then f else zl_ S n:=by
 unfold zl_ xy_
 simp only
 rw[List.getD_eq_getElem?_getD,List.getD_eq_getElem?_getD]
 by_cases e:n=m
 ·subst e;rw[if_pos rfl,List.getElem?_set_self hm];rfl
 ·rw[if_neg e,List.getElem?_set_ne (Ne.symm e)]
theorem X9_ (S:DiskL) (f:FileL) {n:Nat} (hn:n<S.files.length):zl_ (xg_ S f) n=zl_ S n:=by
 unfold zl_ xg_
 exact Qq_ _ _ hn
theorem aic_ (S:DiskL) (f:FileL):zl_ (xg_ S f) S.files.length=f:=by
 unfold zl_ xg_
 exact Zb_ _ _ rfl
theorem jr_ (S:DiskL) (n:Nat):zl_ (zp_ S).1 n=zl_ S n:=by
 unfold zl_
 rw[(qN_ S).2.1]
theorem aes_ {S:DiskL} {m:Nat} {f:FileL} (hm:m<S.files.length) {x:Nat} (hx:f.data.length=(zl_ S m).data.length+x): ∀ {l:NmL},(l.map Prod.fst).Nodup→(∀p,p∈l→ ∀q,q∈l→p.2=q.2→p=q)→qk_ (xy_ S m f) l=qk_ S l+if m∈l.map Prod.snd then x else 0
 | [],_,_=>rfl
 |p::l,hn,h=>by
  rw[List.map_cons,List.nodup_cons] at hn
  have ih:=aes_ hm hx hn.2 fun a ha b hb=>h a (List.mem_cons_of_mem _ ha) b (List.mem_cons_of_mem _ hb)
  rw[kp_,kp_,ih,kg_ S f hm]
  by_cases e:p.2=m
  ·have h1:m∉l.map Prod.snd:=fun hmem=>by
    obtain⟨q,hq,hq2⟩:=List.mem_map.1 hmem
    have h2:=h p List.mem_cons_self q (List.mem_cons_of_mem _ hq) (by rw[e,hq2])
    exact hn.1 (List.mem_map.2 ⟨q,hq,by rw[h2]⟩)
   rw[if_pos e,if_neg h1,if_pos (by rw[List.map_cons,e];exact List.mem_cons_self),hx,e]
   omega
  ·rw[if_neg e]
   by_cases h1:m∈l.map Prod.snd
   ·rw[if_pos h1,if_pos (by rw[List.map_cons];exact List.mem_cons_of_mem _ h1)]
    omega
   ·rw[if_neg h1,if_neg (by
     rw[List.map_cons]
     intro h2
     rcases List.mem_cons.1 h2 with h2|h2
     ·exact e h2.symm
     ·exact h1 h2)]
    omega
theorem abs_ {S:DiskL} (ok:DkOk S) (hu:x8_ S) {k m:Nat} (hk:k<3) {nm:List UInt8} (hm: (nm,m)∈ (S.dir k).seen) {f:FileL} {x:Nat} (hx:f.data.length=(zl_ S m).data.length+x):qX_ (xy_ S m f)≤qX_ S+x:=by
 have hml:m<S.files.length:=ok.seenN k hk _ hm
 have hd: ∀j,j<3→qk_ (xy_ S m f) (S.dir j).seen=qk_ S (S.dir j).seen+if m∈ (S.dir j).seen.map Prod.snd then x else 0:=fun j hj=>aes_ hml hx (ok.seen j hj).nodup fun p hp q hq e=>(hu j j hj hj p hp q hq e).2
 have hne: ∀j,j<3→j≠k→ ¬m∈ (S.dir j).seen.map Prod.snd:=fun j hj hjk h=>by
  obtain⟨q,hq,e⟩:=List.mem_map.1 h
  exact hjk (hu j k hj hk q hq _ hm e).1
 unfold qX_
 show qk_ (xy_ S m f) (S.dir 0).seen+qk_ (xy_ S m f) (S.dir 1).seen+qk_ (xy_ S m f) (S.dir 2).seen≤_
 rw[hd 0 (by omega),hd 1 (by omega),hd 2 (by omega)]
 have:k=0∨k=1∨k=2:=by omega
 rcases this with rfl|rfl|rfl
 ·rw[if_neg (hne 1 (by omega) (by omega)),if_neg (hne 2 (by omega) (by omega))]
  split<;>omega
 ·rw[if_neg (hne 0 (by omega) (by omega)),if_neg (hne 2 (by omega) (by omega))]
  split<;>omega
 ·rw[if_neg (hne 0 (by omega) (by omega)),if_neg (hne 1 (by omega) (by omega))]
  split<;>omega
theorem Qm_ {S S':DiskL} {k:Nat} (hk:k<3) (h1: ∀j,j<3→j≠k→qk_ S' (S'.dir j).seen=qk_ S (S.dir j).seen) (h2:qk_ S' (S'.dir k).seen≤qk_ S (S.dir k).seen):qX_ S'≤qX_ S:=by
 unfold qX_
 have:k=0∨k=1∨k=2:=by omega
 rcases this with rfl|rfl|rfl
 ·rw[h1 1 (by omega) (by omega),h1 2 (by omega) (by omega)];omega
 ·rw[h1 0 (by omega) (by omega),h1 2 (by omega) (by omega)];omega
 ·rw[h1 0 (by omega) (by omega),h1 1 (by omega) (by omega)];omega
theorem kX_ {S S':DiskL} (hd: ∀k,(S'.dir k).seen=(S.dir k).seen) (hf: ∀n,(zl_ S' n).data.length=(zl_ S n).data.length):qX_ S'=qX_ S:=by
 unfold qX_
 rw[hd 0,hd 1,hd 2,xZ_ fun p _=>hf p.2,xZ_ fun p _=>hf p.2,xZ_ fun p _=>hf p.2]
section
variable {S S':DiskL} {kind:Int} {dir name s:List UInt8} {e:Nat}
theorem ahO_ (ok:DkOk S) (hu:x8_ S) (h:StepD S kind dir name s S' e):qX_ S'≤qX_ S∨(qX_ S':Int)≤S.max:=by
 obtain⟨hb1,hb2,-⟩:=qN_ S
 cases h with
 |same=>exact .inl (Nat.le_refl _)
 |burn=>exact .inl (Nat.le_of_eq (kX_ (fun k=>by rw[hb1]) fun n=>by rw[jr_]))
 |create k hk hf hn hb=>
  have hk3:=(zG_ hk).1
  have hff: ∀n,n<S.files.length→zl_ (xg_ (zp_ S).1 qK_) n=zl_ S n:=fun n hn=>by rw[X9_ _ _ (by rw[hb2];exact hn),jr_]
  have hcg: ∀j,j<3→qk_ (xg_ (zp_ S).1 qK_) (S.dir j).seen=qk_ S (S.dir j).seen:=fun j hj=>xZ_ fun p hp=>by rw[hff p.2 (ok.seenN j hj p hp)]
  refine .inl (Qm_ hk3 (fun j hj hjk=> ?_) ?_)
  ·rw[xB_,if_neg hjk]
   show qk_ (xg_ (zp_ S).1 qK_) ((zp_ S).1.dir j).seen=_
   rw[hb1];exact hcg j hj
  ·rw[xB_,if_pos rfl]
   show qk_ (xg_ (zp_ S).1 qK_) (Ki_ ((zp_ S).1.dir k).seen (name,S.files.length))≤_
   rw[hb1,aeE_,←hcg k hk3]
   have h1:zl_ (xg_ (zp_ S).1 qK_) S.files.length=qK_:=by rw[←hb2];exact aic_ _ _
   have h2:=wq_ (xg_ (zp_ S).1 qK_) name (S.dir k).seen
   rw[h1]
   show(0:Nat)+qk_ (xg_ (zp_ S).1 qK_) (q6_ (S.dir k).seen name)≤_
   omega
 |append k m hk hm hf hb=>
  have hk3:=(zG_ hk).1
  right
  have h1:=abs_ (S:=(zp_ S).1) (xL_ ok) (xd_ hu fun k _=>by rw[hb1]) hk3 (nm:=name) (m:=m) (by rw[hb1];exact zQ_ hm) (f:=⟨(zl_ S m).data++s,(zl_ S m).stl⟩) (x:=s.length) (by rw[jr_,List.length_append])
  have h2:qX_ (zp_ S).1=qX_ S:=kX_ (fun k=>by rw[hb1]) fun n=>by rw[jr_]
  unfold Xz_ at hf
  simp only[Bool.or_eq_false_iff,decide_eq_false_iff_not] at hf
  omega
 |sync k m hk hm hb=>
  left
  have hk3:=(zG_ hk).1
  have h1:=abs_ (S:=(zp_ S).1) (xL_ ok) (xd_ hu fun k _=>by rw[hb1]) hk3 (nm:=name) (m:=m) (by rw[hb1];exact zQ_ hm) (f:=⟨(zl_ S m).data,(zl_ S m).data.length⟩) (x:=0) (by rw[jr_];rfl)
  have h2:qX_ (zp_ S).1=qX_ S:=kX_ (fun k=>by rw[hb1]) fun n=>by rw[jr_]
  omega
 |syncDir k hk hb=>exact .inl (Nat.le_of_eq (kX_ (fun j=>by rw[w3_,hb1]) fun n=>by show(zl_ (zp_ S).1 n).data.length=_;rw[jr_]))
 |rename k m h4 hk hm hf hne hb=>
  have hk3:=(zG_ hk).1
  have hcg: ∀l,qk_ (zp_ S).1 l=qk_ S l:=fun l=>xZ_ fun p _=>by rw[jr_]
  refine .inl (Qm_ hk3 (fun j hj hjk=> ?_) ?_)
  ·rw[xB_,if_neg hjk,hb1]
   exact hcg _
  ·rw[xB_,if_pos rfl]
   show qk_ (zp_ S).1 (Ki_ (q6_ ((zp_ S).1.dir k).seen name) (s,(zL_ ((zp_ S).1.dir k).seen name).getD 0))≤_
   rw[hb1,hm,hcg,aeE_]
   have h1:=aaE_ S (zQ_ hm)
   have h2:=wq_ S s (q6_ (S.dir k).seen name)
   show(zl_ S m).data.length+qk_ S (q6_ (q6_ (S.dir k).seen name) s)≤_
   omega
 |remove k m hk hm hb=>
  have hk3:=(zG_ hk).1
  have hcg: ∀l,qk_ (zp_ S).1 l=qk_ S l:=fun l=>xZ_ fun p _=>by rw[jr_]
  refine .inl (Qm_ hk3 (fun j hj hjk=> ?_) ?_)
  ·rw[xB_,if_neg hjk,hb1]
   exact hcg _
  ·rw[xB_,if_pos rfl]
   show qk_ (zp_ S).1 (q6_ ((zp_ S).1.dir k).seen name)≤_
   rw[hb1,hcg]
   exact wq_ S name _
theorem ahT_ (S:DiskL): (zp_ S).2=0∨(zp_ S).2=9:=by
 unfold zp_
 split
 ·exact .inr rfl
 ·split
  ·exact .inl rfl
  ·exact .inl rfl
theorem WT_ (h:StepD S kind dir name s S' e) (h0:e≠0) (h9:e≠9):S'=S:=by
 have hb:=ahT_ S
 cases h with
 |same=>rfl
 |burn=>rcases hb with h|h<;>contradiction
 |_=>exact absurd rfl h0
end
end Go.Proofs
end
section
open Go Go.Proofs Go.Sx Go.StP
namespace Go.Proofs
set_option maxRecDepth 10000
set_option maxHeartbeats 400000
set_option linter.unusedSimpArgs false
theorem QR_ (q:DiskL×List UInt16): ∀k,(zR_ q k).1.files=q.1.files
 |0=>rfl
 |k+1=>QR_ q k
theorem abc_ (q:DiskL×List UInt16) {j:Nat}: ∀ {k:Nat},j<k→ ∃i,i≤ (q.1.dir j).pend.length∧(zR_ q k).1.dir j=⟨xW_ q.1 j i,xW_ q.1 j i,[]⟩
 |k+1,h=>by
  show∃i,i≤_∧(z3_ (zR_ q k).1 k _).dir j=_
  by_cases e:j=k
  ·subst e
   rw[zI_]
   have hd:=Qu_ q (Nat.le_refl j)
   refine⟨kU_ (zR_ q j).2 ((zR_ q j).1.dir j).pend.length, ?_, ?_⟩
   ·rw[hd];exact VR_ _ _
   ·unfold xW_
    rw[hd]
  ·rw[z7_ _ _ e]
   exact abc_ q (by omega)
theorem ZW_ (S:DiskL) (pl:List UInt16) {k:Nat} (hk:k<3): ∃i,i≤ (S.dir k).pend.length∧(zT_ S pl).dir k=⟨xW_ S k i,xW_ S k i,[]⟩:=by
 obtain⟨i,h1,h2⟩:=abc_ (S,pl) hk
 exact⟨i,h1,by unfold zT_;rw[xj_];exact h2⟩
theorem Zx_ (S:DiskL) (pl:List UInt16): (zT_ S pl).off=false:=by
 unfold zT_
 rw[Qw_];rfl
def BegF (f g:FileL):Prop:=(∃t,g.data=f.data.take t)∧(f.stl=f.data.length→g.data=f.data∧g.stl=g.data.length)
theorem BegF.refl (f:FileL):BegF f f:=⟨⟨f.data.length,(List.take_length).symm⟩,fun h=>⟨rfl,h⟩⟩
theorem BegF.trans {f g h:FileL} (h1:BegF f g) (h2:BegF g h):BegF f h:=by
 obtain⟨⟨t,ht⟩,a⟩:=h1
 obtain⟨⟨u,hu⟩,b⟩:=h2
 refine⟨⟨min u t,by rw[hu,ht,List.take_take]⟩,fun e=> ?_⟩
 obtain⟨a1,a2⟩:=a e
 obtain⟨b1,b2⟩:=b a2
 exact⟨b1.trans a1,b2⟩
theorem ahk_ (S:DiskL) {n:Nat} (h:S.files.length≤n):zl_ S n=qK_:=by
 unfold zl_
 rw[List.getD_eq_getElem?_getD,List.getElem?_eq_none h];rfl
theorem aac_ (S:DiskL) {m:Nat} (h:S.files.length≤m) (f:FileL):xy_ S m f=S:=by
 unfold xy_
 rw[List.set_eq_of_length_le h]
theorem agF_ (q:DiskL×List UInt16) (p:List UInt8×Nat) (n:Nat):BegF (zl_ q.1 n) (zl_ (q8_ q p).1 n):=by
 unfold q8_
 simp only
 by_cases hm:p.2<q.1.files.length
 ·rw[kg_ _ _ hm]
  by_cases e:n=p.2
  ·subst e
   rw[if_pos rfl]
   refine⟨⟨_,rfl⟩,fun h=> ?_⟩
   have h1: (zl_ q.1 p.2).data.take ((zl_ q.1 p.2).stl+kU_ q.2 ((zl_ q.1 p.2).data.length - (zl_ q.1 p.2).stl))=(zl_ q.1 p.2).data:=List.take_of_length_le (by rw[←h];omega)
   exact⟨h1,rfl⟩
  ·rw[if_neg e];exact BegF.refl _
 ·rw[aac_ _ (by omega)];exact BegF.refl _
theorem Vb_ (q:DiskL×List UInt16) (p:List UInt8×Nat) (n:Nat) (h:n=p.2∨(zl_ q.1 n).stl=(zl_ q.1 n).data.length): (zl_ (q8_ q p).1 n).stl=(zl_ (q8_ q p).1 n).data.length:=by
 unfold q8_
 simp only
 by_cases hm:p.2<q.1.files.length
 ·rw[kg_ _ _ hm]
  by_cases e:n=p.2
  ·rw[if_pos e]
  ·rw[if_neg e];exact h.resolve_left e
 ·rw[aac_ _ (by omega)]
  rcases h with h|h
  ·rw[ahk_ _ (by omega)];rfl
  ·exact h
theorem Vl_ (n:Nat): ∀ (l:NmL) (q:DiskL×List UInt16),BegF (zl_ q.1 n) (zl_ (l.foldl q8_ q).1 n)∧(n∈l.map Prod.snd∨(zl_ q.1 n).stl=(zl_ q.1 n).data.length→(zl_ (l.foldl q8_ q).1 n).stl=(zl_ (l.foldl q8_ q).1 n).data.length)
 | [],q=>⟨BegF.refl _,fun h=>h.resolve_left (by simp)⟩
 |p::l,q=>by
  obtain⟨h1,h2⟩:=Vl_ n l (q8_ q p)
  refine⟨(agF_ q p n).trans h1,fun h=>h2 ?_⟩
  rcases h with h|h
  ·rw[List.map_cons] at h
   rcases List.mem_cons.1 h with h|h
   ·exact .inr (Vb_ q p n (.inl h))
   ·exact .inl h
  ·exact .inr (Vb_ q p n (.inr h))
theorem Qg_ (n:Nat) (q:DiskL×List UInt16): ∀k,BegF (zl_ q.1 n) (zl_ (qL_ q k).1 n)∧((∃j,j<k∧n∈ (q.1.dir j).seen.map Prod.snd)∨(zl_ q.1 n).stl=(zl_ q.1 n).data.length→(zl_ (qL_ q k).1 n).stl=(zl_ (qL_ q k).1 n).data.length)
 |0=>⟨BegF.refl _,fun h=>h.resolve_left (by rintro⟨j,hj,-⟩;omega)⟩
 |k+1=>by
  obtain⟨h1,h2⟩:=Qg_ n q k
  obtain⟨g1,g2⟩:=Vl_ n (q.1.dir k).seen (qL_ q k)
  refine⟨h1.trans g1,fun h=>g2 ?_⟩
  rcases h with⟨j,hj,hm⟩ |h
  ·by_cases e:j=k
   ·subst e;exact .inl hm
   ·exact .inr (h2 (.inl ⟨j,by omega,hm⟩))
  ·exact .inr (h2 (.inr h))
theorem XC_ (S:DiskL) (pl:List UInt16) (n:Nat):BegF (zl_ S n) (zl_ (zT_ S pl) n):=by
 have h:=(Qg_ n (w1_ (zR_ (S,pl) 3).1,(zR_ (S,pl) 3).2) 3).1
 have e:zl_ (w1_ (zR_ (S,pl) 3).1) n=zl_ S n:=by
  unfold zl_ w1_
  rw[QR_]
 rw[←e];exact h
theorem aji_ (S:DiskL) (pl:List UInt16) {k:Nat} (hk:k<3) {p:List UInt8×Nat} (hp:p∈ ((zT_ S pl).dir k).seen): (zl_ (zT_ S pl) p.2).stl=(zl_ (zT_ S pl) p.2).data.length:=by
 refine(Qg_ p.2 (w1_ (zR_ (S,pl) 3).1,(zR_ (S,pl) 3).2) 3).2 (.inl ⟨k,hk, ?_⟩)
 unfold zT_ at hp
 rw[xj_] at hp
 exact List.mem_map_of_mem hp
theorem mem_files {S:DiskL} {f:FiL}:f∈zM_ S↔S.off=false∧ ∃k,k<3∧ ∃p,p∈ (S.dir k).seen∧f=⟨j5_ k,p.1,(zl_ S p.2).data⟩:=by
 have h: ∀k,f∈xi_ S k↔S.off=false∧ ∃j,j<k∧ ∃p,p∈ (S.dir j).seen∧f=⟨j5_ j,p.1,(zl_ S p.2).data⟩:=fun k=>by
  induction k with
  |zero=>
   constructor
   ·intro h;cases h
   ·rintro⟨-,j,hj,-⟩;omega
  |succ k ih=>
   show f∈xi_ S k++qy_ S k↔_
   rw[List.mem_append,ih]
   unfold qy_
   constructor
   ·rintro(⟨h0,j,hj,h⟩ |h)
    ·exact⟨h0,j,by omega,h⟩
    ·obtain⟨p,hp,rfl⟩:=List.mem_map.1 h
     cases ho:S.off with
     |true=>rw[ho,if_pos rfl] at hp;cases hp
     |false=>rw[ho,if_neg (by simp)] at hp;exact⟨rfl,k,by omega,p,hp,rfl⟩
   ·rintro⟨h0,j,hj,p,hp,rfl⟩
    by_cases e:j=k
    ·subst e
     refine .inr (List.mem_map.2 ⟨p, ?_,rfl⟩)
     rw[h0,if_neg (by simp)];exact hp
    ·exact .inl ⟨h0,j,by omega,p,hp,rfl⟩
 exact h 3
theorem afB_ {S S':DiskL} (ho:S'.off=S.off) (hs: ∀k,k<3→(S'.dir k).seen=(S.dir k).seen) (hf: ∀k,k<3→ ∀p,p∈ (S.dir k).seen→(zl_ S' p.2).data=(zl_ S p.2).data):zM_ S'=zM_ S:=by
 have h: ∀k,k≤3→xi_ S' k=xi_ S k:=fun k=>by
  induction k with
  |zero=>exact fun _=>rfl
  |succ k ih=>
   intro hk
   show xi_ S' k++qy_ S' k=xi_ S k++qy_ S k
   rw[ih (by omega)]
   unfold qy_
   rw[ho,hs k (by omega)]
   congr 1
   refine List.map_congr_left fun p hp=> ?_
   have:p∈ (S.dir k).seen:=by
    split at hp
    ·cases hp
    ·exact hp
   have h2:=hf k (by omega) p this
   unfold zl_ at h2
   rw[h2]
 exact h 3 (Nat.le_refl _)
theorem ab6_ (S:DiskL) (pl pl2:List UInt16):zM_ (zT_ (zT_ S pl) pl2)=zM_ (zT_ S pl):=by
 refine afB_ (by rw[Zx_,Zx_]) (fun k hk=> ?_) fun k hk p hp=> ?_
 ·obtain⟨i,h1,h2⟩:=ZW_ (zT_ S pl) pl2 hk
  obtain⟨i',h3,h4⟩:=ZW_ S pl hk
  rw[h2]
  unfold xW_
  rw[h4,List.take_nil];rfl
 ·exact((XC_ (zT_ S pl) pl2 p.2).2 (aji_ S pl hk hp)).1
def NumD (d:DirL) (n:Nat):Prop:=(∃p,p∈d.stl∧p.2=n)∨ ∃c,c∈d.pend∧c.kind=0∧c.n=n
theorem Jm_ {d:DirL} (h:an6_ d): ∀i,i≤d.pend.length→ ∀p,p∈ (d.pend.take i).foldl qW_ d.stl→NumD d p.2
 |0,_,p,hp=> .inl ⟨p,hp,rfl⟩
 |i+1,hi,p,hp=>by
  have hok:=h i (by omega)
  rw[StP.take_snoc (z:=kT_) (by omega),List.foldl_append] at hp
  have hcm:d.pend.getD i kT_∈d.pend:=jL_ (by omega)
  rcases aeU_ hok hp with⟨h1,rfl⟩ | ⟨h1,m,hm,rfl⟩ | ⟨h1,-⟩
  ·exact .inr ⟨_,hcm,h1,rfl⟩
  ·exact Jm_ h i (by omega) ((d.pend.getD i kT_).a,m) (zQ_ hm)
  ·exact Jm_ h i (by omega) p h1
theorem Wd_ {d:DirL} (h:agp_ d) {p:List UInt8×Nat} (hp:p∈d.seen):NumD d p.2:=by
 refine Jm_ h.2 d.pend.length (Nat.le_refl _) p ?_
 rw[List.take_length,h.1];exact hp
def af9_ (S:DiskL):Prop:= ∀j k,j<3→k<3→ ∀n,NumD (S.dir j) n→NumD (S.dir k) n→j=k
def HadS (S:DiskL) (had:List FiL):Prop:= ∀k,k<3→ ∀n,NumD (S.dir k) n→ ∃f,f∈had∧f.dir=j5_ k∧f.data=(zl_ S n).data
theorem amU_ {S:DiskL} (ok:DkOk S) {k n:Nat} (hk:k<3) (h:NumD (S.dir k) n):n<S.files.length:=by
 rcases h with⟨p,hp,rfl⟩ | ⟨c,hc,h0,rfl⟩
 ·exact ok.stlN k hk p hp
 ·exact ok.pendN k hk c hc h0
theorem kD_ {S:DiskL} {k j n:Nat} {c:CallL} (h:NumD ((k7_ S k c).dir j) n):NumD (S.dir j) n∨(j=k∧c.kind=0∧c.n=n):=by
 by_cases e:j=k
 ·subst e
  unfold k7_ at h
  rw[zI_] at h
  rcases h with h| ⟨d,hd,h0,h1⟩
  ·exact .inl (.inl h)
  ·rcases List.mem_append.1 hd with hd|hd
   ·exact .inl (.inr ⟨d,hd,h0,h1⟩)
   ·rw[List.mem_singleton.1 hd] at h0 h1
    exact .inr ⟨rfl,h0,h1⟩
 ·unfold k7_ at h
  rw[z7_ _ _ e] at h
  exact .inl h
def vx_ (S:DiskL):Prop:=S.off=false∧S.fused=false
theorem k3_ {S:DiskL} (h:vx_ S):zp_ S=(S,0):=by
 unfold zp_
 rw[if_neg (by rw[h.2];simp),if_neg (by rw[h.2];simp)]
section
variable {S S':DiskL} {kind:Int} {dir name s:List UInt8} {e:Nat}
theorem vf_ (hc:vx_ S) (h:StepD S kind dir name s S' e):vx_ S':=by
 have hb:=k3_ hc
 have hb':vx_ (zp_ S).1:=by rw[hb];exact hc
 cases h<;>first|exact hc|exact hb'
theorem air_ (ok:DkOk S) (hh:jA_ S) (hc:vx_ S) (hd:af9_ S) (h:StepD S kind dir name s S' e):af9_ S':=by
 have hb:=k3_ hc
 have same: ∀ {S':DiskL},(∀k n,NumD (S'.dir k) n→NumD (S.dir k) n)→af9_ S':=fun h1 j k hj hk n a b=>hd j k hj hk n (h1 j n a) (h1 k n b)
 cases h with
 |same=>exact hd
 |burn=>rw[hb];exact hd
 |create k hk hf hn hb0=>
  rw[hb]
  intro i j hi hj n a b
  have hlt: ∀ {j},j<3→NumD ((xg_ S qK_).dir j) n→n<S.files.length:=fun hj h=>amU_ (S:=S) ok hj h
  rcases kD_ a with a1| ⟨rfl,-,a1⟩
  ·rcases kD_ b with b1| ⟨rfl,-,b1⟩
   ·exact hd i j hi hj n a1 b1
   ·have:=hlt hi a1
    have e:S.files.length=n:=b1
    omega
  ·rcases kD_ b with b1| ⟨rfl,-,b1⟩
   ·have:=hlt hj b1
    have e:S.files.length=n:=a1
    omega
   ·rfl
 |append k m hk hm hf hb0=>rw[hb];exact same fun k n h=>h
 |sync k m hk hm hb0=>rw[hb];exact same fun k n h=>h
 |syncDir k hk hb0=>
  rw[hb]
  refine same fun j n h=> ?_
  unfold j4_ at h
  by_cases e:j=k
  ·subst e
   rw[zI_] at h
   rcases h with⟨p,hp,rfl⟩ | ⟨c,hc,-⟩
   ·exact Wd_ (hh j) hp
   ·cases hc
  ·rw[z7_ _ _ e] at h;exact h
 |rename k m h4 hk hm hf hne hb0=>rw[hb];exact same fun j n h=>(kD_ h).resolve_right (by rintro⟨-,h,-⟩;cases h)
 |remove k m hk hm hb0=>rw[hb];exact same fun j n h=>(kD_ h).resolve_right (by rintro⟨-,h,-⟩;cases h)
theorem alG_ (ok:DkOk S) (hh:jA_ S) (hc:vx_ S) (hd:af9_ S) {had:List FiL} (hH:HadS S had) (h:StepD S kind dir name s S' e):HadS S' (had++zM_ S'):=by
 have hb:=k3_ hc
 have hcS':=vf_ hc h
 have old: ∀ {S':DiskL},∀k,k<3→ ∀n,NumD (S.dir k) n→(zl_ S' n).data=(zl_ S n).data→ ∃f,f∈had++zM_ S'∧f.dir=j5_ k∧f.data=(zl_ S' n).data:=fun k hk n hn e=>by
  obtain⟨f,h1,h2,h3⟩:=hH k hk n hn
  exact⟨f,List.mem_append_left _ h1,h2,h3.trans e.symm⟩
 have new: ∀ {S':DiskL},vx_ S'→ ∀k,k<3→ ∀p,p∈ (S'.dir k).seen→ ∃f,f∈had++zM_ S'∧f.dir=j5_ k∧f.data=(zl_ S' p.2).data:=fun hc k hk p hp=>
  ⟨⟨j5_ k,p.1,_⟩,List.mem_append_right _ (mem_files.2 ⟨hc.1,k,hk,p,hp,rfl⟩),rfl,rfl⟩
 cases h with
 |same=>exact fun k hk n hn=>old k hk n hn rfl
 |burn=>rw[hb];exact fun k hk n hn=>old k hk n hn rfl
 |create k hk hf hn hb0=>
  rw[hb] at hcS' ⊢
  intro j hj n h
  rcases kD_ h with h| ⟨rfl,-,h⟩
  ·exact old j hj n h (by show(zl_ (xg_ S qK_) n).data=_;rw[X9_ _ _ (amU_ (S:=S) ok hj h)])
  ·have e:S.files.length=n:=h
   subst e
   refine new hcS' j hj (name,S.files.length) ?_
   rw[xB_,if_pos rfl]
   exact mem_put.2 (.inl rfl)
 |append k m hk hm hf hb0=>
  rw[hb] at hcS' ⊢
  have hk3:=(zG_ hk).1
  have hml:=ok.seenN k hk3 _ (zQ_ hm)
  intro j hj n h
  by_cases e:n=m
  ·subst e
   have e2:=hd j k hj hk3 n h (Wd_ (hh k) (zQ_ hm))
   subst e2
   exact new hcS' j hj (name,n) (zQ_ hm)
  ·exact old j hj n h (by rw[kg_ _ _ hml,if_neg e])
 |sync k m hk hm hb0=>
  rw[hb]
  have hml:=ok.seenN k (zG_ hk).1 _ (zQ_ hm)
  intro j hj n h
  refine old j hj n h ?_
  show(zl_ (xy_ S m _) n).data=_
  rw[kg_ _ _ hml]
  by_cases e:n=m
  ·subst e;rw[if_pos rfl]
  ·rw[if_neg e]
 |syncDir k hk hb0=>
  rw[hb]
  intro j hj n h
  refine old j hj n ?_ rfl
  unfold j4_ at h
  by_cases e:j=k
  ·subst e
   rw[zI_] at h
   rcases h with⟨p,hp,rfl⟩ | ⟨c,hc,-⟩
   ·exact Wd_ (hh j) hp
   ·cases hc
  ·rw[z7_ _ _ e] at h;exact h
 |rename k m h4 hk hm hf hne hb0=>rw[hb];exact fun j hj n h=>old j hj n ((kD_ h).resolve_right (by rintro⟨-,h,-⟩;cases h)) rfl
 |remove k m hk hm hb0=>rw[hb];exact fun j hj n h=>old j hj n ((kD_ h).resolve_right (by rintro⟨-,h,-⟩;cases h)) rfl
end
theorem aiP_ {S:DiskL} (hh:jA_ S) {had:List FiL} (hH:HadS S had) (pl:List UInt16) {f:FiL} (hf:f∈zM_ (zT_ S pl)): ∃g,g∈had∧g.dir=f.dir∧f.data.length≤g.data.length∧g.data.take f.data.length=f.data:=by
 obtain⟨-,k,hk,p,hp,rfl⟩:=mem_files.1 hf
 obtain⟨i,h1,h2⟩:=ZW_ S pl hk
 rw[h2] at hp
 obtain⟨g,g1,g2,g3⟩:=hH k hk p.2 (Jm_ (hh k).2 i h1 p hp)
 obtain⟨⟨t,ht⟩,-⟩:=XC_ S pl p.2
 refine⟨g,g1,g2, ?_, ?_⟩
 ·show(zl_ (zT_ S pl) p.2).data.length≤_
  rw[ht,g3,List.length_take];omega
 ·show g.data.take (zl_ (zT_ S pl) p.2).data.length=(zl_ (zT_ S pl) p.2).data
  rw[ht,g3,List.length_take]
  by_cases hlt:t≤ (zl_ S p.2).data.length
  ·rw[Nat.min_eq_left hlt]
  ·rw[Nat.min_eq_right (by omega),List.take_length,List.take_of_length_le (by omega)]
theorem ap9_ (q:Int) (l:List FiL) {k:Nat} (hk:k<3): ((ofD q l).dir k).stl=((ofD q l).dir k).seen∧((ofD q l).dir k).pend= []:=by
 unfold ofD
 rw[Jx_,if_pos (by simp;omega)]
 exact⟨rfl,rfl⟩
theorem ajJ_ {q:Int} {l:List FiL} {k:Nat} (hk:k<3) {n:Nat} (h:NumD ((ofD q l).dir k) n): ∃p,p∈ ((ofD q l).dir k).seen∧p.2=n:=by
 obtain⟨h1,h2⟩:=ap9_ q l hk
 rcases h with h| ⟨c,hc,-⟩
 ·rw[h1] at h;exact h
 ·rw[h2] at hc;cases hc
theorem am5_ (q:Int) (l:List FiL):af9_ (ofD q l):=fun j k hj hk n a b=>by
 obtain⟨p,hp,rfl⟩:=ajJ_ hj a
 obtain⟨p',hp',e⟩:=ajJ_ hk b
 exact(acF_ q l j k hj hk p hp p' hp' e.symm).1
theorem aeh_ {S:DiskL} (h:vx_ S) (f:FiL):vx_ (zS_ S f)∧(zS_ S f).max=S.max:=by
 unfold zS_
 split
 ·split
  ·exact⟨h,rfl⟩
  ·exact⟨h,rfl⟩
 ·exact⟨h,rfl⟩
theorem X2_: ∀ (l:List FiL) {S:DiskL},vx_ S→vx_ (l.foldl zS_ S)∧(l.foldl zS_ S).max=S.max
 | [],_,h=>⟨h,rfl⟩
 |f::l,S,h=>by
  obtain⟨h1,h2⟩:=aeh_ h f
  obtain⟨h3,h4⟩:=X2_ l h1
  exact⟨h3,h4.trans h2⟩
theorem VT_ (q:Int) (l:List FiL):vx_ (ofD q l)∧(ofD q l).max=q:=X2_ l (S:=Qr_ q) ⟨rfl,rfl⟩
theorem apW_ (q:Int) (l:List FiL):HadS (ofD q l) (zM_ (ofD q l)):=fun k hk n hn=>by
 obtain⟨p,hp,rfl⟩:=ajJ_ hk hn
 exact⟨⟨j5_ k,p.1,_⟩,mem_files.2 ⟨(VT_ q l).1.1,k,hk,p,hp,rfl⟩,rfl,rfl⟩
end Go.Proofs
end
section
open Go Go.Proofs Go.Sx Go.StP
namespace Go.Proofs
set_option maxRecDepth 10000
set_option maxHeartbeats 400000
set_option linter.unusedSimpArgs false
structure KeepS (S:DiskL) (k:Nat) (nm:List UInt8) (n:Nat) (data:List UInt8):Prop where
 lt:n<S.files.length
 data: (zl_ S n).data=data
 stl: (zl_ S n).stl=(zl_ S n).data.length
 at_:zL_ (S.dir k).stl nm=some n
 pend: ∀c,c∈ (S.dir k).pend→c.a≠nm∧(c.kind=1→c.b≠nm)
theorem abi_ {x:List UInt8×Nat} {s:List UInt8} (hx:x.1≠s): ∀l:NmL,zL_ (insN l x) s=zL_ l s
 | []=>by
  have: (s==x.1)=false:=beq_eq_false_iff_ne.2 (Ne.symm hx)
  unfold insN zL_
  rw[List.find?_cons,this]
 |p::l=>by
  have e: (s==x.1)=false:=beq_eq_false_iff_ne.2 (Ne.symm hx)
  have ih:=abi_ hx l
  unfold insN
  split
  ·unfold zL_
   rw[List.find?_cons,e]
  ·unfold zL_ at ih ⊢
   rw[List.find?_cons,List.find?_cons]
   split
   ·rfl
   ·exact ih
theorem ZZ_ {a s:List UInt8} (ha:a≠s): ∀l:NmL,zL_ (q6_ l a) s=zL_ l s
 | []=>rfl
 |p::l=>by
  have ih:=ZZ_ ha l
  unfold q6_ at ih ⊢
  rw[List.filter_cons]
  by_cases e:a=p.1
  ·have e1: (s==p.1)=false:=beq_eq_false_iff_ne.2 (fun h=>ha (by rw[e,h]))
   rw[if_neg (by rw[e];simp),ih]
   unfold zL_
   rw[List.find?_cons,e1]
  ·rw[if_pos (by simpa using e)]
   unfold zL_ at ih ⊢
   rw[List.find?_cons,List.find?_cons]
   split
   ·rfl
   ·exact ih
theorem aeX_ {x:List UInt8×Nat} {s:List UInt8} (hx:x.1≠s) (l:NmL):zL_ (Ki_ l x) s=zL_ l s:=by
 unfold Ki_
 rw[abi_ hx,ZZ_ hx]
theorem aj2_ {l:NmL} {c:CallL} {s:List UInt8} (h:c.a≠s∧(c.kind=1→c.b≠s)):zL_ (qW_ l c) s=zL_ l s:=by
 unfold qW_
 split
 ·exact aeX_ h.1 l
 ·rename_i hk
  rw[aeX_ (h.2 hk),ZZ_ h.1]
 ·exact ZZ_ h.1 l
theorem Xf_ {s:List UInt8}: ∀ (cs:List CallL) (l:NmL),(∀c,c∈cs→c.a≠s∧(c.kind=1→c.b≠s))→zL_ (cs.foldl qW_ l) s=zL_ l s
 | [],_,_=>rfl
 |c::cs,l,h=>by
  rw[List.foldl_cons,Xf_ cs _ fun d hd=>h d (List.mem_cons_of_mem _ hd),aj2_ (h c List.mem_cons_self)]
section
variable {S S':DiskL} {kind:Int} {dir name s:List UInt8} {e k n:Nat} {nm data:List UInt8}
theorem KeepS.seen (h:KeepS S k nm n data) (hh:jA_ S):zL_ (S.dir k).seen nm=some n:=by
 rw[← (hh k).1,Xf_ _ _ h.pend,h.at_]
theorem XI_ {S:DiskL} {j:Nat} {c:CallL} (h:KeepS S k nm n data) (hc:j=k→c.a≠nm∧(c.kind=1→c.b≠nm)):KeepS (k7_ S j c) k nm n data:=by
 refine⟨h.lt,h.data,h.stl, ?_, ?_⟩
 ·unfold k7_
  by_cases e:k=j
  ·subst e;rw[zI_];exact h.at_
  ·rw[z7_ _ _ e];exact h.at_
 ·unfold k7_
  by_cases e:k=j
  ·subst e
   rw[zI_]
   intro d hd
   rcases List.mem_append.1 hd with hd|hd
   ·exact h.pend d hd
   ·rw[List.mem_singleton.1 hd];exact hc rfl
  ·rw[z7_ _ _ e];exact h.pend
theorem aiK_ (ok:DkOk S) (hh:jA_ S) (hu:x8_ S) (hc:vx_ S) (hk:k<3) (hK:KeepS S k nm n data) (ht: ¬ (dir=j5_ k∧(name=nm∨kind=4∧s=nm))) (h:StepD S kind dir name s S' e):KeepS S' k nm n data:=by
 have hb:=k3_ hc
 have hsn:=hK.seen hh
 have hne: ∀ {j:Nat},z2_ dir=some j→j=k→name≠nm:=fun hj e h=>ht ⟨by rw[(zG_ hj).2,e], .inl h⟩
 have hfm: ∀ {j m:Nat},z2_ dir=some j→zL_ (S.dir j).seen name=some m→m≠n:=fun hj hm e=>by
  subst e
  have h1:=hu _ _ (zG_ hj).1 hk _ (zQ_ hm) _ (zQ_ hsn) rfl
  exact hne hj h1.1 (congrArg Prod.fst h1.2)
 have hset: ∀ {m:Nat} (f:FileL),m<S.files.length→m≠n→KeepS (xy_ S m f) k nm n data:=fun{m} f hm hmn=>by
  have e:=kg_ S f hm n
  rw[if_neg (Ne.symm hmn)] at e
  exact⟨by show n< (S.files.set m f).length;rw[List.length_set];exact hK.lt,by rw[e];exact hK.data,by rw[e];exact hK.stl,hK.at_,hK.pend⟩
 cases h with
 |same=>exact hK
 |burn=>rw[hb];exact hK
 |create j hj hf hn hb0=>
  rw[hb]
  have e:=X9_ S qK_ hK.lt
  exact XI_ ⟨by show n< (S.files++ [qK_]).length;rw[List.length_append];have:=hK.lt;omega,by rw[e];exact hK.data,by rw[e];exact hK.stl,hK.at_,hK.pend⟩ fun e=>⟨hne hj e,fun h=>by cases h⟩
 |append j m hj hm hf hb0=>rw[hb];exact hset _ (ok.seenN j (zG_ hj).1 _ (zQ_ hm)) (hfm hj hm)
 |sync j m hj hm hb0=>rw[hb];exact hset _ (ok.seenN j (zG_ hj).1 _ (zQ_ hm)) (hfm hj hm)
 |syncDir j hj hb0=>
  rw[hb]
  refine⟨hK.lt,hK.data,hK.stl, ?_, ?_⟩
  ·unfold j4_
   by_cases e:k=j
   ·subst e;rw[zI_];exact hsn
   ·rw[z7_ _ _ e];exact hK.at_
  ·unfold j4_
   by_cases e:k=j
   ·subst e;rw[zI_];intro c hc;cases hc
   ·rw[z7_ _ _ e];exact hK.pend
 |rename j m h4 hj hm hf hne' hb0=>rw[hb];exact XI_ hK fun e=>⟨hne hj e,fun _ h=>ht ⟨by rw[(zG_ hj).2,e], .inr ⟨h4,h⟩⟩⟩
 |remove j m hj hm hb0=>rw[hb];exact XI_ hK fun e=>⟨hne hj e,fun h=>by cases h⟩
theorem agE_ (hk:k<3) (hf:xG_ nm=true) (hK:KeepS S k nm n data) (pl:List UInt16):ac0_ (zT_ S pl) (j5_ k) nm=(data,0):=by
 obtain⟨i,h1,h2⟩:=ZW_ S pl hk
 have hat:zL_ ((zT_ S pl).dir k).seen nm=some n:=by
  rw[h2]
  show zL_ (xW_ S k i) nm=_
  unfold xW_
  rw[Xf_ _ _ fun c hc=>hK.pend c (List.mem_of_mem_take hc),hK.at_]
 have hfe:jS_ (zT_ S pl) (j5_ k) [nm]=0:=by
  unfold jS_
  rw[qv_ hk,Zx_,if_neg (by simp[hf]),if_neg (by simp)]
 have hd:=((XC_ S pl n).2 hK.stl).1
 unfold ac0_
 rw[if_neg (by rw[hfe];simp)]
 have ha:atD (zT_ S pl) (j5_ k) nm=some n:=by unfold atD;rw[qv_ hk];exact hat
 have ha': ((z2_ (j5_ k)).bind fun k=>zL_ ((zT_ S pl).dir k).seen nm)=some n:=ha
 rw[ha']
 show((zl_ (zT_ S pl) n).data,0)=_
 rw[hd,hK.data]
theorem afD_ (ok:DkOk S) (_hh:jA_ S) (hc:vx_ S) (hF:Zc_ S) (hk:k<3) {p:List UInt8×Nat} (hp:p∈ (S.dir k).seen):
  (vb_ S (j5_ k) p.1).2=0∧(qr_ (vb_ S (j5_ k) p.1).1 (j5_ k)).2=0∧KeepS (qr_ (vb_ S (j5_ k) p.1).1 (j5_ k)).1 k p.1 p.2 (zl_ S p.2).data:=by
 have hb:=k3_ hc
 have hf:=hF k hk p hp
 have hm:zL_ (S.dir k).seen p.1=some p.2:=ZF_ (ok.seen k hk).nodup hp
 have ha:atD S (j5_ k) p.1=some p.2:=by unfold atD;rw[qv_ hk];exact hm
 have h1:vb_ S (j5_ k) p.1=(xy_ S p.2 ⟨(zl_ S p.2).data,(zl_ S p.2).data.length⟩,0):=by
  unfold vb_
  rw[if_neg (by unfold jS_;rw[qv_ hk,hc.1];simp[hf]),ha]
  simp only
  rw[hb,if_neg (by simp)]
 have hlt:=ok.seenN k hk p hp
 have e:=kg_ S (m:=p.2) ⟨(zl_ S p.2).data,(zl_ S p.2).data.length⟩ hlt p.2
 rw[if_pos rfl] at e
 rw[h1]
 refine⟨rfl, ?_⟩
 have h2:qr_ (xy_ S p.2 ⟨(zl_ S p.2).data,(zl_ S p.2).data.length⟩) (j5_ k)=(j4_ (xy_ S p.2 ⟨(zl_ S p.2).data,(zl_ S p.2).data.length⟩) k,0):=by
  have hc2:vx_ (xy_ S p.2 ⟨(zl_ S p.2).data,(zl_ S p.2).data.length⟩):=hc
  unfold qr_
  rw[if_neg (by unfold jS_;rw[qv_ hk,hc2.1];simp),k3_ hc2,if_neg (by simp),qv_ hk];rfl
 simp only
 rw[h2]
 refine⟨rfl, ?_, ?_, ?_, ?_, ?_⟩
 ·show p.2< (S.files.set _ _).length
  rw[List.length_set];exact hlt
 ·show(zl_ (xy_ S p.2 _) p.2).data=_
  rw[e]
 ·show(zl_ (xy_ S p.2 _) p.2).stl=(zl_ (xy_ S p.2 _) p.2).data.length
  rw[e]
 ·unfold j4_
  rw[zI_];exact hm
 ·unfold j4_
  rw[zI_];intro c hc;cases hc
end
end Go.Proofs
end
section
open Go Go.Proofs Go.Sx Go.StP
namespace Go.Proofs
set_option maxRecDepth 10000
set_option maxHeartbeats 400000
set_option linter.unusedSimpArgs false
structure PkL where
 v:Value
 l:List UInt16
 h:Value.oneCell' v=true∧v.cells= #[v]
def pk0:PkL:=⟨.slice none 0 0,[],rfl,rfl⟩
structure ActL where
 kind:Int
 n:Int
 dir:List UInt8
 name:List UInt8
 s:List UInt8
 picks:PkL
def acC (r:ActL):List Value:= [vi r.kind]++ ([vi r.n]++ ([vs r.dir]++ ([vs r.name]++ ([vs r.s]++ ([r.picks.v])))))
def ac0:ActL:=⟨0,0,[],[],[],pk0⟩
theorem JK_ (r:ActL): (acC r).length=6:=by simp[acC]
theorem ZA_ (r:ActL):Value.cells (.agg (acC r).toArray)=(acC r).toArray:=zf_ _
theorem aoe_ (r:ActL): (acC r).all Value.oneCell'=true:=by
 unfold acC
 simp only[List.all_append,List.all_cons,List.all_nil,Z7_,Bool.and_true,Bool.true_and]
 rw[r.picks.h.1];rfl
theorem zrAc:zX_ Tryz.prog 31=some (.agg (acC ac0).toArray):=id (by kernel_rfl)
theorem ams_ (r:ActL):acC r=([]:List Value)++ (([vi r.kind])++ ([vi r.n]++ ([vs r.dir]++ ([vs r.name]++ ([vs r.s]++ ([r.picks.v])))))):=by
 unfold acC;simp only[List.append_assoc,List.nil_append,List.append_nil]
theorem Zv_ (r:ActL) (n:Nat) (E:TypeId) (fz:Nat×Nat):zm_ (some (false,n)) (some (.cells (acC r).toArray E fz)) 0=some (vi r.kind):=by
 rw[ams_];exact qp_ _ _ _ n E fz (by simp)
theorem ajE_ {w:World} {v:Value} {l:List ActL} {b off:Nat} {arr:Array Value} {E:TypeId} {fz:Nat×Nat} (h:RowS 6 acC ac0 w v l b off arr E fz) {k:Nat} (hk:k<l.length) (n:Nat):zm_ (some (false,n)) (some (.cells arr E fz)) (off+k*6+0)=some (vi (l.getD k ac0).kind):=by
 rw[RowS.cell h hk (by omega)];generalize l.getD k ac0=r;rw[ams_];exact wN_ _ _ _ (by simp)
theorem ap8_ (r:ActL):acC r=(([vi r.kind]))++ (([vi r.n])++ ([vs r.dir]++ ([vs r.name]++ ([vs r.s]++ ([r.picks.v]))))):=by
 unfold acC;simp only[List.append_assoc,List.nil_append,List.append_nil]
theorem VY_ (r:ActL) (n:Nat) (E:TypeId) (fz:Nat×Nat):zm_ (some (false,n)) (some (.cells (acC r).toArray E fz)) 1=some (vi r.n):=by
 rw[ap8_];exact qp_ _ _ _ n E fz (by simp)
theorem ap2_ (r:ActL):acC r=(([vi r.kind])++ ([vi r.n]))++ (([vs r.dir])++ ([vs r.name]++ ([vs r.s]++ ([r.picks.v])))):=by
 unfold acC;simp only[List.append_assoc,List.nil_append,List.append_nil]
theorem VZ_ (r:ActL) (n:Nat) (E:TypeId) (fz:Nat×Nat):zm_ (some (false,n)) (some (.cells (acC r).toArray E fz)) 2=some (vs r.dir):=by
 rw[ap2_];exact qp_ _ _ _ n E fz (by simp)
theorem apV_ (r:ActL):acC r=(([vi r.kind])++ ([vi r.n])++ ([vs r.dir]))++ (([vs r.name])++ ([vs r.s]++ ([r.picks.v]))):=by
 unfold acC;simp only[List.append_assoc,List.nil_append,List.append_nil]
theorem WN_ (r:ActL) (n:Nat) (E:TypeId) (fz:Nat×Nat):zm_ (some (false,n)) (some (.cells (acC r).toArray E fz)) 3=some (vs r.name):=by
 rw[apV_];exact qp_ _ _ _ n E fz (by simp)
theorem apu_ (r:ActL):acC r=(([vi r.kind])++ ([vi r.n])++ ([vs r.dir])++ ([vs r.name]))++ (([vs r.s])++ ([r.picks.v])):=by
 unfold acC;simp only[List.append_assoc,List.nil_append,List.append_nil]
theorem WD_ (r:ActL) (n:Nat) (E:TypeId) (fz:Nat×Nat):zm_ (some (false,n)) (some (.cells (acC r).toArray E fz)) 4=some (vs r.s):=by
 rw[apu_];exact qp_ _ _ _ n E fz (by simp)
theorem apR_ (r:ActL):acC r=(([vi r.kind])++ ([vi r.n])++ ([vs r.dir])++ ([vs r.name])++ ([vs r.s]))++ (([r.picks.v])++ (([]:List Value))):=by
 unfold acC;simp only[List.append_assoc,List.nil_append,List.append_nil]
theorem ae8_ (r:ActL) (n:Nat) (E:TypeId) (fz:Nat×Nat):zm_ (some (false,n)) (some (.cells (acC r).toArray E fz)) 5=some (r.picks.v):=by
 rw[apR_];exact qp_ _ _ _ n E fz (by simp)
theorem XZ_ (r:ActL) (E:TypeId) (fz:Nat×Nat):zm_ (some (true,6)) (some (.cells (acC r).toArray E fz)) 0=some (.agg (acC r).toArray):=xo_ _ E fz 6 (by rw[List.size_toArray,JK_])
theorem amc_ (old:Array Value) (r:ActL) (a:Bool) (E:TypeId) (h:old.size=6):zq_ (some (a,6)) (some (.cells old E (0,0))) 0 (.agg (acC r).toArray)=some (.cells (acC r).toArray E (0,0)):=jQ_ _ a old E (JK_ r) (aoe_ r) h
theorem aaZ_ (r r':ActL) (a:Bool) (E:TypeId):zq_ (some (a,6)) (some (.cells (acC r').toArray E (0,0))) 0 (.agg (acC r).toArray)=some (.cells (acC r).toArray E (0,0)):=amc_ _ r a E (by rw[List.size_toArray,JK_])
theorem aet_ {w:World} {v:Value} {l:List ActL} {b off:Nat} {arr:Array Value} {E:TypeId} {fz:Nat×Nat} (h:RowS 6 acC ac0 w v l b off arr E fz) {k:Nat} (hk:k<l.length):zm_ (some (true,6)) (some (.cells arr E fz)) (off+k*6)=some (.agg (acC (l.getD k ac0)).toArray):=RowS.load h JK_ (by omega) hk
abbrev AcSl (w:World) (v:Value) (l:List ActL):Prop:=SlV 6 acC ac0 w v l
structure ActOk (w:World) (a:ActL):Prop where
 pk:PkS w a.picks.v a.picks.l
 n: -9223372036854775808≤a.n∧a.n<9223372036854775808
def Zt_ (a:ActL):Bool:=decide (200<a.name.length) ||decide (2000<a.s.length) ||decide (50<a.dir.length) ||decide (100<a.picks.l.length)
def doA (S:DiskL) (a:ActL):DiskL×Nat:=
 if a.kind.tmod 9=6 then({S with fuse:=a.n,fused:=decide (0≤a.n)},0) else if a.kind.tmod 9=7 then(zT_ S a.picks.l,0) else if a.kind.tmod 9=8 then({S with max:=a.n},0) else doV S (a.kind.tmod 9) a.dir a.name a.s
theorem PkS.blk {w:World} {v:Value} {l:List UInt16} (h:PkS w v l) (hl:l≠ []) {b:Nat} (hb:slB v=some b):b<w.heap.size:=by
 obtain⟨b',off,c,arr,E,fz,hr,hc,⟨rfl,rfl,rfl⟩ | ⟨rfl,hh,-⟩⟩:=h.resolve_right fun e=>hl e.1
 ·exact absurd rfl hl
 ·cases hb
  exact(Array.getElem?_eq_some_iff.1 hh).1
set_option linter.defProp false
def w2_:=And.intro (And.intro (And.intro (@zc_) (@zd_)) (And.intro (@XZ_) (And.intro (@Zv_) (@VY_)))) (And.intro (And.intro (@VZ_) (@WN_)) (And.intro (@WD_) (And.intro (@ae8_) (@ZA_))))
theorem vu_ (a:ActL) (w:World) (ha:ActOk w a):Rets Tryz.prog 17 #[.agg (acC a).toArray] w (fun v D=>v= .bool (Zt_ a)∧D= []):=by
 have lnp:=ha.pk.len
 refine Rets.enterV Tryz.func17 rfl (rs:= [.tmp 2]) Tryz.results17 Tryz.ntmps17 ?_
 refine kf ?_
 first|with_reducible refine ks [1] @w2_ ?_|refine kp @w2_ ?_
 refine Ow.box rfl rfl fun b1 hb1 hw1=> ?_
 simp only[qD_,qE_,qI_,zf_,List.nil_append,List.cons_append]
 refine Ow.go rfl ?_
 simp(disch:=(first|assumption|omega| (simp only[lenS,lenT,UInt64.reduceToNat];try omega))) only[↓Sx.S0,Sx.S1,Tryz.fx,w2_,Nat.reduceAdd,Nat.reducePow,Int.reducePow,Nat.reduceBEq, ↓reduceIte,UInt8.reduceToNat,UInt16.reduceToNat,UInt32.reduceToNat,UInt64.reduceToNat,Int.reduceToNat]
 unfold Zt_
 cases h1:decide ((200:Int)< (a.name.length:Int)) with
 |true=>
  first|with_reducible refine ks [] (And.intro @w2_ @h1) ?_|refine kp (And.intro @w2_ @h1) ?_
  refine⟨_,(ke @w2_),⟨hw1,trivial⟩, ?_⟩
  (rw[decide_eq_true (show 200<a.name.length by have:=of_decide_eq_true h1;omega)];rfl)
 |false=>
  have g1:decide (200<a.name.length)=false:=decide_eq_false (by have:=of_decide_eq_false h1;omega)
  cases h2:decide ((2000:Int)< (a.s.length:Int)) with
  |true=>
   first|with_reducible refine ks [] (And.intro @w2_ (And.intro @h1 (@h2))) ?_|refine kp (And.intro @w2_ (And.intro @h1 (@h2))) ?_
   refine⟨_,(ke @w2_),⟨hw1,trivial⟩, ?_⟩
   (rw[decide_eq_true (show 2000<a.s.length by have:=of_decide_eq_true h2;omega),g1];rfl)
  |false=>
   have g2:decide (2000<a.s.length)=false:=decide_eq_false (by have:=of_decide_eq_false h2;omega)
   cases h3:decide ((50:Int)< (a.dir.length:Int)) with
   |true=>
    first|with_reducible refine ks [] (And.intro @w2_ (And.intro @h1 (And.intro @h2 (@h3)))) ?_|refine kp (And.intro @w2_ (And.intro @h1 (And.intro @h2 (@h3)))) ?_
    refine⟨_,(ke @w2_),⟨hw1,trivial⟩, ?_⟩
    (rw[decide_eq_true (show 50<a.dir.length by have:=of_decide_eq_true h3;omega),g1,g2];rfl)
   |false=>
    have g3:decide (50<a.dir.length)=false:=decide_eq_false (by have:=of_decide_eq_false h3;omega)
    have g4:decide (100<a.picks.l.length)=decide ((100:Int)< (a.picks.l.length:Int)):=by
     congr 1
     rw[eq_iff_iff];omega
    first|with_reducible refine ks [] (And.intro @w2_ (And.intro @h1 (And.intro @h2 (And.intro @h3 (@lnp))))) ?_|refine kp (And.intro @w2_ (And.intro @h1 (And.intro @h2 (And.intro @h3 (@lnp))))) ?_
    refine⟨_,(ke @w2_),⟨hw1,trivial⟩, ?_⟩
    (rw[g1,g2,g3,g4];rfl)
structure DkA (X:za_) (G:DkG) (S:DiskL) (N:Nat):Prop where
 P:DkP X G S
 H:jA_ S
 B:DkN N S
theorem DkA.pend {X:za_} {G:DkG} {S:DiskL} {N:Nat} (h:DkA X G S N) (hN:N<1000000): ∀k,k<3→(S.dir k).pend.length<1000000:=fun k _=>by
 have:=(h.B k).stl
 omega
theorem DkA.used {X:za_} {G:DkG} {S:DiskL} {N:Nat} (h:DkA X G S N) (hN:N<1000000):qX_ S<4611686018427387904:=by
 have:=ald_ h.P.ok h.B
 omega
theorem DkA.mono {X X':za_} {G:DkG} {S:DiskL} {N:Nat} (h:DkA X G S N) (hk: ∀b o,Sx.look X b=some o→Sx.look X' b=some o):DkA X' G S N:=⟨h.P.mono hk,h.H,h.B⟩
theorem DkA.b {X:za_} {G:DkG} {S:DiskL} {N:Nat} (h:DkA X G S N) (hN:N<1000000):DkB S:=h.B.b (by omega)
theorem xt_ {S:DiskL} (h:jA_ S) (a:ActL):jA_ (doA S a).1:=by
 unfold doA
 split
 ·exact xe_ h rfl
 split
 ·exact Qe_ h _
 split
 ·exact xe_ h rfl
 ·exact aiu_ h (Qc_ S _ _ _ _)
theorem kH_ {S:DiskL} {N:Nat} (h:DkN N S) {a:ActL} (hn:a.name.length≤1000000) (hs:a.s.length≤1000000):DkN (N+1) (doA S a).1:=by
 unfold doA
 split
 ·exact vY_ (xH_ h rfl)
 split
 ·exact vY_ (Zn_ h _)
 split
 ·exact vY_ (xH_ h rfl)
 ·exact alC_ h hn hs (Qc_ S _ _ _ _)
theorem aj4_ {a:ActL} (h:Zt_ a=false):a.name.length≤200∧a.s.length≤2000∧a.dir.length≤50∧a.picks.l.length≤100:=by
 unfold Zt_ at h
 simp only[Bool.or_eq_false_iff,decide_eq_false_iff_not] at h
 omega
end Go.Proofs
end
section
open Go Go.Proofs Go.Sx Go.StP
namespace Go.Proofs
set_option maxRecDepth 10000
set_option maxHeartbeats 400000
set_option linter.unusedSimpArgs false
set_option linter.defProp false
def zU_:=And.intro (And.intro (And.intro (@zc_) (@zd_)) (And.intro (@XZ_) (And.intro (@Zv_) (@VY_)))) (And.intro (And.intro (@VZ_) (@WN_)) (And.intro (@WD_) (And.intro (@ae8_) (@ZA_))))
theorem amj_ {w:World} {X D:za_} {b:Nat} {o:Obj} (h:Ext w X D) (hb:w.heap.size≤b):Ext w X ((b,o)::D):=
 ⟨fun c hc=>by
  rcases List.mem_cons.1 hc with rfl|hc
  ·exact .inr hb
  ·exact h.new c hc,fun c hc=>List.mem_cons_of_mem _ (h.all c hc)⟩
theorem rem9 (a:Int):zn_ .rem (vi a) (vi 9)=some (vi (a.tmod 9)):=by
 unfold vi zn_
 rfl
theorem ZP_ (X:za_) (G:DkG) (S:DiskL) (N:Nat) (a:ActL) (w:World) (hX: ∀p,p∈X→w.heap[p.1]? =some p.2) (hn: (keys X).Nodup) (hA:DkA X G S N) (hN:N<900000) (hGl:wR_ w) (hgx:0∉keys X) (ha:ActOk w a) (hg:Zt_ a=false) (hpx:PkB w X a.picks.l a.picks.v):
  Rets Tryz.prog 18 #[vp G.bd 0, .agg (acC a).toArray] w (XS w X (fun v D=>v=vi ((doA S a).2:Nat)∧ ∃G',G'.bd=G.bd∧DkA D G' (doA S a).1 (N+1))):=by
 obtain⟨g1,g2,g3,g4⟩:=aj4_ hg
 have hpd:=hA.pend (by omega)
 have hus:=hA.used (by omega)
 refine Rets.enterX Tryz.func18 rfl (rs:= [.tmp 4]) Tryz.results18 Tryz.ntmps18 hX hn ?_
 refine kf ?_
 first|with_reducible refine ks [1] @zU_ ?_|refine kp @zU_ ?_
 refine Ow.box rfl rfl fun b3 hb3 hw3=> ?_
 simp only[qD_,qE_,qI_,zf_,List.nil_append,List.cons_append]
 refine Ow.permL (M:=(b3, .cells (acC a).toArray 31 (0,0))::X) (by classical exact List.perm_iff_count.2 fun a=>by simp only[List.count_append,List.count_cons,List.count_nil]<;>omega) ?_
 refine ko @zU_ ?_
 have hP1:DkP ((b3, .cells (acC a).toArray 31 (0,0))::X) G S:=hA.P.mono fun b o h=>QC_ hb3 h
 have hE1:Ext w X ((b3, .cells (acC a).toArray 31 (0,0))::X):=amj_ (Ext.refl w X) hw3
 have hl3: ∀Y:za_,zx_ w ((b3, .cells (acC a).toArray 31 (0,0))::Y) b3=some (.cells (acC a).toArray 31 (0,0)):=fun Y=>zb_ (by simp[Sx.look])
 have rdh:=hl3 X
 have hpx1:PkB w ((b3, .cells (acC a).toArray 31 (0,0))::X) a.picks.l a.picks.v:=fun h b hb=>⟨(hpx h b hb).1,fun hm=>by
  rcases List.mem_cons.1 hm with hm|hm
  ·have:=(hpx h b hb).1
   simp only at hm
   omega
  ·exact(hpx h b hb).2 hm⟩
 have hgx1:0∉keys ((b3, .cells (acC a).toArray 31 (0,0))::X):=fun hm=>by
  obtain⟨e,fz,hgl⟩:=hGl
  have hlt:=(Array.getElem?_eq_some_iff.1 hgl).1
  rcases List.mem_cons.1 hm with hm|hm
  ·omega
  ·exact hgx hm
 have hrem:=rem9 a.kind
 generalize hL1: ((b3,Obj.cells (acC a).toArray 31 (0,0))::X)=L1 at*
 by_cases k0:a.kind.tmod 9=0
 ·have e0: (a.kind.tmod 9==0)=true:=beq_iff_eq.2 k0
  have hd:doA S a=xf_ S a.dir a.name:=by unfold doA doV;simp[k0]
  first|with_reducible refine ks [] (And.intro @zU_ (And.intro @rdh (And.intro @hrem (@e0)))) ?_|refine kp (And.intro @zU_ (And.intro @rdh (And.intro @hrem (@e0)))) ?_
  refine Ow.callX (X:=L1) (Y:= []) (List.append_nil _).symm rfl rfl Tryz.call72 (fun w' hw' hX' hn'=>QY_ L1 G S a.dir a.name w' hX' hn' hP1 (by omega) hpd) (fun v4 D4 hC4 hS4=> ?_)
  obtain⟨rfl,G',hbd,hP'⟩:=hS4
  rw[List.append_nil]
  refine ko @zU_ ?_
  first|with_reducible refine ks [] @zU_ ?_|refine kp @zU_ ?_
  refine⟨_,(ke @zU_), ?_⟩
  exact⟨hE1.came0 hC4,by rw[hd];rfl,G',hbd,by rw[hd];exact hP',xt_ hA.H a,kH_ hA.B (a:=a) (by omega) (by omega)⟩
 have e0: (a.kind.tmod 9==0)=false:=beq_eq_false_iff_ne.2 k0
 by_cases k1:a.kind.tmod 9=1
 ·have e1: (a.kind.tmod 9==1)=true:=beq_iff_eq.2 k1
  have hd:doA S a=jm_ S a.dir a.name a.s:=by unfold doA doV;simp[k1]
  first|with_reducible refine ks [] (And.intro @zU_ (And.intro @rdh (And.intro @hrem (And.intro @e0 (@e1))))) ?_|refine kp (And.intro @zU_ (And.intro @rdh (And.intro @hrem (And.intro @e0 (@e1))))) ?_
  refine Ow.callX (X:=L1) (Y:= []) (List.append_nil _).symm rfl rfl Tryz.call73 (fun w' hw' hX' hn'=>kw_ L1 G S a.dir a.name a.s w' hX' hn' hP1 (by omega) (by omega) hus) (fun v4 D4 hC4 hS4=> ?_)
  obtain⟨rfl,hP'⟩:=hS4
  have hbd:G.bd=G.bd:=rfl
  rw[List.append_nil]
  refine ko @zU_ ?_
  first|with_reducible refine ks [] @zU_ ?_|refine kp @zU_ ?_
  refine⟨_,(ke @zU_), ?_⟩
  exact⟨hE1.came0 hC4,by rw[hd];rfl,G,rfl,by rw[hd];exact hP',xt_ hA.H a,kH_ hA.B (a:=a) (by omega) (by omega)⟩
 have e1: (a.kind.tmod 9==1)=false:=beq_eq_false_iff_ne.2 k1
 by_cases k2:a.kind.tmod 9=2
 ·have e2: (a.kind.tmod 9==2)=true:=beq_iff_eq.2 k2
  have hd:doA S a=vb_ S a.dir a.name:=by unfold doA doV;simp[k2]
  first|with_reducible refine ks [] (And.intro @zU_ (And.intro @rdh (And.intro @hrem (And.intro @e0 (And.intro @e1 (@e2)))))) ?_|refine kp (And.intro @zU_ (And.intro @rdh (And.intro @hrem (And.intro @e0 (And.intro @e1 (@e2)))))) ?_
  refine Ow.callX (X:=L1) (Y:= []) (List.append_nil _).symm rfl rfl Tryz.call20 (fun w' hw' hX' hn'=>QB_ L1 G S a.dir a.name w' hX' hn' hP1 (by omega)) (fun v4 D4 hC4 hS4=> ?_)
  obtain⟨rfl,hP'⟩:=hS4
  have hbd:G.bd=G.bd:=rfl
  rw[List.append_nil]
  refine ko @zU_ ?_
  first|with_reducible refine ks [] @zU_ ?_|refine kp @zU_ ?_
  refine⟨_,(ke @zU_), ?_⟩
  exact⟨hE1.came0 hC4,by rw[hd];rfl,G,rfl,by rw[hd];exact hP',xt_ hA.H a,kH_ hA.B (a:=a) (by omega) (by omega)⟩
 have e2: (a.kind.tmod 9==2)=false:=beq_eq_false_iff_ne.2 k2
 by_cases k3:a.kind.tmod 9=3
 ·have e3: (a.kind.tmod 9==3)=true:=beq_iff_eq.2 k3
  have hd:doA S a=qr_ S a.dir:=by unfold doA doV;simp[k3]
  first|with_reducible refine ks [] (And.intro @zU_ (And.intro @rdh (And.intro @hrem (And.intro @e0 (And.intro @e1 (And.intro @e2 (@e3))))))) ?_|refine kp (And.intro @zU_ (And.intro @rdh (And.intro @hrem (And.intro @e0 (And.intro @e1 (And.intro @e2 (@e3))))))) ?_
  refine Ow.callX (X:=L1) (Y:= []) (List.append_nil _).symm rfl rfl Tryz.call21 (fun w' hw' hX' hn'=>vj_ L1 G S a.dir w' hX' hn' hP1) (fun v4 D4 hC4 hS4=> ?_)
  obtain⟨rfl,G',hbd,hP'⟩:=hS4
  rw[List.append_nil]
  refine ko @zU_ ?_
  first|with_reducible refine ks [] @zU_ ?_|refine kp @zU_ ?_
  refine⟨_,(ke @zU_), ?_⟩
  exact⟨hE1.came0 hC4,by rw[hd];rfl,G',hbd,by rw[hd];exact hP',xt_ hA.H a,kH_ hA.B (a:=a) (by omega) (by omega)⟩
 have e3: (a.kind.tmod 9==3)=false:=beq_eq_false_iff_ne.2 k3
 by_cases k4:a.kind.tmod 9=4
 ·have e4: (a.kind.tmod 9==4)=true:=beq_iff_eq.2 k4
  have hd:doA S a=v5_ S a.dir a.name a.s:=by unfold doA doV;simp[k4]
  first|with_reducible refine ks [] (And.intro @zU_ (And.intro @rdh (And.intro @hrem (And.intro @e0 (And.intro @e1 (And.intro @e2 (And.intro @e3 (@e4)))))))) ?_|refine kp (And.intro @zU_ (And.intro @rdh (And.intro @hrem (And.intro @e0 (And.intro @e1 (And.intro @e2 (And.intro @e3 (@e4)))))))) ?_
  refine Ow.callX (X:=L1) (Y:= []) (List.append_nil _).symm rfl rfl Tryz.call76 (fun w' hw' hX' hn'=>aag_ L1 G S a.dir a.name a.s w' hX' hn' hP1 (by omega) (by omega) hpd) (fun v4 D4 hC4 hS4=> ?_)
  obtain⟨rfl,G',hbd,hP'⟩:=hS4
  rw[List.append_nil]
  refine ko @zU_ ?_
  first|with_reducible refine ks [] @zU_ ?_|refine kp @zU_ ?_
  refine⟨_,(ke @zU_), ?_⟩
  exact⟨hE1.came0 hC4,by rw[hd];rfl,G',hbd,by rw[hd];exact hP',xt_ hA.H a,kH_ hA.B (a:=a) (by omega) (by omega)⟩
 have e4: (a.kind.tmod 9==4)=false:=beq_eq_false_iff_ne.2 k4
 by_cases k5:a.kind.tmod 9=5
 ·have e5: (a.kind.tmod 9==5)=true:=beq_iff_eq.2 k5
  have hd:doA S a=v4_ S a.dir a.name:=by unfold doA doV;simp[k5]
  first|with_reducible refine ks [] (And.intro @zU_ (And.intro @rdh (And.intro @hrem (And.intro @e0 (And.intro @e1 (And.intro @e2 (And.intro @e3 (And.intro @e4 (@e5))))))))) ?_|refine kp (And.intro @zU_ (And.intro @rdh (And.intro @hrem (And.intro @e0 (And.intro @e1 (And.intro @e2 (And.intro @e3 (And.intro @e4 (@e5))))))))) ?_
  refine Ow.callX (X:=L1) (Y:= []) (List.append_nil _).symm rfl rfl Tryz.call77 (fun w' hw' hX' hn'=>aba_ L1 G S a.dir a.name w' hX' hn' hP1 (by omega) hpd) (fun v4 D4 hC4 hS4=> ?_)
  obtain⟨rfl,G',hbd,hP'⟩:=hS4
  rw[List.append_nil]
  refine ko @zU_ ?_
  first|with_reducible refine ks [] @zU_ ?_|refine kp @zU_ ?_
  refine⟨_,(ke @zU_), ?_⟩
  exact⟨hE1.came0 hC4,by rw[hd];rfl,G',hbd,by rw[hd];exact hP',xt_ hA.H a,kH_ hA.B (a:=a) (by omega) (by omega)⟩
 have e5: (a.kind.tmod 9==5)=false:=beq_eq_false_iff_ne.2 k5
 by_cases k6:a.kind.tmod 9=6
 ·have e6: (a.kind.tmod 9==6)=true:=beq_iff_eq.2 k6
  have hd:doA S a=({S with fuse:=a.n,fused:=decide (0≤a.n)},0):=by unfold doA doV;simp[k6]
  first|with_reducible refine ks [] (And.intro @zU_ (And.intro @rdh (And.intro @hrem (And.intro @e0 (And.intro @e1 (And.intro @e2 (And.intro @e3 (And.intro @e4 (And.intro @e5 (@e6)))))))))) ?_|refine kp (And.intro @zU_ (And.intro @rdh (And.intro @hrem (And.intro @e0 (And.intro @e1 (And.intro @e2 (And.intro @e3 (And.intro @e4 (And.intro @e5 (@e6)))))))))) ?_
  refine Ow.callX (X:=L1) (Y:= []) (List.append_nil _).symm rfl rfl Tryz.call37 (fun w' hw' hX' hn'=>afK_ L1 G S a.n w' hX' hn' hP1 ha.n) (fun v4 D4 hC4 hS4=> ?_)
  obtain⟨-,G',hbd,hP'⟩:=hS4
  rw[List.append_nil]
  refine ko @zU_ ?_
  first|with_reducible refine ks [] @zU_ ?_|refine kp @zU_ ?_
  refine⟨_,(ke @zU_), ?_⟩
  exact⟨hE1.came0 hC4,by rw[hd];rfl,G',hbd,by rw[hd];exact hP',xt_ hA.H a,kH_ hA.B (a:=a) (by omega) (by omega)⟩
 have e6: (a.kind.tmod 9==6)=false:=beq_eq_false_iff_ne.2 k6
 by_cases k7:a.kind.tmod 9=7
 ·have e7: (a.kind.tmod 9==7)=true:=beq_iff_eq.2 k7
  have hd:doA S a=(zT_ S a.picks.l,0):=by unfold doA doV;simp[k7]
  first|with_reducible refine ks [] (And.intro @zU_ (And.intro @rdh (And.intro @hrem (And.intro @e0 (And.intro @e1 (And.intro @e2 (And.intro @e3 (And.intro @e4 (And.intro @e5 (And.intro @e6 (@e7))))))))))) ?_|refine kp (And.intro @zU_ (And.intro @rdh (And.intro @hrem (And.intro @e0 (And.intro @e1 (And.intro @e2 (And.intro @e3 (And.intro @e4 (And.intro @e5 (And.intro @e6 (@e7))))))))))) ?_
  obtain⟨eg,fg,hgl⟩:=hGl
  refine Ow.callX (X:=L1) (Y:= []) (List.append_nil _).symm rfl rfl Tryz.call22 (fun w' hw' hX' hn'=>kj_ L1 G S a.picks.v a.picks.l w' hX' hn' hP1 ⟨_,_,(hw'.old _ (Array.getElem?_eq_some_iff.1 hgl).1 hgx1).trans hgl⟩ hgx1 ((xk_ (q:=(S,a.picks.l)) hA.B 3).b (by omega)) (ha.pk.old hw' fun h b hb=>(hpx1 h b hb).2) (fun h b hb=>⟨Nat.lt_of_lt_of_le (hpx1 h b hb).1 hw'.size,(hpx1 h b hb).2⟩) (by omega) (fun k hk=>⟨(hA.H k).2,hpd k hk⟩)) (fun v4 D4 hC4 hS4=> ?_)
  obtain⟨G',hbd,hP'⟩:=hS4
  rw[List.append_nil]
  refine ko @zU_ ?_
  first|with_reducible refine ks [] @zU_ ?_|refine kp @zU_ ?_
  refine⟨_,(ke @zU_), ?_⟩
  exact⟨hE1.came0 hC4,by rw[hd];rfl,G',hbd,by rw[hd];exact hP',xt_ hA.H a,kH_ hA.B (a:=a) (by omega) (by omega)⟩
 have e7: (a.kind.tmod 9==7)=false:=beq_eq_false_iff_ne.2 k7
 by_cases k8:a.kind.tmod 9=8
 ·have e8: (a.kind.tmod 9==8)=true:=beq_iff_eq.2 k8
  have hd:doA S a=({S with max:=a.n},0):=by unfold doA doV;simp[k8]
  first|with_reducible refine ks [] (And.intro @zU_ (And.intro @rdh (And.intro @hrem (And.intro @e0 (And.intro @e1 (And.intro @e2 (And.intro @e3 (And.intro @e4 (And.intro @e5 (And.intro @e6 (And.intro @e7 (@e8)))))))))))) ?_|refine kp (And.intro @zU_ (And.intro @rdh (And.intro @hrem (And.intro @e0 (And.intro @e1 (And.intro @e2 (And.intro @e3 (And.intro @e4 (And.intro @e5 (And.intro @e6 (And.intro @e7 (@e8)))))))))))) ?_
  refine Ow.callX (X:=L1) (Y:= []) (List.append_nil _).symm rfl rfl Tryz.call78 (fun w' hw' hX' hn'=>ab4_ L1 G S a.n w' hX' hn' hP1 ha.n) (fun v4 D4 hC4 hS4=> ?_)
  obtain⟨-,G',hbd,hP'⟩:=hS4
  rw[List.append_nil]
  refine ko @zU_ ?_
  first|with_reducible refine ks [] @zU_ ?_|refine kp @zU_ ?_
  refine⟨_,(ke @zU_), ?_⟩
  exact⟨hE1.came0 hC4,by rw[hd];rfl,G',hbd,by rw[hd];exact hP',xt_ hA.H a,kH_ hA.B (a:=a) (by omega) (by omega)⟩
 have e8: (a.kind.tmod 9==8)=false:=beq_eq_false_iff_ne.2 k8
 have hd:doA S a=(S,0):=by unfold doA doV;simp[k0,k1,k2,k3,k4,k5,k6,k7,k8]
 first|with_reducible refine ks [] (And.intro @zU_ (And.intro @rdh (And.intro @hrem (And.intro @e0 (And.intro @e1 (And.intro @e2 (And.intro @e3 (And.intro @e4 (And.intro @e5 (And.intro @e6 (And.intro @e7 (@e8)))))))))))) ?_|refine kp (And.intro @zU_ (And.intro @rdh (And.intro @hrem (And.intro @e0 (And.intro @e1 (And.intro @e2 (And.intro @e3 (And.intro @e4 (And.intro @e5 (And.intro @e6 (And.intro @e7 (@e8)))))))))))) ?_
 refine⟨_,(ke @zU_), ?_⟩
 exact⟨hE1,by rw[hd];rfl,G,rfl,by rw[hd];exact hP1,xt_ hA.H a,kH_ hA.B (a:=a) (by omega) (by omega)⟩
end Go.Proofs
end
section
open Go Go.Proofs Go.Sx Go.StP
namespace Go.Proofs
set_option maxRecDepth 10000
set_option maxHeartbeats 400000
set_option linter.unusedSimpArgs false
def al0:DiskL:=Qr_ 100
def al1:DiskL:=(xf_ al0 z1_ [97]).1
def al2:DiskL:=(jm_ al1 z1_ [97] [120,121,122]).1
def al3:DiskL:=(vb_ al2 z1_ [97]).1
def al4:DiskL:=(qr_ al3 z1_).1
def al5:DiskL:=(jm_ al4 z1_ [97] [117,118]).1
def al6:DiskL:=zT_ al5 [0,0,0,1]
theorem aq4_: (((xf_ al0 z1_ [97]).2:Nat):Int)=0:=by rfl
theorem arc_: (((jm_ al1 z1_ [97] [120,121,122]).2:Nat):Int)=0:=by rfl
theorem arb_: (((vb_ al2 z1_ [97]).2:Nat):Int)=0:=by rfl
theorem arn_: (((qr_ al3 z1_).2:Nat):Int)=0:=by rfl
theorem aqJ_: (((jm_ al4 z1_ [97] [117,118]).2:Nat):Int)=0:=by rfl
theorem aqT_: (ac0_ al6 z1_ [97]).1= [120,121,122,117]:=by rfl
theorem apa_: (((ac0_ al6 z1_ [97]).2:Nat):Int)=0:=by rfl
theorem ari_: (((jm_ al6 kI_ [98] []).2:Nat):Int)=6:=by rfl
theorem xS_ {w:World} {L:za_} (hg:wR_ w) (hn:New w.heap.size L):0∉keys L:=by
 obtain⟨e,fz,hgl⟩:=hg
 exact hn.not (Array.getElem?_eq_some_iff.1 hgl).1
theorem zw_ {w w':World} {L:za_} (hg:wR_ w) (h:Hp w L w') (hn:New w.heap.size L):wR_ w':=by
 have hno:=xS_ hg hn
 obtain⟨e,fz,hgl⟩:=hg
 exact⟨e,fz,(h.old _ (Array.getElem?_eq_some_iff.1 hgl).1 hno).trans hgl⟩
theorem aqW_ {w:World} {b:Nat} {x0 x1 x2 x3:UInt16} {E:TypeId} (h:w.heap[b]? =some (.cells #[v16 x0,v16 x1,v16 x2,v16 x3] E (0,0))):akm_ w (vsl b 0 4 4) [x0,x1,x2,x3]:=
 SlV.sl (l:= [x0,x1,x2,x3]) h (fun k hk j hj=>by
  obtain rfl:j=0:=by omega
  have hk':k<4:=hk
  have:k=0∨k=1∨k=2∨k=3:=by omega
  rcases this with rfl|rfl|rfl|rfl<;>rfl) (Nat.le_refl 4) (Nat.le_refl 4)
set_option linter.defProp false
def ke_:=And.intro (And.intro (@zc_) (@zd_)) (And.intro (@Sx.tup2_0) (@Sx.tup2_1))
theorem zN_ (w:World) (hG:wR_ w):Rets Tryz.prog 14 #[] w (fun v D=>v= .bool true∧D= []):=by
 refine Rets.enterV Tryz.func14 rfl (rs:= [.tmp 0]) Tryz.results14 Tryz.ntmps14 ?_
 refine kf ?_
 first|with_reducible refine ks [] @ke_ ?_|refine kp @ke_ ?_
 refine Ow.callC rfl rfl Tryz.call28 (fun w' hw'=>aai_ 100 w' (by decide) (zw_ hG hw' trivial)) (fun B0 v0 D0 hA0 hB0 hN0 hS0=> ?_)
 obtain⟨G0,rfl,hP0⟩:=hS0
 rw[List.nil_append]
 have hE0:Ext w [] D0:=Ext.of_new (hN0.mono hB0)
 have hA0:DkA D0 G0 al0 0:=⟨hP0,ali_ 100,ahJ_ 100⟩
 refine ko @ke_ ?_
 first|with_reducible refine ks [] @ke_ ?_|refine kp @ke_ ?_
 refine Ow.callX (X:=D0) (Y:= []) (List.append_nil _).symm rfl rfl Tryz.call72 (fun w' hw' hX' hn'=>QY_ D0 G0 al0 z1_ [97] w' hX' hn' hP0 (by decide) (hA0.pend (by omega))) (fun v1 D1 hC1 hS1=> ?_)
 rw[List.append_nil]
 obtain⟨rfl,G1,hb1,hP1⟩:=hS1
 have hE1:=hE0.came0 hC1
 have hA1:DkA D1 G1 al1 1:=⟨hP1,acJ_ hA0.H _ _,afM_ hA0.B _ (by decide)⟩
 rw[aq4_,←hb1]
 refine ko @ke_ ?_
 refine Ow.callX (X:=D1) (Y:= []) (List.append_nil _).symm rfl rfl Tryz.call73 (fun w' hw' hX' hn'=>kw_ D1 G1 al1 z1_ [97] [120,121,122] w' hX' hn' hA1.P (by decide) (by decide) (hA1.used (by omega))) (fun v2 D2 hC2 hS2=> ?_)
 rw[List.append_nil]
 obtain⟨rfl,hP2⟩:=hS2
 have hE2:=hE1.came0 hC2
 have hA2:DkA D2 G1 al2 1:=⟨hP2,JM_ hA1.H _ _ _,VC_ hA1.B _ _ _⟩
 rw[arc_]
 refine ko @ke_ ?_
 refine Ow.callX (X:=D2) (Y:= []) (List.append_nil _).symm rfl rfl Tryz.call20 (fun w' hw' hX' hn'=>QB_ D2 G1 al2 z1_ [97] w' hX' hn' hA2.P (by decide)) (fun v3 D3 hC3 hS3=> ?_)
 rw[List.append_nil]
 obtain⟨rfl,hP3⟩:=hS3
 have hE3:=hE2.came0 hC3
 have hA3:DkA D3 G1 al3 1:=⟨hP3,aaf_ hA2.H _ _,aeQ_ hA2.B _ _⟩
 rw[arb_]
 refine ko @ke_ ?_
 refine Ow.callX (X:=D3) (Y:= []) (List.append_nil _).symm rfl rfl Tryz.call21 (fun w' hw' hX' hn'=>vj_ D3 G1 al3 z1_ w' hX' hn' hA3.P) (fun v4 D4 hC4 hS4=> ?_)
 rw[List.append_nil]
 obtain⟨rfl,G4,hb4,hP4⟩:=hS4
 have hE4:=hE3.came0 hC4
 have hA4:DkA D4 G4 al4 1:=⟨hP4,QN_ hA3.H _,Xi_ hA3.B _⟩
 rw[arn_,←hb4]
 refine ko @ke_ ?_
 first|with_reducible refine ks [] @ke_ ?_|refine kp @ke_ ?_
 refine Ow.callX (X:=D4) (Y:= []) (List.append_nil _).symm rfl rfl Tryz.call73 (fun w' hw' hX' hn'=>kw_ D4 G4 al4 z1_ [97] [117,118] w' hX' hn' hA4.P (by decide) (by decide) (hA4.used (by omega))) (fun v5 D5 hC5 hS5=> ?_)
 rw[List.append_nil]
 obtain⟨rfl,hP5⟩:=hS5
 have hE5:=hE4.came0 hC5
 have hA5:DkA D5 G4 al5 1:=⟨hP5,JM_ hA4.H _ _ _,VC_ hA4.B _ _ _⟩
 rw[aqJ_]
 refine ko @ke_ ?_
 first|with_reducible refine ks [] @ke_ ?_|refine kp @ke_ ?_
 refine Ow.buildSlice (e:=119) #[v16 0,v16 0,v16 0,v16 1] rfl rfl (by kernel_rfl) fun bp hbp hwp=> ?_
 refine ko @ke_ ?_
 have hmb: (bp,Obj.cells #[v16 0,v16 0,v16 0,v16 1] 119 (0,0))∈D5++ [(bp,Obj.cells #[v16 0,v16 0,v16 0,v16 1] 119 (0,0))]:=by simp
 refine Ow.callX (X:=D5) (Y:= [(bp, .cells #[v16 0,v16 0,v16 0,v16 1] 119 (0,0))]) rfl rfl rfl Tryz.call22 (fun w' hw' hX' hn'=>kj_ D5 G4 al5 (vsl bp 0 4 4) [0,0,0,1] w' hX' hn' hA5.P (zw_ hG hw' (hE5.new0.app (show New w.heap.size [(bp,Obj.cells #[v16 0,v16 0,v16 0,v16 1] 119 (0,0))] from⟨hwp,trivial⟩))) (xS_ hG hE5.new0) ((xk_ (q:=(al5,[0,0,0,1])) hA5.B 3).b (by omega)) (.inl (aqW_ (hw'.has bp _ hmb))) (fun _ b hb=>by have hb':bp=b:=Option.some.inj hb;rw[←hb'];exact⟨(Array.getElem?_eq_some_iff.1 (hw'.has bp _ hmb)).1,fun hm=>by have:=zu_ hbp hm;omega⟩) (by decide) (fun k hk=>⟨(hA5.H k).2,hA5.pend (by omega) k hk⟩)) (fun v6 D6 hC6 hS6=> ?_)
 obtain⟨G6,hb6,hP6⟩:=hS6
 have hE6:=hE5.came0 hC6
 have hA6:DkA D6 G6 al6 1:=⟨hP6,Qe_ hA5.H _,Zn_ hA5.B _⟩
 rw[←hb6]
 have hP6':DkP (D6++ [(bp,Obj.cells #[v16 0,v16 0,v16 0,v16 1] 119 (0,0))]) G6 al6:=hP6.mono fun b o h=>zi_ h
 have hE6':=hE6.app (o:=Obj.cells #[v16 0,v16 0,v16 0,v16 1] 119 (0,0)) hwp
 generalize D6++ [(bp,Obj.cells #[v16 0,v16 0,v16 0,v16 1] 119 (0,0))]=L6 at*
 have hA7:DkA L6 G6 al6 1:=⟨hP6',hA6.H,hA6.B⟩
 refine ko @ke_ ?_
 first|with_reducible refine ks [] @ke_ ?_|refine kp @ke_ ?_
 refine Ow.callFV rfl Tryz.call23 (fun w' hw'=>K6_ w' G6 al6 z1_ [97] (hP6'.world hw') (by decide)) ?_
 rw[aqT_,apa_]
 have e0: ((0:Int)==0)=true:=rfl
 have e1: (([120,121,122,117]:List UInt8)== [120,121,122,117])=true:=rfl
 refine ko (And.intro @ke_ (And.intro @e0 (@e1))) ?_
 refine Ow.callX (X:=L6) (Y:= []) (List.append_nil _).symm rfl rfl Tryz.call73 (fun w' hw' hX' hn'=>kw_ L6 G6 al6 kI_ [98] [] w' hX' hn' hA7.P (by decide) (by decide) (hA7.used (by omega))) (fun v7 D7 hC7 hS7=> ?_)
 obtain⟨rfl,hP7⟩:=hS7
 have hE7:=hE6'.came0 hC7
 rw[List.append_nil,ari_]
 have e6: ((6:Int)==6)=true:=rfl
 refine ko (And.intro @ke_ @e6) ?_
 first|with_reducible refine ks [] @ke_ ?_|refine kp @ke_ ?_
 refine⟨_,(ke @ke_),hE7.new0, ?_⟩
 rfl
end Go.Proofs
end
section
open Go Go.Proofs Go.Sx Go.StP Go.Flo
namespace Go.Proofs
set_option maxRecDepth 10000
set_option maxHeartbeats 400000
set_option linter.unusedSimpArgs false
set_option linter.defProp false
def ks_:=And.intro (@zc_) (And.intro (@zd_) (@WQ_))
theorem aad_ (x a b:Int) (w:World) (hx:x.natAbs<8192) (ha:a.natAbs<8192) (hb:b.natAbs<8192):
  Rets Tryz.prog 253 #[fl x,vi a,vi b] w (fun v D=>v= .tuple #[vi (if a≤x∧x≤b then x else 0), .bool (decide (a≤x∧x≤b))]∧D= []):=by
 refine Rets.enterV Tryz.func253 rfl (rs:= [.tmp 6, .tmp 7]) Tryz.results253 Tryz.ntmps253 ?_
 refine kf ?_
 first|with_reducible refine ks [] @ks_ ?_|refine kp @ks_ ?_
 refine Ow.convIF rfl rfl cvIF Tryz.underlying3 Tryz.underlying312 rfl ?_
 refine Ow.fgeq rfl rfl rfl hx ha ?_
 by_cases h1:a≤x
 ·rw[decide_eq_true h1]
  refine ko @ks_ ?_
  refine Ow.convIF rfl rfl cvIF Tryz.underlying3 Tryz.underlying312 rfl ?_
  refine Ow.fleq rfl rfl rfl hx hb ?_
  by_cases h2:x≤b
  ·rw[decide_eq_true h2,decide_eq_true (show a≤x∧x≤b from⟨h1,h2⟩),if_pos ⟨h1,h2⟩]
   refine ko @ks_ ?_
   first|with_reducible refine ks [] @ks_ ?_|refine kp @ks_ ?_
   refine Ow.convFI rfl rfl cvFI Tryz.underlying312 Tryz.underlying3 rfl hx ?_
   refine ko @ks_ ?_
   first|with_reducible refine ks [] @ks_ ?_|refine kp @ks_ ?_
   refine Ow.convIF rfl rfl cvIF Tryz.underlying3 Tryz.underlying312 rfl ?_
   refine ko @ks_ ?_
   refine Ow.feql rfl rfl rfl hx hx ?_
   rw[show(x==x)=true by simp]
   refine ko @ks_ ?_
   first|with_reducible refine ks [] @ks_ ?_|refine kp @ks_ ?_
   refine⟨_,(ke @ks_),trivial, ?_⟩
   rfl
  ·rw[decide_eq_false h2,decide_eq_false (show¬ (a≤x∧x≤b) from fun h=>h2 h.2),if_neg (fun h=>h2 h.2)]
   refine ko @ks_ ?_
   first|with_reducible refine ks [] @ks_ ?_|refine kp @ks_ ?_
   refine⟨_,(ke @ks_),trivial, ?_⟩
   rfl
 ·rw[decide_eq_false h1,decide_eq_false (show¬ (a≤x∧x≤b) from fun h=>h1 h.1),if_neg (fun h=>h1 h.1)]
  refine ko @ks_ ?_
  first|with_reducible refine ks [] @ks_ ?_|refine kp @ks_ ?_
  refine⟨_,(ke @ks_),trivial, ?_⟩
  rfl
def cpR (p:PcL) (b:Int):Value:=match cpV p b with
 |some q=> .tuple #[vi q.1,vi q.2, .bool true]
 |none=>if(1≤p.n∧p.n≤4099)∧p.x= []∧(p.n:Int)≤b then .tuple #[vi 0,vi p.n, .bool false] else .tuple #[vi 0,vi 0, .bool false]
theorem amY_ {p:PcL} {b:Int} (h:1≤p.n∧p.n≤4099∧p.x= []∧(p.a:Int)≤b - p.n):cpV p b=some (p.a,p.n):=by unfold cpV;rw[if_pos h]
theorem Vp_ {p:PcL} {b:Int} (h: ¬ (1≤p.n∧p.n≤4099∧p.x= []∧(p.a:Int)≤b - p.n)):cpV p b=none:=by unfold cpV;rw[if_neg h]
set_option linter.defProp false
def j1_:=And.intro (And.intro (And.intro (And.intro (@zc_) (@zd_)) (And.intro (@xn_) (@xs_))) (And.intro (And.intro (@kJ_) (@j8_)) (And.intro (@Xm_) (@cxz)))) (And.intro (And.intro (And.intro (@Wp_) (@V5_)) (And.intro (@kl_) (@Sx.tup2_0))) (And.intro (And.intro (@Sx.tup2_1) (@Sx.tup3_0)) (And.intro (@Sx.tup3_1) (@Sx.tup3_2))))
theorem wD_ (p:PcL) (b:Int) (w:World) (hp:PcB p) (h0:0≤b) (h1:b≤4099):
  Rets Tryz.prog 247 #[.agg (pcC p).toArray,vi b] w (fun v D=>v=cpR p b∧D= []):=by
 obtain⟨hpa,hpn⟩:=hp
 refine Rets.enterV Tryz.func247 rfl (rs:= [.tmp 4, .tmp 5, .tmp 6]) Tryz.results247 Tryz.ntmps247 ?_
 refine kf ?_
 first|with_reducible refine ks [] @j1_ ?_|refine kp @j1_ ?_
 refine Ow.box rfl rfl fun b2 hb2 hw2=> ?_
 simp only[qD_,qE_,qI_,zf_,List.nil_append,List.cons_append]
 refine Ow.go rfl ?_
 simp(disch:=(first|assumption|omega| (simp only[lenS,lenT,UInt64.reduceToNat];try omega))) only[↓Sx.S0,Sx.S1,Tryz.fx,j1_,Nat.reduceAdd,Nat.reducePow,Int.reducePow,Nat.reduceBEq, ↓reduceIte,UInt8.reduceToNat,UInt16.reduceToNat,UInt32.reduceToNat,UInt64.reduceToNat,Int.reduceToNat]
 first|with_reducible refine ks [] @j1_ ?_|refine kp @j1_ ?_
 refine Ow.imag rfl rfl ?_
 refine Ow.callFV rfl Tryz.call253 (fun w' hw'=>aad_ (p.n:Int) 1 4099 w' (by omega) (by omega) (by omega)) ?_
 unfold cpR
 by_cases c1:1≤p.n
 ·rw[decide_eq_true (show(1:Int)≤ (p.n:Int)∧(p.n:Int)≤4099 by omega),if_pos (show(1:Int)≤ (p.n:Int)∧(p.n:Int)≤4099 by omega)]
  by_cases c2:p.x= []
  ·have d2:decide (0< (p.x.length:Int))=false:=by rw[c2];rfl
   by_cases c4: (p.n:Int)≤b
   ·have d4:decide (b< (p.n:Int))=false:=decide_eq_false (by omega)
    refine ko (And.intro @j1_ (And.intro @d2 (@d4))) ?_
    first|with_reducible refine ks [] @j1_ ?_|refine kp @j1_ ?_
    refine Ow.real rfl rfl ?_
    refine ko @j1_ ?_
    refine Ow.callFV rfl Tryz.call253 (fun w' hw'=>aad_ (p.a:Int) 0 (b - p.n) w' (by omega) (by omega) (by omega)) ?_
    by_cases c3: (p.a:Int)≤b - p.n
    ·rw[decide_eq_true (show(0:Int)≤ (p.a:Int)∧(p.a:Int)≤b - p.n by omega),if_pos (show(0:Int)≤ (p.a:Int)∧(p.a:Int)≤b - p.n by omega),amY_ ⟨c1,hpn,c2,c3⟩]
     refine ko @j1_ ?_
     first|with_reducible refine ks [] @j1_ ?_|refine kp @j1_ ?_
     refine⟨_,(ke @j1_),⟨hw2,trivial⟩, ?_⟩
     rfl
    ·rw[decide_eq_false (show¬ ((0:Int)≤ (p.a:Int)∧(p.a:Int)≤b - p.n) by omega),if_neg (show¬ ((0:Int)≤ (p.a:Int)∧(p.a:Int)≤b - p.n) by omega),Vp_ (fun h=>c3 h.2.2.2)]
     simp only
     rw[if_pos ⟨⟨c1,hpn⟩,c2,c4⟩]
     refine ko @j1_ ?_
     first|with_reducible refine ks [] @j1_ ?_|refine kp @j1_ ?_
     refine⟨_,(ke @j1_),⟨hw2,trivial⟩, ?_⟩
     rfl
   ·have d4:decide (b< (p.n:Int))=true:=decide_eq_true (by omega)
    rw[Vp_ (fun h=>by have:=h.2.2.2;omega)]
    simp only
    rw[if_neg (fun h=>c4 h.2.2)]
    refine ko (And.intro @j1_ (And.intro @d2 (@d4))) ?_
    first|with_reducible refine ks [] @j1_ ?_|refine kp @j1_ ?_
    refine⟨_,(ke @j1_),⟨hw2,trivial⟩, ?_⟩
    rfl
  ·have d2:decide (0< (p.x.length:Int))=true:=decide_eq_true (by have:=List.length_pos_iff.2 c2;omega)
   rw[Vp_ (fun h=>c2 h.2.2.1)]
   simp only
   rw[if_neg (fun h=>c2 h.2.1)]
   refine ko (And.intro @j1_ @d2) ?_
   first|with_reducible refine ks [] @j1_ ?_|refine kp @j1_ ?_
   refine⟨_,(ke @j1_),⟨hw2,trivial⟩, ?_⟩
   rfl
 ·rw[decide_eq_false (show¬ ((1:Int)≤ (p.n:Int)∧(p.n:Int)≤4099) by omega),if_neg (show¬ ((1:Int)≤ (p.n:Int)∧(p.n:Int)≤4099) by omega),Vp_ (fun h=>c1 h.1)]
  simp only
  rw[if_neg (fun h=>c1 h.1.1)]
  refine ko @j1_ ?_
  first|with_reducible refine ks [] @j1_ ?_|refine kp @j1_ ?_
  refine⟨_,(ke @j1_),⟨hw2,trivial⟩, ?_⟩
  rfl
end Go.Proofs
end
section
open Go Go.Proofs Go.Sx Go.StP Go.Flo
namespace Go.Proofs
set_option maxRecDepth 10000
set_option maxHeartbeats 400000
set_option linter.unusedSimpArgs false
theorem Xb_ {p:PcL} {b:Int} (h:jW_ p b≠0):jW_ p b=(match cpV p b with|some q=>q.2|none=>p.x.length):=by
 unfold jW_ at h ⊢
 split
 ·rename_i hz
  rw[Vp_ (fun hc=>by omega)]
 ·rename_i hz
  rw[if_neg hz] at h
  cases hc:cpV p b with
  |none=>rw[hc] at h;exact absurd rfl h
  |some q=>rfl
theorem ano_ {p:PcL} {b:Int} {q:Nat×Nat} (h:cpV p b=some q):q=(p.a,p.n)∧1≤p.n:=by
 unfold cpV at h
 split at h
 ·rename_i hc;cases h;exact⟨rfl,hc.1⟩
 ·cases h
set_option linter.defProp false
def jH_:=And.intro (And.intro (And.intro (And.intro (@zc_) (@zd_)) (And.intro (@xn_) (@xs_))) (And.intro (And.intro (@kJ_) (@j8_)) (And.intro (@Xm_) (@cxz)))) (And.intro (And.intro (And.intro (@Wp_) (@V5_)) (And.intro (@kl_) (@Sx.tup2_0))) (And.intro (And.intro (@Sx.tup2_1) (@Sx.tup3_0)) (And.intro (@Sx.tup3_1) (@Sx.tup3_2))))
theorem adm_ (p:PcL) (b:Int) (w:World) (hp:PcB p) (h0:0≤b) (h1:b≤4099):
  Rets Tryz.prog 252 #[.agg (pcC p).toArray,vi b] w (fun v D=>v= .bool (decide (jW_ p b≠0))∧D= []):=by
 have hp':=hp
 obtain⟨hpa,hpn⟩:=hp'
 have hcall: ¬ (p.a=0∧p.n=0)→(cpV p b).isSome=decide (jW_ p b≠0):=by
  intro hz
  unfold jW_
  rw[if_neg (fun h=>hz ⟨h.1,h.2.1⟩)]
  cases hc:cpV p b with
  |none=>rfl
  |some q=>
   obtain⟨rfl,hn⟩:=ano_ hc
   rw[decide_eq_true (show p.n≠0 by omega)]
   rfl
 refine Rets.enterV Tryz.func252 rfl (rs:= [.tmp 4]) Tryz.results252 Tryz.ntmps252 ?_
 refine kf ?_
 first|with_reducible refine ks [3] @jH_ ?_|refine kp @jH_ ?_
 refine Ow.box rfl rfl fun b2 hb2 hw2=> ?_
 simp only[qD_,qE_,qI_,zf_,List.nil_append,List.cons_append]
 refine Ow.go rfl ?_
 simp(disch:=(first|assumption|omega| (simp only[lenS,lenT,UInt64.reduceToNat];try omega))) only[↓Sx.S0,Sx.S1,Tryz.fx,jH_,Nat.reduceAdd,Nat.reducePow,Int.reducePow,Nat.reduceBEq, ↓reduceIte,UInt8.reduceToNat,UInt16.reduceToNat,UInt32.reduceToNat,UInt64.reduceToNat,Int.reduceToNat]
 first|with_reducible refine ks [] @jH_ ?_|refine kp @jH_ ?_
 refine Ow.real rfl rfl ?_
 refine Ow.feql (b:=0) rfl rfl rfl (by omega) (by omega) ?_
 have fin: ∀v,v=cpR p b→ ∃x y,v= .tuple #[x,y, .bool (cpV p b).isSome]:=by
  rintro v rfl
  unfold cpR
  cases cpV p b with
  |some q=>exact⟨_,_,rfl⟩
  |none=>
   simp only
   split
   ·exact⟨_,_,rfl⟩
   ·exact⟨_,_,rfl⟩
 obtain⟨x,y,hxy⟩:=fin _ rfl
 by_cases ha:p.a=0
 ·have e1: (((p.a:Nat):Int)==0)=true:=by rw[ha];rfl
  rw[e1]
  refine ko @jH_ ?_
  refine Ow.imag rfl rfl ?_
  refine Ow.feql (b:=0) rfl rfl rfl (by omega) (by omega) ?_
  by_cases hn:p.n=0
  ·have e2: (((p.n:Nat):Int)==0)=true:=by rw[hn];rfl
   rw[e2]
   have hc:cpV p b=none:=Vp_ (fun h=>by omega)
   by_cases hl:1≤p.x.length
   ·have d1:decide ((1:Int)≤ (p.x.length:Int))=true:=decide_eq_true (by omega)
    by_cases hm:p.x.length≤4099
    ·have d2:decide ((p.x.length:Int)≤4099)=true:=decide_eq_true (by omega)
     have hr:decide (jW_ p b≠0)=true:=decide_eq_true (by unfold jW_;rw[if_pos ⟨ha,hn,hm⟩];omega)
     rw[hr]
     refine ko (And.intro @jH_ (And.intro @d1 (@d2))) ?_
     first|with_reducible refine ks [] (And.intro @jH_ (And.intro @d1 (@d2))) ?_|refine kp (And.intro @jH_ (And.intro @d1 (@d2))) ?_
     refine⟨_,(ke @jH_),⟨hw2,trivial⟩, ?_⟩
     rfl
    ·have d2:decide ((p.x.length:Int)≤4099)=false:=decide_eq_false (by omega)
     have hr:decide (jW_ p b≠0)=false:=decide_eq_false (by unfold jW_;rw[if_neg (fun h=>hm h.2.2),hc];simp)
     rw[hr]
     refine ko (And.intro @jH_ (And.intro @d1 (@d2))) ?_
     first|with_reducible refine ks [] (And.intro @jH_ (And.intro @d1 (@d2))) ?_|refine kp (And.intro @jH_ (And.intro @d1 (@d2))) ?_
     refine⟨_,(ke @jH_),⟨hw2,trivial⟩, ?_⟩
     rfl
   ·have d1:decide ((1:Int)≤ (p.x.length:Int))=false:=decide_eq_false (by omega)
    have hr:decide (jW_ p b≠0)=false:=decide_eq_false (by unfold jW_;rw[if_pos ⟨ha,hn,by omega⟩];omega)
    rw[hr]
    refine ko (And.intro @jH_ @d1) ?_
    first|with_reducible refine ks [] (And.intro @jH_ @d1) ?_|refine kp (And.intro @jH_ @d1) ?_
    refine⟨_,(ke @jH_),⟨hw2,trivial⟩, ?_⟩
    rfl
  ·have e2: (((p.n:Nat):Int)==0)=false:=beq_eq_false_iff_ne.2 (by omega)
   rw[e2,←hcall (fun h=>hn h.2)]
   refine ko @jH_ ?_
   first|with_reducible refine ks [] @jH_ ?_|refine kp @jH_ ?_
   refine Ow.callFV rfl Tryz.call247 (fun w' hw'=>wD_ p b w' hp h0 h1) ?_
   rw[hxy]
   refine ko @jH_ ?_
   first|with_reducible refine ks [] @jH_ ?_|refine kp @jH_ ?_
   refine⟨_,(ke @jH_),⟨hw2,trivial⟩, ?_⟩
   rfl
 ·have e1: (((p.a:Nat):Int)==0)=false:=beq_eq_false_iff_ne.2 (by omega)
  rw[e1,←hcall (fun h=>ha h.1)]
  refine ko @jH_ ?_
  first|with_reducible refine ks [] @jH_ ?_|refine kp @jH_ ?_
  refine Ow.callFV rfl Tryz.call247 (fun w' hw'=>wD_ p b w' hp h0 h1) ?_
  rw[hxy]
  refine ko @jH_ ?_
  first|with_reducible refine ks [] @jH_ ?_|refine kp @jH_ ?_
  refine⟨_,(ke @jH_),⟨hw2,trivial⟩, ?_⟩
  rfl
end Go.Proofs
end
section
open Go Go.Proofs Go.Sx Go.StP Go.Flo
namespace Go.Proofs
set_option maxRecDepth 10000
set_option maxHeartbeats 400000
set_option linter.unusedSimpArgs false
theorem aem_ {p:PcL} {b:Int} {q:Nat×Nat} (h:cpV p b=some q):cpR p b= .tuple #[vi q.1,vi q.2, .bool true]:=by unfold cpR;rw[h]
theorem aeM_ {p:PcL} {b:Int} (h:cpV p b=none): ∃y:Int,cpR p b= .tuple #[vi 0,vi y, .bool false]:=by
 unfold cpR
 rw[h]
 simp only
 split
 ·exact⟨_,rfl⟩
 ·exact⟨_,rfl⟩
set_option linter.defProp false
def jh_:=And.intro (And.intro (And.intro (@zc_) (@zd_)) (And.intro (@xn_) (And.intro (@xs_) (@kJ_)))) (And.intro (And.intro (@j8_) (And.intro (@Sx.tup2_0) (@Sx.tup2_1))) (And.intro (@Sx.tup3_0) (And.intro (@Sx.tup3_1) (@Sx.tup3_2))))
theorem Kb_ (b:Int) (v:Value) (l:List PcL) (w:World) (hv:PcSl w v l) (hl:BndP l) (hn:l.length<1000000000):
  Rets Tryz.prog 246 #[vi b,v] w (fun v D=>v= .tuple #[vi (WP_ b l).1,vi (WP_ b l).2]∧D= []):=by
 obtain⟨bb,off,arr,E,fz,hr⟩:=hv.row
 have ln:=hv.len
 refine Rets.enterV Tryz.func246 rfl (rs:= [.tmp 4, .tmp 5]) Tryz.results246 Tryz.ntmps246 ?_
 refine kf ?_
 unfold WP_
 by_cases hb0:b<0
 ·have d1:decide (b<0)=true:=decide_eq_true hb0
  rw[if_pos (.inl hb0)]
  first|with_reducible refine ks [] (And.intro @jh_ @d1) ?_|refine kp (And.intro @jh_ @d1) ?_
  refine⟨_,(ke @jh_),trivial, ?_⟩
  rfl
 have d1:decide (b<0)=false:=decide_eq_false hb0
 by_cases hb4:4099<b
 ·have d2:decide (4099<b)=true:=decide_eq_true hb4
  rw[if_pos (.inr hb4)]
  first|with_reducible refine ks [] (And.intro @jh_ (And.intro @d1 (@d2))) ?_|refine kp (And.intro @jh_ (And.intro @d1 (@d2))) ?_
  refine⟨_,(ke @jh_),trivial, ?_⟩
  rfl
 have d2:decide (4099<b)=false:=decide_eq_false hb4
 rw[if_neg (by omega)]
 first|with_reducible refine ks [] (And.intro @jh_ (And.intro @d1 (@d2))) ?_|refine kp (And.intro @jh_ (And.intro @d1 (@d2))) ?_
 refine Cw.loopG (G:=Nat) [18,19,20,21,24,25,26,27,28,29,30,4,5,22,23,6] (fun g=> [(6,vi g)]) (fun g=> []) (fun g=>g≤l.length∧anyZ b (l.take g)=false) (fun g=>l.length - g) 0 rfl rfl ?_ ?_
 ·exact⟨Nat.zero_le _,rfl⟩
 intro k jk hk
 refine kv ?_
 obtain⟨hk,hz⟩:=hk
 by_cases hlt:k<l.length
 ·have d3:decide ((k:Int)< (l.length:Int))=true:=decide_eq_true (by omega)
  have rd:=hr.has (by omega)
  have ix:=hr.idx true k hlt
  have ld:=hr.load w9_ (by omega) hlt
  obtain⟨hpb,hpx⟩:=hl k hlt
  have htk:=aiM_ (b:=b) hlt
  have hmz:=V7_ (b:=b) hlt
  generalize l.getD k pc0=p at*
  first|with_reducible refine ks [] (And.intro @jh_ (And.intro @ln (And.intro @d3 (And.intro @ix (And.intro @rd (@ld)))))) ?_|refine kp (And.intro @jh_ (And.intro @ln (And.intro @d3 (And.intro @ix (And.intro @rd (@ld)))))) ?_
  refine Ow.callFV rfl Tryz.call252 (fun w' hw'=>adm_ p b w' hpb (by omega) (by omega)) ?_
  by_cases hp0:jW_ p b=0
  ·rw[decide_eq_false (show¬ (jW_ p b≠0) by omega),if_pos (hmz hp0)]
   refine ko @jh_ ?_
   first|with_reducible refine ks [] @jh_ ?_|refine kp @jh_ ?_
   refine⟨_,(ke @jh_),trivial, ?_⟩
   rfl
  ·rw[decide_eq_true (show jW_ p b≠0 from hp0)]
   refine ko @jh_ ?_
   first|with_reducible refine ks [] @jh_ ?_|refine kp @jh_ ?_
   refine Again.mk (k+1) (by omega) ⟨hlt, ?_⟩ rfl rfl
   rw[htk,hz,Bool.false_or]
   exact beq_eq_false_iff_ne.2 hp0
 ·obtain rfl:k=l.length:=by omega
  have d3:decide ((l.length:Int)< (l.length:Int))=false:=decide_eq_false (by omega)
  rw[List.take_length] at hz
  rw[if_neg (by rw[hz];decide)]
  first|with_reducible refine ks [] (And.intro @jh_ (And.intro @ln (@d3))) ?_|refine kp (And.intro @jh_ (And.intro @ln (@d3))) ?_
  refine Cw.loopG (G:=Nat) [31,32,33,34,38,39,40,41,42,43,37,44,45,46,9,10,11,47,48,49,50,51,52,53,54,55,56,57,7,58,59,4,5,35,36,8] (fun g=> [(7,vi (wp_ b (l.take g):Nat)),(8,vi g)]) (fun g=> []) (fun g=>g≤l.length∧wp_ b (l.take g)≤4099) (fun g=>l.length - g) 0 rfl rfl ?_ ?_
  ·exact⟨Nat.zero_le _,by simp[wp_]⟩
  intro m jm hm
  refine kv ?_
  obtain⟨hm,hs⟩:=hm
  by_cases hlt:m<l.length
  ·have d4:decide ((m:Int)< (l.length:Int))=true:=decide_eq_true (by omega)
   have rd:=hr.has (by omega)
   have ix:=hr.idx true m hlt
   have ld:=hr.load w9_ (by omega) hlt
   have ld1:zm_ (some (false,1)) (some (.cells arr E fz)) (off+m*2+1)=some (vs (l.getD m pc0).x):=hr.cell (j:=1) (n:=1) hlt (by omega)
   obtain⟨hpb,hpx⟩:=hl m hlt
   have hst:=ah2_ (b:=b) hlt
   have hle:=Q5_ (b:=b) (l:=l) (g:=m+1)
   have hp0:jW_ (l.getD m pc0) b≠0:=fun h=>by rw[V7_ hlt h] at hz;cases hz
   have hpr:=Xb_ hp0
   have hpl:=aeS_ (l.getD m pc0) b
   generalize l.getD m pc0=p at*
   first|with_reducible refine ks [15] (And.intro @jh_ (And.intro @ln (And.intro @d4 (And.intro @ix (And.intro @rd (@ld)))))) ?_|refine kp (And.intro @jh_ (And.intro @ln (And.intro @d4 (And.intro @ix (And.intro @rd (@ld)))))) ?_
   refine Ow.callFV rfl Tryz.call247 (fun w' hw'=>wD_ p b w' hpb (by omega) (by omega)) ?_
   have fin: ∀N:Nat,wp_ b (l.take (m+1))=wp_ b (l.take m)+N→((wp_ b (l.take m):Nat):Int)+ (N:Int)=((wp_ b (l.take (m+1)):Nat):Int):=fun N h=>by omega
   cases hc:cpV p b with
   |some q=>
    rw[hc] at hpr
    simp only at hpr
    rw[aem_ hc,←hpr]
    generalize jW_ p b=N at*
    have hf:=fin N hst
    refine ko @jh_ ?_
    by_cases h4:4099<wp_ b (l.take (m+1))
    ·have d5:decide ((4099:Int)< ((wp_ b (l.take (m+1)):Nat):Int))=true:=decide_eq_true (by omega)
     rw[if_pos (show 4099<wp_ b l by omega)]
     first|with_reducible refine ks [] (And.intro @jh_ (And.intro @hf (@d5))) ?_|refine kp (And.intro @jh_ (And.intro @hf (@d5))) ?_
     refine⟨_,(ke @jh_),trivial, ?_⟩
     rfl
    ·have d5:decide ((4099:Int)< ((wp_ b (l.take (m+1)):Nat):Int))=false:=decide_eq_false (by omega)
     first|with_reducible refine ks [] (And.intro @jh_ (And.intro @hf (@d5))) ?_|refine kp (And.intro @jh_ (And.intro @hf (@d5))) ?_
     exact Again.mk (m+1) (by omega) ⟨hlt,by omega⟩ rfl rfl
   |none=>
    rw[hc] at hpr
    simp only at hpr
    obtain⟨y,hy⟩:=aeM_ hc
    rw[hy]
    have hf:=fin p.x.length (by omega)
    refine ko (And.intro @jh_ (And.intro @ix (And.intro @rd (@ld1)))) ?_
    by_cases h4:4099<wp_ b (l.take (m+1))
    ·have d5:decide ((4099:Int)< ((wp_ b (l.take (m+1)):Nat):Int))=true:=decide_eq_true (by omega)
     rw[if_pos (show 4099<wp_ b l by omega)]
     first|with_reducible refine ks [] (And.intro @jh_ (And.intro @hf (@d5))) ?_|refine kp (And.intro @jh_ (And.intro @hf (@d5))) ?_
     refine⟨_,(ke @jh_),trivial, ?_⟩
     rfl
    ·have d5:decide ((4099:Int)< ((wp_ b (l.take (m+1)):Nat):Int))=false:=decide_eq_false (by omega)
     first|with_reducible refine ks [] (And.intro @jh_ (And.intro @hf (@d5))) ?_|refine kp (And.intro @jh_ (And.intro @hf (@d5))) ?_
     exact Again.mk (m+1) (by omega) ⟨hlt,by omega⟩ rfl rfl
  ·obtain rfl:m=l.length:=by omega
   have d4:decide ((l.length:Int)< (l.length:Int))=false:=decide_eq_false (by omega)
   rw[List.take_length] at hs
   rw[if_neg (by omega),List.take_length]
   first|with_reducible refine ks [] (And.intro @jh_ (And.intro @ln (@d4))) ?_|refine kp (And.intro @jh_ (And.intro @ln (@d4))) ?_
   refine⟨_,(ke @jh_),trivial, ?_⟩
   rfl
end Go.Proofs
end
section
open Go Go.Proofs Go.Sx Go.StP Go.Flo
namespace Go.Proofs
set_option maxRecDepth 10000
set_option maxHeartbeats 400000
set_option linter.unusedSimpArgs false
theorem aps_ {p:PcL} {b:Int} {q:Nat×Nat} (h:cpV p b=some q):q=(p.a,p.n)∧1≤p.n∧p.n≤4099∧p.x= []∧(p.a:Int)≤b - p.n:=by
 unfold cpV at h
 split at h
 ·rename_i hc;cases h;exact⟨rfl,hc⟩
 ·cases h
set_option linter.defProp false
def k9_:=And.intro (And.intro (And.intro (@zc_) (@zd_)) (And.intro (@xn_) (And.intro (@xs_) (@kJ_)))) (And.intro (And.intro (@j8_) (And.intro (@Sx.tup2_0) (@Sx.tup2_1))) (And.intro (@Sx.tup3_0) (And.intro (@Sx.tup3_1) (@Sx.tup3_2))))
theorem aeb_ (base:List UInt8) (v:Value) (l:List PcL) (w:World) (hv:PcSl w v l) (hl:BndP l) (hn:l.length<1000000000):
  Rets Tryz.prog 235 #[vs base,v] w (fun v' D=>v'= .tuple #[vs (if(WP_ base.length l).2=0 then txtP base l else []),vi (WP_ base.length l).2]∧D= []):=by
 obtain⟨bb,off,arr,E,fz,hr⟩:=hv.row
 have ln:=hv.len
 refine Rets.enterV Tryz.func235 rfl (rs:= [.tmp 4, .tmp 5]) Tryz.results235 Tryz.ntmps235 ?_
 refine kf ?_
 first|with_reducible refine ks [] @k9_ ?_|refine kp @k9_ ?_
 refine Ow.callFV rfl Tryz.call246 (fun w' hw'=>Kb_ (base.length:Int) v l w' (hv.oldN hw' trivial) hl hn) ?_
 by_cases he: (WP_ base.length l).2=0
 ·obtain⟨m,hm⟩: ∃m,WP_ base.length l=(m,0):=⟨(WP_ base.length l).1,by rw[←he]⟩
  obtain⟨-,hb4,hz,hs4,-,hl4⟩:=acH_ hm
  rw[if_pos he,hm]
  have e0: ((0:Int) !=0)=false:=rfl
  refine ko @k9_ ?_
  first|with_reducible refine ks [] (And.intro @k9_ @e0) ?_|refine kp (And.intro @k9_ @e0) ?_
  refine Cw.loopG (G:=Nat) [23,24,25,26,30,31,32,33,34,35,36,29,37,38,39,10,11,12,40,41,42,43,44,45,46,47,48,8,49,50,51,52,53,54,55,27,28,9] (fun g=> [(8,vs (txtP base (l.take g))),(9,vi g)]) (fun g=> []) (fun g=>g≤l.length) (fun g=>l.length - g) 0 rfl rfl ?_ ?_
  ·exact Nat.zero_le _
  intro k jk hk
  refine kv ?_
  by_cases hlt:k<l.length
  ·have d3:decide ((k:Int)< (l.length:Int))=true:=decide_eq_true (by omega)
   have rd:=hr.has (by omega)
   have ix:=hr.idx true k hlt
   have ld:=hr.load w9_ (by omega) hlt
   have ld1:zm_ (some (false,1)) (some (.cells arr E fz)) (off+k*2+1)=some (vs (l.getD k pc0).x):=hr.cell (j:=1) (n:=1) hlt (by omega)
   obtain⟨hpb,hpx⟩:=hl k hlt
   have htk:=ahN_ (base:=base) hlt
   have hpt:pcT base (l.getD k pc0)=(match cpV (l.getD k pc0) base.length with|some q=>(base.drop q.1).take q.2++ (l.getD k pc0).x|none=>(l.getD k pc0).x):=rfl
   have htl: (txtP base (l.take k)).length≤4099:=by
    rw[WH_ (base:=base) (an3_ (g:=k) hz)]
    have:=Q5_ (b:=(base.length:Int)) (l:=l) (g:=k)
    omega
   have hxl:cpV (l.getD k pc0) base.length=none→(l.getD k pc0).x.length≤4099:=fun hc=>by
    have hp0:jW_ (l.getD k pc0) base.length≠0:=fun h=>by rw[V7_ hlt h] at hz;cases hz
    have h1:=Xb_ hp0
    have h2:=aeS_ (l.getD k pc0) base.length
    rw[hc] at h1
    simp only at h1
    omega
   generalize l.getD k pc0=p at*
   first|with_reducible refine ks [] (And.intro @k9_ (And.intro @ln (And.intro @d3 (And.intro @ix (And.intro @rd (@ld)))))) ?_|refine kp (And.intro @k9_ (And.intro @ln (And.intro @d3 (And.intro @ix (And.intro @rd (@ld)))))) ?_
   refine Ow.callFV rfl Tryz.call247 (fun w' hw'=>wD_ p (base.length:Int) w' hpb (by omega) (by omega)) ?_
   cases hc:cpV p base.length with
   |some q=>
    rw[hc] at hpt
    simp only at hpt
    obtain⟨rfl,h1,h2,h3,h4⟩:=aps_ hc
    rw[aem_ hc]
    rw[h3,List.append_nil] at hpt
    simp only at hpt ⊢
    refine ko @k9_ ?_
    first|with_reducible refine ks [] @k9_ ?_|refine kp @k9_ ?_
    refine Again.mk (k+1) (by omega) (by omega) rfl ?_
    rw[htk,hpt,←show(base.take (p.a+p.n)).drop p.a=(base.drop p.a).take p.n by rw[List.drop_take,Nat.add_sub_cancel_left]]
    rfl
   |none=>
    rw[hc] at hpt
    simp only at hpt
    obtain⟨y,hy⟩:=aeM_ hc
    have hx4:=hxl hc
    rw[hy]
    refine ko @k9_ ?_
    first|with_reducible refine ks [] (And.intro @k9_ (And.intro @ix (And.intro @rd (@ld1)))) ?_|refine kp (And.intro @k9_ (And.intro @ix (And.intro @rd (@ld1)))) ?_
    refine Again.mk (k+1) (by omega) (by omega) rfl ?_
    rw[htk,hpt]
    rfl
  ·obtain rfl:k=l.length:=by omega
   have d3:decide ((l.length:Int)< (l.length:Int))=false:=decide_eq_false (by omega)
   rw[List.take_length]
   first|with_reducible refine ks [] (And.intro @k9_ (And.intro @ln (@d3))) ?_|refine kp (And.intro @k9_ (And.intro @ln (@d3))) ?_
   refine⟨_,(ke @k9_),trivial, ?_⟩
   rfl
 ·rw[if_neg he]
  have e0: ((WP_ base.length l).2 !=0)=true:=bne_iff_ne.2 he
  refine ko @k9_ ?_
  first|with_reducible refine ks [] (And.intro @k9_ @e0) ?_|refine kp (And.intro @k9_ @e0) ?_
  refine⟨_,(ke @k9_),trivial, ?_⟩
  rfl
end Go.Proofs
end
section
open Go Go.Proofs Go.Sx Go.StP Go.Flo
namespace Go.Proofs
set_option maxRecDepth 10000
set_option maxHeartbeats 400000
set_option linter.unusedSimpArgs false
def rrO (s:List UInt8) (a:Nat) (e:Int):Obj:= .cells #[vs s,vi a,vi e] 217 (0,0)
theorem ae0_ (s:List UInt8) (a:Nat) (e:Int) (n:Nat):zm_ (some (false,n)) (some (rrO s a e)) 0=some (vs s):=(rfl)
theorem aeY_ (s:List UInt8) (a:Nat) (e:Int) (n:Nat):zm_ (some (false,n)) (some (rrO s a e)) 1=some (vi a):=(rfl)
theorem aeA_ (s:List UInt8) (a:Nat) (e:Int) (n:Nat):zm_ (some (false,n)) (some (rrO s a e)) 2=some (vi e):=(rfl)
theorem aa4_ (b:Nat) (s:List UInt8) (a:Nat) (e n:Int) (w:World) (ha:a≤s.length) (hs:s.length<1099511627776) (ho:w.heap[b]? =some (rrO s a e)):
  Rets Tryz.prog 182 #[vp b 0,vi n] w (fun v D=> ∃o,D= [(b,o)]∧v=vs (jj_ s a e n).1∧o=rrO s (jj_ s a e n).2.1 (jj_ s a e n).2.2):=w4_ b s a e n w ha hs ho
theorem qU_ (b:Nat) (s:List UInt8) (a:Nat) (e most:Int) (w:World) (ha:a≤s.length) (hs:s.length<1099511627776) (ho:w.heap[b]? =some (rrO s a e)):
  Rets Tryz.prog 146 #[vp b 0,vi most] w (fun v D=> ∃o,D= [(b,o)]∧v=vi (zA_ s a e most).1∧o=rrO s (zA_ s a e most).2.1 (zA_ s a e most).2.2):=xq_ b s a e most w ha hs ho
theorem QZ_ (b:Nat) (s:List UInt8) (a:Nat) (e:Int) (w:World) (ho:w.heap[b]? =some (rrO s a e)):
  Rets Tryz.prog 145 #[vp b 0] w (fun v D=>v=vi (vt_ s a e)∧D= []):=vE_ b s a e w ho
theorem zrRR:zX_ Tryz.prog 217=some (.agg #[vs [],vi 0,vi 0]):=id (by kernel_rfl)
theorem aly_ (s:List UInt8):xh_ (Zh_ Tryz.prog 217) (zX_ Tryz.prog 217) [(0,vs s)]=some (.agg #[vs s,vi 0,vi 0]):=by
 rw[show Zh_ Tryz.prog 217=some [(0,1),(1,1),(2,1)] from id (by kernel_rfl),zrRR];rfl
theorem ahv_:xh_ (Zh_ Tryz.prog 311) (zX_ Tryz.prog 311) []=some (.agg (pcC pc0).toArray):=by
 rw[show Zh_ Tryz.prog 311=some [(0,1),(1,1)] from id (by kernel_rfl),zrPc];rfl
theorem ah0_ (x n:Nat) (E:TypeId) (a:Bool):zq_ (some (a,1)) (some (.cells (pcC pc0).toArray E (0,0))) 0 (cx x n)=some (.cells (pcC ⟨x,n,[]⟩).toArray E (0,0)):=(rfl)
theorem ah9_ (x:List UInt8) (E:TypeId) (a:Bool):zq_ (some (a,1)) (some (.cells (pcC pc0).toArray E (0,0))) 1 (vs x)=some (.cells (pcC ⟨0,0,x⟩).toArray E (0,0)):=(rfl)
structure RrG where
 a:Nat
 e:Int
 out:List PcL
 v:Value
 D:za_
 DG:za_
def RrJ (d:List UInt8) (a0:Nat) (e0:Int) (sz:Nat) (g:RrG):Prop:=
 New sz g.D∧New sz g.DG∧Gr g.D 311 2 g.v g.out.length (g.out.map pcC).flatten∧g.a≤d.length∧BndP g.out∧g.out.length≤g.a+1∧(g.e=0→g.out.length≤g.a)∧
  ((e0≠0∧g.e≠0)∨(e0=0∧((g.e=0∧pcs d a0=(g.out++ (pcs d g.a).1,(pcs d g.a).2))∨(g.e≠0∧pcs d a0=(g.out,g.a,g.e)))))
def aeC_ (d:List UInt8) (v:Value) (D:za_):Prop:=match Zw_ d with
 |some p=> ∃x,v= .tuple #[vi p.1,x, .bool true]∧BndP p.2∧p.2.length≤4099∧p.1≤4099∧GrI D 311 2 x p.2.length (p.2.map pcC).flatten
 |none=>v= .tuple #[vi 0, .slice none 0 0, .bool false]
theorem aiZ_ {out:List PcL} {p:PcL} (h:BndP out) (hp:PcB p∧p.x.length<9223372036854775808):BndP (out++ [p]):=by
 intro g hg
 by_cases hlt:g<out.length
 ·rw[VD_ hlt];exact h g hlt
 ·rw[List.length_append] at hg
  rw[VE_ (by omega),show g - out.length=0 by simp at hg;omega]
  exact hp
set_option linter.defProp false
def z6_:=And.intro (And.intro (And.intro (@zc_) (And.intro (@zd_) (@ae0_))) (And.intro (And.intro (@aeY_) (@aeA_)) (And.intro (@xn_) (@xs_)))) (And.intro (And.intro (And.intro (@kJ_) (@j8_)) (And.intro (@Sx.tup2_0) (@Sx.tup2_1))) (And.intro (And.intro (@Sx.tup3_0) (@Sx.tup3_1)) (And.intro (@Sx.tup3_2) (@kl_))))
theorem ady_ (d:List UInt8) (w:World) (hd:d.length<100000000):Rets Tryz.prog 234 #[vs d] w (XS w [] (aeC_ d)):=by
 refine Rets.enterX Tryz.func234 rfl (rs:= [.tmp 2, .tmp 3, .tmp 4]) Tryz.results234 Tryz.ntmps234 (fun p hp=>by cases hp) (by simp[keys]) ?_
 refine kf ?_
 first|with_reducible refine ks [] @z6_ ?_|refine kp @z6_ ?_
 refine Ow.build (.agg #[vs d,vi 0,vi 0]) rfl (aly_ d) ?_
 refine ko @z6_ ?_
 refine Ow.box rfl rfl fun br hbr hwr=> ?_
 simp only[qD_,qE_,qI_,zf_,List.nil_append]
 refine Ow.permL (M:= [(br,rrO d 0 0)]) (List.Perm.refl _) ?_
 refine ko @z6_ ?_
 first|with_reducible refine ks [] @z6_ ?_|refine kp @z6_ ?_
 have l1:=je_ (s:=d) (a:=0) (e:=0) (most:=4099) (Nat.zero_le _)
 have m1:=jp_ (s:=d) (a:=0) (e:=0) (most:=4099) (by omega)
 refine Ow.callM rfl rfl Tryz.call146 (by simp[keys]) (fun w' hw'=>qU_ br d 0 0 4099 w' (Nat.zero_le _) (by omega) (hw'.has _ _ List.mem_cons_self)) ?_
 refine kn ?_
 refine ko @z6_ ?_
 first|with_reducible refine ks [] @z6_ ?_|refine kp @z6_ ?_
 have l2:=je_ (s:=d) (a:=(zA_ d 0 0 4099).2.1) (e:=(zA_ d 0 0 4099).2.2) (most:=4099) l1.2
 refine Ow.callM rfl rfl Tryz.call146 (by simp[keys]) (fun w' hw'=>qU_ br d (zA_ d 0 0 4099).2.1 (zA_ d 0 0 4099).2.2 4099 w' l1.2 (by omega) (hw'.has _ _ List.mem_cons_self)) ?_
 have hdR:=abN_ d
 rw[show zA_ d 0 0 4099=dB d from rfl] at l2 m1 ⊢
 rw[show zA_ d (dB d).2.1 (dB d).2.2 4099=dM d from rfl] at l2 ⊢
 refine kn ?_
 refine ko @z6_ ?_
 first|with_reducible refine ks [] @z6_ ?_|refine kp @z6_ ?_
 refine Cw.permL (M:=(br,rrO d (dM d).2.1 (dM d).2.2):: ([]++ [])) (List.Perm.refl _) ?_
 refine Cw.loopG (G:=RrG) [20,21,22,23,24,25,26,27,28,29,30,31,32,33,34,35,9,36,10,37,38,39,40,41,42,43,44,45,46,47,48,49,50,51,52,53,54,55,56,8] (fun g=> [(8,g.v)]) (fun g=>(br,rrO d g.a g.e):: (g.D++g.DG)) (fun g=>RrJ d (dM d).2.1 (dM d).2.2 w.heap.size g) (fun g=>(if g.e=0 then d.length - g.a+1 else 0)) ⟨(dM d).2.1,(dM d).2.2,[], .slice none 0 0,[],[]⟩ rfl rfl ?_ ?_
 ·refine⟨trivial,trivial,Gr.nl,l2.2,fun g hg=>by simp at hg,by simp,fun _=>Nat.zero_le _, ?_⟩
  by_cases he: (dM d).2.2=0
  ·exact .inr ⟨he, .inl ⟨he,rfl⟩⟩
  ·exact .inl ⟨he,he⟩
 intro g j hg
 refine kv ?_
 obtain⟨a,e,out,v,D,DG⟩:=g
 obtain⟨hN,hNG,hG,hal,hB,hol,hol0,hrel⟩:=hg
 simp only at hN hNG hG hal hB hol hol0 hrel ⊢
 by_cases hc:e=0∧a<d.length
 ·obtain⟨rfl,hlt⟩:=hc
  have e0: ((0:Int)==0)=true:=rfl
  have d1:decide ((a:Int)< (d.length:Int))=true:=decide_eq_true (by omega)
  have hle1:=je_ (s:=d) (a:=a) (e:=0) (most:=8199) hal
  have hm1:=jp_ (s:=d) (a:=a) (e:=0) (most:=8199) (by omega)
  have hpR:pcR d a=pcR d a:=rfl
  conv at hpR=>rhs;unfold pcR
  first|with_reducible refine ks [1000008] (And.intro @z6_ (And.intro @e0 (@d1))) ?_|refine kp (And.intro @z6_ (And.intro @e0 (@d1))) ?_
  refine Ow.callM rfl rfl Tryz.call146 (by simp[keys]) (fun w' hw'=>qU_ br d a 0 8199 w' hal (by omega) (hw'.has _ _ List.mem_cons_self)) ?_
  generalize zA_ d a 0 8199=q at*
  obtain⟨q1,a1,e1⟩:=q
  simp only at hle1 hm1 hpR ⊢
  obtain⟨Q,rfl⟩: ∃Q:Nat,q1=(Q:Int):=⟨q1.toNat,by omega⟩
  have hQ:Q≤8199:=by omega
  refine kn ?_
  refine ko @z6_ ?_
  first|with_reducible refine ks [] @z6_ ?_|refine kp @z6_ ?_
  refine Ow.build (.agg (pcC pc0).toArray) rfl ahv_ ?_
  refine ko @z6_ ?_
  refine Ow.alloc rfl rfl zrPc fun b10 hb10 hw10=> ?_
  simp only[zf_,List.nil_append,List.cons_append]
  have h10:br<b10:=zu_ hb10 (by simp[keys])
  have hst:=aln_ pc0 pc0 311
  refine Ow.permL (M:=(b10, .cells (pcC pc0).toArray 311 (0,0)):: (br,rrO d a1 e1):: (D++DG)) (by classical exact List.perm_iff_count.2 fun a=>by simp only[List.count_append,List.count_cons,List.count_nil]<;>omega) ?_
  refine ko (And.intro @z6_ @hst) ?_
  refine Cw.cutO (G:=(PcL×Nat×Int)) [37,38,39,40,41,42,43,44,45,46,47,48,49,50,51,52] (fun g=> []) (fun g=>(b10, .cells (pcC g.1).toArray 311 (0,0)):: (br,rrO d g.2.1 g.2.2):: (D++DG)) (fun g=>pcR d a=g∧(PcB g.1∧g.1.x.length<9223372036854775808)) ?_ ?_
  ·by_cases hodd: (Q:Int)%2=1
   ·have d2: (((Q:Nat):Int)%2==1)=true:=by rw[beq_iff_eq];exact hodd
    rw[if_pos hodd] at hpR
    have hm2:=jp_ (s:=d) (a:=a1) (e:=e1) (most:=4099) (by omega)
    first|with_reducible refine ks [] (And.intro @z6_ @d2) ?_|refine kp (And.intro @z6_ @d2) ?_
    refine Ow.callM rfl rfl Tryz.call146 (by simp[keys]) (fun w' hw'=>qU_ br d a1 e1 4099 w' hle1.2 (by omega) (hw'.has _ _ (List.mem_cons_of_mem _ List.mem_cons_self))) ?_
    generalize zA_ d a1 e1 4099=x at*
    obtain⟨x1,a2,e2⟩:=x
    simp only at hm2 hpR ⊢
    obtain⟨X,rfl⟩: ∃X:Nat,x1=(X:Int):=⟨x1.toNat,by omega⟩
    rw[Int.toNat_natCast,show((Q:Int) / 2).toNat=Q / 2 by omega] at hpR
    refine kn ?_
    refine Ow.convIF rfl rfl cvIF Tryz.underlying3 Tryz.underlying312 rfl ?_
    refine ko @z6_ ?_
    rw[show(Q:Int) / 2=((Q / 2:Nat):Int) by omega]
    refine Ow.convIF rfl rfl cvIF Tryz.underlying3 Tryz.underlying312 rfl ?_
    refine Ow.complexB (a:=(X:Nat)) (b:=(Q / 2:Nat)) rfl rfl rfl ?_
    have hs2:=fun a=>ah0_ X (Q / 2) 311 a
    refine ko (And.intro @z6_ @hs2) ?_
    refine CutO.mk (⟨X,Q / 2,[]⟩,a2,e2) ⟨hpR,⟨by show X≤4099;omega,by show Q / 2≤4099;omega⟩,by show 0<9223372036854775808;omega⟩ rfl rfl
   ·have d2: (((Q:Nat):Int)%2==1)=false:=by rw[beq_eq_false_iff_ne];exact hodd
    rw[if_neg hodd] at hpR
    first|with_reducible refine ks [] (And.intro @z6_ @d2) ?_|refine kp (And.intro @z6_ @d2) ?_
    refine Ow.callM rfl rfl Tryz.call182 (by simp[keys]) (fun w' hw'=>aa4_ br d a1 e1 ((Q:Int) / 2) w' hle1.2 (by omega) (hw'.has _ _ (List.mem_cons_of_mem _ List.mem_cons_self))) ?_
    have hxl: (jj_ d a1 e1 ((Q:Int) / 2)).1.length≤d.length:=by
     unfold jj_
     split
     ·simp
     ·split
      ·simp
      ·split
       ·simp
       ·simp only[List.length_take,List.length_drop];omega
    generalize jj_ d a1 e1 ((Q:Int) / 2)=x at*
    obtain⟨x1,a2,e2⟩:=x
    simp only at hxl hpR ⊢
    refine kn ?_
    have hs2:=fun a=>ah9_ x1 311 a
    refine ko (And.intro @z6_ @hs2) ?_
    refine CutO.mk (⟨0,0,x1⟩,a2,e2) ⟨hpR,⟨Nat.zero_le _,Nat.zero_le _⟩,by show x1.length<9223372036854775808;omega⟩ rfl rfl
  ·intro g j hg
   refine kv ?_
   obtain⟨p,a2,e2⟩:=g
   obtain⟨hpq,hpB⟩:=hg
   simp only at hpB ⊢
   have hle:=ai6_ hal
   have hup:=ai1_ hal
   have hok:=ap5_ hlt
   have her:=anm_ hlt
   rw[hpq] at hle hup hok her
   simp only at hle hup hok her
   first|with_reducible refine ks [] @z6_ ?_|refine kp @z6_ ?_
   refine Ow.buildSlice (e:=311) (pcC p).toArray rfl rfl (aoj_ p) fun b11 hb11 hw11=> ?_
   refine ko @z6_ ?_
   refine Ow.permL (M:=D++ ((b10, .cells (pcC p).toArray 311 (0,0)):: (br,rrO d a2 e2):: (DG++ [(b11, .cells (pcC p).toArray 311 (0,0))]))) (by classical exact List.perm_iff_count.2 fun a=>by simp only[List.count_append,List.count_cons,List.count_nil]<;>omega) ?_
   refine Ow.appendXG (e:=311) (k:=1) (new:=pcC p) (X:=D) v rfl rfl rfl rfl Tryz.underlying297 (id (by kernel_rfl):zV_ Tryz.prog 311=some (true,2)) (by kernel_rfl) zrPc (by rw[j8_];rfl) Tryz.underlying297 (by intro k h;cases h) hG (fun w' hw'=>AppX.one1 (hw'.has b11 (.cells (pcC p).toArray 311 (0,0)) (by simp)) (w9_ p) (aib_ p)) (by omega) (fun B3 v3 D3 hA3 hB3 hG3 hk13 hk23 hlk3=> ?_)
   have hN3:New w.heap.size D3:=New.of_le fun q hq=>by
    rcases hk23 q hq with h|h
    ·exact hN.le q h
    ·omega
   refine Ow.permL (M:=(br,rrO d a2 e2):: (D3++ ((b10, .cells (pcC p).toArray 311 (0,0)):: (DG++ [(b11, .cells (pcC p).toArray 311 (0,0))])))) (by classical exact List.perm_iff_count.2 fun a=>by simp only[List.count_append,List.count_cons,List.count_nil]<;>omega) ?_
   refine ko @z6_ ?_
   refine Again.mk ⟨a2,e2,out++ [p],v3,D3,(b10, .cells (pcC p).toArray 311 (0,0)):: (DG++ [(b11, .cells (pcC p).toArray 311 (0,0))])⟩ ?_ ⟨hN3,⟨hw10,hNG.app ⟨hw11,trivial⟩⟩,by simpa using hG3,hle.2,aiZ_ hB hpB, ?_, ?_, ?_⟩ rfl rfl
   ·show(if e2=0 then d.length - a2+1 else 0)< (if(0:Int)=0 then d.length - a+1 else 0)
    rw[if_pos rfl]
    split
    ·rename_i he;have:=hup he;omega
    ·omega
   ·show(out++ [p]).length≤a2+1
    have:=hol0 rfl
    rw[List.length_append];simp;omega
   ·intro he
    show(out++ [p]).length≤a2
    have:=hol0 rfl
    have:=hup he
    rw[List.length_append];simp;omega
   ·rcases hrel with⟨h1,h2⟩ | ⟨h1,h2|h2⟩
    ·exact absurd rfl h2
    ·refine .inr ⟨h1, ?_⟩
     by_cases he:e2=0
     ·refine .inl ⟨he, ?_⟩
      rw[h2.2,hok he]
      simp
     ·refine .inr ⟨he, ?_⟩
      rw[h2.2,her he]
    ·exact absurd rfl h2.1
 ·have hdone: (e==0&&decide ((a:Int)< (d.length:Int)))=false:=by
   rw[Bool.and_eq_false_iff]
   by_cases he:e=0
   ·right;exact decide_eq_false (fun h=>hc ⟨he,by omega⟩)
   ·left;exact beq_eq_false_iff_ne.2 he
  have hNr:New w.heap.size ((br,rrO d a e):: (D++DG)):=⟨hwr,hN.app hNG⟩
  by_cases he:e=0
  ·subst he
   have hal2: ¬a<d.length:=fun h=>hc ⟨rfl,h⟩
   have e0: ((0:Int)==0)=true:=rfl
   have d1:decide ((a:Int)< (d.length:Int))=false:=decide_eq_false (by omega)
   have hE:vt_ d a 0=0:=by unfold vt_;rw[if_neg (by simp),if_neg (by omega)]
   have n0: ((0:Int) !=0)=false:=rfl
   obtain⟨h1,h2⟩: (dM d).2.2=0∧pcs d (dM d).2.1=(out,a,0):=by
    rcases hrel with⟨h1,h2⟩ | ⟨h1,h2|h2⟩
    ·exact absurd rfl h2
    ·rw[aoc_ hal2] at h2
     exact⟨h1,by rw[h2.2,List.append_nil]⟩
    ·exact absurd rfl h2.1
   rw[h2] at hdR
   rw[if_neg (by rw[h1];simp),if_neg (by simp)] at hdR
   simp only at hdR
   first|with_reducible refine ks [] (And.intro @z6_ (And.intro @e0 (@d1))) ?_|refine kp (And.intro @z6_ (And.intro @e0 (@d1))) ?_
   refine Ow.callFV rfl Tryz.call145 (fun w' hw'=>QZ_ br d a 0 w' (hw'.has _ _ List.mem_cons_self)) ?_
   rw[hE]
   refine ko (And.intro @z6_ @n0) ?_
   first|with_reducible refine ks [] (And.intro @z6_ @n0) ?_|refine kp (And.intro @z6_ @n0) ?_
   refine Ow.callFV rfl Tryz.call246 (fun w' hw'=>Kb_ (dB d).1 v out w' (hG.slM (fun b o hm=>hw'.has b o (by simp[hm])) rfl rfl w9_) hB (by omega)) ?_
   unfold aeC_
   by_cases hk:WP_ (dB d).1 out=((dM d).1,0)
   ·rw[if_pos hk] at hdR
    rw[hdR,hk]
    obtain⟨-,-,-,-,-,hc4⟩:=acH_ hk
    have n1: ((dM d).1 !=(dM d).1)=false:=bne_self_eq_false _
    refine ko @z6_ ?_
    first|with_reducible refine ks [] (And.intro @z6_ (And.intro @n0 (@n1))) ?_|refine kp (And.intro @z6_ (And.intro @n0 (@n1))) ?_
    refine⟨_,(ke @z6_), ?_⟩
    refine⟨Ext.of_new hNr,v, ?_,hB,hc4,by show(dB d).1.toNat≤4099;omega,Gr.i hG fun q hq=>by simp[hq]⟩
    show Value.tuple #[vi (dB d).1,v, .bool true]= .tuple #[vi ((dB d).1.toNat:Nat),v, .bool true]
    rw[show(((dB d).1.toNat:Nat):Int)=(dB d).1 by omega]
   ·rw[if_neg hk] at hdR
    rw[hdR]
    obtain⟨N,E,hNE⟩: ∃N E,WP_ (dB d).1 out=(N,E):=⟨_,_,rfl⟩
    rw[hNE] at hk ⊢
    by_cases hE0:E=0
    ·subst hE0
     have n1: (N !=(dM d).1)=true:=bne_iff_ne.2 (fun h=>hk (by rw[h]))
     refine ko @z6_ ?_
     first|with_reducible refine ks [] (And.intro @z6_ (And.intro @n0 (@n1))) ?_|refine kp (And.intro @z6_ (And.intro @n0 (@n1))) ?_
     refine⟨_,(ke @z6_), ?_⟩
     exact⟨Ext.of_new hNr,rfl⟩
    ·have n1: (E !=0)=true:=bne_iff_ne.2 hE0
     refine ko @z6_ ?_
     first|with_reducible refine ks [] (And.intro @z6_ @n1) ?_|refine kp (And.intro @z6_ @n1) ?_
     refine⟨_,(ke @z6_), ?_⟩
     exact⟨Ext.of_new hNr,rfl⟩
  ·have e0: (e==0)=false:=beq_eq_false_iff_ne.2 he
   have hE:vt_ d a e=e:=by unfold vt_;rw[if_pos he]
   have n0: (e !=0)=true:=bne_iff_ne.2 he
   have hno:Zw_ d=none:=by
    rw[hdR]
    rcases hrel with⟨h1,h2⟩ | ⟨h1,h2|h2⟩
    ·rw[if_pos h1]
    ·exact absurd h2.1 he
    ·rw[h2.2,if_neg (by rw[h1];simp),if_pos he]
   first|with_reducible refine ks [] (And.intro @z6_ @e0) ?_|refine kp (And.intro @z6_ @e0) ?_
   refine Ow.callFV rfl Tryz.call145 (fun w' hw'=>QZ_ br d a e w' (hw'.has _ _ List.mem_cons_self)) ?_
   rw[hE]
   refine ko (And.intro @z6_ @n0) ?_
   first|with_reducible refine ks [] (And.intro @z6_ @n0) ?_|refine kp (And.intro @z6_ @n0) ?_
   refine⟨_,(ke @z6_), ?_⟩
   refine⟨Ext.of_new hNr, ?_⟩
   unfold aeC_
   rw[hno]
   rfl
end Go.Proofs
end
section
open Go Go.Proofs Go.Sx Go.StP Go.Flo
namespace Go.Proofs
set_option maxRecDepth 10000
set_option maxHeartbeats 400000
set_option linter.unusedSimpArgs false
set_option linter.defProp false
def wg_:=And.intro (And.intro (And.intro (@zc_) (@zd_)) (And.intro (@xn_) (And.intro (@xs_) (@kJ_)))) (And.intro (And.intro (@j8_) (And.intro (@Sx.tup2_0) (@Sx.tup2_1))) (And.intro (@Sx.tup3_0) (And.intro (@Sx.tup3_1) (@Sx.tup3_2))))
theorem ab0_ (base d:List UInt8) (w:World) (hd:d.length<100000000):
  Rets Tryz.prog 215 #[vs base,vs d] w (fun v D=>v= .tuple #[vs (xz_ base d).1,vi (xz_ base d).2]∧D= []):=by
 refine Rets.enterV Tryz.func215 rfl (rs:= [.tmp 4, .tmp 5]) Tryz.results215 Tryz.ntmps215 ?_
 refine kf ?_
 first|with_reducible refine ks [] @wg_ ?_|refine kp @wg_ ?_
 refine Ow.callC rfl rfl Tryz.call234 (fun w' hw'=>ady_ d w' hd) (fun B1 v1 D1 hA1 hB1 hN1 hS1=> ?_)
 have hN1':=hN1.mono hB1
 unfold aeC_ at hS1
 cases hr:Zw_ d with
 |none=>
  rw[hr] at hS1
  have hS1':v1= .tuple #[vi 0, .slice none 0 0, .bool false]:=hS1
  subst hS1'
  have hap:xz_ base d=([],2):=by unfold xz_;rw[hr]
  refine ko @wg_ ?_
  first|with_reducible refine ks [] @wg_ ?_|refine kp @wg_ ?_
  refine⟨_,(ke @wg_),hN1', ?_⟩
  rw[hap];rfl
 |some p=>
  rw[hr] at hS1
  obtain⟨x,rfl,hB,hl4,hp4,hg⟩:=hS1
  by_cases hb:p.1=base.length
  ·have e1: (((p.1:Nat):Int) !=((base.length:Nat):Int))=false:=by rw[hb];exact bne_self_eq_false _
   obtain⟨m,hm⟩:=Va_ hr
   rw[hb] at hm
   have hap:xz_ base d=(txtP base p.2,0):=by unfold xz_;rw[hr];simp only;rw[if_neg (by simp[hb])]
   refine ko @wg_ ?_
   first|with_reducible refine ks [] (And.intro @wg_ @e1) ?_|refine kp (And.intro @wg_ @e1) ?_
   refine Ow.callFV rfl Tryz.call235 (fun w' hw'=>aeb_ base x p.2 w' (GrI.slV (hg.mono fun q hq=>by simp[hq]) hw' rfl rfl w9_) hB (by omega)) ?_
   rw[hm,if_pos rfl]
   refine ko @wg_ ?_
   first|with_reducible refine ks [] @wg_ ?_|refine kp @wg_ ?_
   refine⟨_,(ke @wg_),hN1', ?_⟩
   rw[hap];rfl
  ·have e1: (((p.1:Nat):Int) !=((base.length:Nat):Int))=true:=by rw[bne_iff_ne];omega
   have hap:xz_ base d=([],19):=by unfold xz_;rw[hr];simp only;rw[if_pos hb]
   refine ko @wg_ ?_
   first|with_reducible refine ks [] (And.intro @wg_ @e1) ?_|refine kp (And.intro @wg_ @e1) ?_
   refine⟨_,(ke @wg_),hN1', ?_⟩
   rw[hap];rfl
structure PrG where
 at_:Nat
 out:List Nat
 v:Value
 D:za_
 DG:za_
set_option linter.defProp false
def jg_:=And.intro (And.intro (And.intro (@zc_) (@zd_)) (And.intro (@jx_) (@jt_))) (And.intro (And.intro (@ju_) (@qP_)) (And.intro (@Sx.tup2_0) (@Sx.tup2_1)))
theorem agz_ (v0:Value) (l:List PartL) (a0:Int) (w:World) (hv:amt_ w v0 l):
  Rets Tryz.prog 214 #[v0,vi a0] w (XS w [] (aaK_ l a0)):=by
 obtain⟨bb,off,arr,E,fz,hr⟩:=hv.row
 have ln:=hv.len
 refine Rets.enterX Tryz.func214 rfl (rs:= [.tmp 4, .tmp 5]) Tryz.results214 Tryz.ntmps214 (fun p hp=>by cases hp) (by simp[keys]) ?_
 refine kf ?_
 by_cases hc:200<l.length∨a0<0∨(l.length:Int)≤a0
 ·have hpv:kM_ l a0= .error 1:=by unfold kM_;rw[if_pos hc]
  unfold aaK_
  rw[hpv]
  by_cases h1:200<l.length
  ·have d1:decide ((200:Int)< (l.length:Int))=true:=decide_eq_true (by omega)
   first|with_reducible refine ks [] (And.intro @jg_ (And.intro @ln (@d1))) ?_|refine kp (And.intro @jg_ (And.intro @ln (@d1))) ?_
   refine⟨_,(ke @jg_), ?_⟩
   exact⟨Ext.refl _ _,rfl⟩
  ·have d1:decide ((200:Int)< (l.length:Int))=false:=decide_eq_false (by omega)
   by_cases h2:a0<0
   ·have d2:decide (a0<0)=true:=decide_eq_true h2
    first|with_reducible refine ks [] (And.intro @jg_ (And.intro @ln (And.intro @d1 (@d2)))) ?_|refine kp (And.intro @jg_ (And.intro @ln (And.intro @d1 (@d2)))) ?_
    refine⟨_,(ke @jg_), ?_⟩
    exact⟨Ext.refl _ _,rfl⟩
   ·have d2:decide (a0<0)=false:=decide_eq_false h2
    have d3:decide ((l.length:Int)≤a0)=true:=decide_eq_true (by omega)
    first|with_reducible refine ks [] (And.intro @jg_ (And.intro @ln (And.intro @d1 (And.intro @d2 (@d3))))) ?_|refine kp (And.intro @jg_ (And.intro @ln (And.intro @d1 (And.intro @d2 (@d3))))) ?_
    refine⟨_,(ke @jg_), ?_⟩
    exact⟨Ext.refl _ _,rfl⟩
 ·have d1:decide ((200:Int)< (l.length:Int))=false:=decide_eq_false (by omega)
  have d2:decide (a0<0)=false:=decide_eq_false (by omega)
  have d3:decide ((l.length:Int)≤a0)=false:=decide_eq_false (by omega)
  obtain⟨A,rfl⟩: ∃A:Nat,a0=(A:Int):=⟨a0.toNat,by omega⟩
  have hpv:kM_ l (A:Int)=(xA_ l 5 A).map ([]++ ·):=by
   unfold kM_
   rw[if_neg hc,Int.toNat_natCast]
   cases xA_ l 5 A<;>rfl
  first|with_reducible refine ks [] (And.intro @jg_ (And.intro @ln (And.intro @d1 (And.intro @d2 (@d3))))) ?_|refine kp (And.intro @jg_ (And.intro @ln (And.intro @d1 (And.intro @d2 (@d3))))) ?_
  refine Cw.loopG (G:=PrG) [21,22,25,26,4,5,27,28,29,30,6,31,32,33,34,35,36,37,38,39,40,41,42,43,44,45,46,47,48,49,50,51,52,53,54,55,56,57,58,59,60,61,62,63,1,23,24,7] (fun g=> [(1,vi g.at_),(6,g.v),(7,vi g.out.length)]) (fun g=>g.D++g.DG) (fun g=>New w.heap.size g.D∧New w.heap.size g.DG∧Gr g.D 3 1 g.v g.out.length (g.out.map natC).flatten∧g.at_<l.length∧g.out.length≤5∧kM_ l (A:Int)=(xA_ l (5 - g.out.length) g.at_).map (g.out++ ·)) (fun g=>6 - g.out.length) ⟨A,[], .slice none 0 0,[],[]⟩ rfl rfl ?_ ?_
  ·exact⟨trivial,trivial,Gr.nl,by show A<l.length;omega,by simp,hpv⟩
  intro g j hg
  refine kv ?_
  obtain⟨a,out,v,D,DG⟩:=g
  obtain⟨hN,hNG,hG,hal,hol,hrel⟩:=hg
  simp only at hN hNG hG hal hol hrel ⊢
  have d4:decide ((out.length:Int)<6)=true:=decide_eq_true (by omega)
  by_cases h5:out.length=5
  ·have d5: ((out.length:Int)==5)=true:=by rw[h5];rfl
   rw[h5] at hrel
   have hpe:kM_ l (A:Int)= .error 11:=hrel
   first|with_reducible refine ks [] (And.intro @jg_ (And.intro @d4 (@d5))) ?_|refine kp (And.intro @jg_ (And.intro @d4 (@d5))) ?_
   refine⟨_,(ke @jg_), ?_⟩
   refine⟨Ext.of_new (hN.app hNG), ?_⟩
   unfold aaK_
   rw[hpe]
   rfl
  ·have d5: ((out.length:Int)==5)=false:=beq_eq_false_iff_ne.2 (by omega)
   have hk5:xA_ l (5 - out.length) a=xA_ l (4 - out.length+1) a:=by congr 1;omega
   rw[hk5,xA_] at hrel
   first|with_reducible refine ks [] (And.intro @jg_ (And.intro @d4 (@d5))) ?_|refine kp (And.intro @jg_ (And.intro @d4 (@d5))) ?_
   refine Ow.buildSlice (e:=3) #[vi a] rfl rfl (by kernel_rfl) fun b9 hb9 hw9=> ?_
   refine ko @jg_ ?_
   refine Ow.permL (M:=D++ (DG++ [(b9, .cells #[vi a] 3 (0,0))])) (by classical exact List.perm_iff_count.2 fun a=>by simp only[List.count_append,List.count_cons,List.count_nil]<;>omega) ?_
   refine Ow.appendXG (e:=3) (k:=1) (new:=natC a) (X:=D) v rfl rfl rfl rfl Tryz.underlying196 (id (by kernel_rfl):zV_ Tryz.prog 3=some (false,1)) (by kernel_rfl) (id (by kernel_rfl):zX_ Tryz.prog 3=some (vi 0)) rfl Tryz.underlying196 (by intro k h;cases h) hG (fun w' hw'=>AppX.one1 (hw'.has b9 (.cells #[vi a] 3 (0,0)) (by simp)) (ae1_ a) rfl) (by omega) (fun B3 v3 D3 hA3 hB3 hG3 hk13 hk23 hlk3=> ?_)
   have hN3:New w.heap.size D3:=New.of_le fun c hc=>by
    rcases hk23 c hc with h|h
    ·exact hN.le c h
    ·omega
   have hG4:Gr D3 3 1 v3 (out++ [a]).length ((out++ [a]).map natC).flatten:=by simpa using hG3
   have hol2: (out++ [a]).length=out.length+1:=by simp
   have hNG9:New w.heap.size (DG++ [(b9, .cells #[vi a] 3 (0,0))]):=hNG.app ⟨hw9,trivial⟩
   generalize DG++ [(b9,Obj.cells #[vi a] 3 (0,0))]=DG' at*
   have hNr:New w.heap.size (D3++DG'):=hN3.app hNG9
   have hb0:0<l.length:=by omega
   have hbl:=hr.lt hb0
   have rd:zx_ w (D3++DG') bb=some (.cells arr E fz):=by rw[z5_ (hNr.not hbl)];exact hr.has hb0
   have i2:=hr.idx true a hal
   have ld0:zm_ (some (false,1)) (some (.cells arr E fz)) (off+a*3)=some (.bool (l.getD a jU_).d):=hr.cell (j:=0) (n:=1) hal (by omega)
   have ld1:zm_ (some (false,1)) (some (.cells arr E fz)) (off+a*3+1)=some (vi (l.getD a jU_).b):=hr.cell (j:=1) (n:=1) hal (by omega)
   generalize l.getD a jU_=p at*
   cases hd:p.d with
   |false=>
    rw[hd,if_neg (by simp)] at hrel
    rw[hd] at ld0
    by_cases hb:p.b=0
    ·have e1: (p.b !=0)=false:=by rw[hb];rfl
     rw[if_neg (by simp[hb])] at hrel
     refine ko (And.intro @jg_ (And.intro @i2 (And.intro @rd (And.intro @ld0 (And.intro @ld1 (@e1)))))) ?_
     first|with_reducible refine ks [] (And.intro @jg_ (And.intro @i2 (And.intro @rd (And.intro @ld0 (And.intro @ld1 (@e1)))))) ?_|refine kp (And.intro @jg_ (And.intro @i2 (And.intro @rd (And.intro @ld0 (And.intro @ld1 (@e1)))))) ?_
     refine⟨_,(ke @jg_), ?_⟩
     refine⟨Ext.of_new hNr, ?_⟩
     unfold aaK_
     rw[hrel]
     exact⟨v3,rfl,by show(out++ [a]).length≤5;omega,Gr.i hG4 fun c hc=>by simp[hc]⟩
    ·have e1: (p.b !=0)=true:=by rw[bne_iff_ne];exact hb
     rw[if_pos hb] at hrel
     have hpe:kM_ l (A:Int)= .error 2:=hrel
     refine ko (And.intro @jg_ (And.intro @i2 (And.intro @rd (And.intro @ld0 (And.intro @ld1 (@e1)))))) ?_
     first|with_reducible refine ks [] (And.intro @jg_ (And.intro @i2 (And.intro @rd (And.intro @ld0 (And.intro @ld1 (@e1)))))) ?_|refine kp (And.intro @jg_ (And.intro @i2 (And.intro @rd (And.intro @ld0 (And.intro @ld1 (@e1)))))) ?_
     refine⟨_,(ke @jg_), ?_⟩
     refine⟨Ext.of_new hNr, ?_⟩
     unfold aaK_
     rw[hpe];rfl
   |true=>
    rw[hd,if_pos rfl] at hrel
    rw[hd] at ld0
    by_cases hb:p.b<0
    ·have e1:decide (p.b<0)=true:=decide_eq_true hb
     rw[if_pos (.inl hb)] at hrel
     have hpe:kM_ l (A:Int)= .error 2:=hrel
     refine ko (And.intro @jg_ (And.intro @i2 (And.intro @rd (And.intro @ld0 (And.intro @ld1 (@e1)))))) ?_
     first|with_reducible refine ks [] (And.intro @jg_ (And.intro @i2 (And.intro @rd (And.intro @ld0 (And.intro @ld1 (@e1)))))) ?_|refine kp (And.intro @jg_ (And.intro @i2 (And.intro @rd (And.intro @ld0 (And.intro @ld1 (@e1)))))) ?_
     refine⟨_,(ke @jg_), ?_⟩
     refine⟨Ext.of_new hNr, ?_⟩
     unfold aaK_
     rw[hpe];rfl
    ·have e1:decide (p.b<0)=false:=decide_eq_false hb
     by_cases hb2: (a:Int)≤p.b
     ·have e2:decide ((a:Int)≤p.b)=true:=decide_eq_true hb2
      rw[if_pos (.inr hb2)] at hrel
      have hpe:kM_ l (A:Int)= .error 2:=hrel
      refine ko (And.intro @jg_ (And.intro @i2 (And.intro @rd (And.intro @ld0 (And.intro @ld1 (And.intro @e1 (@e2))))))) ?_
      first|with_reducible refine ks [] (And.intro @jg_ (And.intro @i2 (And.intro @rd (And.intro @ld0 (And.intro @ld1 (And.intro @e1 (@e2))))))) ?_|refine kp (And.intro @jg_ (And.intro @i2 (And.intro @rd (And.intro @ld0 (And.intro @ld1 (And.intro @e1 (@e2))))))) ?_
      refine⟨_,(ke @jg_), ?_⟩
      refine⟨Ext.of_new hNr, ?_⟩
      unfold aaK_
      rw[hpe];rfl
     ·have e2:decide ((a:Int)≤p.b)=false:=decide_eq_false hb2
      rw[if_neg (by omega)] at hrel
      obtain⟨Bn,hBn⟩: ∃Bn:Nat,p.b=(Bn:Int):=⟨p.b.toNat,by omega⟩
      rw[hBn] at ld1 e1 e2 hrel
      rw[Int.toNat_natCast] at hrel
      refine ko (And.intro @jg_ (And.intro @i2 (And.intro @rd (And.intro @ld0 (And.intro @ld1 (And.intro @e1 (@e2))))))) ?_
      first|with_reducible refine ks [] (And.intro @jg_ (And.intro @i2 (And.intro @rd (And.intro @ld0 (And.intro @ld1 (And.intro @e1 (@e2))))))) ?_|refine kp (And.intro @jg_ (And.intro @i2 (And.intro @rd (And.intro @ld0 (And.intro @ld1 (And.intro @e1 (@e2))))))) ?_
      refine Again.mk ⟨Bn,out++ [a],v3,D3,DG'⟩ (by show 6 - (out++ [a]).length<6 - out.length;omega) ⟨hN3,hNG9,hG4,by show Bn<l.length;omega,by show(out++ [a]).length≤5;omega, ?_⟩ rfl (by simp only[hol2];rfl)
      show kM_ l (A:Int)=(xA_ l (5 - (out++ [a]).length) Bn).map ((out++ [a])++ ·)
      rw[hrel,show 5 - (out++ [a]).length=4 - out.length by omega]
      split
      ·rename_i h4
       rw[h4];rfl
      ·cases xA_ l (4 - out.length) Bn with
       |error x=>rfl
       |ok x=>show Except.ok _=Except.ok _;simp
end Go.Proofs
end
section
open Go Go.Proofs Go.Sx Go.StP Go.Flo
namespace Go.Proofs
set_option maxRecDepth 10000
set_option maxHeartbeats 400000
set_option linter.unusedSimpArgs false
def BndD (l:List PartL):Prop:= ∀g,g<l.length→(l.getD g jU_).x.length<100000000
theorem Zr_ {α:Type} {enc:α→List Value} {m:Nat} {D:za_} {E:TypeId} {v:Value} {l:List α} (h:GrI D E m v l.length (l.map enc).flatten) (hn: (keys D).Nodup):l.length=0∨ ∃b c rest,v=vsl b 0 l.length c∧b∈keys D∧Sx.look D b=some (Wc_ enc E rest l):=by
 obtain⟨X,hX,h| ⟨h0,-⟩⟩:=h
 ·rcases h.inv with⟨-,h0,-⟩ | ⟨b,c,rest,rfl,hl,h1,h2,h3,h4⟩
  ·exact .inl h0
  ·exact .inr ⟨b,c,rest,rfl,List.mem_map_of_mem (f:=Prod.fst) (hX _ (zv_ hl)),vD_ hn (hX _ (zv_ hl))⟩
 ·exact .inl h0
structure TrG where
 n:Nat
 s:List UInt8
 DG:za_
set_option linter.defProp false
def jR_:=And.intro (And.intro (And.intro (@zc_) (@zd_)) (And.intro (@jx_) (@jt_))) (And.intro (And.intro (@ju_) (@qP_)) (And.intro (@Sx.tup2_0) (@Sx.tup2_1)))
theorem aci_ (v0:Value) (l:List PartL) (a0:Int) (w:World) (hv:amt_ w v0 l) (hb:BndD l):
  Rets Tryz.prog 190 #[v0,vi a0] w (fun v D=>v=af8_ (partV l a0)∧D= []):=by
 obtain⟨bb,off,arr,E,fz,hr⟩:=hv.row
 refine Rets.enterV Tryz.func190 rfl (rs:= [.tmp 4, .tmp 5]) Tryz.results190 Tryz.ntmps190 ?_
 refine kf ?_
 first|with_reducible refine ks [] @jR_ ?_|refine kp @jR_ ?_
 refine Ow.callC rfl rfl Tryz.call214 (fun w' hw'=>agz_ v0 l a0 w' (hv.oldN hw' trivial)) (fun B1 v1 D1 hA1 hB1 hN1 hS1=> ?_)
 have hN1':=hN1.mono hB1
 unfold aaK_ at hS1
 unfold partV
 cases hp:kM_ l a0 with
 |error e=>
  rw[hp] at hS1
  have hS1':v1= .tuple #[.slice none 0 0,vi e]:=hS1
  subst hS1'
  have e0: (e !=0)=true:=by rw[bne_iff_ne];exact aby_ hp
  refine ko @jR_ ?_
  first|with_reducible refine ks [] (And.intro @jR_ @e0) ?_|refine kp (And.intro @jR_ @e0) ?_
  refine⟨_,(ke @jR_),hN1', ?_⟩
  rfl
 |ok p=>
  rw[hp] at hS1
  obtain⟨x,rfl,hp5,hgp⟩:=hS1
  have hlt:=ala_ hp
  have e0: ((0:Int) !=0)=false:=rfl
  have hlen: ∀m,QO_ (.sl m) x=some (vi p.length):=fun m=>km_ hgp m
  rw[List.nil_append]
  refine ko (And.intro @jR_ (And.intro @e0 (@hlen))) ?_
  first|with_reducible refine ks [] @jR_ ?_|refine kp @jR_ ?_
  refine Cw.world fun wz hwz=> ?_
  have hnd:=hwz.nodup
  clear hwz wz
  refine Cw.permL (M:=D1++ []) (by rw[List.append_nil]) ?_
  refine Cw.loopG (G:=TrG) [25,26,29,30,31,32,33,34,35,10,36,37,38,39,40,41,42,4,5,43,44,8,46,47,48,49,45,50,51,11,12,52,53,54,55,27,28,9] (fun g=> [(8,vs g.s),(9,vi ((g.n:Int) - 1))]) (fun g=>D1++g.DG) (fun g=>g.n≤p.length∧vB_ l (p.drop g.n)= .ok g.s∧New w.heap.size g.DG) (fun g=>g.n) ⟨p.length,[],[]⟩ rfl rfl ?_ ?_
  ·exact⟨Nat.le_refl _,by rw[List.drop_length];rfl,trivial⟩
  intro g j hg
  refine kv ?_
  obtain⟨n,s,DG⟩:=g
  simp only at hg ⊢
  obtain⟨hn1,hfn,hNG⟩:=hg
  have hNr:New w.heap.size (D1++DG):=hN1'.app hNG
  cases n with
  |zero=>
   have d1:decide ((0:Int)≤ ((0:Nat):Int) - 1)=false:=rfl
   first|with_reducible refine ks [] (And.intro @jR_ @d1) ?_|refine kp (And.intro @jR_ @d1) ?_
   refine⟨_,(ke @jR_),hNr, ?_⟩
   rw[List.drop_zero] at hfn;show _=af8_ ((Except.ok p).bind (vB_ l));rw[show(Except.ok p).bind (vB_ l)=vB_ l p from rfl,hfn];rfl
  |succ n=>
   have en: ((n+1:Nat):Int) - 1=(n:Int):=by omega
   rw[en]
   have d1:decide ((0:Int)≤ (n:Int))=true:=decide_eq_true (by omega)
   obtain h0| ⟨bp,cp,rp,rfl,hkp,hlk⟩:=Zr_ hgp hnd
   ·omega
   have hnl:n<p.length:=by omega
   have rdp:zx_ w (D1++DG) bp=some (Wc_ natC 3 rp p):=zb_ (zi_ hlk)
   have lp:=al4_ (E:=3) (rest:=rp) 1 n hnl
   have hmem:p.getD n 0<l.length:=hlt _ (jL_ hnl)
   have hdr:p.drop n=p.getD n 0::p.drop (n+1):=ahR_ (z:=0) hnl
   have hfo:vB_ l (p.drop n)=if(x5_ (l.getD (p.getD n 0) jU_) s).2=0 then .ok (x5_ (l.getD (p.getD n 0) jU_) s).1 else .error (x5_ (l.getD (p.getD n 0) jU_) s).2:=by
    rw[hdr,vB_,hfn];rfl
   generalize p.getD n 0=a at*
   have hb0:0<l.length:=by omega
   have hbl:=hr.lt hb0
   have rd:zx_ w (D1++DG) bb=some (.cells arr E fz):=by rw[z5_ (hNr.not hbl)];exact hr.has hb0
   have i2:=hr.idx true a hmem
   have ld:=hr.load XA_ (by omega) hmem
   have hpx:=hb a hmem
   generalize l.getD a jU_=pt at*
   have hst:=wI_ pt jU_ 279
   first|with_reducible refine ks [7] (And.intro @jR_ (And.intro @d1 (And.intro @lp (And.intro @rdp (And.intro @rd (And.intro @i2 (@ld))))))) ?_|refine kp (And.intro @jR_ (And.intro @d1 (And.intro @lp (And.intro @rdp (And.intro @rd (And.intro @i2 (@ld))))))) ?_
   refine Ow.alloc rfl rfl abB_ fun b10 hb10 hw10=> ?_
   simp only[zf_,List.nil_append,List.cons_append]
   refine Ow.permL (M:=(b10, .cells (z0_ jU_).toArray 279 (0,0)):: (D1++DG)) (by classical exact List.perm_iff_count.2 fun a=>by simp only[List.count_append,List.count_cons,List.count_nil]<;>omega) ?_
   cases hd:pt.d with
   |false=>
    by_cases hl4:4099<pt.x.length
    ·have d2:decide ((4099:Int)< (pt.x.length:Int))=true:=decide_eq_true (by omega)
     have ht:x5_ pt s=([],19):=by unfold x5_;rw[if_neg (by rw[hd];decide),if_pos hl4]
     rw[ht,if_neg (by decide)] at hfo
     refine ko (And.intro @jR_ (And.intro @hst (And.intro @hd (@d2)))) ?_
     first|with_reducible refine ks [] (And.intro @jR_ (And.intro @hd (@d2))) ?_|refine kp (And.intro @jR_ (And.intro @hd (@d2))) ?_
     refine⟨_,(ke @jR_),(show New w.heap.size ((b10,_):: (D1++DG)) from⟨hw10,hNr⟩), ?_⟩
     show _=af8_ (vB_ l p);rw[Qs_ p n hfo];rfl
    ·have d2:decide ((4099:Int)< (pt.x.length:Int))=false:=decide_eq_false (by omega)
     have ht:x5_ pt s=(pt.x,0):=by unfold x5_;rw[if_neg (by rw[hd];decide),if_neg hl4]
     rw[ht,if_pos rfl] at hfo
     refine ko (And.intro @jR_ (And.intro @hst (And.intro @hd (@d2)))) ?_
     refine Cw.permL (M:=D1++ ((b10, .cells (z0_ pt).toArray 279 (0,0))::DG)) (by classical exact List.perm_iff_count.2 fun a=>by simp only[List.count_append,List.count_cons,List.count_nil]<;>omega) ?_
     first|with_reducible refine ks [] @jR_ ?_|refine kp @jR_ ?_
     exact Again.mk ⟨n,pt.x,(b10, .cells (z0_ pt).toArray 279 (0,0))::DG⟩ (by show n<n+1;omega) ⟨by show n≤p.length;omega,hfo,⟨hw10,hNG⟩⟩ rfl rfl
   |true=>
    have ht:x5_ pt s=xz_ s pt.x:=by unfold x5_;rw[if_pos hd]
    rw[ht] at hfo
    refine ko (And.intro @jR_ (And.intro @hst (@hd))) ?_
    first|with_reducible refine ks [] (And.intro @jR_ @hd) ?_|refine kp (And.intro @jR_ @hd) ?_
    refine Ow.callFV rfl Tryz.call215 (fun w' hw'=>ab0_ s pt.x w' hpx) ?_
    by_cases he: (xz_ s pt.x).2=0
    ·have e1: ((xz_ s pt.x).2 !=0)=false:=by rw[he];rfl
     rw[if_pos he] at hfo
     refine ko (And.intro @jR_ @e1) ?_
     refine Cw.permL (M:=D1++ ((b10, .cells (z0_ pt).toArray 279 (0,0))::DG)) (by classical exact List.perm_iff_count.2 fun a=>by simp only[List.count_append,List.count_cons,List.count_nil]<;>omega) ?_
     first|with_reducible refine ks [] @jR_ ?_|refine kp @jR_ ?_
     exact Again.mk ⟨n,(xz_ s pt.x).1,(b10, .cells (z0_ pt).toArray 279 (0,0))::DG⟩ (by show n<n+1;omega) ⟨by show n≤p.length;omega,hfo,⟨hw10,hNG⟩⟩ rfl rfl
    ·have e1: ((xz_ s pt.x).2 !=0)=true:=by rw[bne_iff_ne];exact he
     rw[if_neg he] at hfo
     refine ko @jR_ ?_
     first|with_reducible refine ks [] (And.intro @jR_ @e1) ?_|refine kp (And.intro @jR_ @e1) ?_
     refine⟨_,(ke @jR_),(show New w.heap.size ((b10,_):: (D1++DG)) from⟨hw10,hNr⟩), ?_⟩
     show _=af8_ (vB_ l p);rw[Qs_ p n hfo];rfl
end Go.Proofs
end
section
open Go Go.Proofs Go.Sx Go.StP Go.Flo
namespace Go.Proofs
set_option maxRecDepth 10000
set_option maxHeartbeats 400000
set_option linter.unusedSimpArgs false
structure A9G where
 ts:List (List UInt8)
 v:Value
 D:za_
 DG:za_
set_option linter.defProp false
def asu_:=And.intro (And.intro (@zc_) (@zd_)) (And.intro (@Sx.tup2_0) (@Sx.tup2_1))
end Go.Proofs
end
section
open Go Go.Proofs Go.Sx Go.StP Go.Flo
namespace Go.Proofs
set_option maxRecDepth 10000
set_option maxHeartbeats 400000
set_option linter.unusedSimpArgs false
theorem aeg_ (s:List UInt8) (a:Nat) (e most:Int):zA_ s (a+1) e most=((zA_ (s.drop 1) a e most).1,(zA_ (s.drop 1) a e most).2.1+1,(zA_ (s.drop 1) a e most).2.2):=by
 unfold zA_
 rw[List.drop_drop,Nat.add_comm 1 a]
 by_cases he:e≠0
 ·rw[if_pos he,if_pos he]
 ·rw[if_neg he,if_neg he]
  cases q7_ most (List.drop (a+1) s) 0 0 with
  |error x=>rfl
  |ok p=>simp only[Prod.mk.injEq,true_and];exact⟨by omega,trivial⟩
theorem ad6_ (s:List UInt8) (a:Nat) (e n:Int) (hs:1≤s.length):jj_ s (a+1) e n=((jj_ (s.drop 1) a e n).1,(jj_ (s.drop 1) a e n).2.1+1,(jj_ (s.drop 1) a e n).2.2):=by
 unfold jj_
 rw[List.length_drop,List.drop_drop,Nat.add_comm 1 a]
 have hq: ((s.length:Int) - ((a+1:Nat):Int)<n)=(((s.length - 1:Nat):Int) - (a:Int)<n):=by rw[eq_iff_iff];omega
 simp only[hq]
 by_cases he:e≠0
 ·simp only[if_pos he]
 ·simp only[if_neg he]
  by_cases hn:n<0
  ·simp only[if_pos hn]
  ·simp only[if_neg hn]
   by_cases hl: ((s.length - 1:Nat):Int) - (a:Int)<n
   ·simp only[if_pos hl]
   ·simp only[if_neg hl,Prod.mk.injEq,true_and]
    exact⟨by omega,trivial⟩
theorem aaH_ (s:List UInt8) (a:Nat) (e most:Int) (hs:1≤s.length):zW_ s (a+1) e most=((zW_ (s.drop 1) a e most).1,(zW_ (s.drop 1) a e most).2.1+1,(zW_ (s.drop 1) a e most).2.2):=by
 unfold zW_
 simp only[aeg_]
 rw[ad6_ _ _ _ _ hs]
 simp only
 split<;>rfl
theorem aeu_ (c:UInt8) (r:List UInt8):frR (c::r)=([c],1,0):=by
 unfold frR jj_
 rw[if_neg (by simp),if_neg (by decide),if_neg (by simp only[List.length_cons];omega)]
 rfl
theorem aeG_ (c:UInt8) (r:List UInt8):frT (c::r)=((lfT r).1,(lfT r).2.1+1,(lfT r).2.2):=by
 unfold frT
 rw[aeu_]
 exact aaH_ (c::r) 0 0 4096 (by simp)
theorem aiJ_ (c:UInt8) (r:List UInt8) (a:Nat) (e:Int):vt_ (c::r) (a+1) e=vt_ r a e:=by
 unfold vt_
 rw[List.length_cons]
 have: ((((a+1:Nat):Int)< ((r.length+1:Nat):Int))=((a:Int)< (r.length:Int))):=by rw[eq_iff_iff];omega
 simp only[this]
theorem alk_ (c:UInt8) (r:List UInt8): (fkC c=0∧ ¬ (1≤frK (c::r)∧frK (c::r)≤3))∨(fkC c≠0∧frK (c::r)=fkC c∧aoU_ (fkC c)= [c]):=by
 have e:frK (c::r)=Lib.indexByte letL c:=by unfold frK;rw[aeu_];rfl
 rw[e]
 by_cases h1:c=98
 ·subst h1;exact .inr ⟨by decide,rfl,rfl⟩
 by_cases h2:c=116
 ·subst h2;exact .inr ⟨by decide,rfl,rfl⟩
 by_cases h3:c=99
 ·subst h3;exact .inr ⟨by decide,rfl,rfl⟩
 refine .inl ⟨by unfold fkC;rw[if_neg h1,if_neg h2,if_neg h3], ?_⟩
 have b1: ((98:UInt8)==c)=false:=beq_eq_false_iff_ne.2 (Ne.symm h1)
 have b2: ((116:UInt8)==c)=false:=beq_eq_false_iff_ne.2 (Ne.symm h2)
 have b3: ((99:UInt8)==c)=false:=beq_eq_false_iff_ne.2 (Ne.symm h3)
 simp only[Lib.indexByte,b1,b2,b3,Bool.false_eq_true, ↓reduceIte]
 split<;>simp
theorem ajF_ {k:Int} {t:List UInt8} (h: ¬ (1≤k∧k≤3)):RdOk k t=false:=by
 unfold RdOk;rw[if_neg (fun h'=>h ⟨h'.1,h'.2.1⟩)]
theorem aop_ (s:List UInt8):We_ s=lfOk s∧(We_ s=true→frK s=lfK s∧(frT s).1=(lfT (s.drop 1)).1):=by
 cases s with
 |nil=>
  have h:We_ []=false:=by
   unfold We_
   rw[ajF_ (k:=frK []) (by decide),Bool.and_false]
  exact⟨by rw[h];rfl,fun h'=>by rw[h] at h';cases h'⟩
 |cons c r=>
  have e1:We_ (c::r)=(vt_ r (lfT r).2.1 (lfT r).2.2==0&&RdOk (frK (c::r)) (lfT r).1):=by
   unfold We_;rw[aeG_,aiJ_]
  have e2:lfOk (c::r)=(fkC c !=0&&vt_ r (lfT r).2.1 (lfT r).2.2==0&&ki_ (fkC c) (lfT r).1):=rfl
  rcases alk_ c r with⟨h1,h2⟩ | ⟨h1,h2,-⟩
  ·rw[e1,e2,ajF_ h2,h1,Bool.and_false]
   exact⟨rfl,fun h=>by cases h⟩
  ·have h3: (fkC c !=0)=true:=by simpa using h1
   rw[e1,e2,h2,h3,Vr_,Bool.true_and]
   refine⟨rfl,fun _=>⟨rfl, ?_⟩⟩
   rw[aeG_];rfl
set_option linter.defProp false
def asB_:=And.intro (And.intro (@zc_) (@zd_)) (And.intro (@xr_) (@agy_))
end Go.Proofs
end
section
open Go Go.Proofs Go.Sx Go.StP Go.Flo
namespace Go.Proofs
set_option maxRecDepth 10000
set_option maxHeartbeats 1000000
set_option linter.unusedSimpArgs false
def mkV (v0 v1 v2 v3:Value):Value:= .agg #[v0,v1,v2,v3]
abbrev OneC (q:Value):Prop:=Value.oneCell' q=true∧q.cells= #[q]
def OfS (l:List PartL) (v0:Value) (v:Value) (D:za_):Prop:=match fillV l with
 |some p=> ∃x2 x3,v= .tuple #[mkV v0 (.slice none 0 0) x3 x2, .bool true]∧GrI D 84 32 x2 p.1.length (p.1.map JA_).flatten∧GrI D 82 2 x3 p.2.length (p.2.map obC).flatten
 |none=> ∃x2 x3,v= .tuple #[mkV v0 (.slice none 0 0) x3 x2, .bool false]∧OneC x2∧OneC x3
theorem Jq_ (s:List UInt8):wa_ s=⟨if lfOk s then lfK s else 0,if lfOk s then(lfT (s.drop 1)).1 else []⟩:=by
 unfold wa_
 have h:=aop_ s
 rw[←h.1]
 cases hf:We_ s
 ·rfl
 ·rw[(h.2 hf).1,(h.2 hf).2]
theorem akD_ {k:Int} {t:List UInt8} (h:RdOk k t=true):t.length≤4096:=by
 unfold RdOk at h
 split at h
 ·rename_i h1;exact h1.2.2
 ·cases h
set_option linter.defProp false
def atH_:=And.intro (And.intro (And.intro (@zc_) (@zd_)) (And.intro (@Sx.tup2_0) (@Sx.tup2_1))) (And.intro (And.intro (@q2_) (@qo_)) (And.intro (@qn_) (And.intro (@qA_) (@xr_))))
end Go.Proofs
end
section
open Go Go.Proofs Go.Sx Go.StP Go.Flo
namespace Go.Proofs
set_option maxRecDepth 10000
set_option maxHeartbeats 400000
set_option linter.unusedSimpArgs false
structure SvG where
 k:Nat
 out:List ObL
 v6:Value
 D6:za_
 DG:za_
theorem Qp_ (l:List PartL): ∀k,(va_ l k).length≤k
 |0=>Nat.le_refl _
 |k+1=>by
  have:=Qp_ l k
  unfold va_
  split
  ·split
   ·simp;omega
   ·omega
  ·omega
set_option linter.defProp false
def asc_:=And.intro (And.intro (And.intro (@zc_) (@zd_)) (And.intro (@Sx.tup2_0) (@Sx.tup2_1))) (And.intro (And.intro (@q2_) (@qo_)) (And.intro (@qn_) (@qA_)))
end Go.Proofs
end
section
open Go Go.Proofs Go.Sx Go.StP Go.Flo
namespace Go.Proofs
set_option maxRecDepth 10000
set_option maxHeartbeats 400000
set_option linter.unusedSimpArgs false
def apz_:Nat→List PartL→Nat→Nat
 |_,[],_=>0
 |i,p::r,j=>if(afc_ i p).length≤j then apz_ (i+1) r (j - (afc_ i p).length)+1 else 0
def endG (a i:Nat) (l:List PartL) (k:Nat):Nat:=a+ (ajb_ i (l.take (k+1))).length
end Go.Proofs
end
section
open Go Go.Proofs Go.Sx Go.StP Go.Flo
namespace Go.Proofs
set_option maxRecDepth 10000
set_option maxHeartbeats 400000
set_option linter.unusedSimpArgs false
def sumX (l:List PartL):Nat:=(l.map fun p=>p.x.length).sum
def sumW (l:List PartL):Nat→Int
 |0=>0
 |k+1=>IntKind.i64.wrap (sumW l k+ (l.getD k jU_).x.length)
def arF_ (l:List PartL):Bool:=decide (210<l.length) || (List.range l.length).any fun k=>decide (30000<sumW l (k+1))
set_option linter.defProp false
def asM_:=And.intro (And.intro (@zc_) (And.intro (@zd_) (@jx_))) (And.intro (And.intro (@jt_) (@ju_)) (And.intro (@wy_) (@anj_)))
end Go.Proofs
end
section
open Go Go.Proofs Go.Sx Go.StP Go.Flo
namespace Go.Proofs
set_option maxRecDepth 10000
set_option maxHeartbeats 400000
set_option linter.unusedSimpArgs false
def abS:List UInt8:= [98,2,97,98]
def abP:PartL:=⟨false,0,abS⟩
theorem aor_ (k k':Int) (t t':List UInt8):qz_ Tryz.prog .eql 82 (obV k t) (obV k' t')=some (.bool (decide ((⟨k,t⟩:ObL)=⟨k',t'⟩))):=apU_ ⟨k,t⟩ ⟨k',t'⟩
set_option linter.defProp false
def ate_:=And.intro (And.intro (And.intro (@zc_) (@zd_)) (And.intro (@Sx.tup2_0) (And.intro (@Sx.tup2_1) (@q2_)))) (And.intro (And.intro (@qo_) (@qn_)) (And.intro (@qA_) (And.intro (@aor_) (@qP_))))
end Go.Proofs
end
section
open Go Go.Proofs Go.Sx Go.StP Go.Flo
namespace Go.Proofs
set_option maxRecDepth 10000
set_option maxHeartbeats 400000
set_option linter.unusedSimpArgs false
set_option linter.defProp false
def asr_:=And.intro (And.intro (@zc_) (@zd_)) (And.intro (@Sx.tup2_0) (@Sx.tup2_1))
end Go.Proofs
end
namespace Go.Sx
def kB (c:Bool):BitVec 32:=bif c then 3988292384#32 else 0#32
def stB (x:BitVec 32):BitVec 32:=(x>>>1)^^^kB (x.getLsbD 0)
theorem apx_ (c:Bool) (j:Nat) (h:j<5): (kB c).getLsbD j=false:=by
 have:j=0∨j=1∨j=2∨j=3∨j=4:=by omega
 rcases this with rfl|rfl|rfl|rfl|rfl<;>cases c<;>decide
theorem Qn_ (x:BitVec 32) (j:Nat) (h:j<5): (stB x).getLsbD j=x.getLsbD (j+1):=by
 unfold stB
 rw[BitVec.getLsbD_xor,apx_ _ _ h,BitVec.getLsbD_ushiftRight,Bool.xor_false,Nat.add_comm]
theorem stB4 (x:BitVec 32):stB (stB (stB (stB x)))=(x>>>4)^^^ (kB (x.getLsbD 0)>>>3^^^kB (x.getLsbD 1)>>>2^^^kB (x.getLsbD 2)>>>1^^^kB (x.getLsbD 3)):=by
 have h1: (stB x).getLsbD 0=x.getLsbD 1:=Qn_ x 0 (by omega)
 have h2: (stB (stB x)).getLsbD 0=x.getLsbD 2:=by rw[Qn_ _ 0 (by omega),Qn_ _ 1 (by omega)]
 have h3: (stB (stB (stB x))).getLsbD 0=x.getLsbD 3:=by rw[Qn_ _ 0 (by omega),Qn_ _ 1 (by omega),Qn_ _ 2 (by omega)]
 have e4:stB (stB (stB (stB x)))=(stB (stB (stB x))>>>1)^^^kB (x.getLsbD 3):=by rw[←h3];rfl
 have e3:stB (stB (stB x))=(stB (stB x)>>>1)^^^kB (x.getLsbD 2):=by rw[←h2];rfl
 have e2:stB (stB x)=(stB x>>>1)^^^kB (x.getLsbD 1):=by rw[←h1];rfl
 have e1:stB x=(x>>>1)^^^kB (x.getLsbD 0):=rfl
 rw[e4,e3,e2,e1]
 simp only[BitVec.ushiftRight_xor_distrib,←BitVec.shiftRight_add,BitVec.xor_assoc]
def hvB:List (BitVec 32):= [0x00000000,0x1db71064,0x3b6e20c8,0x26d930ac,0x76dc4190,0x6b6b51f4,0x4db26158,0x5005713c,0xedb88320,0xf00f9344,0xd6d6a3e8,0xcb61b38c,0x9b64c2b0,0x86d3d2d4,0xa00ae278,0xbdbdf21c]
theorem tabB: ∀a b c d:Bool,(kB a>>>3^^^kB b>>>2^^^kB c>>>1^^^kB d)=hvB.getD (a.toNat+2*b.toNat+4*c.toNat+8*d.toNat) 0:=by decide
theorem lowB (x:BitVec 32):x.toNat%16=(x.getLsbD 0).toNat+2* (x.getLsbD 1).toNat+4* (x.getLsbD 2).toNat+8* (x.getLsbD 3).toNat:=by
 have e: ∀i,(x.getLsbD i).toNat=x.toNat / 2^i%2:=by
  intro i
  rw[BitVec.getLsbD,Nat.testBit_eq_decide_div_mod_eq]
  have:=Nat.mod_lt (x.toNat / 2^i) (show 0<2 by omega)
  by_cases h:x.toNat / 2^i%2=1
  ·simp[h]
  ·have h0:x.toNat / 2^i%2=0:=by omega
   simp[h0]
 rw[e 0,e 1,e 2,e 3]
 omega
theorem ara_ (x:BitVec 32):stB (stB (stB (stB x)))=(x>>>4)^^^hvB.getD (x.toNat%16) 0:=by
 rw[stB4,tabB,lowB]
end Go.Sx
section
open Go Go.Proofs Go.Sx
namespace Go.Proofs
set_option maxRecDepth 10000
set_option maxHeartbeats 4000000
set_option linter.unusedSimpArgs false
def wo_ (n:UInt32):UInt32:=if n%2==1 then n / 2^^^3988292384 else n / 2
theorem Ws_ (n:UInt32): (wo_ n).toBitVec=stB n.toBitVec:=by
 have hd: (n / 2).toBitVec=n.toBitVec>>>1:=by
  apply BitVec.eq_of_toNat_eq
  rw[UInt32.toBitVec_div,BitVec.toNat_udiv,BitVec.toNat_ushiftRight]
  rfl
 have hm: (n%2==1)=n.toBitVec.getLsbD 0:=by
  rw[BitVec.getLsbD,Nat.testBit_eq_decide_div_mod_eq,Nat.pow_zero,Nat.div_one,Bool.eq_iff_iff,beq_iff_eq,decide_eq_true_eq,←UInt32.toNat_inj,UInt32.toNat_mod]
  rfl
 unfold wo_ stB
 rw[hm]
 cases n.toBitVec.getLsbD 0
 ·rw[if_neg (by decide),hd];simp[kB]
 ·rw[if_pos rfl,UInt32.toBitVec_xor,hd];rfl
theorem WZ_ (n:UInt32):aap_ n=wo_ (wo_ (wo_ (wo_ n))):=by
 apply UInt32.toBitVec_inj.1
 rw[Ws_,Ws_,Ws_,Ws_,ara_]
 unfold aap_
 rw[UInt32.toBitVec_xor]
 congr 1
 ·apply BitVec.eq_of_toNat_eq
  unfold z8_
  rw[BitVec.toNat_ushiftRight,Nat.shiftRight_eq_div_pow]
  have:=n.toNat_lt
  simp only[UInt32.toNat_toBitVec,UInt32.toNat_ofNat']
  omega
 ·have e: (n&&&15).toNat=n.toBitVec.toNat%16:=by
   rw[UInt32.toNat_and,show(15:UInt32).toNat=2^4 - 1 from rfl,Nat.and_two_pow_sub_one_eq_mod]
   rfl
  rw[e]
  have hlt:n.toBitVec.toNat%16<16:=Nat.mod_lt _ (by omega)
  generalize n.toBitVec.toNat%16=m at hlt
  have: ∀m,m<16→(hvL.getD m 0).toBitVec=hvB.getD m 0:=by decide
  exact this m hlt
def akq_ (n:UInt32):Nat→UInt32
 |0=>n
 |k+1=>wo_ (akq_ n k)
theorem afp_ (n:UInt32):akq_ n 8=am9_ n 2:=by
 show wo_ (wo_ (wo_ (wo_ (wo_ (wo_ (wo_ (wo_ n)))))))=aap_ (aap_ n)
 rw[WZ_,WZ_]
set_option linter.defProp false
def qh_:=And.intro (And.intro (@zc_) (@vq_)) (And.intro (@vo_) (And.intro (@vP_) (@zd_)))
theorem ajP_ (n:UInt32) (w:World):Rets Tryz.prog 213 #[v32 n] w (fun v D=>v=v32 (wo_ n)∧D= []):=by
 have hrem:zn_ .rem (v32 n) (v32 2)=some (v32 (n%2)):=kk_ _ _ (by decide)
 have hquo:zn_ .quo (v32 n) (v32 2)=some (v32 (n / 2)):=kc_ _ _ (by decide)
 refine Rets.enterV Tryz.func213 rfl (rs:= [.tmp 2]) Tryz.results213 Tryz.ntmps213 ?_
 refine kf ?_
 unfold wo_
 first|with_reducible refine ks [] (And.intro @qh_ (And.intro @hrem (@hquo))) ?_|refine kp (And.intro @qh_ (And.intro @hrem (@hquo))) ?_
 cases h: (n%2==1)
 ·first|with_reducible refine ks [] (And.intro @qh_ @hquo) ?_|refine kp (And.intro @qh_ @hquo) ?_
  refine⟨_,(ke @qh_),trivial, ?_⟩
  rfl
 ·first|with_reducible refine ks [] (And.intro @qh_ @hquo) ?_|refine kp (And.intro @qh_ @hquo) ?_
  refine⟨_,(ke @qh_),trivial, ?_⟩
  rfl
theorem aik_ (n:UInt32) (b:UInt8) (w:World):Rets Tryz.prog 188 #[v32 n,v8 b] w (fun v D=>v=v32 (amq_ n b)∧D= []):=by
 refine Rets.enterV Tryz.func188 rfl (rs:= [.tmp 4]) Tryz.results188 Tryz.ntmps188 ?_
 refine kf ?_
 first|with_reducible refine ks [] @qh_ ?_|refine kp @qh_ ?_
 unfold amq_
 generalize n^^^UInt32.ofNat b.toNat=m
 rw[←afp_,show v32 m=v32 (akq_ m 0) from rfl]
 refine Cw.loopG (G:=Nat) [10,11,14,15,0,12,13,5] (fun g=> [(0,v32 (akq_ m g)),(5,vi g)]) (fun g=> []) (fun g=>g≤8) (fun g=>8 - g) 0 rfl rfl ?_ ?_
 ·omega
 intro g j hg
 refine kv ?_
 by_cases hlt:g<8
 ·first|with_reducible refine ks [] @qh_ ?_|refine kp @qh_ ?_
  refine Ow.callFV rfl Tryz.call213 (fun w' hw'=>ajP_ _ w') ?_
  refine ko @qh_ ?_
  first|with_reducible refine ks [] @qh_ ?_|refine kp @qh_ ?_
  refine Again.mk (g+1) (by omega) (by omega) rfl rfl
 ·obtain rfl:g=8:=by omega
  first|with_reducible refine ks [] @qh_ ?_|refine kp @qh_ ?_
  refine⟨_,(ke @qh_),trivial, ?_⟩
  rfl
theorem aoD_ (n:UInt32):4294967295 - n= ~~~ n:=by
 apply UInt32.toBitVec_inj.1
 rw[UInt32.toBitVec_sub,UInt32.toBitVec_not,←BitVec.allOnes_sub_eq_not]
 rfl
theorem ac9_ (s:List UInt8) (w:World) (hs:s.length<1099511627776):Rets Tryz.prog 155 #[vs s] w (fun v D=>v=v32 (crcV s)∧D= []):=by
 refine Rets.enterV Tryz.func155 rfl (rs:= [.tmp 2]) Tryz.results155 Tryz.ntmps155 ?_
 refine kf ?_
 first|with_reducible refine ks [] @qh_ ?_|refine kp @qh_ ?_
 rw[show v32 4294967295=v32 (afF_ (~~~ (0:UInt32)) (s.take 0)) from rfl]
 refine Cw.loopG (G:=Nat) [5,6,7,8,11,12,13,14,15,3,9,10,4] (fun g=> [(3,v32 (afF_ (~~~ (0:UInt32)) (s.take g))),(4,vi g)]) (fun g=> []) (fun g=>g≤s.length) (fun g=>s.length - g) 0 rfl rfl ?_ ?_
 ·omega
 intro g j hg
 refine kv ?_
 by_cases hlt:g<s.length
 ·first|with_reducible refine ks [] @qh_ ?_|refine kp @qh_ ?_
  refine Ow.callFV rfl Tryz.call188 (fun w' hw'=>aik_ _ _ w') ?_
  refine ko @qh_ ?_
  first|with_reducible refine ks [] @qh_ ?_|refine kp @qh_ ?_
  refine Again.mk (g+1) (by omega) (by omega) rfl ?_
  rw[agn_ _ _ _ hlt]
  rfl
 ·obtain rfl:g=s.length:=by omega
  first|with_reducible refine ks [] @qh_ ?_|refine kp @qh_ ?_
  rw[List.take_length]
  rw[aoD_]
  refine⟨_,(ke @qh_),trivial, ?_⟩
  rfl
theorem anq_ (n:UInt32):sum4 n= [UInt8.ofNat (n%256).toNat,UInt8.ofNat (n / 256%256).toNat,UInt8.ofNat (n / 65536%256).toNat,UInt8.ofNat (n / 16777216).toNat]:=by
 show [UInt8.ofNat (z8_ n 0).toNat,UInt8.ofNat (z8_ n 8).toNat,UInt8.ofNat (z8_ n 16).toNat,UInt8.ofNat (z8_ n 24).toNat]=_
 have hn:=n.toNat_lt
 congr 1
 ·apply UInt8.toNat_inj.1
  simp[z8_]
 ·congr 1
  ·apply UInt8.toNat_inj.1
   simp[z8_]
  ·congr 1
   ·apply UInt8.toNat_inj.1
    simp[z8_]
   ·congr 1
    apply UInt8.toNat_inj.1
    simp[z8_]
theorem W6_ (s:List UInt8) (w:World) (hs:s.length<1099511627776):
  Rets Tryz.prog 112 #[vs s] w (fun v D=>v=vs (aaG_ s)∧D= []):=by
 refine Rets.enterV Tryz.func112 rfl (rs:= [.tmp 2]) Tryz.results112 Tryz.ntmps112 ?_
 refine kf ?_
 first|with_reducible refine ks [] @qh_ ?_|refine kp @qh_ ?_
 refine Ow.callFV rfl Tryz.call155 (fun w' hw'=>ac9_ s w' hs) ?_
 refine ko @qh_ ?_
 unfold aaG_
 rw[anq_]
 generalize crcV s=n
 have h1:zn_ .rem (v32 n) (v32 256)=some (v32 (n%256)):=kk_ _ _ (by decide)
 have h2:zn_ .quo (v32 n) (v32 256)=some (v32 (n / 256)):=kc_ _ _ (by decide)
 have h3:zn_ .rem (v32 (n / 256)) (v32 256)=some (v32 (n / 256%256)):=kk_ _ _ (by decide)
 have h4:zn_ .quo (v32 n) (v32 65536)=some (v32 (n / 65536)):=kc_ _ _ (by decide)
 have h5:zn_ .rem (v32 (n / 65536)) (v32 256)=some (v32 (n / 65536%256)):=kk_ _ _ (by decide)
 have h6:zn_ .quo (v32 n) (v32 16777216)=some (v32 (n / 16777216)):=kc_ _ _ (by decide)
 first|with_reducible refine ks [] (And.intro @qh_ (And.intro @h1 (And.intro @h2 (And.intro @h3 (And.intro @h4 (And.intro @h5 (@h6))))))) ?_|refine kp (And.intro @qh_ (And.intro @h1 (And.intro @h2 (And.intro @h3 (And.intro @h4 (And.intro @h5 (@h6))))))) ?_
 generalize UInt8.ofNat (n%256).toNat=q0
 generalize UInt8.ofNat (n / 256%256).toNat=q1
 generalize UInt8.ofNat (n / 65536%256).toNat=q2
 generalize UInt8.ofNat (n / 16777216).toNat=q3
 refine Ow.buildSlice (e:=5) #[v8 q0,v8 q1,v8 q2,v8 q3] rfl rfl (by kernel_rfl) fun b1 hb1 hw1=> ?_
 rw[show(#[v8 q0,v8 q1,v8 q2,v8 q3]:Array Value)=a8 [q0,q1,q2,q3] from rfl]
 have hl4: [q0,q1,q2,q3].length=4:=rfl
 have e4:List.take 4 (List.drop 0 [q0,q1,q2,q3])= [q0,q1,q2,q3]:=rfl
 generalize [q0,q1,q2,q3]=q at*
 refine ko (And.intro @qh_ @e4) ?_
 first|with_reducible refine ks [] @qh_ ?_|refine kp @qh_ ?_
 refine⟨_,(ke @qh_),⟨hw1,trivial⟩, ?_⟩
 rfl
theorem Kq_ (s:List UInt8) (w:World) (hs:s.length<1099511627776):
  Rets Tryz.prog 105 #[vs s] w (fun v D=>v= .tuple #[vs (zB_ s).1, .bool (zB_ s).2]∧D= []):=by
 refine Rets.enterV Tryz.func105 rfl (rs:= [.tmp 2, .tmp 3]) Tryz.results105 Tryz.ntmps105 ?_
 refine kf ?_
 first|with_reducible refine ks [] @qh_ ?_|refine kp @qh_ ?_
 unfold zB_
 by_cases h4:s.length<4
 ·have e1:decide ((s.length:Int)<4)=true:=decide_eq_true (by omega)
  rw[if_pos h4]
  first|with_reducible refine ks [] (And.intro @qh_ @e1) ?_|refine kp (And.intro @qh_ @e1) ?_
  refine⟨_,(ke @qh_),trivial, ?_⟩
  rfl
 ·have e1:decide ((s.length:Int)<4)=false:=decide_eq_false (by omega)
  have e2: ((s.length:Int) - 4).toNat=s.length - 4:=by omega
  rw[if_neg h4]
  first|with_reducible refine ks [] (And.intro @qh_ (And.intro @e1 (@e2))) ?_|refine kp (And.intro @qh_ (And.intro @e1 (@e2))) ?_
  refine Ow.callFV rfl Tryz.call112 (fun w' hw'=>W6_ (s.take (s.length - 4)) w' (by rw[List.length_take];omega)) ?_
  refine ko @qh_ ?_
  cases hq: (aaG_ (s.take (s.length - 4)) !=s)
  ·rw[if_pos (by simpa using hq)]
   first|with_reducible refine ks [] (And.intro @qh_ (And.intro @hq (@e2))) ?_|refine kp (And.intro @qh_ (And.intro @hq (@e2))) ?_
   refine⟨_,(ke @qh_),trivial, ?_⟩
   rfl
  ·rw[if_neg (by simpa using hq)]
   first|with_reducible refine ks [] (And.intro @qh_ @hq) ?_|refine kp (And.intro @qh_ @hq) ?_
   refine⟨_,(ke @qh_),trivial, ?_⟩
   rfl
end Go.Proofs
end
section
open Go Go.Proofs Go.Sx Go.StP Go.Flo
namespace Go.Proofs
set_option maxRecDepth 10000
set_option maxHeartbeats 1000000
set_option linter.unusedSimpArgs false
set_option linter.defProp false
def as7_:=And.intro (And.intro (@zc_) (And.intro (@zd_) (@jx_))) (And.intro (@jt_) (And.intro (@ju_) (@qP_)))
end Go.Proofs
end
section
open Go Go.Proofs Go.Sx Go.StP Go.Flo
namespace Go.Proofs
set_option maxRecDepth 10000
set_option maxHeartbeats 1000000
set_option linter.unusedSimpArgs false
theorem Xl_ {s:List UInt8} (h:s.length<4∨s.take 4≠magB):ka_ s=(0,false,(jj_ s 0 0 4).2):=by
 unfold ka_
 rw[if_neg]
 unfold jj_
 rw[if_neg (by decide),if_neg (by decide)]
 split
 ·decide
 ·rename_i h1
  rcases h with h|h
  ·omega
  ·exact h
theorem ajI_ {s:List UInt8} (h4:4≤s.length) (h:s.take 4=magB):ka_ s=((zA_ s 4 0 200).1,(zA_ s 4 0 200).2.2==0,(zA_ s 4 0 200).2):=by
 have e:jj_ s 0 0 4=(s.take 4,4,0):=by
  unfold jj_
  rw[if_neg (by decide),if_neg (by decide),if_neg (by omega)]
  rfl
 unfold ka_
 rw[e]
 simp only
 rw[if_pos h]
def XX_ (s:List UInt8) (v:Value) (D:za_):Prop:=
 if(ka_ s).2.1=true then∃x y n A,v= .tuple #[x,y,vi n,vi A, .bool true]∧n=(ka_ s).1∧0≤n∧n≤200∧GrI D 279 3 x (xD_ s).1.length ((xD_ s).1.map z0_).flatten∧GrI D 3 1 y (xD_ s).2.1.length ((xD_ s).2.1.map natC).flatten∧
  (((xD_ s).2.2.2=0∧A=(xD_ s).2.2.1∧((xD_ s).1.length:Int)=n)∨((xD_ s).2.2.2≠0∧((xD_ s).1.length:Int)<n))
 else v= .tuple #[.slice none 0 0, .slice none 0 0,vi 0,vi 0, .bool false]
structure RdDG where
 l:List PartL
 sp:List Nat
 a:Nat
 v1:Value
 v2:Value
 D1:za_
 D2:za_
 DG:za_
theorem akd_ (s:List UInt8):xh_ (Zh_ Tryz.prog 217) (zX_ Tryz.prog 217) [(0,vs s),(1,vi 4)]=some (.agg #[vs s,vi 4,vi 0]):=by
 rw[show Zh_ Tryz.prog 217=some [(0,1),(1,1),(2,1)] from id (by kernel_rfl),zrRR];rfl
theorem Wl_ (b:Nat) (s:List UInt8) (a:Nat) (e most:Int) (w:World) (ha:a≤s.length) (hs:s.length<1099511627776) (ho:w.heap[b]? =some (rrO s a e)):
  Rets Tryz.prog 144 #[vp b 0,vi most] w (fun v D=> ∃o,D= [(b,o)]∧v=vs (zW_ s a e most).1∧o=rrO s (zW_ s a e most).2.1 (zW_ s a e most).2.2):=kF_ b s a e most w ha hs ho
set_option linter.defProp false
def qg_:=And.intro (And.intro (@zc_) (And.intro (@zd_) (@ae0_))) (And.intro (And.intro (@aeY_) (@aeA_)) (And.intro (@qP_) (@wy_)))
theorem W5_ (s:List UInt8) (w:World) (hs:s.length<1099511627776):Rets Tryz.prog 189 #[vs s] w (XS w [] (XX_ s)):=by
 refine Rets.enterX Tryz.func189 rfl (rs:= [.tmp 2, .tmp 3, .tmp 4, .tmp 5, .tmp 6]) Tryz.results189 Tryz.ntmps189 (fun p hp=>by cases hp) (by simp[keys]) ?_
 refine kf ?_
 by_cases h4:s.length<4
 ·have d1:decide ((s.length:Int)<4)=true:=decide_eq_true (by omega)
  first|with_reducible refine ks [] (And.intro @qg_ @d1) ?_|refine kp (And.intro @qg_ @d1) ?_
  refine⟨_,(ke @qg_), ?_⟩
  refine⟨Ext.of_new trivial, ?_⟩
  unfold XX_
  rw[Xl_ (.inl h4)]
  rfl
 have d1:decide ((s.length:Int)<4)=false:=decide_eq_false (by omega)
 have d1':decide ((0:Int)≤4∧(4:Int)≤ (s.length:Int))=true:=decide_eq_true (by omega)
 by_cases hm:s.take 4=magB
 ·have d2: (s.take 4 != [83,80,75,49])=false:=bne_eq_false_iff_eq.2 hm
  have hhd:=ajI_ (by omega) hm
  first|with_reducible refine ks [] (And.intro @qg_ (And.intro @d1 (@d2))) ?_|refine kp (And.intro @qg_ (And.intro @d1 (@d2))) ?_
  refine Ow.build (.agg #[vs s,vi 4,vi 0]) rfl (akd_ s) ?_
  refine ko @qg_ ?_
  refine Ow.box rfl rfl fun br hbr hwr=> ?_
  simp only[qD_,qE_,qI_,zf_,List.nil_append]
  refine Ow.permL (M:= [(br,rrO s 4 0)]) (List.Perm.refl _) ?_
  refine ko @qg_ ?_
  first|with_reducible refine ks [] @qg_ ?_|refine kp @qg_ ?_
  have l1:=je_ (s:=s) (a:=4) (e:=0) (most:=200) (by omega)
  have m1:=jp_ (s:=s) (a:=4) (e:=0) (most:=200) (by omega)
  refine Ow.callM rfl rfl Tryz.call146 (by simp[keys]) (fun w' hw'=>qU_ br s 4 0 200 w' (by omega) (by omega) (hw'.has _ _ List.mem_cons_self)) ?_
  have hrp:xD_ s=qJ_ s (ka_ s).1.toNat 0 (ka_ s).2.2.1 (ka_ s).2.2.2:=rfl
  rw[hhd] at hrp
  generalize zA_ s 4 0 200=q at*
  obtain⟨n0,a0,e0⟩:=q
  simp only at l1 m1 hhd hrp ⊢
  obtain⟨n,rfl⟩: ∃n:Nat,n0=(n:Int):=⟨n0.toNat,by omega⟩
  rw[Int.toNat_natCast] at hrp
  refine kn ?_
  refine ko @qg_ ?_
  by_cases he:e0=0
  ·subst he
   have hd0: ((0:Int) !=0)=false:=rfl
   have hE: (ka_ s).2.1=true:=by rw[hhd];rfl
   have hn1: (ka_ s).1=(n:Int):=by rw[hhd]
   clear hhd
   first|with_reducible refine ks [11] (And.intro @qg_ @hd0) ?_|refine kp (And.intro @qg_ @hd0) ?_
   refine Cw.permL (M:=(br,rrO s a0 0):: ([]++ ([]++ []))) (List.Perm.refl _) ?_
   refine Cw.loopG (G:=RdDG) [34,35,36,39,40,41,42,12,43,44,13,45,46,14,47,48,49,50,51,52,53,54,55,2,3,4,5,6,56,57,15,58,59,60,61,62,63,64,65,66,67,68,9,69,70,71,72,10,37,38,11] (fun g=> [(9,g.v1),(10,g.v2),(11,vi g.l.length)]) (fun g=>(br,rrO s g.a 0):: (g.D1++ (g.D2++g.DG))) (fun g=>g.l.length≤n∧g.sp.length=g.l.length∧g.a≤s.length∧New w.heap.size g.D1∧New w.heap.size g.D2∧New w.heap.size g.DG∧Gr g.D1 279 3 g.v1 g.l.length (g.l.map z0_).flatten∧Gr g.D2 3 1 g.v2 g.sp.length (g.sp.map natC).flatten∧xD_ s=(g.l++ (qJ_ s (n - g.l.length) g.l.length g.a 0).1,g.sp++ (qJ_ s (n - g.l.length) g.l.length g.a 0).2.1,(qJ_ s (n - g.l.length) g.l.length g.a 0).2.2)) (fun g=>n - g.l.length) ⟨[],[],a0, .slice none 0 0, .slice none 0 0,[],[],[]⟩ rfl rfl ?_ ?_
   ·exact⟨Nat.zero_le _,rfl,l1.2,trivial,trivial,trivial,Gr.nl,Gr.nl,by rw[hrp];rfl⟩
   intro g j hg
   refine kv ?_
   obtain⟨l,sp,a,v1,v2,D1,D2,DG⟩:=g
   simp only at hg ⊢
   obtain⟨hln,hsl,hal,hN1,hN2,hNG,hG1,hG2,hpr⟩:=hg
   have hNr:New w.heap.size (D1++ (D2++DG)):=hN1.app (hN2.app hNG)
   by_cases hlt:l.length<n
   ·have d3:decide ((l.length:Int)< (n:Int))=true:=decide_eq_true (by omega)
    have hk:n - l.length=(n - (l.length+1))+1:=by omega
    rw[hk] at hpr
    have hle1:=je_ (s:=s) (a:=a) (e:=0) (most:=200) hal
    have hm1:=jp_ (s:=s) (a:=a) (e:=0) (most:=200) (by omega)
    have hpc:Q2_ s l.length a 0=(⟨decide (0< (zA_ s a 0 200).1),if 0< (zA_ s a 0 200).1 then((l.length:Nat):Int) - (zA_ s a 0 200).1 else 0,(zW_ s (zA_ s a 0 200).2.1 (zA_ s a 0 200).2.2 65536).1⟩,(zW_ s (zA_ s a 0 200).2.1 (zA_ s a 0 200).2.2 65536).2):=rfl
    first|with_reducible refine ks [1000018] (And.intro @qg_ @d3) ?_|refine kp (And.intro @qg_ @d3) ?_
    refine Ow.callM rfl rfl Tryz.call146 (by simp[keys]) (fun w' hw'=>qU_ br s a 0 200 w' hal (by omega) (hw'.has _ _ List.mem_cons_self)) ?_
    generalize zA_ s a 0 200=x at*
    obtain⟨F,a1,e1⟩:=x
    simp only at hle1 hm1 hpc ⊢
    have hle2:=vn_ (s:=s) (a:=a1) (e:=e1) (most:=65536) hle1.2
    refine kn ?_
    refine ko @qg_ ?_
    first|with_reducible refine ks [] @qg_ ?_|refine kp @qg_ ?_
    refine Ow.callM rfl rfl Tryz.call144 (by simp[keys]) (fun w' hw'=>Wl_ br s a1 e1 65536 w' hle1.2 hs (hw'.has _ _ List.mem_cons_self)) ?_
    generalize zW_ s a1 e1 65536=x at*
    obtain⟨t,a2,e2⟩:=x
    simp only at hle2 hpc ⊢
    refine kn ?_
    refine ko @qg_ ?_
    rw[qJ_,hpc] at hpr
    simp only at hpr
    by_cases he2:e2=0
    ·subst he2
     rw[if_pos rfl] at hpr
     have d4: ((0:Int) !=0)=false:=rfl
     first|with_reducible refine ks [] (And.intro @qg_ @d4) ?_|refine kp (And.intro @qg_ @d4) ?_
     refine Ow.build (.agg (z0_ ⟨false,0,t⟩).toArray) rfl (acw_ t) ?_
     refine ko @qg_ ?_
     refine Ow.alloc rfl rfl abB_ fun b15 hb15 hw15=> ?_
     simp only[zf_,List.nil_append,List.cons_append]
     have hb15r:br<b15:=zu_ hb15 (by simp[keys])
     have hst:=wI_ ⟨false,0,t⟩ jU_ 279
     refine Ow.permL (M:=(b15, .cells (z0_ jU_).toArray 279 (0,0)):: (br,rrO s a2 0):: (D1++ (D2++DG))) (by classical exact List.perm_iff_count.2 fun a=>by simp only[List.count_append,List.count_cons,List.count_nil]<;>omega) ?_
     refine ko (And.intro @qg_ @hst) ?_
     obtain⟨p,hp⟩: ∃p,p=(⟨decide (0<F),if 0<F then((l.length:Nat):Int) - F else 0,t⟩:PartL):=⟨_,rfl⟩
     rw[←hp] at hpr
     refine Cw.cutO (G:=PartL) [58,59,60,61,62,63,64] (fun g=> []) (fun g=>(b15, .cells (z0_ g).toArray 279 (0,0)):: (br,rrO s a2 0):: (D1++ (D2++DG))) (fun g=>g=p) ?_ ?_
     ·by_cases hF:0<F
      ·have d5:decide ((0:Int)<F)=true:=decide_eq_true hF
       have hs1:=Xu_ ⟨false,0,t⟩ 279
       have hs2:=JO_ ⟨true,0,t⟩ 279
       first|with_reducible refine ks [] (And.intro @qg_ (And.intro @d5 (And.intro @hs1 (@hs2)))) ?_|refine kp (And.intro @qg_ (And.intro @d5 (And.intro @hs1 (@hs2)))) ?_
       refine CutO.mk _ ?_ rfl rfl
       rw[hp,decide_eq_true hF,if_pos hF]
      ·have d5:decide ((0:Int)<F)=false:=decide_eq_false hF
       first|with_reducible refine ks [] (And.intro @qg_ @d5) ?_|refine kp (And.intro @qg_ @d5) ?_
       refine CutO.mk _ ?_ rfl rfl
       rw[hp,decide_eq_false hF,if_neg hF]
     ·intro g j hg
      refine kv ?_
      obtain rfl:=hg
      clear hp
      first|with_reducible refine ks [] @qg_ ?_|refine kp @qg_ ?_
      refine Ow.buildSlice (e:=279) (z0_ g).toArray rfl rfl (j3_ (cs:=z0_ g) Tryz.underlying260 Tryz.ag279 abB_ (by decide) rfl) fun ba hba hwa=> ?_
      refine ko @qg_ ?_
      refine Ow.permL (M:=D1++ ((b15, .cells (z0_ g).toArray 279 (0,0)):: (br,rrO s a2 0):: (D2++ (DG++ [(ba, .cells (z0_ g).toArray 279 (0,0))])))) (by classical exact List.perm_iff_count.2 fun a=>by simp only[List.count_append,List.count_cons,List.count_nil]<;>omega) ?_
      refine Ow.appendXG (e:=279) (k:=1) (new:=z0_ g) (X:=D1) v1 rfl rfl rfl rfl Tryz.underlying260 Tryz.ag279 (by kernel_rfl) abB_ (by rw[qP_];rfl) Tryz.underlying260 (by intro k h;cases h) hG1 (fun w' hw'=>AppX.one1 (hw'.has ba (.cells (z0_ g).toArray 279 (0,0)) (by simp)) (XA_ _) (W3_ _)) (by omega) (fun B4 v4 D4 hA4 hB4 hG4 hk41 hk42 hlk4=> ?_)
      have hN4:New w.heap.size D4:=New.of_le fun q hq=>by
       rcases hk42 q hq with h|h
       ·exact hN1.le q h
       ·omega
      refine Ow.permL (M:=(br,rrO s a2 0):: (D4++ (D2++ ((b15, .cells (z0_ g).toArray 279 (0,0)):: (DG++ [(ba, .cells (z0_ g).toArray 279 (0,0))]))))) (by classical exact List.perm_iff_count.2 fun a=>by simp only[List.count_append,List.count_cons,List.count_nil]<;>omega) ?_
      refine ko @qg_ ?_
      first|with_reducible refine ks [] @qg_ ?_|refine kp @qg_ ?_
      refine Ow.buildSlice (e:=3) #[vi a] rfl rfl (by kernel_rfl) fun bc hbc hwc=> ?_
      refine ko @qg_ ?_
      refine Ow.permL (M:=D2++ ((br,rrO s a2 0):: (D4++ ((b15, .cells (z0_ g).toArray 279 (0,0)):: (DG++ [(ba, .cells (z0_ g).toArray 279 (0,0)),(bc, .cells #[vi a] 3 (0,0))]))))) (by classical exact List.perm_iff_count.2 fun a=>by simp only[List.count_append,List.count_cons,List.count_nil]<;>omega) ?_
      refine Ow.appendXG (e:=3) (k:=1) (new:=natC a) (X:=D2) v2 rfl rfl rfl rfl Tryz.underlying196 (id (by kernel_rfl):zV_ Tryz.prog 3=some (false,1)) (by kernel_rfl) (id (by kernel_rfl):zX_ Tryz.prog 3=some (vi 0)) rfl Tryz.underlying196 (by intro k h;cases h) hG2 (fun w' hw'=>AppX.one1 (hw'.has bc (.cells #[vi a] 3 (0,0)) (by simp)) (ae1_ a) rfl) (by omega) (fun B5 v5 D5 hA5 hB5 hG5 hk51 hk52 hlk5=> ?_)
      have hN5:New w.heap.size D5:=New.of_le fun q hq=>by
       rcases hk52 q hq with h|h
       ·exact hN2.le q h
       ·omega
      refine Ow.permL (M:=(br,rrO s a2 0):: (D4++ (D5++ ((b15, .cells (z0_ g).toArray 279 (0,0)):: (DG++ [(ba, .cells (z0_ g).toArray 279 (0,0)),(bc, .cells #[vi a] 3 (0,0))]))))) (by classical exact List.perm_iff_count.2 fun a=>by simp only[List.count_append,List.count_cons,List.count_nil]<;>omega) ?_
      refine ko @qg_ ?_
      first|with_reducible refine ks [] @qg_ ?_|refine kp @qg_ ?_
      have hl1: (l++ [g]).length=l.length+1:=by simp
      have hl2: (sp++ [a]).length=sp.length+1:=by simp
      refine Again.mk ⟨l++ [g],sp++ [a],a2,v4,v5,D4,D5,(b15, .cells (z0_ g).toArray 279 (0,0)):: (DG++ [(ba, .cells (z0_ g).toArray 279 (0,0)),(bc, .cells #[vi a] 3 (0,0))])⟩ (by show n - (l++ [g]).length<n - l.length;omega) ⟨by show(l++ [g]).length≤n;omega,by show(sp++ [a]).length=(l++ [g]).length;omega,hle2.2,hN4,hN5,⟨hw15,hNG.app ⟨hwa,hwc,trivial⟩⟩,by simpa using hG4,by simpa using hG5, ?_⟩ rfl (by simp only[hl1];rfl)
      show xD_ s=_
      rw[hpr,hl1]
      simp
    ·have d4: (e2 !=0)=true:=bne_iff_ne.2 he2
     rw[if_neg he2] at hpr
     first|with_reducible refine ks [] (And.intro @qg_ @d4) ?_|refine kp (And.intro @qg_ @d4) ?_
     refine⟨_,(ke @qg_), ?_⟩
     refine⟨Ext.of_new ⟨hwr,hNr⟩, ?_⟩
     unfold XX_
     rw[if_pos hE,hpr,hn1]
     simp only[List.append_nil]
     exact⟨v1,v2,_,_,rfl,rfl,by omega,by omega,Gr.i hG1 fun c hc=>by simp[hc],Gr.i hG2 fun c hc=>by simp[hc], .inr ⟨he2,by omega⟩⟩
   ·obtain hln':l.length=n:=by omega
    have d3:decide ((l.length:Int)< (n:Int))=false:=decide_eq_false (by omega)
    rw[hln',Nat.sub_self] at hpr
    first|with_reducible refine ks [] (And.intro @qg_ @d3) ?_|refine kp (And.intro @qg_ @d3) ?_
    refine Cw.regionS [br] [0,1,2,3,4,5,7,8,9,6,10,11] [] (by kernel_rfl) (by kernel_rfl) (by kernel_rfl) ?_
    simp only[zz_, ↓zk_, ↓zg_, ↓zK_, ↓zJ_,zh_]
    refine kq @qg_ ?_
    first|with_reducible refine ks [] @qg_ ?_|refine kp @qg_ ?_
    refine⟨_,(ke @qg_), ?_⟩
    refine⟨Ext.of_new ⟨hwr,hNr⟩, ?_⟩
    unfold XX_
    rw[if_pos hE,hpr,hn1]
    simp only[qJ_,List.append_nil]
    exact⟨v1,v2,_,_,rfl,rfl,by omega,by omega,Gr.i hG1 fun c hc=>by simp[hc],Gr.i hG2 fun c hc=>by simp[hc], .inl ⟨trivial,rfl,by omega⟩⟩
  ·have hd0: (e0 !=0)=true:=bne_iff_ne.2 he
   have hE: (ka_ s).2.1=false:=by rw[hhd];exact beq_eq_false_iff_ne.2 he
   first|with_reducible refine ks [] (And.intro @qg_ @hd0) ?_|refine kp (And.intro @qg_ @hd0) ?_
   refine⟨_,(ke @qg_), ?_⟩
   refine⟨Ext.of_new ⟨hwr,trivial⟩, ?_⟩
   unfold XX_
   rw[hE]
   rfl
 ·have d2: (s.take 4 != [83,80,75,49])=true:=bne_iff_ne.2 hm
  first|with_reducible refine ks [] (And.intro @qg_ (And.intro @d1 (@d2))) ?_|refine kp (And.intro @qg_ (And.intro @d1 (@d2))) ?_
  refine⟨_,(ke @qg_), ?_⟩
  refine⟨Ext.of_new trivial, ?_⟩
  unfold XX_
  rw[Xl_ (.inr hm)]
  rfl
end Go.Proofs
end
section
open Go Go.Proofs Go.Sx Go.StP Go.Flo
namespace Go.Proofs
set_option maxRecDepth 10000
set_option maxHeartbeats 1000000
set_option linter.unusedSimpArgs false
def MkD (D:za_) (v:Value) (l:List PartL) (sp:List Nat) (ids:List IdL) (os:List ObL):Prop:=
 ∃v0 v1 v2 v3,v=mkV v0 v1 v3 v2∧GrI D 279 3 v0 l.length (l.map z0_).flatten∧GrI D 3 1 v1 sp.length (sp.map natC).flatten∧GrI D 84 32 v2 ids.length (ids.map JA_).flatten∧GrI D 82 2 v3 os.length (os.map obC).flatten
def arQ_ (b:List UInt8) (v:Value) (D:za_):Prop:=match aq8_ b with
 |some q=> ∃x,v= .tuple #[x, .bool true]∧MkD D x q.1 q.2.1 q.2.2.1 q.2.2.2
 |none=> ∃c0 c1 c2 c3,v= .tuple #[mkV c0 c1 c2 c3, .bool false]∧OneC c0∧OneC c1∧OneC c2∧OneC c3
theorem BndD.ofSmall {l:List PartL} (h:amP_ l):BndD l:=fun g hg=>by have:=h g hg;omega
def arH_ (l:List PartL) (_x c2 c3:Value) (ok:Bool) (D:za_):Prop:=match fillV l with
 |some p=>ok=true∧GrI D 84 32 c2 p.1.length (p.1.map JA_).flatten∧GrI D 82 2 c3 p.2.length (p.2.map obC).flatten
 |none=>ok=false
theorem amL_ (a b c d e:Value): #[a,b,c,d,e][0]? =some a:=rfl
theorem amB_ (a b c d e:Value): #[a,b,c,d,e][1]? =some b:=rfl
theorem amA_ (a b c d e:Value): #[a,b,c,d,e][2]? =some c:=rfl
theorem amS_ (a b c d e:Value): #[a,b,c,d,e][3]? =some d:=rfl
theorem amx_ (a b c d e:Value): #[a,b,c,d,e][4]? =some e:=rfl
set_option linter.defProp false
def ar0_:=And.intro (And.intro (And.intro (@zc_) (@zd_)) (And.intro (@Sx.tup2_0) (@Sx.tup2_1))) (And.intro (And.intro (@amL_) (@amB_)) (And.intro (@amA_) (And.intro (@amS_) (@amx_))))
end Go.Proofs
end
section
open Go Go.Proofs Go.Sx Go.StP Go.Flo
namespace Go.Proofs
set_option maxRecDepth 10000
set_option maxHeartbeats 400000
set_option linter.unusedSimpArgs false
structure SaG where
 k:Nat
 out:List ObL
 v:Value
 D:za_
 DG:za_
theorem ZQ_ {o:ObL} {l:List ObL} {j:Nat} (h:j<l.length):decide (o∈l.take (j+1))=(decide (o∈l.take j) ||decide (l.getD j ob0=o)):=by
 rw[StP.take_snoc (z:=ob0) h]
 by_cases h1:o∈l.take j
 ·rw[decide_eq_true h1,decide_eq_true (List.mem_append_left _ h1)];rfl
 ·by_cases h2:l.getD j ob0=o
  ·rw[decide_eq_true h2,Bool.or_true]
   exact decide_eq_true (List.mem_append_right _ (by rw[h2];exact List.mem_singleton.2 rfl))
  ·rw[decide_eq_false h1,decide_eq_false h2]
   exact decide_eq_false fun h=>by
    rcases List.mem_append.1 h with h|h
    ·exact h1 h
    ·exact h2 (List.mem_singleton.1 h).symm
set_option linter.defProp false
def qm_:=And.intro (And.intro (And.intro (@zc_) (And.intro (@zd_) (@Sx.tup2_0))) (And.intro (And.intro (@Sx.tup2_1) (@amL_)) (And.intro (@amB_) (@amA_)))) (And.intro (And.intro (@amS_) (And.intro (@amx_) (@q2_))) (And.intro (And.intro (@qo_) (@qn_)) (And.intro (@qA_) (@aor_))))
theorem afX_ (b:List UInt8) (w:World) (hb:b.length<1099511627776):
  Rets Tryz.prog 156 #[vs b] w (XS w [] (fun v D=>GrI D 82 2 v (VI_ b).length ((VI_ b).map obC).flatten)):=by
 have hrl:=(aab_ b).1
 have hrs:=ab5_ b
 refine Rets.enterX Tryz.func156 rfl (rs:= [.tmp 2]) Tryz.results156 Tryz.ntmps156 (fun p hp=>by cases hp) (by simp[keys]) ?_
 refine kf ?_
 first|with_reducible refine ks [] @qm_ ?_|refine kp @qm_ ?_
 refine Ow.callC rfl rfl Tryz.call189 (fun w' hw'=>W5_ b w' hb) (fun B1 v1 D1 hA1 hB1 hN1 hS1=> ?_)
 have hN1':New w.heap.size D1:=hN1.mono hB1
 unfold XX_ at hS1
 unfold VI_
 rw[List.nil_append]
 cases hok: (ka_ b).2.1 with
 |false=>
  rw[hok,if_neg (by simp)] at hS1
  rw[if_neg (by simp)]
  subst hS1
  refine ko @qm_ ?_
  first|with_reducible refine ks [] @qm_ ?_|refine kp @qm_ ?_
  refine⟨_,(ke @qm_), ?_⟩
  exact⟨Ext.of_new hN1',Gr.i (X:= []) Gr.nl fun p hp=>by cases hp⟩
 |true=>
  rw[hok,if_pos rfl] at hS1
  rw[if_pos rfl]
  obtain⟨x,y,n,A,rfl,-,-,-,hg1,hg2,-⟩:=hS1
  generalize (xD_ b).1=l at*
  have ln:=km_ hg1
  refine ko @qm_ ?_
  first|with_reducible refine ks [] (And.intro @qm_ @ln) ?_|refine kp (And.intro @qm_ @ln) ?_
  refine Cw.permL (M:=D1++ ([]++ [])) (by simp) ?_
  refine Cw.loopG (G:=SaG) [26,27,28,29,33,34,35,32,36,37,10,11,38,39,41,42,40,43,44,12,13,14,15,45,46,47,48,51,52,53,54,55,56,57,58,59,49,50,60,61,62,63,64,65,66,67,68,8,30,31,9] (fun g=> [(8,g.v),(9,vi g.k)]) (fun g=>D1++ (g.D++g.DG)) (fun g=>g.k≤l.length∧g.out=va_ l g.k∧New w.heap.size g.D∧New w.heap.size g.DG∧Gr g.D 82 2 g.v g.out.length (g.out.map obC).flatten) (fun g=>l.length - g.k) ⟨0,[], .slice none 0 0,[],[]⟩ rfl rfl ?_ ?_
  ·exact⟨Nat.zero_le _,rfl,trivial,trivial,Gr.nl⟩
  intro g j hg
  refine kv ?_
  obtain⟨k,out,v6,D6,DG⟩:=g
  simp only at hg ⊢
  obtain⟨hk,hout,hN6,hNG,hG6⟩:=hg
  have hol:=Qp_ l k
  rw[←hout] at hol
  have hNr:New w.heap.size (D1++ (D6++DG)):=hN1'.app (hN6.app hNG)
  by_cases hlt:k<l.length
  ·have d1:decide ((k:Int)< (l.length:Int))=true:=decide_eq_true (by omega)
   have hsv:va_ l (k+1)=match partV l (k:Nat) with
    | .ok s=>if We_ s=true∧wa_ s∉va_ l k then va_ l k++ [wa_ s] else va_ l k
    | .error _=>va_ l k:=rfl
   first|with_reducible refine ks [7] (And.intro @qm_ (And.intro @d1 (@ln))) ?_|refine kp (And.intro @qm_ (And.intro @d1 (@ln))) ?_
   refine Ow.callFV rfl Tryz.call190 (fun w' hw'=>aci_ x l (k:Int) w' ((hg1.mono (fun q hq=>by simp[hq])).slV hw' rfl rfl XA_) (BndD.ofSmall hrs)) ?_
   rw[←hout] at hsv
   cases hp:partV l (k:Nat) with
   |error e2=>
    rw[hp] at hsv
    simp only at hsv
    have e0: (e2 !=0)=true:=bne_iff_ne.2 (ahx_ hp)
    unfold af8_
    refine ko @qm_ ?_
    first|with_reducible refine ks [] (And.intro @qm_ @e0) ?_|refine kp (And.intro @qm_ @e0) ?_
    first|with_reducible refine ks [] @qm_ ?_|refine kp @qm_ ?_
    exact Again.mk ⟨k+1,out,v6,D6,DG⟩ (by show l.length - (k+1)<l.length - k;omega) ⟨hlt,by exact hsv.symm,hN6,hNG,hG6⟩ rfl rfl
   |ok s=>
    rw[hp] at hsv
    simp only at hsv
    have hsl:=ajH_ hp
    have e0: ((0:Int) !=0)=false:=rfl
    have hrd1: (if lfOk s then lfK s else 0)=(wa_ s).k:=by rw[Jq_]
    have hrd2: (if lfOk s then(lfT (s.drop 1)).1 else [])=(wa_ s).t:=by rw[Jq_]
    have hfl2:=(aop_ s).1
    unfold af8_
    refine ko @qm_ ?_
    first|with_reducible refine ks [] (And.intro @qm_ @e0) ?_|refine kp (And.intro @qm_ @e0) ?_
    refine Ow.callFV rfl Tryz.call106 (fun w' hw'=>Vk_ s w' (by omega)) ?_
    rw[hrd1,hrd2,←hfl2]
    refine ko @qm_ ?_
    refine Ow.alloc rfl rfl zrOb fun b12 hb12 hw12=> ?_
    simp only[zf_,List.nil_append,List.cons_append]
    refine Ow.permL (M:=(b12, .cells #[vi 0,vs []] 82 (0,0)):: (D1++ (D6++DG))) (by classical exact List.perm_iff_count.2 fun a=>by simp only[List.count_append,List.count_cons,List.count_nil]<;>omega) ?_
    refine ko @qm_ ?_
    generalize hro:wa_ s=o at*
    obtain⟨ok,ot⟩:=o
    have hNr2:New w.heap.size ((b12,Obj.cells #[vi ok,vs ot] 82 (0,0)):: (D1++ (D6++DG))):=⟨hw12,hNr⟩
    refine Cw.world fun wz hwz=> ?_
    have hnd:=hwz.nodup
    clear hwz wz
    have lno: ∀m,QO_ (.sl m) v6=some (vi out.length):=fun m=>km_ (Gr.i hG6 (fun p hp=>hp)) m
    first|with_reducible refine ks [] (And.intro @qm_ @lno) ?_|refine kp (And.intro @qm_ @lno) ?_
    refine Cw.loopG (G:=Nat) [45,46,47,48,51,52,53,54,55,56,57,58,59,14,49,50,15] (fun g=> [(14, .bool (decide ((⟨ok,ot⟩:ObL)∈out.take g))),(15,vi g)]) (fun g=>(b12, .cells #[vi ok,vs ot] 82 (0,0)):: (D1++ (D6++DG))) (fun g=>g≤out.length) (fun g=>out.length - g) 0 rfl rfl ?_ ?_
    ·exact Nat.zero_le _
    ·intro j jj hj
     refine kv ?_
     by_cases hjt:j<out.length
     ·have d2:decide ((j:Int)< (out.length:Int))=true:=decide_eq_true (by omega)
      have hnx:=ZQ_ (o:=⟨ok,ot⟩) hjt
      have hnd6: (keys D6).Nodup:=by
       simp only[keys,List.map_cons,List.map_append,List.nodup_cons,List.nodup_append] at hnd
       exact hnd.2.2.1.1
      obtain h0| ⟨rb,rc,rest,rfl,hbs,hlk⟩:=Zr_ (Gr.i hG6 (fun p hp=>hp)) hnd6
      ·omega
      have hb12':rb≠b12:=by
       rintro rfl
       simp only[keys,List.map_cons,List.map_append,List.nodup_cons,List.mem_append,not_or] at hnd
       exact hnd.1.2.1 hbs
      have rdb:zx_ w ((b12, .cells #[vi ok,vs ot] 82 (0,0)):: (D1++ (D6++DG))) rb=some (Wc_ obC 82 rest out):=by
       have hn1:rb∉keys D1:=by
        simp only[keys,List.map_cons,List.map_append,List.nodup_cons,List.nodup_append,List.mem_append] at hnd
        intro hm
        exact hnd.2.2.2 rb hm rb (.inl hbs) rfl
       exact zb_ (by rw[kV_ _ _ _ _ (Ne.symm hb12'),qc_ hn1];exact zi_ hlk)
      have ld:zm_ (some (true,2)) (some (Wc_ obC 82 rest out)) (j*2)=some (obV (out.getD j ob0).k (out.getD j ob0).t):=Zz_ (E:=82) (rest:=rest) (z:=ob0) vp_ j hjt
      generalize out.getD j ob0=p at*
      first|with_reducible refine ks [] (And.intro @qm_ (And.intro @d2 (@lno))) ?_|refine kp (And.intro @qm_ (And.intro @d2 (@lno))) ?_
      cases hin:decide ((⟨ok,ot⟩:ObL)∈out.take j) with
      |true=>
       rw[hin,Bool.true_or] at hnx
       refine Cw.regionS [rb,b12] [0,1,2,3,4,5,6,7,8,9] [] (by kernel_rfl) (by kernel_rfl) (by kernel_rfl) ?_
       simp only[zz_, ↓zk_, ↓zg_, ↓zK_, ↓zJ_,zh_]
       refine kq (And.intro @qm_ (And.intro @rdb (@ld))) ?_
       first|with_reducible refine ks [] @qm_ ?_|refine kp @qm_ ?_
       exact Again.mk (j+1) (by omega) (by omega) rfl (by rw[hnx];rfl)
      |false=>
       rw[hin,Bool.false_or] at hnx
       refine Cw.regionS [rb,b12] [0,1,2,3,4,5,6,7,8,9] [] (by kernel_rfl) (by kernel_rfl) (by kernel_rfl) ?_
       simp only[zz_, ↓zk_, ↓zg_, ↓zK_, ↓zJ_,zh_]
       refine kq (And.intro @qm_ (And.intro @rdb (@ld))) ?_
       first|with_reducible refine ks [] @qm_ ?_|refine kp @qm_ ?_
       exact Again.mk (j+1) (by omega) (by omega) rfl (by rw[hnx];rfl)
     ·obtain rfl:j=out.length:=by omega
      have d2:decide ((out.length:Int)< (out.length:Int))=false:=decide_eq_false (by omega)
      rw[List.take_length]
      first|with_reducible refine ks [] (And.intro @qm_ (And.intro @d2 (@lno))) ?_|refine kp (And.intro @qm_ (And.intro @d2 (@lno))) ?_
      cases hfr:We_ s with
      |false=>
       rw[if_neg (fun h=>by rw[hfr] at h;cases h.1)] at hsv
       first|with_reducible refine ks [] (And.intro @qm_ @hfr) ?_|refine kp (And.intro @qm_ @hfr) ?_
       refine Cw.permL (M:=D1++ (D6++ ((b12, .cells #[vi ok,vs ot] 82 (0,0))::DG))) (by classical exact List.perm_iff_count.2 fun a=>by simp only[List.count_append,List.count_cons,List.count_nil]<;>omega) ?_
       first|with_reducible refine ks [] @qm_ ?_|refine kp @qm_ ?_
       exact Again.mk ⟨k+1,out,v6,D6,(b12, .cells #[vi ok,vs ot] 82 (0,0))::DG⟩ (by show l.length - (k+1)<l.length - k;omega) ⟨hlt,by exact hsv.symm,hN6,⟨hw12,hNG⟩,hG6⟩ rfl rfl
      |true=>
       cases hin:decide ((⟨ok,ot⟩:ObL)∈out) with
       |true=>
        rw[if_neg (fun h=>h.2 (of_decide_eq_true hin))] at hsv
        first|with_reducible refine ks [] (And.intro @qm_ (And.intro @hfr (@hin))) ?_|refine kp (And.intro @qm_ (And.intro @hfr (@hin))) ?_
        refine Cw.permL (M:=D1++ (D6++ ((b12, .cells #[vi ok,vs ot] 82 (0,0))::DG))) (by classical exact List.perm_iff_count.2 fun a=>by simp only[List.count_append,List.count_cons,List.count_nil]<;>omega) ?_
        first|with_reducible refine ks [] @qm_ ?_|refine kp @qm_ ?_
        exact Again.mk ⟨k+1,out,v6,D6,(b12, .cells #[vi ok,vs ot] 82 (0,0))::DG⟩ (by show l.length - (k+1)<l.length - k;omega) ⟨hlt,by exact hsv.symm,hN6,⟨hw12,hNG⟩,hG6⟩ rfl rfl
       |false=>
        rw[if_pos ⟨hfr,of_decide_eq_false hin⟩] at hsv
        first|with_reducible refine ks [] (And.intro @qm_ (And.intro @hfr (@hin))) ?_|refine kp (And.intro @qm_ (And.intro @hfr (@hin))) ?_
        refine Ow.buildSlice (e:=82) #[vi ok,vs ot] rfl rfl (j3_ (cs:=obC ⟨ok,ot⟩) Tryz.underlying94 Tryz.ag82 zrOb (by decide) rfl) fun bc hbc hwc=> ?_
        refine ko @qm_ ?_
        refine Ow.permL (M:=D6++ ((b12, .cells #[vi ok,vs ot] 82 (0,0)):: (D1++ (DG++ [(bc, .cells #[vi ok,vs ot] 82 (0,0))])))) (by classical exact List.perm_iff_count.2 fun a=>by simp only[List.count_append,List.count_cons,List.count_nil]<;>omega) ?_
        refine Ow.appendXG (e:=82) (k:=1) (new:=obC ⟨ok,ot⟩) (X:=D6) v6 rfl rfl rfl rfl Tryz.underlying94 Tryz.ag82 (by kernel_rfl) zrOb (by rw[obV,zf_];rfl) Tryz.underlying94 (by intro k h;cases h) hG6 (fun w' hw'=>AppX.one1 (hw'.has bc (.cells (obC ⟨ok,ot⟩).toArray 82 (0,0)) (by simp[obC])) (vp_ _) (X8_ _)) (by omega) (fun B5 v5 D5 hA5 hB5 hG5 hk51 hk52 hlk5=> ?_)
        have hN5:New w.heap.size D5:=New.of_le fun q hq=>by
         rcases hk52 q hq with h|h
         ·exact hN6.le q h
         ·omega
        refine ko @qm_ ?_
        refine Cw.permL (M:=D1++ (D5++ ((b12, .cells #[vi ok,vs ot] 82 (0,0)):: (DG++ [(bc, .cells #[vi ok,vs ot] 82 (0,0))])))) (by classical exact List.perm_iff_count.2 fun a=>by simp only[List.count_append,List.count_cons,List.count_nil]<;>omega) ?_
        first|with_reducible refine ks [] @qm_ ?_|refine kp @qm_ ?_
        exact Again.mk ⟨k+1,out++ [⟨ok,ot⟩],v5,D5,(b12, .cells #[vi ok,vs ot] 82 (0,0)):: (DG++ [(bc, .cells #[vi ok,vs ot] 82 (0,0))])⟩ (by show l.length - (k+1)<l.length - k;omega) ⟨hlt,by exact hsv.symm,hN5,⟨hw12,hNG.app ⟨hwc,trivial⟩⟩,by simpa using hG5⟩ rfl rfl
  ·obtain rfl:k=l.length:=by omega
   have d1:decide ((l.length:Int)< (l.length:Int))=false:=decide_eq_false (by omega)
   first|with_reducible refine ks [] (And.intro @qm_ (And.intro @d1 (@ln))) ?_|refine kp (And.intro @qm_ (And.intro @d1 (@ln))) ?_
   refine⟨_,(ke @qm_), ?_⟩
   refine⟨Ext.of_new hNr, ?_⟩
   rw[←hout]
   exact Gr.i hG6 fun p hp=>by simp[hp]
end Go.Proofs
end
