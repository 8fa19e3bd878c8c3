/-
  Part 3 of the walk: contracts of the functions that the law reaches, and the calculus they stand on.
  No conditions.
-/
import Derived.Test.YtlpbaodcpnennaaGreatDoorS2
section
open Go Go.Proofs Go.Sx Go.StP
namespace Go.Proofs
set_option maxRecDepth 10000
set_option maxHeartbeats 400000
set_option linter.unusedSimpArgs false
theorem DkP.away {X:ze_} {G:DkG} {S:DiskL} (h:DkP X G S) {b:Nat} {v:Value} (hb:Sx.look X b=some (x9_ v)) (x:Obj):DkP (setB X b x) G S where
 disk:=qc_ hb h.disk (by simp[tyO,jr_,x9_])
 dirs:=by obtain⟨o,h1,h2⟩:=h.dirs;exact⟨o,qc_ hb h1 (by rw[qK_ h2];intro e;cases e),h2⟩
 dir k hk':=qc_ hb (h.dir k hk') (by simp[tyO,xv_,x9_])
 seen k hk':=by
  obtain⟨o,m,h1,h2,h3⟩:=h.seen k hk'
  exact⟨o,m,qc_ hb h1 (by rw[qK_ h2];intro e;cases e),h2,h3⟩
 stl k hk':=by
  obtain⟨o,m,h1,h2,h3⟩:=h.stl k hk'
  exact⟨o,m,qc_ hb h1 (by rw[qK_ h2];intro e;cases e),h2,h3⟩
 pend k hk':=by
  obtain⟨vals,h1,h2,h3⟩:=h.pend k hk'
  refine⟨vals,h1,h2.keep fun b o hb' ho=> ?_,fun i hi=>(h3 i hi).keep fun b o ho hx=>qc_ hb ho ?_⟩
  ·obtain⟨arr,ha⟩:=x0_ h2 hb'
   rw[ho] at ha;cases ha
   exact qc_ hb ho (by simp[tyO,x9_])
  ·rcases hx with⟨s,rfl⟩ | ⟨a,rfl⟩<;>simp[tyO,x9_,kV_,KV_]
 file n hn:=qc_ hb (h.file n hn) (by simp[tyO,xF_,x9_])
 len:=h.len
 nodf:=h.nodf
 nodm:=h.nodm
 nodd:=h.nodd
 nodb:=h.nodb
 nodp:=h.nodp
 ok:=h.ok
theorem ab8_ {w:World} {v v':Value} {q:List UInt16} (hv:PkS w v q) (h1:q= []→v'=v) (h2:q≠ []→qY_ (.sl (false,1)) v (some (some 1)) none=some v'):PkS w v' (q.drop 1)∧ ∀ {X:ze_},PkB w X q v→PkB w X (q.drop 1) v':=by
 cases q with
 |nil=>rw[h1 rfl];exact⟨hv,fun h=>h⟩
 |cons x l=>
  have hv:apo_ w v (x::l):=hv.resolve_right fun e=>by cases e.1
  obtain⟨v2,e1,e2,e3⟩:=hv.dropE (k:=1) (by simp) false
  have:=h2 (by simp)
  rw[show((1:Nat):Int)=1 from rfl,this] at e1
  cases e1
  exact⟨.inl e2,fun h _ b hb=>h (by simp) b (e3 b hb)⟩
theorem aoQ_ {w w1:World} {L:ze_} {T:TypeId} {v:Value} {vals:List Value} (h:Gr L T 1 v vals.length vals) (hw:Hp w L w1) {n:Nat} (hn:n≤vals.length):
  ∃vc rb off arr E fz,qY_ (.sl (false,1)) v none (some (some (n:Int)))=some vc∧RowS 1 (fun v:Value=> [v]) undef w1 vc (vals.take n) rb off arr E fz∧(0<n→Sx.look L rb=some (.cells arr E fz)):=by
 have hfl:vals=(vals.map fun v:Value=> [v]).flatten:=by
  clear h hn
  induction vals with
  |nil=>rfl
  |cons x l ih=>simp[←ih]
 have hsl:SlV 1 (fun v:Value=> [v]) undef w1 v vals:=h.slV hw rfl hfl (fun _=>rfl)
 obtain⟨vc,h1,h2,h3⟩:=hsl.take hn false
 obtain⟨b,off,c,arr,E,fz,hr,hc,⟨q1,q2,q3⟩ | ⟨q1,hb,hs⟩⟩:=h2
 ·refine⟨vc,b,off,arr,E,fz,h1,hr,fun h0=> ?_⟩
  have:=congrArg List.length q2
  rw[List.length_take,List.length_nil,Nat.min_eq_left hn] at this
  omega
 ·refine⟨vc,b,off,arr,E,fz,h1,hr,fun h0=> ?_⟩
  have hk:=h.key (h3 b (by rw[q1];rfl))
  obtain⟨o,ho⟩:=Jk_ hk
  have:=hw.has _ _ (zq_ ho)
  rw[hb] at this
  rw[ho,this]
theorem aoG_ {w:World} {v:Value} {l:List Value} {b off:Nat} {arr:Array Value} {E:TypeId} {fz:Nat×Nat} (h:RowS 1 (fun v:Value=> [v]) undef w v l b off arr E fz) {k:Nat} (hk:k<l.length) (n:Nat):
  zk_ (some (false,n)) (some (.cells arr E fz)) (off+k)=some (l.getD k undef):=by
 have:=h.cell (j:=0) (n:=n) hk (by omega)
 rwa [Nat.mul_one,Nat.add_zero] at this
theorem ahE_ (a b y:Nat) (v:Value) (x:Bool):zu_ (some (x,1)) (some (xv_ a b v)) 0 (vm y)=some (xv_ y b v):=zt_ [] [vm a] [vm y] [vm b,v] x _ 71 rfl rfl rfl rfl rfl
theorem adl_ (S:DiskL) (k:Nat):z4_ S k (S.dir k)=S:=by
 unfold z4_
 cases S
 simp only
 congr 1
 funext j
 by_cases e:j=k
 ·subst e;simp
 ·simp[e]
def xs_ (q:DiskL×List UInt16) (p:List UInt8×Nat):DiskL×List UInt16:=
 (J4_ q.1 p.2 ⟨(zz_ q.1 p.2).data.take ((zz_ q.1 p.2).stl+vv_ q.2 ((zz_ q.1 p.2).data.length - (zz_ q.1 p.2).stl)),((zz_ q.1 p.2).data.take ((zz_ q.1 p.2).stl+vv_ q.2 ((zz_ q.1 p.2).data.length - (zz_ q.1 p.2).stl))).length⟩,q.2.drop 1)
def ja_ (q:DiskL×List UInt16):Nat→DiskL×List UInt16
 |0=>q
 |k+1=>(q.1.dir k).seen.foldl xs_ (ja_ q k)
def XC_ (S:DiskL):DiskL:={S with off:=false,fused:=false}
def JW_ (S:DiskL) (pl:List UInt16):DiskL:=(ja_ (XC_ (qy_ (S,pl) 3).1,(qy_ (S,pl) 3).2) 3).1
theorem K1_ (q:DiskL×List UInt16) (l:NmL): (l.foldl xs_ q).1.dir=q.1.dir:=by
 induction l generalizing q with
 |nil=>rfl
 |cons p l ih=>rw[List.foldl_cons,ih];rfl
theorem kH_ (q:DiskL×List UInt16): ∀k,(ja_ q k).1.dir=q.1.dir
 |0=>rfl
 |k+1=>by
  show(List.foldl xs_ (ja_ q k) _).1.dir=_
  rw[K1_,kH_ q k]
theorem ag2_ (q:DiskL×List UInt16) (l:NmL): (l.foldl xs_ q).1.off=q.1.off:=by
 induction l generalizing q with
 |nil=>rfl
 |cons p l ih=>rw[List.foldl_cons,ih];rfl
theorem KW_ (q:DiskL×List UInt16): ∀k,(ja_ q k).1.off=q.1.off
 |0=>rfl
 |k+1=>by
  show(List.foldl xs_ (ja_ q k) _).1.off=_
  rw[ag2_,KW_ q k]
structure C3G where
 k:Nat
 L:ze_
 v:Value
structure C4G where
 j:Nat
 L:ze_
 v:Value
structure C1G where
 k:Nat
 G:DkG
 L:ze_
 v:Value
structure C2G where
 j:Nat
 L:ze_
theorem KQ_ (q:DiskL×List UInt16): ∀ {k j:Nat},k≤j→(qy_ q k).1.dir j=q.1.dir j
 |0,_,_=>rfl
 |k+1,j,h=>by
  show(z4_ _ k _).dir j=_
  rw[qv_ _ _ (by omega)]
  exact KQ_ q (by omega)
set_option linter.defProp false
def qt_:=And.intro (And.intro (And.intro (@zn_) (@zm_)) (And.intro (@qr_) (And.intro (@qL_) (@qG_)))) (And.intro (And.intro (@qH_) (@xU_)) (And.intro (@xW_) (And.intro (@afl_) (@amZ_))))
theorem acJ_ (X:ze_) (G0:DkG) (S:DiskL) (v0:Value) (pl:List UInt16) (w:World) (hX: ∀p,p∈X→w.heap[p.1]? =some p.2) (hn: (keys X).Nodup) (hP0:DkP X G0 S) (hGl:QX_ w) (hgx:0∉keys X) (hB:DkB (qy_ (S,pl) 3).1)
  (hv0:PkS w v0 pl) (hpx:PkB w X pl v0) (hpl:pl.length<1000000) (hpn: ∀k,k<3→aq1_ (S.dir k)∧(S.dir k).pend.length<1000000):
  Rets Tryz.prog 21 #[vp G0.bd 0,v0] w (XS w X (fun _v D=> ∃G',G'.bd=G0.bd∧DkP D G' (JW_ S pl))):=by
 obtain⟨eg,fzg,hgl⟩:=hGl
 refine Rets.enterX Tryz.func21 rfl (rs:= []) Tryz.results21 Tryz.ntmps21 hX hn ?_
 refine kf ?_
 first|with_reducible refine ks [3] @qt_ ?_|refine kp @qt_ ?_
 refine Ow.box rfl rfl fun bk hbk hwk=> ?_
 simp only[qm_,ql_,qu_,hv0.cell.2]
 refine Ow.permL (M:=X++ [(bk,x9_ v0)]) (List.Perm.refl _) ?_
 refine ko @qt_ ?_
 first|with_reducible refine ks [3] @qt_ ?_|refine kp @qt_ ?_
 simp only[List.map_toArray,List.map_cons,List.map_nil,qm_,ql_,qu_]
 have rdg: ∀L,Ext w X L→zy_ w L 0=some (.cells #[vs qB_,vs vx_,vs WR_] eg fzg):=fun L hE=>hE.old hgl hgx
 have hE0:Ext w X (X++ [(bk,x9_ v0)]):=(Ext.refl w X).app hwk
 have hr0:=rdg _ hE0
 have hl0:Sx.look (X++ [(bk,x9_ v0)]) bk=some (x9_ v0):=j9_ hbk
 have hP1:DkP (X++ [(bk,x9_ v0)]) G0 S:=hP0.mono fun b o h=>zi_ h
 generalize X++ [(bk,x9_ v0)]=L0 at*
 first|with_reducible refine ks [5,8,12,16] (And.intro @qt_ (And.intro @hr0 (@kd_))) ?_|refine kp (And.intro @qt_ (And.intro @hr0 (@kd_))) ?_
 refine Cw.loopG (G:=C1G) [20,21,6,22,23,24,25,26,27,7,28,29,30,31,32,33,34,35,36,37,38,39,40,41,42,43,44,9,45,46,47,48,49,50,51,52,53,54,55,56,57,58,59,60,61,62,63,19] (fun g=> [(19,vi g.k)]) (fun g=>g.L) (fun g=>g.k≤3∧DkP g.L g.G (qy_ (S,pl) g.k).1∧g.G.bd=G0.bd∧Sx.look g.L bk=some (x9_ g.v)∧PkS w g.v (qy_ (S,pl) g.k).2∧PkB w X (qy_ (S,pl) g.k).2 g.v∧Ext w X g.L∧(qy_ (S,pl) g.k).2.length<1000000) (fun g=>3 - g.k) ⟨0,G0,L0,v0⟩ rfl rfl ?_ ?_
 ·exact⟨Nat.zero_le _,hP1,rfl,hl0,hv0,hpx,hE0,hpl⟩
 intro g j hg
 refine kv ?_
 clear hr0 hl0 hP1 hE0
 obtain⟨k,G,L,v⟩:=g
 simp only at hg ⊢
 obtain⟨hk,hP,hbd,hlk,hv,hvb,hE,hpl1⟩:=hg
 rw[←hbd]
 by_cases hlt:k<3
 ·have d1:decide ((k:Int)<3)=true:=decide_eq_true (by omega)
  have ixk:=vQ_ hlt
  obtain⟨om,hom,hM⟩:=hP.dirs
  have hrd:=za_ (w0:=w) hP.disk
  have hrr:=za_ (w0:=w) (hP.dir k hlt)
  have hpd:qJ_ (some (G.d k))=vp (G.d k) 0:=rfl
  have hdk:=KQ_ (S,pl) (Nat.le_refl k)
  simp only at hdk
  obtain⟨vals,hvl,hGr,hF⟩:=hP.pend k hlt
  rw[hdk] at hvl hF
  have hpn1:=(hpn k hlt).2
  have lnp:=hGr.len (false,1)
  first|with_reducible refine ks [] (And.intro @qt_ (And.intro @d1 (And.intro @ixk (@hrd)))) ?_|refine kp (And.intro @qt_ (And.intro @d1 (And.intro @ixk (@hrd)))) ?_
  refine Ow.mapGetG (encK:=vs) (encV:=qJ_) (k:=qp_ k) (z:=none) rfl rfl Tryz.underlying62 jF_ zrPd rfl rfl (za_ hom) hM ?_
  rw[Zt_,jx_ hlt]
  show Ow _ _ _ _ _ _ _ _
  refine ko (And.intro @qt_ @hpd) ?_
  first|with_reducible refine ks [] @qt_ ?_|refine kp @qt_ ?_
  refine Cw.regionS [G.d k] [0,1,2,4,5,6,7,13,3,8,9,10,11,12] [] (by kernel_rfl) (by kernel_rfl) (by kernel_rfl) ?_
  simp only[zj_, ↓zf_, ↓zc_, ↓zw_, ↓zv_,zd_]
  refine kq (And.intro @qt_ (And.intro @hrr (@lnp))) ?_
  refine Ow.soft rfl rfl rfl ?_
  refine Ow.callFnXC (b:=vi vals.length) (ars:= #[vi vals.length,vp bk 0]) rfl (X:=L) (Y:= []) (List.append_nil _).symm rfl rfl rfl rfl Tryz.call44 (fun w' hw' hX' hn'=>Rets.chunk hX' hn' (zg_ hlk) (Vm_ vals.length bk v (qy_ (S,pl) k).2 w' (by omega) (hv.old hw' fun hq b hb=>hE.not (hvb hq b hb).1 (hvb hq b hb).2) hpl1 (fun hq e=>by have:=(hvb hq bk e).1;omega) (hX' _ (zq_ hlk)))) (fun r D hC hS=> ?_)
  obtain⟨o,rfl,rfl,v',rfl,hv1,hv2⟩:=hS
  rw[List.append_nil]
  obtain⟨hvn,hvn2⟩:=ab8_ hv hv1 hv2
  have hP1:=hP.away hlk (x9_ v')
  have hE1:=hE.came0 hC
  have hk1: ∀b o,Sx.look L b=some o→tyO o≠some 99→Sx.look (setB L bk (x9_ v')) b=some o:=fun b o hb ht=>qc_ hlk hb ht
  have hlk1:Sx.look (setB L bk (x9_ v')) bk=some (x9_ v'):=zB_ hlk
  have hrr1:=za_ (w0:=w) (hP1.dir k hlt)
  have hGr1:Gr (setB L bk (x9_ v')) 102 1 (G.p k) vals.length vals:=hGr.keep fun b o hb ho=>by
   obtain⟨arr,ha⟩:=x0_ hGr hb
   rw[ho] at ha;cases ha
   exact hk1 _ _ ho (by simp[tyO])
  have hF1: ∀i,i<vals.length→FnP (setB L bk (x9_ v')) G.fb (vals.getD i undef) ((S.dir k).pend.getD i vK_):=fun i hi=>(hF i hi).keep fun b o ho hx=>hk1 _ _ ho (by rcases hx with⟨s,rfl⟩ | ⟨a,rfl⟩<;>simp[tyO,kV_,KV_])
  have hple:=afi_ (qy_ (S,pl) k).2 vals.length
  have hcr:qy_ (S,pl) (k+1)=afH_ (qy_ (S,pl) k) k:=rfl
  unfold afH_ at hcr
  rw[hdk,←hvl] at hcr
  generalize vv_ (qy_ (S,pl) k).2 vals.length=n at*
  have hbkd:bk≠G.d k:=fun e=>by
   have hdd:=hP1.dir k hlt
   rw[←e,hlk1] at hdd
   simp[xv_,x9_] at hdd
  generalize setB L bk (x9_ v')=L1 at*
  refine Ow.world fun w1 hw1=> ?_
  obtain⟨vc,rb,off,arr,E,fz,hsl,hrw,hlr⟩:=aoQ_ hGr1 hw1 hple
  clear hw1
  have lnc:=hrw.len (false,1)
  rw[List.length_take,Nat.min_eq_left hple] at lnc
  with_reducible refine Ow.nil ?_
  refine⟨fun b hb=>by rw[List.mem_singleton] at hb;subst hb;rw[hrr,hrr1], ?_⟩
  refine kq (And.intro @qt_ (And.intro @hsl (@lnc))) ?_
  have hself:z4_ (qy_ (S,pl) k).1 k ⟨((qy_ (S,pl) k).1.dir k).seen,wD_ (qy_ (S,pl) k).1 k 0,((qy_ (S,pl) k).1.dir k).pend⟩=(qy_ (S,pl) k).1:=adl_ _ _
  have hfe: ∀j,wD_ (qy_ (S,pl) k).1 k j=wD_ S k j:=fun j=>by unfold wD_;rw[hdk]
  have hq2: (qy_ (S,pl) (k+1)).2=(qy_ (S,pl) k).2.drop 1:=rfl
  generalize qy_ (S,pl) k=q at*
  obtain⟨Sk,pk⟩:=q
  simp only at*
  refine Cw.loopG (G:=C2G) [42,43,44,9,45,46,47,48,49,50,51,41] (fun g=> [(41,vi g.j)]) (fun g=>g.L) (fun g=>g.j≤n∧DkP g.L G (z4_ Sk k ⟨(Sk.dir k).seen,wD_ Sk k g.j,(Sk.dir k).pend⟩)∧Sx.look g.L bk=some (x9_ v')∧Ext w X g.L∧(∀b o,Sx.look L1 b=some o→b≠G.t k→Sx.look g.L b=some o)) (fun g=>n - g.j) ⟨0,L1⟩ rfl rfl ?_ ?_
  ·exact⟨Nat.zero_le _,by rw[hself];exact hP1,hlk1,hE1,fun _ _ h _=>h⟩
  intro g j hg
  refine kv ?_
  obtain⟨j,L2⟩:=g
  simp only at hg ⊢
  obtain⟨hj,hP2,hlk2,hE2,hkp⟩:=hg
  by_cases hjt:j<n
  ·have d2:decide ((j:Int)< (n:Int))=true:=decide_eq_true (by omega)
   have hjm:j< (vals.take n).length:=by rw[List.length_take,Nat.min_eq_left hple];exact hjt
   have ix3:=hrw.idx false j hjm
   rw[Nat.mul_one] at ix3
   have ld3:=fun n=>aoG_ hrw hjm n
   have hvj: (vals.take n).getD j undef=vals.getD j undef:=by
    rw[List.getD_eq_getElem?_getD,List.getD_eq_getElem?_getD,List.getElem?_take_of_lt hjt]
   rw[hvj] at ld3
   have hpj:j< (S.dir k).pend.length:=by omega
   have htm: ∀ {b:Nat} {o:Obj},Sx.look L1 b=some o→tyO o≠none→b≠G.t k:=by
    intro b o hb ht e
    obtain⟨ot,mt,hot,hmt,-⟩:=hP1.stl k hlt
    rw[e,hot] at hb;cases hb
    exact ht (qK_ hmt)
   have hFj:FnP L2 G.fb (vals.getD j undef) ((S.dir k).pend.getD j vK_):=(hF1 j (by omega)).keep fun b o ho hx=>hkp b o ho (htm ho (by rcases hx with⟨s,rfl⟩ | ⟨a,rfl⟩<;>simp[tyO,kV_,KV_]))
   have hN2:=hP2.stl k hlt
   have hs2:=hP2.ok.stl k hlt
   have hl2:=hP2.ok.stlN k hlt
   have hp2:=hP2.ok.pendN k hlt
   rw[zY_] at hN2 hs2 hl2 hp2
   have hok:okC (wD_ Sk k j) ((S.dir k).pend.getD j vK_):=by rw[hfe];exact(hpn k hlt).1 j hpj
   obtain⟨fk,cap,hvf,hfk,hcall⟩:=Jy_ hFj hN2 hs2 hok
   rw[hvf] at ld3
   have hlr2:=hkp rb _ (hlr (by omega)) (htm (hlr (by omega)) (by simp[tyO]))
   have rd3:=za_ (w0:=w) hlr2
   have hrr2:=za_ (w0:=w) (hP2.dir k hlt)
   have hbk2:=htm hlk1 (by simp[tyO,x9_])
   first|with_reducible refine ks [] (And.intro @qt_ (And.intro @d2 (And.intro @ix3 (And.intro @ld3 (And.intro @rd3 (@hrr2)))))) ?_|refine kp (And.intro @qt_ (And.intro @d2 (And.intro @ix3 (And.intro @ld3 (And.intro @rd3 (@hrr2)))))) ?_
   refine Ow.callFnXC (b:=vm (G.t k)) (cap:=cap) (ars:= #[vm (G.t k)]++cap) rfl (X:=L2) (Y:= []) (List.append_nil _).symm rfl rfl rfl rfl hfk (fun w' hw' hX' hn'=>hcall w' hX' hn') (fun r D hC hS=> ?_)
   rw[List.append_nil]
   obtain⟨rfl,o',hO,hN3⟩:=hS
   have hE3:=hE2.came0 hC
   have hP3:=hP2.stl1 hlt (l':=qo_ (wD_ Sk k j) ((S.dir k).pend.getD j vK_)) (fun b o hb hne=>(hO.rest b hne).trans hb) hN3 (Wg_ _ hs2) (Jc_ hl2 hok fun h0=>hp2 _ (by show _∈ (Sk.dir k).pend;rw[hdk,List.getD_eq_getElem?_getD,List.getElem?_eq_getElem hpj];exact List.getElem_mem _) h0)
   rw[zY_,Vw_] at hP3
   have hnx:wD_ Sk k (j+1)=qo_ (wD_ Sk k j) ((S.dir k).pend.getD j vK_):=by rw[agx_ (by rw[hdk];exact hpj),hdk]
   refine ko @qt_ ?_
   first|with_reducible refine ks [] @qt_ ?_|refine kp @qt_ ?_
   exact Again.mk ⟨j+1,D⟩ (by show n - (j+1)<n - j;omega) ⟨hjt,by rw[hnx];exact hP3,(hO.rest bk hbk2).trans hlk2,hE3,fun b o hb hne=>(hO.rest b hne).trans (hkp b o hb hne)⟩ rfl rfl
  ·obtain rfl:j=n:=by omega
   have d2:decide ((j:Int)< (j:Int))=false:=decide_eq_false (by omega)
   have hN2:=hP2.stl k hlt
   have hs2:=hP2.ok.stl k hlt
   have hl2:=hP2.ok.stlN k hlt
   rw[zY_] at hN2 hs2 hl2
   obtain⟨ot,mt,hot,hmt,hnp⟩:=hN2
   have hdl2:=hP2.dir k hlt
   have hrr2:=za_ (w0:=w) hdl2
   first|with_reducible refine ks [13] (And.intro @qt_ (And.intro @d2 (@hrr2))) ?_|refine kp (And.intro @qt_ (And.intro @d2 (@hrr2))) ?_
   refine Ow.callC rfl rfl Tryz.call45 (fun w' hw'=>aei_ (G.t k) ot mt w' (hw'.has _ _ (zq_ hot)) hmt) (fun B4 v4 D4 hA4 hB4 hN4 hS4=> ?_)
   obtain⟨c,o4,rfl,rfl,hm4⟩:=hS4
   have hbc:jB_ L2 c:=z2_ fun b hb=>by
    have h1:=zx_ hA4 hb
    have h2:=hN4.le c (by simp[keys])
    omega
   have hcn:c∉keys L2:=fun hm=>by have:=zx_ hbc hm;omega
   have hl3:Sx.look (L2++ [(c,o4)]) (G.d k)=some (xv_ (G.s k) (G.t k) (G.p k)):=zi_ hdl2
   have hlc3:Sx.look (L2++ [(c,o4)]) c=some o4:=j9_ hbc
   have hkp3: ∀b o,Sx.look L2 b=some o→Sx.look (L2++ [(c,o4)]) b=some o:=fun b o h=>zi_ h
   have hE3:=hE2.app (o:=o4) (b:=c) (by have:=hN4.le c (by simp[keys]);omega)
   generalize L2++ [(c,o4)]=L3 at*
   have hr3:=za_ (w0:=w) hl3
   have st0:=fun x=>ahE_ (G.s k) (G.t k) c (G.p k) x
   have hcd:c≠G.d k:=fun e=>hcn (by rw[e];exact zg_ hdl2)
   have hl4:Sx.look (setB L3 (G.d k) (xv_ c (G.t k) (G.p k))) (G.d k)=some (xv_ c (G.t k) (G.p k)):=zB_ hl3
   have hlc4:Sx.look (setB L3 (G.d k) (xv_ c (G.t k) (G.p k))) c=some o4:=by rw[zb_ (Ne.symm hcd)];exact hlc3
   have hkp4: ∀b o,Sx.look L2 b=some o→b≠G.d k→Sx.look (setB L3 (G.d k) (xv_ c (G.t k) (G.p k))) b=some o:=fun b o h hne=>by rw[zb_ (Ne.symm hne)];exact hkp3 b o h
   have hE4:=hE3.setB (b:=G.d k) (o:=xv_ c (G.t k) (G.p k))
   refine ko (And.intro @qt_ (And.intro @hl3 (And.intro @st0 (@j0_)))) ?_
   generalize setB L3 (G.d k) (xv_ c (G.t k) (G.p k))=L4 at*
   have hr4:=za_ (w0:=w) hl4
   have st2:=fun x=>Qd_ c (G.t k) (G.p k) (.slice none 0 0) x ⟨rfl,rfl⟩
   first|with_reducible refine ks [] (And.intro @qt_ (And.intro @hl4 (And.intro @hr4 (And.intro @st2 (@j0_))))) ?_|refine kp (And.intro @qt_ (And.intro @hl4 (And.intro @hr4 (And.intro @st2 (@j0_))))) ?_
   have hkp5: ∀b o,Sx.look L2 b=some o→b≠G.t k→b≠G.d k→Sx.look (setB L4 (G.d k) (xv_ c (G.t k) (.slice none 0 0))) b=some o:=fun b o h _ hne=>by rw[zb_ (Ne.symm hne)];exact hkp4 b o h hne
   have hmd: ∀ {b:Nat} {o:Obj} {m:List (List UInt8×Option Nat)},Sx.look L2 b=some o→wB_ vs qJ_ o m→b≠G.d k:=by
    intro b o m hb hm e
    rw[e,hdl2] at hb;cases hb
    obtain⟨es,cl,h,-⟩:=hm;cases h
   have hP5:=hP2.calm hlt (s':=c) ⟨wD_ Sk k j,wD_ Sk k j,[]⟩ rfl hkp5 ⟨o4,mt,by rw[zb_ (Ne.symm hcd)];exact hlc4,hm4,hnp⟩ ⟨ot,mt,by rw[zb_ (Ne.symm (hmd hot hmt))];exact hkp4 _ _ hot (hmd hot hmt),hmt,hnp⟩ (zB_ hl4) (.inr hcn) hs2 hs2 hl2 hl2
   rw[Vw_] at hP5
   have hbkd2:bk≠G.d k:=fun e=>hbkd e
   exact Again.mk ⟨k+1,aix_ G k c,setB L4 (G.d k) (xv_ c (G.t k) (.slice none 0 0)),v'⟩ (by show 3 - (k+1)<3 - k;omega) ⟨hlt,by rw[hcr];exact hP5,rfl,by rw[zb_ (Ne.symm hbkd)];exact hkp4 _ _ hlk2 hbkd,by rw[hcr];exact hvn,by rw[hcr];exact hvn2 hvb,hE4.setB,by rw[hcr];show(pk.drop 1).length<1000000;rw[List.length_drop];omega⟩ rfl rfl
 ·obtain rfl:k=3:=by omega
  have d1:decide (((3:Nat):Int)<3)=false:=rfl
  unfold JW_
  generalize qy_ (S,pl) 3=q at*
  obtain⟨S3,p3⟩:=q
  simp only at*
  have hok1:DkOk {S3 with off:=false}:=⟨hP.ok.seen,hP.ok.stl,hP.ok.seenN,hP.ok.stlN,hP.ok.pendN,hP.ok.file,hP.ok.fuse,hP.ok.max⟩
  have hP1:=hP.setDisk {S3 with off:=false} rfl rfl hok1
  have hok2:DkOk (XC_ S3):=⟨hP.ok.seen,hP.ok.stl,hP.ok.seenN,hP.ok.stlN,hP.ok.pendN,hP.ok.file,⟨hP.ok.fuse.1,hP.ok.fuse.2.1,fun h=>by cases h⟩,hP.ok.max⟩
  have hP2:=hP1.setDisk (XC_ S3) rfl rfl hok2
  have hr0:=za_ (w0:=w) hP.disk
  have hl1:=hP.disk
  have hl2:=hP1.disk
  have st4:=fun x=>Vo_ G.bm S3 false x
  have st3:=fun x=>Vf_ G.bm {S3 with off:=false} false x
  have hrg:=rdg
  have hbkb:bk≠G.bd:=fun e=>by
   have hdd:=hP.disk
   rw[←e,hlk] at hdd
   simp[jr_,x9_] at hdd
  have hlk2:Sx.look (setB (setB L G.bd (jr_ G.bm {S3 with off:=false})) G.bd (jr_ G.bm (XC_ S3))) bk=some (x9_ v):=by
   rw[zb_ (Ne.symm hbkb),zb_ (Ne.symm hbkb)];exact hlk
  have hE2:=(hE.setB (b:=G.bd) (o:=jr_ G.bm {S3 with off:=false})).setB (b:=G.bd) (o:=jr_ G.bm (XC_ S3))
  have hr2:=rdg _ hE2
  have hr5:zy_ w (setB (setB L G.bd (jr_ G.bm {S3 with off:=false})) G.bd (jr_ G.bm {S3 with off:=false,fused:=false})) 0=_:=hr2
  have hlk5:Sx.look (setB (setB L G.bd (jr_ G.bm {S3 with off:=false})) G.bd (jr_ G.bm {S3 with off:=false,fused:=false})) bk=some (x9_ v):=hlk2
  have hE5:Ext w X (setB (setB L G.bd (jr_ G.bm {S3 with off:=false})) G.bd (jr_ G.bm {S3 with off:=false,fused:=false})):=hE2
  have hP5:DkP (setB (setB L G.bd (jr_ G.bm {S3 with off:=false})) G.bd (jr_ G.bm {S3 with off:=false,fused:=false})) G (XC_ S3):=hP2
  clear hr2 hlk2 hE2 hP2
  first|with_reducible refine ks [17] (And.intro @qt_ (And.intro @d1 (And.intro @hl1 (And.intro @hl2 (And.intro @st4 (And.intro @st3 (And.intro @j0_ (And.intro @hr5 (@kd_))))))))) ?_|refine kp (And.intro @qt_ (And.intro @d1 (And.intro @hl1 (And.intro @hl2 (And.intro @st4 (And.intro @st3 (And.intro @j0_ (And.intro @hr5 (@kd_))))))))) ?_
  generalize hL5:setB (setB L G.bd (jr_ G.bm {S3 with off:=false})) G.bd (jr_ G.bm {S3 with off:=false,fused:=false})=L5 at*
  have hdw: (XC_ S3).dir=S3.dir:=rfl
  have how: (XC_ S3).off=false:=rfl
  generalize XC_ S3=S5 at*
  refine Cw.loopG (G:=C3G) [72,73,11,74,75,76,77,78,79,80,81,13,82,83,84,85,86,87,88,89,90,91,92,14,93,94,95,96,97,98,99,100,101,102,103,104,105,106,107,108,109,110,111,112,113,114,115,116,117,118,119,120,121,122,123,124,125,126,127,71] (fun g=> [(71,vi g.k)]) (fun g=>g.L) (fun g=>g.k≤3∧DkP g.L G (ja_ (S5,p3) g.k).1∧Sx.look g.L bk=some (x9_ g.v)∧PkS w g.v (ja_ (S5,p3) g.k).2∧PkB w X (ja_ (S5,p3) g.k).2 g.v∧Ext w X g.L∧(ja_ (S5,p3) g.k).2.length<1000000) (fun g=>3 - g.k) ⟨0,L5,v⟩ rfl rfl ?_ ?_
  ·exact⟨Nat.zero_le _,hP5,hlk5,hv,hvb,hE5,hpl1⟩
  intro g j hg
  refine kv ?_
  obtain⟨k,L6,v6⟩:=g
  simp only at hg ⊢
  obtain⟨hk6,hP6,hlk6,hv6,hvb6,hE6,hpl6⟩:=hg
  by_cases hlt6:k<3
  ·have d6:decide ((k:Int)<3)=true:=decide_eq_true (by omega)
   have ixk:=vQ_ hlt6
   have hd6:=kH_ (S5,p3) k
   have ho6:=KW_ (S5,p3) k
   simp only at hd6 ho6
   have hB6:DkB (ja_ (S5,p3) k).1:=by
    intro i hi
    rw[hd6,hdw];exact hB i hi
   have hcm:ja_ (S5,p3) (k+1)=((S5.dir k).seen).foldl xs_ (ja_ (S5,p3) k):=rfl
   first|with_reducible refine ks [26] (And.intro @qt_ (And.intro @d6 (@ixk))) ?_|refine kp (And.intro @qt_ (And.intro @d6 (@ixk))) ?_
   refine Ow.callC rfl rfl Tryz.call24 (fun w' hw'=>wt_ w' G (ja_ (S5,p3) k).1 (qp_ k) (hP6.world hw') hB6) (fun B7 v7 D7 hA7 hB7 hN7 hS7=> ?_)
   rw[aau_ hlt6,hd6,ho6,how,if_neg (by simp),←JE_] at hS7
   obtain⟨sn,hsn⟩: ∃sn,(S5.dir k).seen=sn:=⟨_,rfl⟩
   rw[hsn] at hcm hS7
   have ln7:=kr_ hS7
   rw[List.length_map] at ln7
   refine ko (And.intro @qt_ @ln7) ?_
   refine Cw.world fun w1 hw1=> ?_
   obtain⟨rb,off,arr,E,fz,hr7,hlk7⟩:=hS7.rowL (z:= []) (by rw[List.length_map]) ((hw1.perm (M:=D7++L6) List.perm_append_comm).part) Wh_
   clear hw1
   have hq6:=hP6.ok.seen k hlt6
   have hsl6:=(hB6 k hlt6).1
   rw[hd6,hsn] at hq6 hsl6
   have hrn: ∀c,c∈keys L6→0<sn.length→rb≠c:=fun c hc h0 e=>by
    have h1:=zx_ hA7 hc
    have h2:=hN7.le rb (zg_ (hlk7 (by rw[List.length_map];exact h0)))
    omega
   have hlr7:0<sn.length→Sx.look (L6++D7) rb=some (.cells arr E fz):=fun h0=>by
    rw[zM_ (fun hm=>hrn rb hm h0 rfl)]
    exact hlk7 (by rw[List.length_map];exact h0)
   have hP7:DkP (L6++D7) G (ja_ (S5,p3) k).1:=hP6.mono fun b o h=>zi_ h
   have hlk8:Sx.look (L6++D7) bk=some (x9_ v6):=zi_ hlk6
   have hE7:Ext w X (L6++D7):=⟨fun c hc=>by
    rw[zo_] at hc
    rcases List.mem_append.1 hc with h|h
    ·exact hE6.new c h
    ·exact .inr (Nat.le_trans hB7 (hN7.le c h)),fun c hc=>by rw[zo_];exact List.mem_append_left _ (hE6.all c hc)⟩
   have hfk: ∀n,n< (ja_ (S5,p3) k).1.files.length→G.fb.getD n 0∈keys L6:=fun n hn=>zg_ (hP6.file n hn)
   have hbk6:=zg_ hlk6
   clear hlk7 hS7
   generalize L6++D7=L7 at*
   refine Cw.loopG (G:=C4G) [79,80,81,13,82,83,84,85,86,87,88,89,90,91,92,14,93,94,95,96,97,98,99,100,101,102,103,104,105,106,107,108,109,110,111,112,113,114,115,116,117,118,119,120,121,122,123,124,125,126,78] (fun g=> [(78,vi g.j)]) (fun g=>g.L) (fun g=>g.j≤sn.length∧DkP g.L G ((sn.take g.j).foldl xs_ (ja_ (S5,p3) k)).1∧Sx.look g.L bk=some (x9_ g.v)∧PkS w g.v ((sn.take g.j).foldl xs_ (ja_ (S5,p3) k)).2∧PkB w X ((sn.take g.j).foldl xs_ (ja_ (S5,p3) k)).2 g.v∧Ext w X g.L∧((sn.take g.j).foldl xs_ (ja_ (S5,p3) k)).2.length<1000000∧(0<sn.length→Sx.look g.L rb=some (.cells arr E fz))) (fun g=>sn.length - g.j) ⟨0,L7,v6⟩ rfl rfl ?_ ?_
   ·exact⟨Nat.zero_le _,hP7,hlk8,hv6,hvb6,hE7,hpl6,hlr7⟩
   intro g j hg
   refine kv ?_
   obtain⟨j,L8,v8⟩:=g
   simp only at hg ⊢
   obtain⟨hj,hP8,hlk9,hv8,hvb8,hE8,hpl8,hlr8⟩:=hg
   by_cases hjt:j<sn.length
   ·have d2:decide ((j:Int)< (sn.length:Int))=true:=decide_eq_true (by omega)
    have hjm:j< (sn.map Prod.fst).length:=by rw[List.length_map];exact hjt
    have ix3:=hr7.idx false j hjm
    rw[Nat.mul_one] at ix3
    have ld3:=fun n=>VL_ hr7 hjm n
    have hlrb:=hlr8 (by omega)
    have rd3:=za_ (w0:=w) hlrb
    have hp:sn[j]'hjt∈sn:=List.getElem_mem _
    have hse: (sn.map Prod.fst).getD j []=(sn[j]'hjt).1:=by simp[List.getD_eq_getElem?_getD,hjt]
    have hts:sn.take (j+1)=sn.take j++ [sn[j]'hjt]:=by
     rw[List.take_add_one];simp[hjt]
    rw[hse] at ld3
    generalize sn[j]'hjt=p at*
    obtain⟨x,n⟩:=p
    have hd8: ((sn.take j).foldl xs_ (ja_ (S5,p3) k)).1.dir=S5.dir:=by rw[K1_,kH_]
    have hfl8: ((sn.take (j+1)).foldl xs_ (ja_ (S5,p3) k))=xs_ ((sn.take j).foldl xs_ (ja_ (S5,p3) k)) (x,n):=by rw[hts,List.foldl_append];rfl
    generalize (sn.take j).foldl xs_ (ja_ (S5,p3) k)=q8 at*
    obtain⟨S8,p8⟩:=q8
    simp only at hP8 hv8 hpl8 hd8 ld3
    have hsk: (S8.dir k).seen=sn:=by rw[hd8];exact hsn
    obtain⟨om,hom,hM⟩:=hP8.dirs
    obtain⟨os,ms,hos,hms,hnp⟩:=hP8.seen k hlt6
    rw[hsk] at hnp
    have hfn:zC_ sn x=some n:=Jq_ hq6.nodup hp
    have hnl:n<S8.files.length:=hP8.ok.seenN k hlt6 _ (by rw[hsk];exact hp)
    have rdd:=za_ (w0:=w) hP8.disk
    have rdr:=za_ (w0:=w) (hP8.dir k hlt6)
    have hlf:=hP8.file n hnl
    have rdf:=za_ (w0:=w) hlf
    have hpd:qJ_ (some (G.d k))=vp (G.d k) 0:=rfl
    have hpf:qJ_ (some (G.fb.getD n 0))=vp (G.fb.getD n 0) 0:=rfl
    first|with_reducible refine ks [] (And.intro @qt_ (And.intro @d2 (And.intro @ix3 (And.intro @ld3 (And.intro @rd3 (@rdd)))))) ?_|refine kp (And.intro @qt_ (And.intro @d2 (And.intro @ix3 (And.intro @ld3 (And.intro @rd3 (@rdd)))))) ?_
    refine kq (And.intro @qt_ @rdd) ?_
    refine Ow.mapGetG (encK:=vs) (encV:=qJ_) (k:=qp_ k) (z:=none) rfl rfl Tryz.underlying62 jF_ zrPd rfl rfl (za_ hom) hM ?_
    rw[Zt_,jx_ hlt6]
    show Ow _ _ _ _ _ _ _ _
    refine ko (And.intro @qt_ (And.intro @hpd (@rdr))) ?_
    refine Ow.mapGetG (encK:=vs) (encV:=qJ_) (k:=x) (z:=none) rfl rfl Tryz.underlying68 jF_ zrPf rfl rfl (za_ hos) hms ?_
    rw[hnp.get hq6.nodup,hfn]
    show Ow _ _ _ _ _ _ _ _
    refine ko (And.intro @qt_ @hpf) ?_
    have hfo:=vb_ hP8.ok hnl
    have hrf2:zy_ w L8 (G.fb.getD n 0)=some (xF_ (zz_ S8 n)):=rdf
    have hfd:S8.files.getD n qO_=zz_ S8 n:=rfl
    rw[hfd] at hlf
    clear rdf
    have hcf:xs_ (S8,p8) (x,n)=(J4_ S8 n ⟨(zz_ S8 n).data.take ((zz_ S8 n).stl+vv_ p8 ((zz_ S8 n).data.length - (zz_ S8 n).stl)),((zz_ S8 n).data.take ((zz_ S8 n).stl+vv_ p8 ((zz_ S8 n).data.length - (zz_ S8 n).stl))).length⟩,p8.drop 1):=rfl
    rw[hcf] at hfl8
    have hple8:=afi_ p8 ((zz_ S8 n).data.length - (zz_ S8 n).stl)
    generalize zz_ S8 n=f at*
    have hsub: (f.data.length:Int) - (f.stl:Int)=((f.data.length - f.stl:Nat):Int):=by omega
    refine Cw.regionG [G.fb.getD n 0] [25] 26 (by kernel_rfl) rfl ?_
    simp only[List.replicate_succ,List.replicate_zero]
    refine OwG.run [0,1,2,3,4,5,6,7,8,9,10,11,12,13,14,15,16,17,18,19] [true,true,true,true,true,true,true,true,true,true,true,true,true,true,true,true,true,true,true,true,false,false,false,false,false,false] 6 rfl (by kernel_rfl) (by kernel_rfl) fun k hk=> ?_
    simp only[zj_, ↓zf_, ↓zc_, ↓zw_, ↓zv_,zd_]
    simp(disch:=(first|assumption|omega| (simp only[w5_,wR_,UInt64.reduceToNat];try omega))) only[↓Sx.S0,Sx.S1,Tryz.fx,qt_,Nat.reduceAdd,Nat.reducePow,Int.reducePow,Nat.reduceBEq, ↓reduceIte,UInt8.reduceToNat,UInt16.reduceToNat,UInt32.reduceToNat,UInt64.reduceToNat,Int.reduceToNat,Md.next_sofnil,hrf2,hsub]
    (with_reducible refine hk _ _ _ ?_);clear hk k
    refine OwG.one 20 _ (by kernel_rfl) rfl ?_
    refine Ow.callFnXC (b:=vi ((f.data.length - f.stl:Nat):Int)) (ars:= #[vi ((f.data.length - f.stl:Nat):Int),vp bk 0]) rfl (X:=L8) (Y:= []) (List.append_nil _).symm rfl rfl rfl rfl Tryz.call44 (fun w' hw' hX' hn'=>Rets.chunk hX' hn' (zg_ hlk9) (Vm_ (f.data.length - f.stl) bk v8 p8 w' (by omega) (hv8.old hw' fun hq b hb=>hE8.not (hvb8 hq b hb).1 (hvb8 hq b hb).2) hpl8 (fun hq e=>by have:=(hvb8 hq bk e).1;omega) (hX' _ (zq_ hlk9)))) (fun r D hC hS=> ?_)
    rw[List.append_nil]
    obtain⟨o,rfl,rfl,v9,rfl,hv1,hv2⟩:=hS
    obtain⟨hvn,hvn2⟩:=ab8_ hv8 hv1 hv2
    have hE9:=hE8.came0 hC
    have hP9:=hP8.away hlk9 (x9_ v9)
    have hk9: ∀b o,Sx.look L8 b=some o→tyO o≠some 99→Sx.look (setB L8 bk (x9_ v9)) b=some o:=fun b o hb ht=>qc_ hlk9 hb ht
    have hlf9:Sx.look (setB L8 bk (x9_ v9)) (G.fb.getD n 0)=some (xF_ f):=hk9 _ _ hlf (by simp[tyO,xF_])
    have hlkA:Sx.look (setB L8 bk (x9_ v9)) bk=some (x9_ v9):=zB_ hlk9
    have hrbA:Sx.look (setB L8 bk (x9_ v9)) rb=some (.cells arr E fz):=by rw[zb_ (fun e=>hrn bk hbk6 (by omega) e.symm)];exact hlrb
    have hrf9:=za_ (w0:=w) hlf9
    generalize vv_ p8 (f.data.length - f.stl)=m at*
    have hadd: (f.stl:Int)+ (m:Int)=((f.stl+m:Nat):Int):=by omega
    have hbkf:bk≠G.fb.getD n 0:=fun e=>by
     rw[←e,hlkA] at hlf9
     simp[xF_,x9_] at hlf9
    generalize setB L8 bk (x9_ v9)=L9 at*
    have st0:=fun x=>Qo_ f (f.data.take (f.stl+m)) x
    with_reducible refine Ow.nil ?_
    refine⟨(fun b hb=>by rw[List.mem_singleton] at hb;subst hb;rw[hrf2,hrf9]), ?_⟩
    simp only[List.set_cons_zero,List.set_cons_succ,jA_,vq_,vs_]
    refine OwG.rest [21,22,23,24,25] rfl (by kernel_rfl) (by kernel_rfl) ?_
    simp only[zj_, ↓zf_, ↓zc_, ↓zw_, ↓zv_,zd_]
    refine kq (And.intro @qt_ @hadd) ?_
    refine Ow.store rfl rfl rfl (ke (And.intro @qt_ (And.intro @hlf9 (@st0)))) ?_
    have htl: (f.data.take (f.stl+m)).length≤f.data.length:=by rw[List.length_take];omega
    have htl2:f.stl≤ (f.data.take (f.stl+m)).length:=by rw[List.length_take];omega
    have hlB:Sx.look (setB L9 (G.fb.getD n 0) (xF_ ⟨f.data.take (f.stl+m),f.stl⟩)) (G.fb.getD n 0)=some (xF_ ⟨f.data.take (f.stl+m),f.stl⟩):=zB_ hlf9
    have hrB:=za_ (w0:=w) hlB
    have st1:=fun x=>Qf_ ⟨f.data.take (f.stl+m),f.stl⟩ (f.data.take (f.stl+m)).length x
    have hokA:=ws_ (n:=n) (f:=⟨f.data.take (f.stl+m),f.stl⟩) hP8.ok ⟨Nat.le_trans htl hfo.1,htl2⟩
    have hPA:=hP9.setFile hnl ⟨f.data.take (f.stl+m),f.stl⟩ hokA
    have hokB:=ws_ (n:=n) (f:=⟨f.data.take (f.stl+m),(f.data.take (f.stl+m)).length⟩) hokA ⟨Nat.le_trans htl hfo.1,Nat.le_refl _⟩
    have hPB:=hPA.setFile (by rw[List.length_set];exact hnl) ⟨f.data.take (f.stl+m),(f.data.take (f.stl+m)).length⟩ hokB
    simp only[List.set_set] at hPB
    have hEB:=(hE9.setB (b:=G.fb.getD n 0) (o:=xF_ ⟨f.data.take (f.stl+m),f.stl⟩)).setB (b:=G.fb.getD n 0) (o:=xF_ ⟨f.data.take (f.stl+m),(f.data.take (f.stl+m)).length⟩)
    have hrf:rb≠G.fb.getD n 0:=hrn _ (hfk n (by have:=hP6.len;have:=hP8.len;omega)) (by omega)
    have hlkB:Sx.look (setB (setB L9 (G.fb.getD n 0) (xF_ ⟨f.data.take (f.stl+m),f.stl⟩)) (G.fb.getD n 0) (xF_ ⟨f.data.take (f.stl+m),(f.data.take (f.stl+m)).length⟩)) bk=some (x9_ v9):=by
     rw[zb_ (Ne.symm hbkf),zb_ (Ne.symm hbkf)];exact hlkA
    have hrbB:Sx.look (setB (setB L9 (G.fb.getD n 0) (xF_ ⟨f.data.take (f.stl+m),f.stl⟩)) (G.fb.getD n 0) (xF_ ⟨f.data.take (f.stl+m),(f.data.take (f.stl+m)).length⟩)) rb=some (.cells arr E fz):=by
     rw[zb_ (Ne.symm hrf),zb_ (Ne.symm hrf)];exact hrbA
    refine ko (And.intro @qt_ (And.intro @j0_ (And.intro @hrB (And.intro @hlB (@st1))))) ?_
    first|with_reducible refine ks [] @qt_ ?_|refine kp @qt_ ?_
    exact Again.mk ⟨j+1,setB (setB L9 (G.fb.getD n 0) (xF_ ⟨f.data.take (f.stl+m),f.stl⟩)) (G.fb.getD n 0) (xF_ ⟨f.data.take (f.stl+m),(f.data.take (f.stl+m)).length⟩),v9⟩ (by show sn.length - (j+1)<sn.length - j;omega) ⟨hjt,by rw[hfl8];exact hPB,hlkB,by rw[hfl8];exact hvn,by rw[hfl8];exact hvn2 hvb8,hEB,by rw[hfl8];show(p8.drop 1).length<1000000;rw[List.length_drop];omega,fun _=>hrbB⟩ rfl rfl
   ·obtain rfl:j=sn.length:=by omega
    have d2:decide ((sn.length:Int)< (sn.length:Int))=false:=decide_eq_false (by omega)
    rw[List.take_length] at hP8 hv8 hvb8 hpl8
    first|with_reducible refine ks [] (And.intro @qt_ @d2) ?_|refine kp (And.intro @qt_ @d2) ?_
    first|with_reducible refine ks [] @qt_ ?_|refine kp @qt_ ?_
    exact Again.mk ⟨k+1,L8,v8⟩ (by show 3 - (k+1)<3 - k;omega) ⟨hlt6,by rw[hcm];exact hP8,hlk9,by rw[hcm];exact hv8,by rw[hcm];exact hvb8,hE8,by rw[hcm];exact hpl8⟩ rfl rfl
  ·obtain rfl:k=3:=by omega
   have d6:decide (((3:Nat):Int)<3)=false:=rfl
   first|with_reducible refine ks [] (And.intro @qt_ @d6) ?_|refine kp (And.intro @qt_ @d6) ?_
   refine⟨_,(ke @qt_), ?_⟩
   exact⟨hE6,G,rfl,hP6⟩
end Go.Proofs
end
section
open Go Go.Proofs Go.Sx Go.StP
namespace Go.Proofs
set_option maxRecDepth 10000
set_option maxHeartbeats 400000
set_option linter.unusedSimpArgs false
def ahZ_ (d:DirL):Prop:=d.pend.foldl qo_ d.stl=d.seen∧aq1_ d
def xY_ (S:DiskL):Prop:= ∀k,ahZ_ (S.dir k)
theorem ky_ (l:NmL):ahZ_ ⟨l,l,[]⟩:=⟨rfl,fun i hi=>absurd hi (Nat.not_lt_zero i)⟩
theorem ahX_ {d:DirL} {c:CallL} (h:ahZ_ d) (hok:okC d.seen c):ahZ_ ⟨qo_ d.seen c,d.stl,d.pend++ [c]⟩:=by
 refine⟨by show(d.pend++ [c]).foldl qo_ d.stl=_;rw[List.foldl_append,h.1];rfl,fun i hi=> ?_⟩
 have hi':i< (d.pend++ [c]).length:=hi
 show okC (((d.pend++ [c]).take i).foldl qo_ d.stl) ((d.pend++ [c]).getD i vK_)
 by_cases e:i<d.pend.length
 ·rw[List.take_append_of_le_length (by omega),List.getD_eq_getElem?_getD,List.getElem?_append_left e,←List.getD_eq_getElem?_getD]
  exact h.2 i e
 ·rw[List.length_append,List.length_singleton] at hi'
  obtain rfl:i=d.pend.length:=by omega
  rw[List.take_append_of_le_length (Nat.le_refl _),List.take_length,h.1,List.getD_eq_getElem?_getD,List.getElem?_append_right (Nat.le_refl _),Nat.sub_self]
  exact hok
theorem vg_ {S S':DiskL} (h:xY_ S) (e:S'.dir=S.dir):xY_ S':=fun k=>by rw[e];exact h k
theorem vi_ {S:DiskL} (h:xY_ S) {k:Nat} {d:DirL} (hd:ahZ_ d):xY_ (z4_ S k d):=fun j=>by
 by_cases e:j=k
 ·subst e;rw[zY_];exact hd
 ·rw[qv_ _ _ e];exact h j
theorem wn_ {S:DiskL} (h:xY_ S) {k:Nat} {c:CallL} (hok:okC (S.dir k).seen c):xY_ (w2_ S k c):=vi_ h (ahX_ (h k) hok)
theorem vH_ {S:DiskL} (h:xY_ S):xY_ (zl_ S).1:=vg_ h (jb_ S).1
theorem al6_ (q:Int):xY_ (wK_ q):=fun _=>ky_ []
theorem aed_ {S:DiskL} (h:xY_ S) (dir name:List UInt8):xY_ (zR_ S dir name).1:=by
 unfold zR_
 split
 ·exact h
 ·split
  ·exact h
  ·split
   ·exact vH_ h
   ·exact wn_ (vH_ h) (fun e=>by cases e)
theorem aat_ {S:DiskL} (h:xY_ S) (dir:List UInt8):xY_ (zS_ S dir).1:=by
 unfold zS_
 split
 ·exact h
 ·split
  ·exact vH_ h
  ·exact vi_ (vH_ h) (ky_ _)
theorem Xl_ {q:DiskL×List UInt16} (h:xY_ q.1): ∀k,xY_ (qy_ q k).1
 |0=>h
 |k+1=>vi_ (Xl_ h k) (ky_ _)
theorem agr_ {S:DiskL} (h:xY_ S) (pl:List UInt16):xY_ (JW_ S pl):=by
 unfold JW_
 refine vg_ (S:=XC_ (qy_ (S,pl) 3).1) ?_ (kH_ _ 3)
 exact vg_ (Xl_ (q:=(S,pl)) h 3) rfl
end Go.Proofs
end
section
open Go Go.Proofs Go.Sx Go.StP
namespace Go.Proofs
set_option maxRecDepth 10000
set_option maxHeartbeats 400000
set_option linter.unusedSimpArgs false
def NmB (l:NmL):Prop:= ∀p,p∈l→p.1.length≤1000000
def akK_ (c:CallL):Prop:=c.a.length≤1000000∧c.b.length≤1000000
structure DirB (N:Nat) (d:DirL):Prop where
 seen:d.seen.length≤N
 stl:d.stl.length+d.pend.length≤N
 seenB:NmB d.seen
 stlB:NmB d.stl
 pendB: ∀c,c∈d.pend→akK_ c
def DkN (N:Nat) (S:DiskL):Prop:= ∀k,DirB N (S.dir k)
theorem DkN.b {N:Nat} {S:DiskL} (h:DkN N S) (hN:N≤1000000):DkB S:=fun k _=>⟨Nat.le_trans (h k).seen hN,(h k).seenB⟩
theorem DirB.mono {N M:Nat} {d:DirL} (h:DirB N d) (hm:N≤M):DirB M d:=⟨Nat.le_trans h.seen hm,Nat.le_trans h.stl hm,h.seenB,h.stlB,h.pendB⟩
theorem DkN.mono {N M:Nat} {S:DiskL} (h:DkN N S) (hm:N≤M):DkN M S:=fun k=>(h k).mono hm
theorem ZE_ (l:NmL) (s:List UInt8): (qC_ l s).length≤l.length:=List.length_filter_le _ _
theorem Jr_ (l:NmL) (x:List UInt8×Nat): (XY_ l x).length≤l.length+1:=by
 have h1:=(xe_ x (qC_ l x.1)).length_eq
 have h2:=ZE_ l x.1
 rw[List.length_cons] at h1
 show(insN (qC_ l x.1) x).length≤_
 omega
theorem abC_ (l:NmL) (c:CallL): (qo_ l c).length≤l.length+1:=by
 unfold qo_
 split
 ·exact Jr_ l _
 ·have h1:=Jr_ (qC_ l c.a) (c.b,(zC_ l c.a).getD 0)
  have h2:=ZE_ l c.a
  omega
 ·exact Nat.le_succ_of_le (ZE_ l _)
theorem adr_ {l:NmL} (h:NmB l) (s:List UInt8):NmB (qC_ l s):=fun p hp=>h p (List.mem_filter.1 hp).1
theorem ak3_ {l:NmL} (h:NmB l) {x:List UInt8×Nat} (hx:x.1.length≤1000000):NmB (XY_ l x):=fun p hp=>by
 have:=(xe_ x (qC_ l x.1)).mem_iff.1 hp
 rcases List.mem_cons.1 this with rfl|h1
 ·exact hx
 ·exact adr_ h _ p h1
theorem akf_ {l:NmL} (h:NmB l) {c:CallL} (hc:akK_ c):NmB (qo_ l c):=by
 unfold qo_
 split
 ·exact ak3_ h hc.1
 ·exact ak3_ (adr_ h _) hc.2
 ·exact adr_ h _
theorem aj6_: ∀ (cs:List CallL) {l:NmL},NmB l→(∀c,c∈cs→akK_ c)→NmB (cs.foldl qo_ l)∧(cs.foldl qo_ l).length≤l.length+cs.length
 | [],l,h,_=>⟨h,Nat.le_refl _⟩
 |c::cs,l,h,hc=>by
  have h1:=aj6_ cs (akf_ h (hc c List.mem_cons_self)) (fun c' h'=>hc c' (List.mem_cons_of_mem _ h'))
  have h2:=abC_ l c
  refine⟨h1.1, ?_⟩
  have h3:=h1.2
  rw[List.length_cons]
  show(List.foldl qo_ (qo_ l c) cs).length≤_
  omega
theorem akX_ {N:Nat} {d:DirL} {c:CallL} (h:DirB N d) (hc:akK_ c):DirB (N+1) ⟨qo_ d.seen c,d.stl,d.pend++ [c]⟩ where
 seen:=by have:=abC_ d.seen c;have:=h.seen;show(qo_ d.seen c).length≤_;omega
 stl:=by have:=h.stl;show d.stl.length+ (d.pend++ [c]).length≤_;rw[List.length_append,List.length_singleton];omega
 seenB:=akf_ h.seenB hc
 stlB:=h.stlB
 pendB:=fun c' h'=>by
  rcases List.mem_append.1 h' with h'|h'
  ·exact h.pendB c' h'
  ·rw[List.mem_singleton.1 h'];exact hc
theorem vW_ {N:Nat} {l:NmL} (h:l.length≤N) (hb:NmB l):DirB N ⟨l,l,[]⟩:=⟨h,h,hb,hb,fun c hc=>by cases hc⟩
theorem kM_ {N:Nat} {S:DiskL} (h:DkN N S) {k:Nat} {d:DirL} (hd:DirB N d):DkN N (z4_ S k d):=fun j=>by
 by_cases e:j=k
 ·subst e;rw[zY_];exact hd
 ·rw[qv_ _ _ e];exact h j
theorem v5_ {N:Nat} {S S':DiskL} (h:DkN N S) (e:S'.dir=S.dir):DkN N S':=fun k=>by rw[e];exact h k
theorem ZR_ {N:Nat} {S:DiskL} (h:DkN N S) {k:Nat} {c:CallL} (hc:akK_ c):DkN (N+1) (w2_ S k c):=kM_ (h.mono (Nat.le_succ N)) (akX_ (h k) hc)
theorem ZZ_ {N:Nat} {q:DiskL×List UInt16} (h:DkN N q.1): ∀k,DkN N (qy_ q k).1
 |0=>h
 |k+1=>by
  have h1:=ZZ_ h k
  have hd:=h1 k
  show DkN N (afH_ (qy_ q k) k).1
  generalize qy_ q k=r at*
  refine kM_ h1 ?_
  have h2:=aj6_ ((r.1.dir k).pend.take (vv_ r.2 (r.1.dir k).pend.length)) hd.stlB (fun c hc=>hd.pendB c (List.mem_of_mem_take hc))
  refine vW_ ?_ h2.1
  have h3:=h2.2
  rw[List.length_take] at h3
  have h4:=hd.stl
  show(List.foldl qo_ _ _).length≤N
  omega
theorem ah6_ {N:Nat} {S:DiskL} (h:DkN N S) (pl:List UInt16):DkN N (JW_ S pl):=by
 unfold JW_
 refine v5_ (S:=XC_ (qy_ (S,pl) 3).1) ?_ (kH_ _ 3)
 exact v5_ (ZZ_ (q:=(S,pl)) h 3) rfl
theorem aiI_ (q:Int):DkN 0 (wK_ q):=fun _=>vW_ (Nat.le_refl 0) fun _ h=>by cases h
end Go.Proofs
end
section
open Go Go.Proofs Go.Sx Go.StP
namespace Go.Proofs
set_option maxRecDepth 10000
set_option maxHeartbeats 400000
set_option linter.unusedSimpArgs false
theorem af3_ (X:ze_) (G:DkG) (S:DiskL) (n:Int) (w:World) (hX: ∀p,p∈X→w.heap[p.1]? =some p.2) (hnd: (keys X).Nodup) (hP:DkP X G S) (hn: -9223372036854775808≤n∧n<9223372036854775808):
  Rets Tryz.prog 9 #[vp G.bd 0,vi n] w (XS w X (fun v D=>v=kD_ []∧ ∃G',G'.bd=G.bd∧DkP D G' {S with fuse:=n,fused:=decide (0≤n)})):=by
 refine Rets.mono (Rets.chunk hX hnd (zg_ hP.disk) (age_ G.bd G.bm S n w (hX _ (zq_ hP.disk)))) ?_
 rintro v D ⟨hE,o,rfl,rfl,rfl⟩
 exact⟨hE,rfl,G,rfl,hP.setDisk {S with fuse:=n,fused:=decide (0≤n)} rfl rfl ⟨hP.ok.seen,hP.ok.stl,hP.ok.seenN,hP.ok.stlN,hP.ok.pendN,hP.ok.file,⟨hn.1,hn.2,fun h=>by simpa using h⟩,hP.ok.max⟩⟩
end Go.Proofs
end
section
open Go Go.Proofs Go.Sx Go.StP
namespace Go.Proofs
set_option maxRecDepth 10000
set_option maxHeartbeats 400000
set_option linter.unusedSimpArgs false
theorem adi_ (S:DiskL) (f:FiL) (h: ∀k,(S.dir k).pend= []∧(S.dir k).stl= []): ∀k,((zO_ S f).dir k).pend= []∧((zO_ S f).dir k).stl= []:=by
 intro k
 unfold zO_
 split
 ·rename_i j hj
  split
  ·by_cases e:k=j
   ·subst e;rw[zY_];exact⟨(h k).1,(h k).2⟩
   ·rw[qv_ _ _ e];exact h k
  ·exact h k
 ·exact h k
theorem XI_ (l:List FiL): ∀ (S:DiskL),(∀k,(S.dir k).pend= []∧(S.dir k).stl= [])→ ∀k,((l.foldl zO_ S).dir k).pend= []∧((l.foldl zO_ S).dir k).stl= []:=by
 induction l with
 |nil=>exact fun _ h=>h
 |cons f l ih=>exact fun S h=>ih _ (adi_ S f h)
theorem amS_ {N:Nat} {S:DiskL} (h:DkN N S) (f:FiL) (hf:f.name.length≤1000000):DkN (N+1) (zO_ S f):=by
 unfold zO_
 split
 ·split
  ·rename_i k hk hc
   refine kM_ (v5_ (h.mono (Nat.le_succ N)) rfl) ⟨?_,Nat.le_succ_of_le (h k).stl,ak3_ (h k).seenB hf,(h k).stlB,(h k).pendB⟩
   have h1:=Jr_ (S.dir k).seen (f.name,S.files.length)
   have h2:=(h k).seen
   show(XY_ (S.dir k).seen (f.name,S.files.length)).length≤N+1
   omega
  ·exact h.mono (Nat.le_succ N)
 ·exact h.mono (Nat.le_succ N)
theorem aeJ_: ∀ (l:List FiL) {N:Nat} {S:DiskL},DkN N S→(∀f,f∈l→f.name.length≤1000000)→DkN (N+l.length) (l.foldl zO_ S)
 | [],_,_,h,_=>h
 |f::l,N,S,h,hf=>by
  have h1:=aeJ_ l (amS_ h f (hf f List.mem_cons_self)) (fun g hg=>hf g (List.mem_cons_of_mem _ hg))
  rw[List.length_cons,show N+ (l.length+1)=N+1+l.length by omega]
  exact h1
theorem agu_ (S:DiskL) (f:FiL) (h: ∀k,3≤k→(S.dir k).seen= []): ∀k,3≤k→((zO_ S f).dir k).seen= []:=by
 intro k hk
 unfold zO_
 split
 ·rename_i j hj
  split
  ·have h3:=(z3_ hj).1
   rw[qv_ _ _ (by omega)];exact h k hk
  ·exact h k hk
 ·exact h k hk
theorem ahB_ (l:List FiL): ∀ (S:DiskL),(∀k,3≤k→(S.dir k).seen= [])→ ∀k,3≤k→((l.foldl zO_ S).dir k).seen= []:=by
 induction l with
 |nil=>exact fun _ h=>h
 |cons f l ih=>exact fun S h=>ih _ (agu_ S f h)
theorem aeO_ (S:DiskL) (k:Nat): (setV S [0,1,2]).dir k=if k∈ [0,1,2] then⟨(S.dir k).seen,(S.dir k).seen,[]⟩ else S.dir k:=rfl
theorem anT_ (q:Int) (l:List FiL):xY_ (ofD q l):=fun k=>by
 have h1:=XI_ l (wK_ q) (fun _=>⟨rfl,rfl⟩) k
 have h2:=ahB_ l (wK_ q) (fun _ _=>rfl) k
 unfold ofD
 rw[aeO_]
 generalize l.foldl zO_ (wK_ q)=S at*
 split
 ·exact ky_ _
 ·rename_i hk
  have h3:3≤k:=by
   simp only[List.mem_cons,List.not_mem_nil,or_false,not_or] at hk
   omega
  have h4:=h2 h3
  generalize S.dir k=d at*
  obtain⟨a,b,c⟩:=d
  simp only at h1 h4
  obtain⟨rfl,rfl⟩:=h1
  subst h4
  exact ky_ []
theorem aqT_ (q:Int) (l:List FiL) (hf: ∀f,f∈l→f.name.length≤1000000):DkN l.length (ofD q l):=fun k=>by
 have h1:=aeJ_ l (aiI_ q) hf k
 rw[Nat.zero_add] at h1
 unfold ofD
 rw[aeO_]
 split
 ·exact vW_ h1.seen h1.seenB
 ·exact h1
end Go.Proofs
end
section
open Go Go.Proofs Go.Sx Go.StP
namespace Go.Proofs
set_option maxRecDepth 10000
set_option maxHeartbeats 400000
set_option linter.unusedSimpArgs false
theorem kY_ {N:Nat} {S:DiskL} (h:DkN N S):DkN N (zl_ S).1:=v5_ h (jb_ S).1
theorem Qx_ {N:Nat} {S:DiskL} (h:DkN N S):DkN (N+1) S:=h.mono (Nat.le_succ N)
theorem agH_ {N:Nat} {S:DiskL} (h:DkN N S) (dir:List UInt8) {name:List UInt8} (hn:name.length≤1000000):DkN (N+1) (zR_ S dir name).1:=by
 unfold zR_
 split
 ·exact Qx_ h
 ·split
  ·exact Qx_ h
  ·split
   ·exact Qx_ (kY_ h)
   ·exact ZR_ (kY_ h) ⟨hn,Nat.zero_le _⟩
theorem acB_ {N:Nat} {S:DiskL} (h:DkN N S) (dir:List UInt8):DkN N (zS_ S dir).1:=by
 unfold zS_
 split
 ·exact h
 ·split
  ·exact kY_ h
  ·exact kM_ (kY_ h) (vW_ ((kY_ h) _).seen ((kY_ h) _).seenB)
theorem Q3_ {S:DiskL} (ok:DkOk S): ∀ (l:NmL),(∀p,p∈l→p.2<S.files.length)→j5_ S l≤l.length*1048576
 | [],_=>Nat.zero_le _
 |p::l,h=>by
  have h1:=Q3_ ok l fun q hq=>h q (List.mem_cons_of_mem _ hq)
  have h2:=(vb_ ok (h p List.mem_cons_self)).1
  unfold j5_ zz_ at*
  rw[List.map_cons,List.sum_cons,List.length_cons]
  omega
theorem afM_ {N:Nat} {S:DiskL} (ok:DkOk S) (h:DkN N S):xO_ S≤3* (N*1048576):=by
 have h0:=Q3_ ok _ (ok.seenN 0 (by omega))
 have h1:=Q3_ ok _ (ok.seenN 1 (by omega))
 have h2:=Q3_ ok _ (ok.seenN 2 (by omega))
 have g0:=Nat.mul_le_mul_right 1048576 (h 0).seen
 have g1:=Nat.mul_le_mul_right 1048576 (h 1).seen
 have g2:=Nat.mul_le_mul_right 1048576 (h 2).seen
 unfold xO_
 omega
end Go.Proofs
end
section
open Go Go.Proofs Go.Sx Go.StP
namespace Go.Proofs
set_option maxRecDepth 10000
set_option maxHeartbeats 400000
set_option linter.unusedSimpArgs false
def aq0_ (S:DiskL):Prop:= ∀j k,j<3→k<3→ ∀p,p∈ (S.dir j).seen→ ∀q,q∈ (S.dir k).seen→p.2=q.2→j=k∧p=q
def LtS (S:DiskL):Prop:= ∀k,k<3→ ∀p,p∈ (S.dir k).seen→p.2<S.files.length
end Go.Proofs
end
section
open Go Go.Proofs Go.Sx Go.StP
namespace Go.Proofs
set_option maxRecDepth 10000
set_option maxHeartbeats 400000
set_option linter.unusedSimpArgs false
def doV (S:DiskL) (kind:Int) (dir name s:List UInt8):DiskL×Nat:=
 if kind=0 then j3_ S dir name else if kind=1 then xH_ S dir name s else if kind=2 then Xo_ S dir name else if kind=3 then zS_ S dir else if kind=4 then j7_ S dir name s else if kind=5 then zR_ S dir name else(S,0)
inductive StepD (S:DiskL) (kind:Int) (dir name s:List UInt8):DiskL→Nat→Prop
 |same (e:Nat) (h:e≠0∨(kind≠2∧kind≠3)):StepD S kind dir name s S e
 |burn (h:kind≠2∧kind≠3∨(zl_ S).2≠0):StepD S kind dir name s (zl_ S).1 (zl_ S).2
 |create (k:Nat) (hk:zD_ dir=some k) (hf:qn_ name=true) (hn:zC_ (S.dir k).seen name=none) (hb: (zl_ S).2=0):StepD S kind dir name s (w2_ (kg_ (zl_ S).1 qO_) k ⟨0,name,[],S.files.length⟩) 0
 |append (k m:Nat) (hk:zD_ dir=some k) (hm:zC_ (S.dir k).seen name=some m) (hf:vu_ S m s=false) (hb: (zl_ S).2=0):StepD S kind dir name s (J4_ (zl_ S).1 m ⟨(zz_ S m).data++s,(zz_ S m).stl⟩) 0
 |sync (k m:Nat) (hk:zD_ dir=some k) (hm:zC_ (S.dir k).seen name=some m) (hb: (zl_ S).2=0):StepD S kind dir name s (J4_ (zl_ S).1 m ⟨(zz_ S m).data,(zz_ S m).data.length⟩) 0
 |syncDir (k:Nat) (hk:zD_ dir=some k) (hb: (zl_ S).2=0):StepD S kind dir name s (jV_ (zl_ S).1 k) 0
 |rename (k m:Nat) (h4:kind=4) (hk:zD_ dir=some k) (hm:zC_ (S.dir k).seen name=some m) (hf:qn_ s=true) (hne:name≠s) (hb: (zl_ S).2=0):StepD S kind dir name s (w2_ (zl_ S).1 k ⟨1,name,s,0⟩) 0
 |remove (k m:Nat) (hk:zD_ dir=some k) (hm:zC_ (S.dir k).seen name=some m) (hb: (zl_ S).2=0):StepD S kind dir name s (w2_ (zl_ S).1 k ⟨2,name,[],0⟩) 0
theorem VP_ {S:DiskL} {dir name:List UInt8} {m:Nat} (h:atD S dir name=some m): ∃k,zD_ dir=some k∧zC_ (S.dir k).seen name=some m:=by
 unfold atD at h
 cases hk:zD_ dir with
 |none=>rw[hk] at h;cases h
 |some k=>rw[hk] at h;exact⟨k,rfl,h⟩
theorem anX_ {S:DiskL} {dir name:List UInt8} {k:Nat} (hk:zD_ dir=some k) (h:atD S dir name=none):zC_ (S.dir k).seen name=none:=by
 unfold atD at h
 rw[hk] at h;exact h
theorem Zw_ {S:DiskL} {dir:List UInt8} {names:List (List UInt8)} (h:jd_ S dir names=0): ∃k,zD_ dir=some k∧names.all qn_=true:=by
 obtain⟨h1,h2,-⟩:=agy_ h
 cases hk:zD_ dir with
 |none=>exact absurd hk h1
 |some k=>exact⟨k,rfl,h2⟩
theorem Xf_ (S:DiskL) (dir name s:List UInt8):StepD S 0 dir name s (j3_ S dir name).1 (j3_ S dir name).2:=by
 unfold j3_
 split
 ·exact .same _ (.inr ⟨by decide,by decide⟩)
 ·rename_i hf
  split
  ·exact .same _ (.inr ⟨by decide,by decide⟩)
  ·rename_i ha
   split
   ·exact .burn (.inl ⟨by decide,by decide⟩)
   ·rename_i hb
    obtain⟨k,hk,hn⟩:=Zw_ (S:=S) (dir:=dir) (names:= [name]) (by simpa using hf)
    rw[hk]
    exact .create k hk (by simpa using hn) (anX_ hk ha) (by simpa using hb)
theorem wN_ (S:DiskL) (dir name s:List UInt8):StepD S 5 dir name s (zR_ S dir name).1 (zR_ S dir name).2:=by
 unfold zR_
 split
 ·exact .same _ (.inr ⟨by decide,by decide⟩)
 ·split
  ·exact .same _ (.inr ⟨by decide,by decide⟩)
  ·rename_i m ha
   split
   ·exact .burn (.inl ⟨by decide,by decide⟩)
   ·rename_i hb
    obtain⟨k,hk,hm⟩:=VP_ ha
    rw[hk]
    exact .remove k m hk hm (by simpa using hb)
theorem Ju_ (S:DiskL) (dir name s:List UInt8):StepD S 4 dir name s (j7_ S dir name s).1 (j7_ S dir name s).2:=by
 unfold j7_
 split
 ·exact .same _ (.inr ⟨by decide,by decide⟩)
 ·rename_i hf
  split
  ·exact .same _ (.inr ⟨by decide,by decide⟩)
  ·rename_i m ha
   split
   ·exact .burn (.inl ⟨by decide,by decide⟩)
   ·rename_i hne
    split
    ·exact .burn (.inl ⟨by decide,by decide⟩)
    ·rename_i hb
     obtain⟨k,hk,hm⟩:=VP_ ha
     obtain⟨-,-,hn⟩:=Zw_ (S:=S) (dir:=dir) (names:= [name,s]) (by simpa using hf)
     simp only[List.all_cons,List.all_nil,Bool.and_true,Bool.and_eq_true] at hn
     rw[hk]
     exact .rename k m rfl hk hm hn.2 hne (by simpa using hb)
theorem JG_ (S:DiskL) (dir name s:List UInt8):StepD S 1 dir name s (xH_ S dir name s).1 (xH_ S dir name s).2:=by
 unfold xH_
 split
 ·exact .same _ (.inr ⟨by decide,by decide⟩)
 ·split
  ·exact .same _ (.inr ⟨by decide,by decide⟩)
  ·rename_i m ha
   split
   ·exact .same _ (.inr ⟨by decide,by decide⟩)
   ·rename_i hfl
    split
    ·exact .burn (.inl ⟨by decide,by decide⟩)
    ·rename_i hb
     obtain⟨k,hk,hm⟩:=VP_ ha
     exact .append k m hk hm (by simpa using hfl) (by simpa using hb)
theorem abl_ (S:DiskL) (dir name s:List UInt8):StepD S 2 dir name s (Xo_ S dir name).1 (Xo_ S dir name).2:=by
 unfold Xo_
 split
 ·rename_i hf
  exact .same _ (.inl hf)
 ·split
  ·exact .same _ (.inl (Nat.succ_ne_zero 5))
  ·rename_i m ha
   split
   ·rename_i hb
    exact .burn (.inr hb)
   ·rename_i hb
    obtain⟨k,hk,hm⟩:=VP_ ha
    exact .sync k m hk hm (by simpa using hb)
theorem QC_ (S:DiskL) (dir name s:List UInt8):StepD S 3 dir name s (zS_ S dir).1 (zS_ S dir).2:=by
 unfold zS_
 split
 ·rename_i hf
  exact .same _ (.inl hf)
 ·rename_i hf
  split
  ·rename_i hb
   exact .burn (.inr hb)
  ·rename_i hb
   obtain⟨k,hk,-⟩:=Zw_ (S:=S) (dir:=dir) (names:= []) (by simpa using hf)
   rw[hk]
   exact .syncDir k hk (by simpa using hb)
theorem apm_ (S:DiskL) (kind:Int) (dir name s:List UInt8):StepD S kind dir name s (doV S kind dir name s).1 (doV S kind dir name s).2:=by
 unfold doV
 split
 ·rename_i h;subst h;exact Xf_ S dir name s
 split
 ·rename_i h;subst h;exact JG_ S dir name s
 split
 ·rename_i h;subst h;exact abl_ S dir name s
 split
 ·rename_i h;subst h;exact QC_ S dir name s
 split
 ·rename_i h;subst h;exact Ju_ S dir name s
 split
 ·rename_i h;subst h;exact wN_ S dir name s
 ·rename_i h0 h1 h2 h3 h4 h5
  exact .same 0 (.inr ⟨h2,h3⟩)
theorem akh_ {l:NmL} {a b:List UInt8} {m:Nat} (h:zC_ l a=some m) (hne:a≠b):okC l ⟨1,a,b,0⟩:=fun _=>⟨by rw[h];simp,hne⟩
section
variable {S S':DiskL} {kind:Int} {dir name s:List UInt8} {e:Nat}
theorem adg_ (S:DiskL) (k j:Nat): ((jV_ S k).dir j).seen=(S.dir j).seen:=by
 unfold jV_
 by_cases e:j=k
 ·subst e;rw[zY_]
 ·rw[qv_ _ _ e]
theorem aj7_ (hu:xY_ S) (h:StepD S kind dir name s S' e):xY_ S':=by
 obtain⟨hb1,hb2,-⟩:=jb_ S
 have hbu:=vH_ hu
 cases h with
 |same=>exact hu
 |burn=>exact hbu
 |create k hk hf hn hb=>exact wn_ (vg_ hbu rfl) (fun e=>by cases e)
 |append k m hk hm hf hb=>exact vg_ hbu rfl
 |sync k m hk hm hb=>exact vg_ hbu rfl
 |syncDir k hk hb=>exact vi_ hbu (ky_ _)
 |rename k m h4 hk hm hf hne hb=>exact wn_ hbu (by rw[hb1];exact akh_ hm hne)
 |remove k m hk hm hb=>exact wn_ hbu (fun e=>by cases e)
theorem aeN_ {N:Nat} (hu:DkN N S) (hn:name.length≤1000000) (hs:s.length≤1000000) (h:StepD S kind dir name s S' e):DkN (N+1) S':=by
 have hbu:=kY_ hu
 cases h with
 |same=>exact Qx_ hu
 |burn=>exact Qx_ hbu
 |create k hk hf hn' hb=>exact ZR_ (v5_ hbu rfl) ⟨hn,Nat.zero_le _⟩
 |append k m hk hm hf hb=>exact Qx_ (v5_ hbu rfl)
 |sync k m hk hm hb=>exact Qx_ (v5_ hbu rfl)
 |syncDir k hk hb=>exact Qx_ (kM_ hbu (vW_ (hbu k).seen (hbu k).seenB))
 |rename k m h4 hk hm hf hne hb=>exact ZR_ hbu ⟨hn,hs⟩
 |remove k m hk hm hb=>exact ZR_ hbu ⟨hn,Nat.zero_le _⟩
end
end Go.Proofs
end
section
open Go Go.Proofs Go.Sx Go.StP
namespace Go.Proofs
set_option maxRecDepth 10000
set_option maxHeartbeats 400000
set_option linter.unusedSimpArgs false
section
variable {S S':DiskL} {kind:Int} {dir name s:List UInt8} {e:Nat}
end
end Go.Proofs
end
section
open Go Go.Proofs Go.Sx Go.StP
namespace Go.Proofs
set_option maxRecDepth 10000
set_option maxHeartbeats 400000
set_option linter.unusedSimpArgs false
def BegF (f g:FileL):Prop:=(∃t,g.data=f.data.take t)∧(f.stl=f.data.length→g.data=f.data∧g.stl=g.data.length)
theorem BegF.refl (f:FileL):BegF f f:=⟨⟨f.data.length,(List.take_length).symm⟩,fun h=>⟨rfl,h⟩⟩
theorem BegF.trans {f g h:FileL} (h1:BegF f g) (h2:BegF g h):BegF f h:=by
 obtain⟨⟨t,ht⟩,a⟩:=h1
 obtain⟨⟨u,hu⟩,b⟩:=h2
 refine⟨⟨min u t,by rw[hu,ht,List.take_take]⟩,fun e=> ?_⟩
 obtain⟨a1,a2⟩:=a e
 obtain⟨b1,b2⟩:=b a2
 exact⟨b1.trans a1,b2⟩
section
variable {S S':DiskL} {kind:Int} {dir name s:List UInt8} {e:Nat}
end
end Go.Proofs
end
section
open Go Go.Proofs Go.Sx Go.StP
namespace Go.Proofs
set_option maxRecDepth 10000
set_option maxHeartbeats 400000
set_option linter.unusedSimpArgs false
structure KeepS (S:DiskL) (k:Nat) (nm:List UInt8) (n:Nat) (data:List UInt8):Prop where
 lt:n<S.files.length
 data: (zz_ S n).data=data
 stl: (zz_ S n).stl=(zz_ S n).data.length
 at_:zC_ (S.dir k).stl nm=some n
 pend: ∀c,c∈ (S.dir k).pend→c.a≠nm∧(c.kind=1→c.b≠nm)
theorem aad_ {x:List UInt8×Nat} {s:List UInt8} (hx:x.1≠s): ∀l:NmL,zC_ (insN l x) s=zC_ l s
 | []=>by
  have: (s==x.1)=false:=beq_eq_false_iff_ne.2 (Ne.symm hx)
  unfold insN zC_
  rw[List.find?_cons,this]
 |p::l=>by
  have e: (s==x.1)=false:=beq_eq_false_iff_ne.2 (Ne.symm hx)
  have ih:=aad_ hx l
  unfold insN
  split
  ·unfold zC_
   rw[List.find?_cons,e]
  ·unfold zC_ at ih ⊢
   rw[List.find?_cons,List.find?_cons]
   split
   ·rfl
   ·exact ih
theorem Za_ {a s:List UInt8} (ha:a≠s): ∀l:NmL,zC_ (qC_ l a) s=zC_ l s
 | []=>rfl
 |p::l=>by
  have ih:=Za_ ha l
  unfold qC_ at ih ⊢
  rw[List.filter_cons]
  by_cases e:a=p.1
  ·have e1: (s==p.1)=false:=beq_eq_false_iff_ne.2 (fun h=>ha (by rw[e,h]))
   rw[if_neg (by rw[e];simp),ih]
   unfold zC_
   rw[List.find?_cons,e1]
  ·rw[if_pos (by simpa using e)]
   unfold zC_ at ih ⊢
   rw[List.find?_cons,List.find?_cons]
   split
   ·rfl
   ·exact ih
theorem afD_ {x:List UInt8×Nat} {s:List UInt8} (hx:x.1≠s) (l:NmL):zC_ (XY_ l x) s=zC_ l s:=by
 unfold XY_
 rw[aad_ hx,Za_ hx]
theorem ahV_ {l:NmL} {c:CallL} {s:List UInt8} (h:c.a≠s∧(c.kind=1→c.b≠s)):zC_ (qo_ l c) s=zC_ l s:=by
 unfold qo_
 split
 ·exact afD_ h.1 l
 ·rename_i hk
  rw[afD_ (h.2 hk),Za_ h.1]
 ·exact Za_ h.1 l
theorem aal_ {s:List UInt8}: ∀ (cs:List CallL) (l:NmL),(∀c,c∈cs→c.a≠s∧(c.kind=1→c.b≠s))→zC_ (cs.foldl qo_ l) s=zC_ l s
 | [],_,_=>rfl
 |c::cs,l,h=>by
  rw[List.foldl_cons,aal_ cs _ fun d hd=>h d (List.mem_cons_of_mem _ hd),ahV_ (h c List.mem_cons_self)]
section
variable {S S':DiskL} {kind:Int} {dir name s:List UInt8} {e k n:Nat} {nm data:List UInt8}
theorem KeepS.seen (h:KeepS S k nm n data) (hh:xY_ S):zC_ (S.dir k).seen nm=some n:=by
 rw[← (hh k).1,aal_ _ _ h.pend,h.at_]
end
end Go.Proofs
end
section
open Go Go.Proofs Go.Sx Go.StP
namespace Go.Proofs
set_option maxRecDepth 10000
set_option maxHeartbeats 400000
set_option linter.unusedSimpArgs false
structure NdR where
 s:List UInt8
 n:Int
def ndC (r:NdR):List Value:= [vs r.s]++ ([vi r.n])
def nd0:NdR:=⟨[],0⟩
theorem zW_ (r:NdR): (ndC r).length=2:=by simp[ndC]
theorem xc_ (r:NdR):Value.cells (.agg (ndC r).toArray)=(ndC r).toArray:=zh_ _
theorem wU_ (r:NdR): (ndC r).all Value.oneCell'=true:=by
 unfold ndC
 simp only[List.all_append,List.all_cons,List.all_nil,w9_,Bool.and_true,Bool.true_and]
 rfl
theorem zrNd:zK_ Tryz.prog 86=some (.agg (ndC nd0).toArray):=id (by kernel_rfl)
theorem Q1_:qf_ Tryz.prog 86=some (true,2):=id (by kernel_rfl)
theorem anF_ (r:NdR):ndC r=([]:List Value)++ (([vs r.s])++ ([vi r.n])):=by
 unfold ndC;simp only[List.append_assoc,List.nil_append,List.append_nil]
theorem afJ_ (r:NdR) (n:Nat) (E:TypeId) (fz:Nat×Nat):zk_ (some (false,n)) (some (.cells (ndC r).toArray E fz)) 0=some (vs r.s):=by
 rw[anF_];exact qw_ _ _ _ n E fz (by simp)
theorem adT_ {w:World} {v:Value} {l:List NdR} {b off:Nat} {arr:Array Value} {E:TypeId} {fz:Nat×Nat} (h:RowS 2 ndC nd0 w v l b off arr E fz) {k:Nat} (hk:k<l.length) (n:Nat):zk_ (some (false,n)) (some (.cells arr E fz)) (off+k*2+0)=some (vs (l.getD k nd0).s):=by
 rw[RowS.cell h hk (by omega)];generalize l.getD k nd0=r;rw[anF_];exact x6_ _ _ _ (by simp)
theorem anu_ (r:NdR):ndC r=(([vs r.s]))++ (([vi r.n])++ (([]:List Value))):=by
 unfold ndC;simp only[List.append_assoc,List.nil_append,List.append_nil]
theorem afR_ (r:NdR) (n:Nat) (E:TypeId) (fz:Nat×Nat):zk_ (some (false,n)) (some (.cells (ndC r).toArray E fz)) 1=some (vi r.n):=by
 rw[anu_];exact qw_ _ _ _ n E fz (by simp)
theorem aj2_ {w:World} {v:Value} {l:List NdR} {b off:Nat} {arr:Array Value} {E:TypeId} {fz:Nat×Nat} (h:RowS 2 ndC nd0 w v l b off arr E fz) {k:Nat} (hk:k<l.length) (n:Nat):zk_ (some (false,n)) (some (.cells arr E fz)) (off+k*2+1)=some (vi (l.getD k nd0).n):=by
 rw[RowS.cell h hk (by omega)];generalize l.getD k nd0=r;rw[anu_];exact x6_ _ _ _ (by simp)
theorem akZ_ (r:NdR) (E:TypeId) (fz:Nat×Nat):zk_ (some (true,2)) (some (.cells (ndC r).toArray E fz)) 0=some (.agg (ndC r).toArray):=xa_ _ E fz 2 (by rw[List.size_toArray,zW_])
theorem anl_ (old:Array Value) (r:NdR) (a:Bool) (E:TypeId) (h:old.size=2):zu_ (some (a,2)) (some (.cells old E (0,0))) 0 (.agg (ndC r).toArray)=some (.cells (ndC r).toArray E (0,0)):=jJ_ _ a old E (zW_ r) (wU_ r) h
theorem akg_ (r r':NdR) (a:Bool) (E:TypeId):zu_ (some (a,2)) (some (.cells (ndC r').toArray E (0,0))) 0 (.agg (ndC r).toArray)=some (.cells (ndC r).toArray E (0,0)):=anl_ _ r a E (by rw[List.size_toArray,zW_])
theorem ajs_ {w:World} {v:Value} {l:List NdR} {b off:Nat} {arr:Array Value} {E:TypeId} {fz:Nat×Nat} (h:RowS 2 ndC nd0 w v l b off arr E fz) {k:Nat} (hk:k<l.length):zk_ (some (true,2)) (some (.cells arr E fz)) (off+k*2)=some (.agg (ndC (l.getD k nd0)).toArray):=RowS.load h zW_ (by omega) hk
structure KcR where
 kind:Int
 a:List UInt8
 b:List UInt8
 n:Int
def kcC (r:KcR):List Value:= [vi r.kind]++ ([vs r.a]++ ([vs r.b]++ ([vi r.n])))
def kc0:KcR:=⟨0,[],[],0⟩
theorem wZ_ (r:KcR): (kcC r).length=4:=by simp[kcC]
theorem VI_ (r:KcR):Value.cells (.agg (kcC r).toArray)=(kcC r).toArray:=zh_ _
theorem aiV_ (r:KcR): (kcC r).all Value.oneCell'=true:=by
 unfold kcC
 simp only[List.all_append,List.all_cons,List.all_nil,w9_,Bool.and_true,Bool.true_and]
 rfl
theorem zrKc:zK_ Tryz.prog 131=some (.agg (kcC kc0).toArray):=id (by kernel_rfl)
theorem aqV_:qf_ Tryz.prog 131=some (true,4):=id (by kernel_rfl)
theorem ajj_ (r:KcR):kcC r=([]:List Value)++ (([vi r.kind])++ ([vs r.a]++ ([vs r.b]++ ([vi r.n])))):=by
 unfold kcC;simp only[List.append_assoc,List.nil_append,List.append_nil]
theorem aeY_ (r:KcR) (n:Nat) (E:TypeId) (fz:Nat×Nat):zk_ (some (false,n)) (some (.cells (kcC r).toArray E fz)) 0=some (vi r.kind):=by
 rw[ajj_];exact qw_ _ _ _ n E fz (by simp)
theorem aib_ (r:KcR) (x:Int) (a:Bool) (E:TypeId):zu_ (some (a,1)) (some (.cells (kcC r).toArray E (0,0))) 0 (vi x)=some (.cells (kcC {r with kind:=x}).toArray E (0,0)):=by
 rw[ajj_ r,ajj_ {r with kind:=x}];exact zt_ _ _ _ _ a _ E (by simp) rfl (rfl) rfl (rfl)
theorem ajU_ (r:KcR):kcC r=(([vi r.kind]))++ (([vs r.a])++ ([vs r.b]++ ([vi r.n]))):=by
 unfold kcC;simp only[List.append_assoc,List.nil_append,List.append_nil]
theorem afh_ (r:KcR) (n:Nat) (E:TypeId) (fz:Nat×Nat):zk_ (some (false,n)) (some (.cells (kcC r).toArray E fz)) 1=some (vs r.a):=by
 rw[ajU_];exact qw_ _ _ _ n E fz (by simp)
theorem ajg_ (r:KcR) (x:List UInt8) (a:Bool) (E:TypeId):zu_ (some (a,1)) (some (.cells (kcC r).toArray E (0,0))) 1 (vs x)=some (.cells (kcC {r with a:=x}).toArray E (0,0)):=by
 rw[ajU_ r,ajU_ {r with a:=x}];exact zt_ _ _ _ _ a _ E (by simp) rfl (rfl) rfl (rfl)
theorem ah7_ (r:KcR):kcC r=(([vi r.kind])++ ([vs r.a]))++ (([vs r.b])++ ([vi r.n])):=by
 unfold kcC;simp only[List.append_assoc,List.nil_append,List.append_nil]
theorem afr_ (r:KcR) (n:Nat) (E:TypeId) (fz:Nat×Nat):zk_ (some (false,n)) (some (.cells (kcC r).toArray E fz)) 2=some (vs r.b):=by
 rw[ah7_];exact qw_ _ _ _ n E fz (by simp)
theorem ajZ_ (r:KcR) (x:List UInt8) (a:Bool) (E:TypeId):zu_ (some (a,1)) (some (.cells (kcC r).toArray E (0,0))) 2 (vs x)=some (.cells (kcC {r with b:=x}).toArray E (0,0)):=by
 rw[ah7_ r,ah7_ {r with b:=x}];exact zt_ _ _ _ _ a _ E (by simp) rfl (rfl) rfl (rfl)
theorem ajH_ (r:KcR):kcC r=(([vi r.kind])++ ([vs r.a])++ ([vs r.b]))++ (([vi r.n])++ (([]:List Value))):=by
 unfold kcC;simp only[List.append_assoc,List.nil_append,List.append_nil]
theorem aeS_ (r:KcR) (n:Nat) (E:TypeId) (fz:Nat×Nat):zk_ (some (false,n)) (some (.cells (kcC r).toArray E fz)) 3=some (vi r.n):=by
 rw[ajH_];exact qw_ _ _ _ n E fz (by simp)
theorem akw_ (r:KcR) (x:Int) (a:Bool) (E:TypeId):zu_ (some (a,1)) (some (.cells (kcC r).toArray E (0,0))) 3 (vi x)=some (.cells (kcC {r with n:=x}).toArray E (0,0)):=by
 rw[ajH_ r,ajH_ {r with n:=x}];exact zt_ _ _ _ _ a _ E (by simp) rfl (rfl) rfl (rfl)
theorem akN_ (r:KcR) (E:TypeId) (fz:Nat×Nat):zk_ (some (true,4)) (some (.cells (kcC r).toArray E fz)) 0=some (.agg (kcC r).toArray):=xa_ _ E fz 4 (by rw[List.size_toArray,wZ_])
theorem amM_ (old:Array Value) (r:KcR) (a:Bool) (E:TypeId) (h:old.size=4):zu_ (some (a,4)) (some (.cells old E (0,0))) 0 (.agg (kcC r).toArray)=some (.cells (kcC r).toArray E (0,0)):=jJ_ _ a old E (wZ_ r) (aiV_ r) h
theorem ajl_ (r r':KcR) (a:Bool) (E:TypeId):zu_ (some (a,4)) (some (.cells (kcC r').toArray E (0,0))) 0 (.agg (kcC r).toArray)=some (.cells (kcC r).toArray E (0,0)):=amM_ _ r a E (by rw[List.size_toArray,wZ_])
structure FdR where
 data:List UInt8
 stl:Int
def fdC (r:FdR):List Value:= [vs r.data]++ ([vi r.stl])
def fd0:FdR:=⟨[],0⟩
theorem ji_ (r:FdR): (fdC r).length=2:=by simp[fdC]
theorem Q2_ (r:FdR):Value.cells (.agg (fdC r).toArray)=(fdC r).toArray:=zh_ _
theorem ajB_ (r:FdR): (fdC r).all Value.oneCell'=true:=by
 unfold fdC
 simp only[List.all_append,List.all_cons,List.all_nil,w9_,Bool.and_true,Bool.true_and]
 rfl
theorem zrFd:zK_ Tryz.prog 83=some (.agg (fdC fd0).toArray):=id (by kernel_rfl)
theorem alp_:qf_ Tryz.prog 83=some (true,2):=id (by kernel_rfl)
theorem aqU_ (r:FdR):fdC r=([]:List Value)++ (([vs r.data])++ ([vi r.stl])):=by
 unfold fdC;simp only[List.append_assoc,List.nil_append,List.append_nil]
theorem adV_ {w:World} {v:Value} {l:List FdR} {b off:Nat} {arr:Array Value} {E:TypeId} {fz:Nat×Nat} (h:RowS 2 fdC fd0 w v l b off arr E fz) {k:Nat} (hk:k<l.length) (n:Nat):zk_ (some (false,n)) (some (.cells arr E fz)) (off+k*2+0)=some (vs (l.getD k fd0).data):=by
 rw[RowS.cell h hk (by omega)];generalize l.getD k fd0=r;rw[aqU_];exact x6_ _ _ _ (by simp)
theorem amV_ (r:FdR):qM_ (xX_ Tryz.prog 83) (zK_ Tryz.prog 83) [(0,vs r.data),(1,vi r.stl)]=some (.agg (fdC r).toArray):=by
 have hp:xX_ Tryz.prog 83=some [(0,1),(1,1)]:=id (by kernel_rfl)
 rw[hp,zrFd]
 have e0: (fdC fd0).toArray=(([]:List Value)++ (([vs fd0.data])++ ([vi fd0.stl]))).toArray:=by congr 1<;>simp only[fdC,List.append_assoc,List.nil_append,List.append_nil]
 have q0:QJ_ (([]:List Value)++ (([vs fd0.data])++ ([vi fd0.stl]))).toArray 0 ([vs r.data])=(([]:List Value)++ (([vs r.data])++ ([vi fd0.stl]))).toArray:=JY_ _ _ _ _ (by simp) (rfl)
 have s0: (([]:List Value)++ (([vs fd0.data])++ ([vi fd0.stl]))).toArray.size=2:=by simp
 have z0: (Value.cells (vs r.data)).toList= [vs r.data]:=by rfl
 have y0: (Value.cells (vs r.data)).size=1:=by rw[←Array.length_toList,z0];simp
 have e1: (([]:List Value)++ (([vs r.data])++ ([vi fd0.stl]))).toArray=((([vs r.data]))++ (([vi fd0.stl])++ (([]:List Value)))).toArray:=by congr 1<;>simp only[fdC,List.append_assoc,List.nil_append,List.append_nil]
 have q1:QJ_ ((([vs r.data]))++ (([vi fd0.stl])++ (([]:List Value)))).toArray 1 ([vi r.stl])=((([vs r.data]))++ (([vi r.stl])++ (([]:List Value)))).toArray:=JY_ _ _ _ _ (by simp) (rfl)
 have s1: ((([vs r.data]))++ (([vi fd0.stl])++ (([]:List Value)))).toArray.size=2:=by simp
 have z1: (Value.cells (vi r.stl)).toList= [vi r.stl]:=by rfl
 have y1: (Value.cells (vi r.stl)).size=1:=by rw[←Array.length_toList,z1];simp
 have e2: ((([vs r.data]))++ (([vi r.stl])++ (([]:List Value)))).toArray=(fdC r).toArray:=by congr 1<;>simp only[fdC,List.append_assoc,List.nil_append,List.append_nil]
 simp only[qM_]
 rw[e0]
 unfold Sx.fillV
 simp only[List.getElem?_cons_zero,List.getElem?_cons_succ,z0,y0]
 rw[if_pos ⟨trivial,by rw[s0];decide⟩,q0]
 rw[e1]
 unfold Sx.fillV
 simp only[List.getElem?_cons_zero,List.getElem?_cons_succ,z1,y1]
 rw[if_pos ⟨trivial,by rw[s1];decide⟩,q1]
 rw[e2];rfl
def qh_ (p:List UInt8×Nat):NdR:=⟨p.1,(p.2:Int)⟩
def WP_ (c:CallL):KcR:=⟨(c.kind:Int),c.a,c.b,(c.n:Int)⟩
def kT_ (f:FileL):FdR:=⟨f.data,(f.stl:Int)⟩
theorem WT_ (l:NmL) (k:Nat): (l.map qh_).getD k nd0=qh_ (l.getD k ([],0)):=by
 rw[List.getD_eq_getElem?_getD,List.getD_eq_getElem?_getD,List.getElem?_map]
 cases l[k]? <;>rfl
theorem QB_ (l:List FileL) (k:Nat): (l.map kT_).getD k fd0=kT_ (l.getD k qO_):=by
 rw[List.getD_eq_getElem?_getD,List.getD_eq_getElem?_getD,List.getElem?_map]
 cases l[k]? <;>rfl
abbrev NdSl (w:World) (v:Value) (l:NmL):Prop:=SlV 2 ndC nd0 w v (l.map qh_)
def NdG (D:ze_) (v:Value) (l:NmL):Prop:=GrI D 86 2 v (l.map qh_).length ((l.map qh_).map ndC).flatten
def xJ_ (s:List UInt8):Int:=match zD_ s with|some k=>(k:Int) |none=> -1
def wC_:Obj:= .cells #[vs qB_,vs vx_,vs WR_] 9 (0,0)
theorem alP_ {s:List UInt8} (h: ∀j,j<3→qp_ j≠s):zD_ s=none:=by
 cases hw:zD_ s with
 |none=>rfl
 |some k=>exact absurd (z3_ hw).2.symm (h k (z3_ hw).1)
theorem aeZ_ (b:Nat) {k:Nat} (hk:k<3) (a:Bool):zN_ (.sl (a,1)) (vsl b 0 3 3) (some (k:Int))=some (vp b k):=by
 rw[qk_ _ _ _ _ _ _ (by omega)];simp
theorem abc_ {k:Nat} (hk:k<3) (n:Nat):zk_ (some (false,n)) (some wC_) k=some (vs (qp_ k)):=by
 have:k=0∨k=1∨k=2:=by omega
 rcases this with rfl|rfl|rfl<;>rfl
set_option linter.defProp false
def qW_:=And.intro (@zn_) (@zm_)
theorem abk_ (w:World):Rets Tryz.prog 57 #[] w (XS w [] (fun v D=> ∃b,v=vsl b 0 3 3∧D= [(b,wC_)])):=by
 refine Rets.enterX Tryz.func57 rfl (rs:= [.tmp 0]) Tryz.results57 Tryz.ntmps57 (fun p hp=>by cases hp) (by simp[keys]) ?_
 refine kf ?_
 first|with_reducible refine ks [] @qW_ ?_|refine kp @qW_ ?_
 refine Ow.buildSlice (e:=9) #[vs qB_,vs vx_,vs WR_] rfl rfl (by kernel_rfl) fun b1 hb1 hw1=> ?_
 refine ko @qW_ ?_
 first|with_reducible refine ks [] @qW_ ?_|refine kp @qW_ ?_
 refine⟨_,(ke @qW_), ?_⟩
 exact⟨Ext.of_new ⟨hw1,trivial⟩,b1,rfl,rfl⟩
theorem Qb_ (s:List UInt8) (w:World):Rets Tryz.prog 30 #[vs s] w (fun v D=>v=vi (xJ_ s)∧D= []):=by
 refine Rets.enterV Tryz.func30 rfl (rs:= [.tmp 2]) Tryz.results30 Tryz.ntmps30 ?_
 refine kf ?_
 first|with_reducible refine ks [] @qW_ ?_|refine kp @qW_ ?_
 refine Ow.callC rfl rfl Tryz.call57 (fun w' hw'=>abk_ w') (fun B1 v1 D1 hA1 hB1 hN1 hS1=> ?_)
 obtain⟨b1,rfl,rfl⟩:=hS1
 have hN1':=hN1.mono hB1
 rw[List.nil_append]
 refine ko @qW_ ?_
 first|with_reducible refine ks [] @qW_ ?_|refine kp @qW_ ?_
 refine Cw.loopG (G:=Nat) [6,7,10,11,12,13,14,15,16,2,8,9,4] (fun g=> [(4,vi g)]) (fun g=> [(b1,wC_)]) (fun g=>g≤3∧ ∀j,j<g→qp_ j≠s) (fun g=>3 - g) 0 rfl rfl ?_ ?_
 ·exact⟨Nat.zero_le _,fun j hj=>absurd hj (Nat.not_lt_zero j)⟩
 intro i ji hi
 refine kv ?_
 obtain⟨hi1,hi2⟩:=hi
 by_cases hlt:i<3
 ·have d1:decide ((i:Int)<3)=true:=decide_eq_true (by omega)
  have ix:=aeZ_ b1 hlt true
  have ld:=fun n=>abc_ hlt n
  by_cases he:qp_ i=s
  ·have e1: (qp_ i==s)=true:=beq_iff_eq.2 he
   first|with_reducible refine ks [] (And.intro @qW_ (And.intro @d1 (And.intro @ix (And.intro @ld (@e1))))) ?_|refine kp (And.intro @qW_ (And.intro @d1 (And.intro @ix (And.intro @ld (@e1))))) ?_
   refine⟨_,(ke @qW_),hN1', ?_⟩
   (unfold xJ_;rw[←he,jx_ hlt];rfl)
  ·have e1: (qp_ i==s)=false:=beq_eq_false_iff_ne.2 he
   first|with_reducible refine ks [] (And.intro @qW_ (And.intro @d1 (And.intro @ix (And.intro @ld (@e1))))) ?_|refine kp (And.intro @qW_ (And.intro @d1 (And.intro @ix (And.intro @ld (@e1))))) ?_
   exact Again.mk (i+1) (by omega) ⟨hlt,fun j hj=>by
    by_cases h:j=i
    ·rw[h];exact he
    ·exact hi2 j (by omega)⟩ rfl rfl
 ·obtain rfl:i=3:=by omega
  have d1:decide (((3:Nat):Int)<3)=false:=rfl
  first|with_reducible refine ks [] (And.intro @qW_ @d1) ?_|refine kp (And.intro @qW_ @d1) ?_
  refine⟨_,(ke @qW_),hN1', ?_⟩
  (unfold xJ_;rw[alP_ hi2];rfl)
theorem ZA_ (s:List UInt8) (w:World) (hs:s.length<1099511627776):Rets Tryz.prog 31 #[vs s] w (fun v D=>v= .bool (qn_ s)∧D= []):=by
 refine Rets.enterV Tryz.func31 rfl (rs:= [.tmp 2]) Tryz.results31 Tryz.ntmps31 ?_
 refine kf ?_
 first|with_reducible refine ks [] @qW_ ?_|refine kp @qW_ ?_
 refine Cw.loopG (G:=Nat) [4,5,6,7,10,11,12,13,14,15,16,17,18,19,20,21,22,23,24,25,2,8,9,3] (fun g=> [(3,vi g)]) (fun g=> []) (fun g=>g≤s.length∧(s.take g).any Zh_=false) (fun g=>s.length - g) 0 rfl rfl ?_ ?_
 ·exact⟨Nat.zero_le _,rfl⟩
 intro i ji hi
 refine kv ?_
 obtain⟨hi1,hi2⟩:=hi
 by_cases hlt:i<s.length
 ·have d1:decide ((i:Int)< (s.length:Int))=true:=decide_eq_true (by omega)
  have hnx: (s.take (i+1)).any Zh_=Zh_ (s.getD i 0):=by
   rw[StP.take_snoc (z:=0) hlt,List.any_append,hi2];simp
  have hmm:Zh_ (s.getD i 0)=true→qn_ s=false:=fun h=>by
   unfold qn_
   rw[show s.any Zh_=true from List.any_eq_true.2 ⟨_,xd_ (z:=0) hlt,h⟩];simp
  rw[akk_] at hnx hmm
  cases h1:decide (s.getD i 0<33) with
  |true=>
   first|with_reducible refine ks [] (And.intro @qW_ (And.intro @d1 (@h1))) ?_|refine kp (And.intro @qW_ (And.intro @d1 (@h1))) ?_
   refine⟨_,(ke @qW_),trivial, ?_⟩
   (rw[hmm (by rw[h1];rfl)];rfl)
  |false=>
   cases h2:decide (126<s.getD i 0) with
   |true=>
    first|with_reducible refine ks [] (And.intro @qW_ (And.intro @d1 (And.intro @h1 (@h2)))) ?_|refine kp (And.intro @qW_ (And.intro @d1 (And.intro @h1 (@h2)))) ?_
    refine⟨_,(ke @qW_),trivial, ?_⟩
    (rw[hmm (by rw[h1,h2];rfl)];rfl)
   |false=>
    cases h3: (s.getD i 0==47) with
    |true=>
     first|with_reducible refine ks [] (And.intro @qW_ (And.intro @d1 (And.intro @h1 (And.intro @h2 (@h3))))) ?_|refine kp (And.intro @qW_ (And.intro @d1 (And.intro @h1 (And.intro @h2 (@h3))))) ?_
     refine⟨_,(ke @qW_),trivial, ?_⟩
     (rw[hmm (by rw[h1,h2,h3];rfl)];rfl)
    |false=>
     rw[h1,h2,h3] at hnx
     first|with_reducible refine ks [] (And.intro @qW_ (And.intro @d1 (And.intro @h1 (And.intro @h2 (@h3))))) ?_|refine kp (And.intro @qW_ (And.intro @d1 (And.intro @h1 (And.intro @h2 (@h3))))) ?_
     exact Again.mk (i+1) (by omega) ⟨hlt,hnx⟩ rfl rfl
 ·obtain rfl:i=s.length:=by omega
  have d1:decide ((s.length:Int)< (s.length:Int))=false:=decide_eq_false (by omega)
  rw[List.take_length] at hi2
  have hf:qn_ s=(!(s== [])&&decide (s.length≤80)):=by unfold qn_;rw[hi2];simp
  cases h1:decide ((1:Int)≤ (s.length:Int)) with
  |true=>
   have h1':=of_decide_eq_true h1
   have g1: (s== [])=false:=beq_eq_false_iff_ne.2 (by rintro rfl;simp at h1')
   have g2:decide ((s.length:Int)≤80)=decide (s.length≤80):=by congr 1;rw[eq_iff_iff];omega
   first|with_reducible refine ks [] (And.intro @qW_ (And.intro @d1 (And.intro @h1 (@g2)))) ?_|refine kp (And.intro @qW_ (And.intro @d1 (And.intro @h1 (@g2)))) ?_
   refine⟨_,(ke @qW_),trivial, ?_⟩
   (rw[hf,g1];rfl)
  |false=>
   have h1':=of_decide_eq_false h1
   have g1:s= []:=List.eq_nil_of_length_eq_zero (by omega)
   first|with_reducible refine ks [] (And.intro @qW_ (And.intro @d1 (@h1))) ?_|refine kp (And.intro @qW_ (And.intro @d1 (@h1))) ?_
   refine⟨_,(ke @qW_),trivial, ?_⟩
   (rw[hf,g1];rfl)
def v3_ (l:NmL) (s:List UInt8):Int:=match zC_ l s with|some n=>(n:Int) |none=> -1
theorem ajc_ {l:NmL} {k:Nat} (h:k<l.length) (s:List UInt8):zC_ (l.drop k) s=if(l.getD k ([],0)).1=s then some (l.getD k ([],0)).2 else zC_ (l.drop (k+1)) s:=by
 rw[List.drop_eq_getElem_cons h,List.getD_eq_getElem?_getD,List.getElem?_eq_getElem h]
 show(List.find? _ _).map Prod.snd=_
 rw[List.find?_cons]
 by_cases e: (l[k]).1=s
 ·rw[show(s==(l[k]).1)=true from beq_iff_eq.2 e.symm]
  simp[e]
 ·rw[show(s==(l[k]).1)=false from beq_eq_false_iff_ne.2 (Ne.symm e)]
  simp only[Option.getD_some,e, ↓reduceIte]
  rfl
set_option linter.defProp false
def xM_:=And.intro (And.intro (@zn_) (@zm_)) (And.intro (@akZ_) (@xc_))
theorem Qp_ (v:Value) (l:NmL) (s:List UInt8) (w:World) (hv:NdSl w v l) (hl:l.length<1000000000):Rets Tryz.prog 67 #[v,vs s] w (fun r D=>r=vi (v3_ l s)∧D= []):=by
 have ln:=hv.len
 rw[List.length_map] at ln
 obtain⟨rb,off,arr,E,fz,hr⟩:=hv.row
 refine Rets.enterV Tryz.func67 rfl (rs:= [.tmp 4]) Tryz.results67 Tryz.ntmps67 ?_
 refine kf ?_
 first|with_reducible refine ks [] @xM_ ?_|refine kp @xM_ ?_
 refine Cw.loopG (G:=Nat) [6,7,8,9,12,13,14,15,16,17,18,19,20,21,22,23,4,10,11,5] (fun g=> [(5,vi g)]) (fun g=> []) (fun g=>g≤l.length∧zC_ (l.drop g) s=zC_ l s) (fun g=>l.length - g) 0 rfl rfl ?_ ?_
 ·exact⟨Nat.zero_le _,rfl⟩
 intro k jk hk
 refine kv ?_
 obtain⟨hk1,hk2⟩:=hk
 by_cases hlt:k<l.length
 ·have d1:decide ((k:Int)< (l.length:Int))=true:=decide_eq_true (by omega)
  have hlm:k< (l.map qh_).length:=by rw[List.length_map];exact hlt
  have ix:=hr.idx true k hlm
  have hh:=hr.has (by omega)
  have l0: ∀n,zk_ (some (false,n)) (some (.cells arr E fz)) (off+k*2)=some (vs ((l.map qh_).getD k nd0).s):=fun n=>by have:=adT_ hr hlm n;rwa [Nat.add_zero] at this
  have l1: ∀n,zk_ (some (false,n)) (some (.cells arr E fz)) (off+k*2+1)=some (vi ((l.map qh_).getD k nd0).n):=fun n=>aj2_ hr hlm n
  rw[WT_] at l0 l1
  rw[ajc_ hlt] at hk2
  generalize l.getD k ([],0)=q at*
  obtain⟨qs,qn⟩:=q
  simp only[qh_] at l0 l1 hk2
  by_cases he:qs=s
  ·have e1: (qs==s)=true:=beq_iff_eq.2 he
   rw[if_pos he] at hk2
   first|with_reducible refine ks [] (And.intro @xM_ (And.intro @ln (And.intro @d1 (And.intro @ix (And.intro @hh (And.intro @l0 (And.intro @l1 (@e1)))))))) ?_|refine kp (And.intro @xM_ (And.intro @ln (And.intro @d1 (And.intro @ix (And.intro @hh (And.intro @l0 (And.intro @l1 (@e1)))))))) ?_
   refine⟨_,(ke @xM_),trivial, ?_⟩
   (unfold v3_;rw[←hk2];rfl)
  ·have e1: (qs==s)=false:=beq_eq_false_iff_ne.2 he
   rw[if_neg he] at hk2
   first|with_reducible refine ks [] (And.intro @xM_ (And.intro @ln (And.intro @d1 (And.intro @ix (And.intro @hh (And.intro @l0 (And.intro @l1 (@e1)))))))) ?_|refine kp (And.intro @xM_ (And.intro @ln (And.intro @d1 (And.intro @ix (And.intro @hh (And.intro @l0 (And.intro @l1 (@e1)))))))) ?_
   exact Again.mk (k+1) (by omega) ⟨hlt,hk2⟩ rfl rfl
 ·obtain rfl:k=l.length:=by omega
  have d1:decide ((l.length:Int)< (l.length:Int))=false:=decide_eq_false (by omega)
  rw[List.drop_length] at hk2
  first|with_reducible refine ks [] (And.intro @xM_ (And.intro @ln (@d1))) ?_|refine kp (And.intro @xM_ (And.intro @ln (@d1))) ?_
  refine⟨_,(ke @xM_),trivial, ?_⟩
  (unfold v3_;rw[←hk2];rfl)
structure WoG where
 k:Nat
 o:NmL
 v:Value
 D:ze_
 DG:ze_
theorem vX_ {l:NmL} {k:Nat} (h:k<l.length) (s:List UInt8):qC_ (l.drop k) s=(if(l.getD k ([],0)).1=s then [] else [l.getD k ([],0)])++qC_ (l.drop (k+1)) s:=by
 rw[List.drop_eq_getElem_cons h,List.getD_eq_getElem?_getD,List.getElem?_eq_getElem h]
 unfold qC_
 rw[List.filter_cons]
 by_cases e: (l[k]).1=s
 ·rw[show(s==(l[k]).1)=true from beq_iff_eq.2 e.symm]
  simp[e]
 ·rw[show(s==(l[k]).1)=false from beq_eq_false_iff_ne.2 (Ne.symm e)]
  simp[e]
theorem QO_ (v:Value) (l:NmL) (s:List UInt8) (w:World) (hv:NdSl w v l) (hl:l.length<1000000000):Rets Tryz.prog 91 #[v,vs s] w (XS w [] (fun r D=>NdG D r (qC_ l s))):=by
 have ln:=hv.len
 rw[List.length_map] at ln
 obtain⟨rb,off,arr,E,fz,hr⟩:=hv.row
 refine Rets.enterX Tryz.func91 rfl (rs:= [.tmp 4]) Tryz.results91 Tryz.ntmps91 (fun p hp=>by cases hp) (by simp[keys]) ?_
 refine kf ?_
 first|with_reducible refine ks [] @xM_ ?_|refine kp @xM_ ?_
 refine Cw.permL (M:= []++ []) (List.Perm.refl _) ?_
 refine Cw.loopG (G:=WoG) [7,8,9,10,13,14,15,16,17,18,19,20,21,22,23,24,25,26,5,11,12,6] (fun g=> [(5,g.v),(6,vi g.k)]) (fun g=>g.D++g.DG) (fun g=>g.k≤l.length∧g.o.length≤g.k∧New w.heap.size g.D∧New w.heap.size g.DG∧g.o++qC_ (l.drop g.k) s=qC_ l s∧Gr g.D 86 2 g.v (g.o.map qh_).length ((g.o.map qh_).map ndC).flatten) (fun g=>l.length - g.k) ⟨0,[], .slice none 0 0,[],[]⟩ rfl rfl ?_ ?_
 ·exact⟨Nat.zero_le _,Nat.zero_le _,trivial,trivial,rfl,Gr.nl⟩
 intro g j hg
 refine kv ?_
 obtain⟨k,o,v3,D,DG⟩:=g
 simp only at hg ⊢
 obtain⟨hk,hol,hN,hNG,hR,hGr⟩:=hg
 have hNr:New w.heap.size (D++DG):=hN.app hNG
 have holm: (o.map qh_).length≤k:=by rw[List.length_map];exact hol
 by_cases hlt:k<l.length
 ·have d1:decide ((k:Int)< (l.length:Int))=true:=decide_eq_true (by omega)
  have hlm:k< (l.map qh_).length:=by rw[List.length_map];exact hlt
  have ix:=hr.idx true k hlm
  have rda:zy_ w (D++DG) rb=some (.cells arr E fz):=by rw[z6_ (hNr.not (hr.lt (by omega)))];exact hr.has (by omega)
  have l0: ∀n,zk_ (some (false,n)) (some (.cells arr E fz)) (off+k*2)=some (vs ((l.map qh_).getD k nd0).s):=fun n=>by have:=adT_ hr hlm n;rwa [Nat.add_zero] at this
  have lda:=ajs_ hr hlm
  rw[WT_] at l0 lda
  rw[vX_ hlt] at hR
  generalize l.getD k ([],0)=q at*
  by_cases he:q.1=s
  ·have e1: ((qh_ q).s !=s)=false:=by show(q.1 !=s)=false;rw[he];exact bne_self_eq_false _
   rw[if_pos he,List.nil_append] at hR
   first|with_reducible refine ks [] (And.intro @xM_ (And.intro @ln (And.intro @d1 (And.intro @ix (And.intro @rda (And.intro @l0 (And.intro @lda (@e1)))))))) ?_|refine kp (And.intro @xM_ (And.intro @ln (And.intro @d1 (And.intro @ix (And.intro @rda (And.intro @l0 (And.intro @lda (@e1)))))))) ?_
   exact Again.mk ⟨k+1,o,v3,D,DG⟩ (by show l.length - (k+1)<l.length - k;omega) ⟨hlt,by show o.length≤k+1;omega,hN,hNG,hR,hGr⟩ rfl rfl
  ·have e1: ((qh_ q).s !=s)=true:=bne_iff_ne.2 he
   rw[if_neg he,←List.append_assoc] at hR
   first|with_reducible refine ks [] (And.intro @xM_ (And.intro @ln (And.intro @d1 (And.intro @ix (And.intro @rda (And.intro @l0 (And.intro @lda (@e1)))))))) ?_|refine kp (And.intro @xM_ (And.intro @ln (And.intro @d1 (And.intro @ix (And.intro @rda (And.intro @l0 (And.intro @lda (@e1)))))))) ?_
   refine Ow.buildSlice (e:=86) (ndC (qh_ q)).toArray rfl rfl (zT_ Tryz.underlying75 Q1_ zrNd (by decide) (zW_ _)) fun bc hbc hwc=> ?_
   refine ko @xM_ ?_
   refine Ow.permL (M:=D++ (DG++ [(bc, .cells (ndC (qh_ q)).toArray 86 (0,0))])) (by classical exact List.perm_iff_count.2 fun a=>by simp only[List.count_append,List.count_cons,List.count_nil]<;>omega) ?_
   refine Ow.appendXG (e:=86) (k:=1) (new:=ndC (qh_ q)) (X:=D) v3 rfl rfl rfl rfl Tryz.underlying75 Q1_ (by kernel_rfl) zrNd (by rw[xc_,List.size_toArray,zW_]) Tryz.underlying75 (by intro k h;cases h) hGr (fun w' hw'=>AppX.one1 (hw'.has bc (.cells (ndC (qh_ q)).toArray 86 (0,0)) (by simp)) (zW_ _) (wU_ _)) (by omega) (fun B5 v5 D5 hA5 hB5 hG5 hk51 hk52 hlk5=> ?_)
   have hN5:New w.heap.size D5:=New.of_le fun q hq=>by
    rcases hk52 q hq with h|h
    ·exact hN.le q h
    ·omega
   refine ko @xM_ ?_
   first|with_reducible refine ks [] @xM_ ?_|refine kp @xM_ ?_
   exact Again.mk ⟨k+1,o++ [q],v5,D5,DG++ [(bc, .cells (ndC (qh_ q)).toArray 86 (0,0))]⟩ (by show l.length - (k+1)<l.length - k;omega) ⟨hlt,by rw[List.length_append];simp;omega,hN5,hNG.app ⟨hwc,trivial⟩,hR,by simpa using hG5⟩ rfl rfl
 ·obtain rfl:k=l.length:=by omega
  have d1:decide ((l.length:Int)< (l.length:Int))=false:=decide_eq_false (by omega)
  rw[List.drop_length,show qC_ [] s= [] from rfl,List.append_nil] at hR
  first|with_reducible refine ks [] (And.intro @xM_ (And.intro @ln (@d1))) ?_|refine kp (And.intro @xM_ (And.intro @ln (@d1))) ?_
  refine⟨_,(ke @xM_), ?_⟩
  rw[←hR]
  exact⟨Ext.of_new hNr,hGr.i fun q hq=>List.mem_append_left _ hq⟩
end Go.Proofs
end
section
open Go Go.Proofs Go.Sx Go.StP
namespace Go.Proofs
set_option maxRecDepth 10000
set_option maxHeartbeats 400000
set_option linter.unusedSimpArgs false
def X5_ (d:Bool) (r:NmL) (x:List UInt8×Nat):NmL:=if d=true then qC_ r x.1 else insN (qC_ r x.1) x
theorem anZ_ {l:NmL} {k:Nat} (h:k<l.length) (d:Bool) (x:List UInt8×Nat) (he: (l.getD k ([],0)).1=x.1):X5_ d (l.drop k) x=X5_ d (l.drop (k+1)) x:=by
 unfold X5_
 rw[vX_ h,if_pos he];rfl
theorem aqN_ {l:NmL} {k:Nat} (h:k<l.length) (x:List UInt8×Nat) (he: (l.getD k ([],0)).1≠x.1):X5_ true (l.drop k) x=l.getD k ([],0)::X5_ true (l.drop (k+1)) x:=by
 unfold X5_
 rw[vX_ h,if_neg he];rfl
theorem aqK_ {l:NmL} {k:Nat} (h:k<l.length) (x:List UInt8×Nat) (he: (l.getD k ([],0)).1≠x.1) (hl:ltB x.1 (l.getD k ([],0)).1=true):X5_ false (l.drop k) x=x::l.getD k ([],0)::X5_ true (l.drop (k+1)) x:=by
 unfold X5_
 rw[vX_ h,if_neg he]
 have e:insN (l.getD k ([],0)::qC_ (l.drop (k+1)) x.1) x=if ltB x.1 (l.getD k ([],0)).1=true then x::l.getD k ([],0)::qC_ (l.drop (k+1)) x.1 else l.getD k ([],0)::insN (qC_ (l.drop (k+1)) x.1) x:=rfl
 show insN (l.getD k ([],0)::qC_ (l.drop (k+1)) x.1) x=_
 rw[e,if_pos hl];rfl
theorem aqE_ {l:NmL} {k:Nat} (h:k<l.length) (x:List UInt8×Nat) (he: (l.getD k ([],0)).1≠x.1) (hl:ltB x.1 (l.getD k ([],0)).1=false):X5_ false (l.drop k) x=l.getD k ([],0)::X5_ false (l.drop (k+1)) x:=by
 unfold X5_
 rw[vX_ h,if_neg he]
 have e:insN (l.getD k ([],0)::qC_ (l.drop (k+1)) x.1) x=if ltB x.1 (l.getD k ([],0)).1=true then x::l.getD k ([],0)::qC_ (l.drop (k+1)) x.1 else l.getD k ([],0)::insN (qC_ (l.drop (k+1)) x.1) x:=rfl
 show insN (l.getD k ([],0)::qC_ (l.drop (k+1)) x.1) x=_
 rw[e,if_neg (by rw[hl];simp)];rfl
structure PuG where
 k:Nat
 d:Bool
 o:NmL
 v:Value
 D:ze_
 DG:ze_
set_option linter.defProp false
def qd_:=And.intro (And.intro (@zn_) (And.intro (@zm_) (@akZ_))) (And.intro (@afJ_) (And.intro (@afR_) (@xc_)))
theorem Jx_ (v:Value) (l:NmL) (x:List UInt8×Nat) (w:World) (hv:NdSl w v l) (hl:l.length<1000000000):Rets Tryz.prog 32 #[v, .agg (ndC (qh_ x)).toArray] w (XS w [] (fun r D=>NdG D r (XY_ l x))):=by
 have ln:=hv.len
 rw[List.length_map] at ln
 obtain⟨rb,off,arr,E,fz,hr⟩:=hv.row
 refine Rets.enterX Tryz.func32 rfl (rs:= [.tmp 4]) Tryz.results32 Tryz.ntmps32 (fun p hp=>by cases hp) (by simp[keys]) ?_
 refine kf ?_
 first|with_reducible refine ks [] @qd_ ?_|refine kp @qd_ ?_
 refine Ow.box rfl rfl fun b3 hb3 hw3=> ?_
 simp only[qm_,ql_,qu_,zh_,List.nil_append,List.cons_append]
 refine ko @qd_ ?_
 first|with_reducible refine ks [] @qd_ ?_|refine kp @qd_ ?_
 refine Cw.permL (M:=(b3, .cells (ndC (qh_ x)).toArray 86 (0,0)):: ([]++ [])) (List.Perm.refl _) ?_
 refine Cw.loopG (G:=PuG) [8,9,10,11,14,15,16,17,18,19,20,21,22,23,24,25,26,27,28,29,30,31,32,33,34,35,36,37,5,6,38,39,40,41,42,43,44,12,13,7] (fun g=> [(5,g.v),(6, .bool g.d),(7,vi g.k)]) (fun g=>(b3, .cells (ndC (qh_ x)).toArray 86 (0,0)):: (g.D++g.DG)) (fun g=>g.k≤l.length∧((g.d=false→g.o.length≤g.k)∧g.o.length≤g.k+1)∧New w.heap.size g.D∧New w.heap.size g.DG∧g.o++X5_ g.d (l.drop g.k) x=XY_ l x∧Gr g.D 86 2 g.v (g.o.map qh_).length ((g.o.map qh_).map ndC).flatten) (fun g=>l.length - g.k) ⟨0,false,[], .slice none 0 0,[],[]⟩ rfl rfl ?_ ?_
 ·exact⟨Nat.zero_le _,⟨fun _=>Nat.zero_le _,Nat.zero_le _⟩,trivial,trivial,rfl,Gr.nl⟩
 intro g j hg
 refine kv ?_
 obtain⟨k,d,o,v3,D,DG⟩:=g
 simp only at hg ⊢
 obtain⟨hk,⟨hof,hol⟩,hN,hNG,hR,hGr⟩:=hg
 have hNr:New w.heap.size ((b3,Obj.cells (ndC (qh_ x)).toArray 86 (0,0)):: (D++DG)):=⟨hw3,hN.app hNG⟩
 have holm: (o.map qh_).length≤k+1:=by rw[List.length_map];exact hol
 by_cases hlt:k<l.length
 ·have d1:decide ((k:Int)< (l.length:Int))=true:=decide_eq_true (by omega)
  have hlm:k< (l.map qh_).length:=by rw[List.length_map];exact hlt
  have ix:=hr.idx true k hlm
  have rda: ∀Y,New w.heap.size Y→zy_ w Y rb=some (.cells arr E fz):=fun Y hY=>by rw[z6_ (hY.not (hr.lt (by omega)))];exact hr.has (by omega)
  have rd1:=rda _ hNr
  have l0: ∀n,zk_ (some (false,n)) (some (.cells arr E fz)) (off+k*2)=some (vs ((l.map qh_).getD k nd0).s):=fun n=>by have:=adT_ hr hlm n;rwa [Nat.add_zero] at this
  have lda:=ajs_ hr hlm
  rw[WT_] at l0 lda
  have i1:=anZ_ hlt (x:=x)
  have i2:=aqN_ hlt (x:=x)
  have i3:=aqK_ hlt (x:=x)
  have i4:=aqE_ hlt (x:=x)
  generalize l.getD k ([],0)=q at*
  first|with_reducible refine ks [5] (And.intro @qd_ (And.intro @ln (@d1))) ?_|refine kp (And.intro @qd_ (And.intro @ln (@d1))) ?_
  refine Cw.regionS [rb,b3] [0,1,2,3,5,4,6,7] [] (by kernel_rfl) (by kernel_rfl) (by kernel_rfl) ?_
  simp only[zj_, ↓zf_, ↓zc_, ↓zw_, ↓zv_,zd_]
  refine kq (And.intro @qd_ (And.intro @ix (And.intro @rd1 (@l0)))) ?_
  by_cases he:q.1=x.1
  ·have e1: ((qh_ q).s==(qh_ x).s)=true:=beq_iff_eq.2 he
   rw[i1 d he] at hR
   first|with_reducible refine ks [] (And.intro @qd_ @e1) ?_|refine kp (And.intro @qd_ @e1) ?_
   first|with_reducible refine ks [] @qd_ ?_|refine kp @qd_ ?_
   exact Again.mk ⟨k+1,d,o,v3,D,DG⟩ (by show l.length - (k+1)<l.length - k;omega) ⟨hlt,⟨(fun h=>by have:=hof h;show o.length≤k+1;omega),by show o.length≤k+1+1;omega⟩,hN,hNG,hR,hGr⟩ rfl rfl
  ·have e1: ((qh_ q).s==(qh_ x).s)=false:=beq_eq_false_iff_ne.2 he
   cases d with
   |true=>
    rw[i2 he] at hR
    rw[show o++q::X5_ true (l.drop (k+1)) x=(o++ [q])++X5_ true (l.drop (k+1)) x by simp] at hR
    first|with_reducible refine ks [5] (And.intro @qd_ @e1) ?_|refine kp (And.intro @qd_ @e1) ?_
    refine Cw.regionS [rb,b3] [0,1,2,3,4,5,6,8,7,9,10,11] [] (by kernel_rfl) (by kernel_rfl) (by kernel_rfl) ?_
    simp only[zj_, ↓zf_, ↓zc_, ↓zw_, ↓zv_,zd_]
    refine kq @qd_ ?_
    first|with_reducible refine ks [5] (And.intro @qd_ (And.intro @ix (And.intro @rd1 (@lda)))) ?_|refine kp (And.intro @qd_ (And.intro @ix (And.intro @rd1 (@lda)))) ?_
    refine Ow.buildSlice (e:=86) (ndC (qh_ q)).toArray rfl rfl (zT_ Tryz.underlying75 Q1_ zrNd (by decide) (zW_ _)) fun bc hbc hwc=> ?_
    refine ko @qd_ ?_
    refine Ow.permL (M:=D++ ((b3, .cells (ndC (qh_ x)).toArray 86 (0,0)):: (DG++ [(bc, .cells (ndC (qh_ q)).toArray 86 (0,0))]))) (by classical exact List.perm_iff_count.2 fun a=>by simp only[List.count_append,List.count_cons,List.count_nil]<;>omega) ?_
    refine Ow.appendXG (e:=86) (k:=1) (new:=ndC (qh_ q)) (X:=D) v3 rfl rfl rfl rfl Tryz.underlying75 Q1_ (by kernel_rfl) zrNd (by rw[xc_,List.size_toArray,zW_]) Tryz.underlying75 (by intro k h;cases h) hGr (fun w' hw'=>AppX.one1 (hw'.has bc (.cells (ndC (qh_ q)).toArray 86 (0,0)) (by simp)) (zW_ _) (wU_ _)) (by omega) (fun B5 v5 D5 hA5 hB5 hG5 hk51 hk52 hlk5=> ?_)
    have hN5:New w.heap.size D5:=New.of_le fun q hq=>by
     rcases hk52 q hq with h|h
     ·exact hN.le q h
     ·omega
    refine ko @qd_ ?_
    refine Cw.permL (M:=(b3, .cells (ndC (qh_ x)).toArray 86 (0,0)):: (D5++ (DG++ [(bc, .cells (ndC (qh_ q)).toArray 86 (0,0))]))) (by classical exact List.perm_iff_count.2 fun a=>by simp only[List.count_append,List.count_cons,List.count_nil]<;>omega) ?_
    first|with_reducible refine ks [] @qd_ ?_|refine kp @qd_ ?_
    exact Again.mk ⟨k+1,true,o++ [q],v5,D5,DG++ [(bc, .cells (ndC (qh_ q)).toArray 86 (0,0))]⟩ (by show l.length - (k+1)<l.length - k;omega) ⟨hlt,⟨(fun h=>by have:=hof h;rw[List.length_append];simp;omega),by rw[List.length_append];simp;omega⟩,hN5,hNG.app ⟨hwc,trivial⟩,hR,by simpa using hG5⟩ rfl rfl
   |false=>
    cases hlx:ltB x.1 q.1 with
    |true=>
     have e2:Op.bytesLess (qh_ q).s (qh_ x).s=false:=aaW_ hlx
     rw[i3 he hlx] at hR
     rw[show o++x::q::X5_ true (l.drop (k+1)) x=((o++ [x])++ [q])++X5_ true (l.drop (k+1)) x by simp] at hR
     first|with_reducible refine ks [5] (And.intro @qd_ @e1) ?_|refine kp (And.intro @qd_ @e1) ?_
     refine Cw.regionS [rb,b3] [0,1,2,3,4,5,6,8,7,9,10,11] [] (by kernel_rfl) (by kernel_rfl) (by kernel_rfl) ?_
     simp only[zj_, ↓zf_, ↓zc_, ↓zw_, ↓zv_,zd_]
     refine kq (And.intro @qd_ (And.intro @ix (And.intro @rd1 (And.intro @l0 (And.intro @e2 (@e1)))))) ?_
     first|with_reducible refine ks [5] @qd_ ?_|refine kp @qd_ ?_
     refine Ow.buildSlice (e:=86) (ndC (qh_ x)).toArray rfl rfl (zT_ Tryz.underlying75 Q1_ zrNd (by decide) (zW_ _)) fun bc hbc hwc=> ?_
     refine ko @qd_ ?_
     refine Ow.permL (M:=D++ ((b3, .cells (ndC (qh_ x)).toArray 86 (0,0)):: (DG++ [(bc, .cells (ndC (qh_ x)).toArray 86 (0,0))]))) (by classical exact List.perm_iff_count.2 fun a=>by simp only[List.count_append,List.count_cons,List.count_nil]<;>omega) ?_
     refine Ow.appendXG (e:=86) (k:=1) (new:=ndC (qh_ x)) (X:=D) v3 rfl rfl rfl rfl Tryz.underlying75 Q1_ (by kernel_rfl) zrNd (by rw[xc_,List.size_toArray,zW_]) Tryz.underlying75 (by intro k h;cases h) hGr (fun w' hw'=>AppX.one1 (hw'.has bc (.cells (ndC (qh_ x)).toArray 86 (0,0)) (by simp)) (zW_ _) (wU_ _)) (by omega) (fun B5 v5 D5 hA5 hB5 hG5 hk51 hk52 hlk5=> ?_)
     have hN5:New w.heap.size D5:=New.of_le fun q hq=>by
      rcases hk52 q hq with h|h
      ·exact hN.le q h
      ·omega
     have hNG2:New w.heap.size (DG++ [(bc,Obj.cells (ndC (qh_ x)).toArray 86 (0,0))]):=hNG.app ⟨hwc,trivial⟩
     generalize DG++ [(bc,Obj.cells (ndC (qh_ x)).toArray 86 (0,0))]=DG2 at*
     have hG6:Gr D5 86 2 v5 ((o++ [x]).map qh_).length (((o++ [x]).map qh_).map ndC).flatten:=by simpa using hG5
     have hNr2:New w.heap.size ((b3,Obj.cells (ndC (qh_ x)).toArray 86 (0,0)):: (D5++DG2)):=⟨hw3,hN5.app hNG2⟩
     have rd2:=rda _ hNr2
     refine Ow.permL (M:=(b3, .cells (ndC (qh_ x)).toArray 86 (0,0)):: (D5++DG2)) (by classical exact List.perm_iff_count.2 fun a=>by simp only[List.count_append,List.count_cons,List.count_nil]<;>omega) ?_
     refine ko (And.intro @qd_ (And.intro @ix (And.intro @rd2 (@lda)))) ?_
     have hol2: ((o++ [x]).map qh_).length≤k+2:=by rw[List.length_map,List.length_append];simp;omega
     refine Ow.buildSlice (e:=86) (ndC (qh_ q)).toArray rfl rfl (zT_ Tryz.underlying75 Q1_ zrNd (by decide) (zW_ _)) fun bd hbd hwd=> ?_
     refine ko @qd_ ?_
     refine Ow.permL (M:=D5++ ((b3, .cells (ndC (qh_ x)).toArray 86 (0,0)):: (DG2++ [(bd, .cells (ndC (qh_ q)).toArray 86 (0,0))]))) (by classical exact List.perm_iff_count.2 fun a=>by simp only[List.count_append,List.count_cons,List.count_nil]<;>omega) ?_
     refine Ow.appendXG (e:=86) (k:=1) (new:=ndC (qh_ q)) (X:=D5) v5 rfl rfl rfl rfl Tryz.underlying75 Q1_ (by kernel_rfl) zrNd (by rw[xc_,List.size_toArray,zW_]) Tryz.underlying75 (by intro k h;cases h) hG6 (fun w' hw'=>AppX.one1 (hw'.has bd (.cells (ndC (qh_ q)).toArray 86 (0,0)) (by simp)) (zW_ _) (wU_ _)) (by omega) (fun B6 v6 D6 hA6 hB6 hG7 hk61 hk62 hlk6=> ?_)
     have hN6:New w.heap.size D6:=New.of_le fun q hq=>by
      rcases hk62 q hq with h|h
      ·exact hN5.le q h
      ·omega
     refine ko @qd_ ?_
     refine Cw.permL (M:=(b3, .cells (ndC (qh_ x)).toArray 86 (0,0)):: (D6++ (DG2++ [(bd, .cells (ndC (qh_ q)).toArray 86 (0,0))]))) (by classical exact List.perm_iff_count.2 fun a=>by simp only[List.count_append,List.count_cons,List.count_nil]<;>omega) ?_
     first|with_reducible refine ks [] @qd_ ?_|refine kp @qd_ ?_
     exact Again.mk ⟨k+1,true,(o++ [x])++ [q],v6,D6,DG2++ [(bd, .cells (ndC (qh_ q)).toArray 86 (0,0))]⟩ (by show l.length - (k+1)<l.length - k;omega) ⟨hlt,⟨(fun h=>by cases h),by have:=hof rfl;rw[List.length_append,List.length_append];simp;omega⟩,hN6,hNG2.app ⟨hwd,trivial⟩,hR,by simpa using hG7⟩ rfl rfl
    |false=>
     have e2:Op.bytesLess (qh_ q).s (qh_ x).s=true:=Zy_ hlx (Ne.symm he)
     rw[i4 he hlx] at hR
     rw[show o++q::X5_ false (l.drop (k+1)) x=(o++ [q])++X5_ false (l.drop (k+1)) x by simp] at hR
     first|with_reducible refine ks [5] (And.intro @qd_ @e1) ?_|refine kp (And.intro @qd_ @e1) ?_
     refine Cw.regionS [rb,b3] [0,1,2,3,4,5,6,8,7,9,10,11] [] (by kernel_rfl) (by kernel_rfl) (by kernel_rfl) ?_
     simp only[zj_, ↓zf_, ↓zc_, ↓zw_, ↓zv_,zd_]
     refine kq (And.intro @qd_ (And.intro @ix (And.intro @rd1 (And.intro @l0 (And.intro @e2 (@e1)))))) ?_
     first|with_reducible refine ks [5] (And.intro @qd_ (And.intro @ix (And.intro @rd1 (@lda)))) ?_|refine kp (And.intro @qd_ (And.intro @ix (And.intro @rd1 (@lda)))) ?_
     refine Ow.buildSlice (e:=86) (ndC (qh_ q)).toArray rfl rfl (zT_ Tryz.underlying75 Q1_ zrNd (by decide) (zW_ _)) fun bc hbc hwc=> ?_
     refine ko @qd_ ?_
     refine Ow.permL (M:=D++ ((b3, .cells (ndC (qh_ x)).toArray 86 (0,0)):: (DG++ [(bc, .cells (ndC (qh_ q)).toArray 86 (0,0))]))) (by classical exact List.perm_iff_count.2 fun a=>by simp only[List.count_append,List.count_cons,List.count_nil]<;>omega) ?_
     refine Ow.appendXG (e:=86) (k:=1) (new:=ndC (qh_ q)) (X:=D) v3 rfl rfl rfl rfl Tryz.underlying75 Q1_ (by kernel_rfl) zrNd (by rw[xc_,List.size_toArray,zW_]) Tryz.underlying75 (by intro k h;cases h) hGr (fun w' hw'=>AppX.one1 (hw'.has bc (.cells (ndC (qh_ q)).toArray 86 (0,0)) (by simp)) (zW_ _) (wU_ _)) (by omega) (fun B5 v5 D5 hA5 hB5 hG5 hk51 hk52 hlk5=> ?_)
     have hN5:New w.heap.size D5:=New.of_le fun q hq=>by
      rcases hk52 q hq with h|h
      ·exact hN.le q h
      ·omega
     refine ko @qd_ ?_
     refine Cw.permL (M:=(b3, .cells (ndC (qh_ x)).toArray 86 (0,0)):: (D5++ (DG++ [(bc, .cells (ndC (qh_ q)).toArray 86 (0,0))]))) (by classical exact List.perm_iff_count.2 fun a=>by simp only[List.count_append,List.count_cons,List.count_nil]<;>omega) ?_
     first|with_reducible refine ks [] @qd_ ?_|refine kp @qd_ ?_
     exact Again.mk ⟨k+1,false,o++ [q],v5,D5,DG++ [(bc, .cells (ndC (qh_ q)).toArray 86 (0,0))]⟩ (by show l.length - (k+1)<l.length - k;omega) ⟨hlt,⟨(fun h=>by have:=hof h;rw[List.length_append];simp;omega),by rw[List.length_append];simp;omega⟩,hN5,hNG.app ⟨hwc,trivial⟩,hR,by simpa using hG5⟩ rfl rfl
 ·obtain rfl:k=l.length:=by omega
  have d1:decide ((l.length:Int)< (l.length:Int))=false:=decide_eq_false (by omega)
  rw[List.drop_length] at hR
  cases d with
  |true=>
   rw[show X5_ true [] x= [] from rfl,List.append_nil] at hR
   first|with_reducible refine ks [] (And.intro @qd_ (And.intro @ln (@d1))) ?_|refine kp (And.intro @qd_ (And.intro @ln (@d1))) ?_
   refine⟨_,(ke @qd_), ?_⟩
   rw[←hR]
   exact⟨Ext.of_new hNr,hGr.i fun q hq=>List.mem_cons_of_mem _ (List.mem_append_left _ hq)⟩
  |false=>
   rw[show X5_ false [] x= [x] from rfl] at hR
   first|with_reducible refine ks [] (And.intro @qd_ (And.intro @ln (@d1))) ?_|refine kp (And.intro @qd_ (And.intro @ln (@d1))) ?_
   refine Ow.buildSlice (e:=86) (ndC (qh_ x)).toArray rfl rfl (zT_ Tryz.underlying75 Q1_ zrNd (by decide) (zW_ _)) fun bc hbc hwc=> ?_
   refine ko @qd_ ?_
   refine Ow.permL (M:=D++ ((b3, .cells (ndC (qh_ x)).toArray 86 (0,0)):: (DG++ [(bc, .cells (ndC (qh_ x)).toArray 86 (0,0))]))) (by classical exact List.perm_iff_count.2 fun a=>by simp only[List.count_append,List.count_cons,List.count_nil]<;>omega) ?_
   refine Ow.appendXG (e:=86) (k:=1) (new:=ndC (qh_ x)) (X:=D) v3 rfl rfl rfl rfl Tryz.underlying75 Q1_ (by kernel_rfl) zrNd (by rw[xc_,List.size_toArray,zW_]) Tryz.underlying75 (by intro k h;cases h) hGr (fun w' hw'=>AppX.one1 (hw'.has bc (.cells (ndC (qh_ x)).toArray 86 (0,0)) (by simp)) (zW_ _) (wU_ _)) (by omega) (fun B5 v5 D5 hA5 hB5 hG5 hk51 hk52 hlk5=> ?_)
   have hN5:New w.heap.size D5:=New.of_le fun q hq=>by
    rcases hk52 q hq with h|h
    ·exact hN.le q h
    ·omega
   refine ko @qd_ ?_
   first|with_reducible refine ks [] @qd_ ?_|refine kp @qd_ ?_
   refine⟨_,(ke @qd_), ?_⟩
   rw[←hR]
   have hG6:Gr D5 86 2 v5 ((o++ [x]).map qh_).length (((o++ [x]).map qh_).map ndC).flatten:=by simpa using hG5
   exact⟨Ext.of_new (hN5.app (show New w.heap.size ((b3,_):: (DG++ [(bc,_)])) from⟨hw3,hNG.app ⟨hwc,trivial⟩⟩)),hG6.i fun q hq=>List.mem_append_left _ hq⟩
set_option linter.defProp false
def kG_:=And.intro (And.intro (And.intro (@zn_) (@zm_)) (And.intro (@akN_) (@aeY_))) (And.intro (And.intro (@afh_) (@afr_)) (And.intro (@aeS_) (@VI_)))
theorem Xz_ (x:List UInt8×Nat):qM_ (xX_ Tryz.prog 86) (zK_ Tryz.prog 86) [(0,vs x.1),(1,vi (x.2:Int))]=some (.agg (ndC (qh_ x)).toArray):=by
 rw[show xX_ Tryz.prog 86=some [(0,1),(1,1)] from id (by kernel_rfl),Tryz.zr86];rfl
theorem ahG_ (v:Value) (l:NmL) (c:CallL) (w:World) (hv:NdSl w v l) (hl:l.length<999999999) (hok:c.kind=1→zC_ l c.a≠none):Rets Tryz.prog 69 #[v, .agg (kcC (WP_ c)).toArray] w (XS w [] (fun r D=>NdG D r (qo_ l c))):=by
 have hk0: (WP_ c).kind=(c.kind:Int):=rfl
 have hka: (WP_ c).a=c.a:=rfl
 have hkb: (WP_ c).b=c.b:=rfl
 have hkn: (WP_ c).n=(c.n:Int):=rfl
 refine Rets.enterX Tryz.func69 rfl (rs:= [.tmp 4]) Tryz.results69 Tryz.ntmps69 (fun p hp=>by cases hp) (by simp[keys]) ?_
 refine kf ?_
 first|with_reducible refine ks [] @kG_ ?_|refine kp @kG_ ?_
 refine Ow.box rfl rfl fun b3 hb3 hw3=> ?_
 simp only[qm_,ql_,qu_,zh_,List.nil_append,List.cons_append]
 have hN3:New w.heap.size [(b3,Obj.cells (kcC (WP_ c)).toArray 131 (0,0))]:=⟨hw3,trivial⟩
 refine ko @kG_ ?_
 by_cases k0:c.kind=0
 ·have e0: (((c.kind:Nat):Int)==0)=true:=by rw[k0];rfl
  have hd:qo_ l c=XY_ l (c.a,c.n):=by unfold qo_;rw[k0];rfl
  first|with_reducible refine ks [] (And.intro @kG_ (And.intro @hk0 (And.intro @e0 (And.intro @hka (@hkn))))) ?_|refine kp (And.intro @kG_ (And.intro @hk0 (And.intro @e0 (And.intro @hka (@hkn))))) ?_
  refine Ow.build (.agg (ndC (qh_ (c.a,c.n))).toArray) rfl (Xz_ (c.a,c.n)) ?_
  refine ko @kG_ ?_
  refine Ow.callC rfl rfl Tryz.call32 (fun w' hw'=>Jx_ v l (c.a,c.n) w' (hv.oldN hw' hN3) (by omega)) (fun B1 v1 D1 hA1 hB1 hN1 hS1=> ?_)
  refine ko @kG_ ?_
  refine⟨_,(ke @kG_), ?_⟩
  rw[hd]
  exact⟨Ext.of_new (show New w.heap.size ((b3,_)::D1) from⟨hw3,hN1.mono hB1⟩),hS1.mono fun q hq=>List.mem_cons_of_mem _ hq⟩
 ·have e0: (((c.kind:Nat):Int)==0)=false:=beq_eq_false_iff_ne.2 (by omega)
  by_cases k1:c.kind=1
  ·have e1: (((c.kind:Nat):Int)==1)=true:=by rw[k1];rfl
   obtain⟨n,hn⟩: ∃n,zC_ l c.a=some n:=by
    cases h:zC_ l c.a with
    |none=>exact absurd h (hok k1)
    |some n=>exact⟨n,rfl⟩
   have hd:qo_ l c=XY_ (qC_ l c.a) (c.b,n):=by unfold qo_;rw[k1,hn];rfl
   have hfi:v3_ l c.a=(n:Int):=by unfold v3_;rw[hn]
   have hwl:=ZE_ l c.a
   first|with_reducible refine ks [6] (And.intro @kG_ (And.intro @hk0 (And.intro @e0 (And.intro @e1 (@hka))))) ?_|refine kp (And.intro @kG_ (And.intro @hk0 (And.intro @e0 (And.intro @e1 (@hka))))) ?_
   refine Ow.callFV rfl Tryz.call67 (fun w' hw'=>Qp_ v l c.a w' (hv.oldN hw' hN3) (by omega)) ?_
   rw[hfi]
   refine ko @kG_ ?_
   refine Cw.regionS [b3] [0,1,4,6,2,5,7,3,8,9] [] (by kernel_rfl) (by kernel_rfl) (by kernel_rfl) ?_
   simp only[zj_, ↓zf_, ↓zc_, ↓zw_, ↓zv_,zd_]
   refine kq (And.intro @kG_ (And.intro @hka (@hkb))) ?_
   refine Ow.build (.agg (ndC (qh_ (c.b,n))).toArray) rfl (Xz_ (c.b,n)) ?_
   refine kq @kG_ ?_
   refine Ow.soft rfl rfl rfl ?_
   refine Ow.callC rfl rfl Tryz.call91 (fun w' hw'=>QO_ v l c.a w' (hv.oldN hw' hN3) (by omega)) (fun B1 v1 D1 hA1 hB1 hN1 hS1=> ?_)
   have hN1':New w.heap.size ([(b3,Obj.cells (kcC (WP_ c)).toArray 131 (0,0))]++D1):=hN3.app (hN1.mono hB1)
   with_reducible refine Ow.nil ?_
   refine⟨j6_ (by simp[keys]), ?_⟩
   refine kq @kG_ ?_
   refine Ow.soft rfl rfl rfl ?_
   refine Ow.callC rfl rfl Tryz.call32 (fun w' hw'=>Jx_ v1 (qC_ l c.a) (c.b,n) w' ((hS1.mono (fun q hq=>by simp[hq])).slV (z:=nd0) hw' rfl rfl zW_) (by omega)) (fun B2 v2 D2 hA2 hB2 hN2 hS2=> ?_)
   with_reducible refine Ow.nil ?_
   refine⟨j6_ (by simp[keys]), ?_⟩
   refine kq @kG_ ?_
   refine⟨_,(ke @kG_), ?_⟩
   rw[hd]
   exact⟨Ext.of_new (hN1'.app (hN2.mono hB2)),hS2.mono fun q hq=>by simp[hq]⟩
  ·have e1: (((c.kind:Nat):Int)==1)=false:=beq_eq_false_iff_ne.2 (by omega)
   have hd:qo_ l c=qC_ l c.a:=by
    unfold qo_
    split
    ·omega
    ·omega
    ·rfl
   first|with_reducible refine ks [] (And.intro @kG_ (And.intro @hk0 (And.intro @e0 (And.intro @e1 (@hka))))) ?_|refine kp (And.intro @kG_ (And.intro @hk0 (And.intro @e0 (And.intro @e1 (@hka))))) ?_
   refine Ow.callC rfl rfl Tryz.call91 (fun w' hw'=>QO_ v l c.a w' (hv.oldN hw' hN3) (by omega)) (fun B1 v1 D1 hA1 hB1 hN1 hS1=> ?_)
   refine ko @kG_ ?_
   refine⟨_,(ke @kG_), ?_⟩
   rw[hd]
   exact⟨Ext.of_new (show New w.heap.size ((b3,_)::D1) from⟨hw3,hN1.mono hB1⟩),hS1.mono fun q hq=>List.mem_cons_of_mem _ hq⟩
end Go.Proofs
end
section
open Go Go.Proofs Go.Sx Go.StP
namespace Go.Proofs
set_option maxRecDepth 10000
set_option maxHeartbeats 400000
set_option linter.unusedSimpArgs false
structure DcG where
 bd:Nat
 s:Nat→Value
 t:Nat→Value
 p:Nat→Value
 f:Value
def xw_ (S:DiskL):Int:=if S.fused=true then S.fuse else -1
def dcO (G:DcG) (S:DiskL):Obj:= .cells #[G.s 0,G.t 0,G.p 0,G.s 1,G.t 1,G.p 1,G.s 2,G.t 2,G.p 2,G.f,vi S.max,vi (xw_ S), .bool S.off] 81 (0,0)
def wJ_ (c:CallL):CallL:=if c.kind=0 then⟨0,c.a,[],c.n⟩ else if c.kind=1 then⟨1,c.a,c.b,0⟩ else⟨2,c.a,[],0⟩
theorem ahT_ (l:NmL) (c:CallL):qo_ l (wJ_ c)=qo_ l c:=by
 obtain⟨k,a,b,n⟩:=c
 unfold wJ_
 match k with
 |0=>rfl
 |1=>rfl
 |k+2=>
  rw[if_neg (by simp),if_neg (by simp)];rfl
def NdP (X:ze_) (v:Value) (l:NmL):Prop:=Gr X 86 2 v (l.map qh_).length ((l.map qh_).map ndC).flatten
def KcP (X:ze_) (v:Value) (l:List CallL):Prop:=Gr X 131 4 v (l.map WP_).length ((l.map WP_).map kcC).flatten
def FdP (X:ze_) (v:Value) (l:List FileL):Prop:=Gr X 83 2 v (l.map kT_).length ((l.map kT_).map fdC).flatten
structure DcP (X:ze_) (G:DcG) (S:DiskL):Prop where
 disk:Sx.look X G.bd=some (dcO G S)
 seen: ∀k,k<3→NdP X (G.s k) (S.dir k).seen
 stl: ∀k,k<3→NdP X (G.t k) (S.dir k).stl
 pend: ∀k,k<3→ ∃pl:List CallL,pl.map wJ_=(S.dir k).pend.map wJ_∧KcP X (G.p k) pl
 files:FdP X G.f S.files
 pdis: ∀i j,i<3→j<3→i≠j→ ∀b,slB (G.p i)=some b→slB (G.p j)≠some b
def DcW (w:World) (G:DcG) (S:DiskL):Prop:= ∃X,(∀b o,Sx.look X b=some o→w.heap[b]? =some o)∧DcP X G S
theorem Gr.keepTy {X L:ze_} {E:TypeId} {m n:Nat} {v:Value} {cs:List Value} (h:Gr X E m v n cs) {c:Nat} {oc:Obj} (hc:Sx.look X c=some oc) (ht:tyO oc≠some E) (keep: ∀b o,b≠c→Sx.look X b=some o→Sx.look L b=some o):Gr L E m v n cs:=h.keep fun b o hb ho=>keep b o (by
 rintro rfl
 obtain⟨arr,ha⟩:=x0_ h hb
 rw[hc] at ha;cases ha;exact ht rfl) ho
theorem DcP.mono {X X':ze_} {G:DcG} {S:DiskL} (h:DcP X G S) (hk: ∀b o,Sx.look X b=some o→Sx.look X' b=some o):DcP X' G S where
 disk:=hk _ _ h.disk
 seen k hk3:=(h.seen k hk3).keep fun b o _ ho=>hk b o ho
 stl k hk3:=(h.stl k hk3).keep fun b o _ ho=>hk b o ho
 pend k hk3:=by
  obtain⟨pl,h1,h2⟩:=h.pend k hk3
  exact⟨pl,h1,h2.keep fun b o _ ho=>hk b o ho⟩
 files:=h.files.keep fun b o _ ho=>hk b o ho
 pdis:=h.pdis
theorem DcP.world {X:ze_} {G:DcG} {S:DiskL} {w0 w:World} (h:DcP X G S) (hw:Hp w0 X w):DcW w G S:=⟨X,fun _ _ hb=>hw.has _ _ (zq_ hb),h⟩
theorem DcP.worldX {X:ze_} {G:DcG} {S:DiskL} {w:World} (h:DcP X G S) (hX: ∀p,p∈X→w.heap[p.1]? =some p.2):DcW w G S:=⟨X,fun _ _ hb=>hX _ (zq_ hb),h⟩
theorem DcW.old {w w':World} {L:ze_} {G:DcG} {S:DiskL} (h:DcW w G S) (hw:Hp w L w') (hn:New w.heap.size L):DcW w' G S:=by
 obtain⟨X,hX,hP⟩:=h
 refine⟨X,fun b o hb=> ?_,hP⟩
 have hlt:=(Array.getElem?_eq_some_iff.1 (hX b o hb)).1
 exact(hw.old b hlt (hn.not hlt)).trans (hX b o hb)
theorem j4_ (G:DcG) (S:DiskL):tyO (dcO G S)=some 81:=rfl
theorem vE_: (some 81:Option TypeId)≠some 86:=by decide
theorem K9_: (some 81:Option TypeId)≠some 131:=by decide
theorem wH_: (some 81:Option TypeId)≠some 83:=by decide
theorem DcP.upd {X L:ze_} {G G':DcG} {S S':DiskL} (h:DcP X G S) (hb:G'.bd=G.bd) (keep: ∀b o,b≠G.bd→Sx.look X b=some o→Sx.look L b=some o) (hd:Sx.look L G.bd=some (dcO G' S'))
  (hs: ∀k,k<3→(G'.s k=G.s k∧(S'.dir k).seen=(S.dir k).seen)∨NdP L (G'.s k) (S'.dir k).seen)
  (ht: ∀k,k<3→(G'.t k=G.t k∧(S'.dir k).stl=(S.dir k).stl)∨NdP L (G'.t k) (S'.dir k).stl)
  (hp: ∀k,k<3→(G'.p k=G.p k∧(S'.dir k).pend=(S.dir k).pend)∨(G'.p k= .slice none 0 0∧(S'.dir k).pend= []))
  (hf:G'.f=G.f∧S'.files=S.files):DcP L G' S' where
 disk:=by rw[hb];exact hd
 seen k hk:=by
  rcases hs k hk with⟨h1,h2⟩ |h1
  ·rw[h1,h2];exact Gr.keepTy (h.seen k hk) h.disk (by rw[j4_];exact vE_) keep
  ·exact h1
 stl k hk:=by
  rcases ht k hk with⟨h1,h2⟩ |h1
  ·rw[h1,h2];exact Gr.keepTy (h.stl k hk) h.disk (by rw[j4_];exact vE_) keep
  ·exact h1
 pend k hk:=by
  rcases hp k hk with⟨h1,h2⟩ | ⟨h1,h2⟩
  ·obtain⟨pl,h3,h4⟩:=h.pend k hk
   exact⟨pl,by rw[h2];exact h3,by rw[h1];exact Gr.keepTy h4 h.disk (by rw[j4_];exact K9_) keep⟩
  ·exact⟨[],by rw[h2],by rw[h1];exact Gr.nl⟩
 files:=by rw[hf.1,hf.2];exact Gr.keepTy h.files h.disk (by rw[j4_];exact wH_) keep
 pdis i j hi hj hij b:=by
  rcases hp i hi with⟨h1,-⟩ | ⟨h1,-⟩
  ·rcases hp j hj with⟨h2,-⟩ | ⟨h2,-⟩
   ·rw[h1,h2];exact h.pdis i j hi hj hij b
   ·rw[h2];intro _ h;cases h
  ·rw[h1];intro h;cases h
theorem DcP.setD {X:ze_} {G:DcG} {S:DiskL} (h:DcP X G S) (S':DiskL) (hd:S'.dir=S.dir) (hf:S'.files=S.files):DcP (setB X G.bd (dcO G S')) G S':=
 h.upd rfl (fun b o hb ho=>by rw[zb_ (Ne.symm hb)];exact ho) (zB_ h.disk) (fun k _=> .inl ⟨rfl,by rw[hd]⟩) (fun k _=> .inl ⟨rfl,by rw[hd]⟩) (fun k _=> .inl ⟨rfl,by rw[hd]⟩) ⟨rfl,hf⟩
theorem x7_ (G:DcG) (S:DiskL) {k:Nat} (hk:k<3) (n:Nat):zk_ (some (false,n)) (some (dcO G S)) (k*3)=some (G.s k):=by
 have:k=0∨k=1∨k=2:=by omega
 rcases this with rfl|rfl|rfl<;>rfl
theorem al9_ (G:DcG) (S:DiskL) {k:Nat} (hk:k<3) (n:Nat):zk_ (some (false,n)) (some (dcO G S)) (k*3+2)=some (G.p k):=by
 have:k=0∨k=1∨k=2:=by omega
 rcases this with rfl|rfl|rfl<;>rfl
theorem k3_ (G:DcG) (S:DiskL) (n:Nat):zk_ (some (false,n)) (some (dcO G S)) 9=some G.f:=(rfl)
theorem k6_ (G:DcG) (S:DiskL) (n:Nat):zk_ (some (false,n)) (some (dcO G S)) 10=some (vi S.max):=(rfl)
theorem ve_ (G:DcG) (S:DiskL) (n:Nat):zk_ (some (false,n)) (some (dcO G S)) 11=some (vi (xw_ S)):=(rfl)
theorem vm_ (G:DcG) (S:DiskL) (n:Nat):zk_ (some (false,n)) (some (dcO G S)) 12=some (.bool S.off):=(rfl)
def ko_ (G:DcG) (k:Nat) (v:Value):DcG:={G with s:=fun j=>if j=k then v else G.s j}
def WM_ (G:DcG) (k:Nat) (v:Value):DcG:={G with t:=fun j=>if j=k then v else G.t j}
def jR_ (G:DcG) (k:Nat) (v:Value):DcG:={G with p:=fun j=>if j=k then v else G.p j}
theorem aa9_ (G:DcG) (S:DiskL) {k:Nat} (hk:k<3) (x:Bool) {q:Value} (hq:Value.oneCell' q=true∧q.cells= #[q]):zu_ (some (x,1)) (some (dcO G S)) (k*3) q=some (dcO (ko_ G k q) S):=by
 have:k=0∨k=1∨k=2:=by omega
 rcases this with rfl|rfl|rfl
 ·exact zt_ [] [G.s 0] [q] [G.t 0,G.p 0,G.s 1,G.t 1,G.p 1,G.s 2,G.t 2,G.p 2,G.f,vi S.max,vi (xw_ S), .bool S.off] x _ 81 rfl rfl hq.2 rfl (by simp[hq.1])
 ·exact zt_ [G.s 0,G.t 0,G.p 0] [G.s 1] [q] [G.t 1,G.p 1,G.s 2,G.t 2,G.p 2,G.f,vi S.max,vi (xw_ S), .bool S.off] x _ 81 rfl rfl hq.2 rfl (by simp[hq.1])
 ·exact zt_ [G.s 0,G.t 0,G.p 0,G.s 1,G.t 1,G.p 1] [G.s 2] [q] [G.t 2,G.p 2,G.f,vi S.max,vi (xw_ S), .bool S.off] x _ 81 rfl rfl hq.2 rfl (by simp[hq.1])
theorem acc_ (G:DcG) (S:DiskL) {k:Nat} (hk:k<3) (x:Bool) {q:Value} (hq:Value.oneCell' q=true∧q.cells= #[q]):zu_ (some (x,1)) (some (dcO G S)) (k*3+1) q=some (dcO (WM_ G k q) S):=by
 have:k=0∨k=1∨k=2:=by omega
 rcases this with rfl|rfl|rfl
 ·exact zt_ [G.s 0] [G.t 0] [q] [G.p 0,G.s 1,G.t 1,G.p 1,G.s 2,G.t 2,G.p 2,G.f,vi S.max,vi (xw_ S), .bool S.off] x _ 81 rfl rfl hq.2 rfl (by simp[hq.1])
 ·exact zt_ [G.s 0,G.t 0,G.p 0,G.s 1] [G.t 1] [q] [G.p 1,G.s 2,G.t 2,G.p 2,G.f,vi S.max,vi (xw_ S), .bool S.off] x _ 81 rfl rfl hq.2 rfl (by simp[hq.1])
 ·exact zt_ [G.s 0,G.t 0,G.p 0,G.s 1,G.t 1,G.p 1,G.s 2] [G.t 2] [q] [G.p 2,G.f,vi S.max,vi (xw_ S), .bool S.off] x _ 81 rfl rfl hq.2 rfl (by simp[hq.1])
theorem aaI_ (G:DcG) (S:DiskL) {k:Nat} (hk:k<3) (x:Bool) {q:Value} (hq:Value.oneCell' q=true∧q.cells= #[q]):zu_ (some (x,1)) (some (dcO G S)) (k*3+2) q=some (dcO (jR_ G k q) S):=by
 have:k=0∨k=1∨k=2:=by omega
 rcases this with rfl|rfl|rfl
 ·exact zt_ [G.s 0,G.t 0] [G.p 0] [q] [G.s 1,G.t 1,G.p 1,G.s 2,G.t 2,G.p 2,G.f,vi S.max,vi (xw_ S), .bool S.off] x _ 81 rfl rfl hq.2 rfl (by simp[hq.1])
 ·exact zt_ [G.s 0,G.t 0,G.p 0,G.s 1,G.t 1] [G.p 1] [q] [G.s 2,G.t 2,G.p 2,G.f,vi S.max,vi (xw_ S), .bool S.off] x _ 81 rfl rfl hq.2 rfl (by simp[hq.1])
 ·exact zt_ [G.s 0,G.t 0,G.p 0,G.s 1,G.t 1,G.p 1,G.s 2,G.t 2] [G.p 2] [q] [G.f,vi S.max,vi (xw_ S), .bool S.off] x _ 81 rfl rfl hq.2 rfl (by simp[hq.1])
theorem aaU_ (G:DcG) (S:DiskL) (x:Bool) {q:Value} (hq:Value.oneCell' q=true∧q.cells= #[q]):zu_ (some (x,1)) (some (dcO G S)) 9 q=some (dcO {G with f:=q} S):=
 zt_ [G.s 0,G.t 0,G.p 0,G.s 1,G.t 1,G.p 1,G.s 2,G.t 2,G.p 2] [G.f] [q] [vi S.max,vi (xw_ S), .bool S.off] x _ 81 rfl rfl hq.2 rfl (by simp[hq.1])
def dcL (G:DcG) (S:DiskL) (n:Int) (b:Bool):Obj:= .cells #[G.s 0,G.t 0,G.p 0,G.s 1,G.t 1,G.p 1,G.s 2,G.t 2,G.p 2,G.f,vi S.max,vi n, .bool b] 81 (0,0)
theorem akp_ (G:DcG) (S S':DiskL) {n:Int} {b:Bool} (hm:S'.max=S.max) (hl:xw_ S'=n) (ho:S'.off=b):dcL G S n b=dcO G S':=by
 unfold dcL dcO;rw[hm,hl,ho]
theorem abG_ (G:DcG) (S:DiskL) (n:Int) (a:Bool):zu_ (some (a,1)) (some (dcO G S)) 11 (vi n)=some (dcL G S n S.off):=zt_ [G.s 0,G.t 0,G.p 0,G.s 1,G.t 1,G.p 1,G.s 2,G.t 2,G.p 2,G.f,vi S.max] [vi (xw_ S)] [vi n] [.bool S.off] a _ 81 rfl rfl rfl rfl rfl
theorem K6_ (G:DcG) (S:DiskL) (m n:Int) (b a:Bool):zu_ (some (a,1)) (some (dcL G S m b)) 11 (vi n)=some (dcL G S n b):=zt_ [G.s 0,G.t 0,G.p 0,G.s 1,G.t 1,G.p 1,G.s 2,G.t 2,G.p 2,G.f,vi S.max] [vi m] [vi n] [.bool b] a _ 81 rfl rfl rfl rfl rfl
theorem abA_ (G:DcG) (S:DiskL) (x a:Bool):zu_ (some (a,1)) (some (dcO G S)) 12 (.bool x)=some (dcO G {S with off:=x}):=zt_ [G.s 0,G.t 0,G.p 0,G.s 1,G.t 1,G.p 1,G.s 2,G.t 2,G.p 2,G.f,vi S.max,vi (xw_ S)] [.bool S.off] [.bool x] [] a _ 81 rfl rfl rfl rfl rfl
theorem abL_ (G:DcG) (S:DiskL) (x:Int) (a:Bool):zu_ (some (a,1)) (some (dcO G S)) 10 (vi x)=some (dcO G {S with max:=x}):=zt_ [G.s 0,G.t 0,G.p 0,G.s 1,G.t 1,G.p 1,G.s 2,G.t 2,G.p 2,G.f] [vi S.max] [vi x] [vi (xw_ S), .bool S.off] a _ 81 rfl rfl rfl rfl rfl
theorem alC_ (q:Int):qM_ (xX_ Tryz.prog 81) (zK_ Tryz.prog 81) [(2,vi q),(3,vi (-1))]=some (.agg #[.slice none 0 0, .slice none 0 0, .slice none 0 0, .slice none 0 0, .slice none 0 0, .slice none 0 0, .slice none 0 0, .slice none 0 0, .slice none 0 0, .slice none 0 0,vi q,vi (-1), .bool false]):=by
 rw[show xX_ Tryz.prog 81=some [(0,9),(9,1),(10,1),(11,1),(12,1)] from id (by kernel_rfl),Tryz.zr81];rfl
def dcG0 (b:Nat):DcG:=⟨b,fun _=> .slice none 0 0,fun _=> .slice none 0 0,fun _=> .slice none 0 0, .slice none 0 0⟩
theorem aow_ (b:Nat) (q:Int):DcP [(b,dcO (dcG0 b) (wK_ q))] (dcG0 b) (wK_ q) where
 disk:=by simp[Sx.look,dcG0]
 seen _ _:=Gr.nl
 stl _ _:=Gr.nl
 pend _ _:=⟨[],rfl,Gr.nl⟩
 files:=Gr.nl
 pdis _ _ _ _ _ _ h:=by cases h
set_option linter.defProp false
def kf_:=And.intro (And.intro (And.intro (@zn_) (@zm_)) (And.intro (@k3_) (And.intro (@k6_) (@ve_)))) (And.intro (And.intro (@vm_) (@abG_)) (And.intro (@K6_) (And.intro (@abA_) (@abL_))))
theorem ajv_ (q:Int) (w:World):Rets Tryz.prog 29 #[vi q] w (XS w [] (fun v D=> ∃G,v=vp G.bd 0∧DcP D G (wK_ q))):=by
 refine Rets.enterX Tryz.func29 rfl (rs:= [.tmp 2]) Tryz.results29 Tryz.ntmps29 (fun p hp=>by cases hp) (by simp[keys]) ?_
 refine kf ?_
 first|with_reducible refine ks [] @kf_ ?_|refine kp @kf_ ?_
 refine Ow.build _ rfl (alC_ q) ?_
 refine Ow.box rfl rfl fun b1 hb1 hw1=> ?_
 simp only[zh_,List.nil_append]
 refine ko @kf_ ?_
 first|with_reducible refine ks [] @kf_ ?_|refine kp @kf_ ?_
 refine⟨_,(ke @kf_), ?_⟩
 exact⟨Ext.of_new ⟨hw1,trivial⟩,dcG0 b1,rfl,aow_ b1 q⟩
theorem agf_ (G:DcG) (S:DiskL) (w:World) (hf: -9223372036854775808≤S.fuse∧S.fuse<9223372036854775808∧(S.fused=true→0≤S.fuse)) (ho:w.heap[G.bd]? =some (dcO G S)):
  Rets Tryz.prog 68 #[vp G.bd 0] w (fun v D=> ∃o,D= [(G.bd,o)]∧v=vi (zl_ S).2∧o=dcO G (zl_ S).1):=by
 refine Rets.enterM Tryz.func68 rfl (rs:= [.tmp 2]) Tryz.results68 Tryz.ntmps68 ho ?_
 refine kf ?_
 unfold zl_
 rcases Bool.eq_false_or_eq_true S.fused with hfd|hfd
 case inr=>
  have hl:xw_ S= -1:=by unfold xw_;rw[hfd];rfl
  have e0: ((-1:Int)==0)=false:=rfl
  have e1:decide ((0:Int)< -1)=false:=rfl
  rw[if_neg (fun h=>by rw[hfd] at h;cases h.1),if_neg (fun h=>by rw[hfd] at h;cases h)]
  first|with_reducible refine ks [] (And.intro @kf_ (And.intro @hl (And.intro @e0 (@e1)))) ?_|refine kp (And.intro @kf_ (And.intro @hl (And.intro @e0 (@e1)))) ?_
  refine⟨_,_,_,(ke @kf_),rfl,trivial, ?_⟩
  exact⟨rfl,rfl⟩
 case inl=>
  have hl:xw_ S=S.fuse:=by unfold xw_;rw[hfd];rfl
  have h1:=hf.2.2 hfd
  by_cases h0:S.fuse=0
  ·have e0: (S.fuse==0)=true:=beq_iff_eq.2 h0
   rw[if_pos ⟨hfd,h0⟩]
   first|with_reducible refine ks [] (And.intro @kf_ (And.intro @hl (@e0))) ?_|refine kp (And.intro @kf_ (And.intro @hl (@e0))) ?_
   refine⟨_,_,_,(ke @kf_),rfl,trivial, ?_⟩
   exact⟨rfl,rfl⟩
  ·have e0: (S.fuse==0)=false:=beq_eq_false_iff_ne.2 h0
   have e1:decide ((0:Int)<S.fuse)=true:=decide_eq_true (by omega)
   have e2:xw_ {S with fuse:=S.fuse - 1}=S.fuse - 1:=by unfold xw_;rw[if_pos hfd]
   rw[if_neg (fun h=>h0 h.2),if_pos hfd]
   first|with_reducible refine ks [] (And.intro @kf_ (And.intro @hl (And.intro @e0 (@e1)))) ?_|refine kp (And.intro @kf_ (And.intro @hl (And.intro @e0 (@e1)))) ?_
   refine⟨_,_,_,(ke @kf_),rfl,trivial, ?_⟩
   exact⟨rfl,akp_ G S {S with fuse:=S.fuse - 1} rfl e2 rfl⟩
theorem acR_ (G:DcG) (S:DiskL) (n:Int) (w:World) (hn: -9223372036854775808≤n∧n<9223372036854775808) (ho:w.heap[G.bd]? =some (dcO G S)):
  Rets Tryz.prog 10 #[vp G.bd 0,vi n] w (fun v D=> ∃o,D= [(G.bd,o)]∧v=kD_ []∧o=dcO G {S with fuse:=n,fused:=decide (0≤n)}):=by
 refine Rets.enterM Tryz.func10 rfl (rs:= []) Tryz.results10 Tryz.ntmps10 ho ?_
 refine kf ?_
 by_cases h0:n<0
 ·have e0:decide (n<0)=true:=decide_eq_true h0
  first|with_reducible refine ks [] (And.intro @kf_ @e0) ?_|refine kp (And.intro @kf_ @e0) ?_
  refine⟨_,_,_,(ke @kf_),rfl,trivial, ?_⟩
  exact⟨rfl,akp_ G S {S with fuse:=n,fused:=decide (0≤n)} rfl (by unfold xw_;rw[show decide (0≤n)=false from decide_eq_false (by omega)];rfl) rfl⟩
 ·have e0:decide (n<0)=false:=decide_eq_false h0
  first|with_reducible refine ks [] (And.intro @kf_ @e0) ?_|refine kp (And.intro @kf_ @e0) ?_
  refine⟨_,_,_,(ke @kf_),rfl,trivial, ?_⟩
  exact⟨rfl,akp_ G S {S with fuse:=n,fused:=decide (0≤n)} rfl (by unfold xw_;rw[show decide (0≤n)=true from decide_eq_true (by omega)];rfl) rfl⟩
end Go.Proofs
end
section
open Go Go.Proofs Go.Sx Go.StP
namespace Go.Proofs
set_option maxRecDepth 10000
set_option maxHeartbeats 400000
set_option linter.unusedSimpArgs false
theorem Gr.slW {α:Type} {m:Nat} {enc:α→List Value} {z:α} {X:ze_} {E:TypeId} {v:Value} {l:List α} {w:World} (h:Gr X E m v l.length (l.map enc).flatten) (hX: ∀b o,Sx.look X b=some o→w.heap[b]? =some o) (hm: ∀x,(enc x).length=m):SlV m enc z w v l:=by
 cases hs:slB v with
 |none=>exact Gr.slM (h.keep (L':= []) fun b o hb=>by rw[hs] at hb;cases hb) (fun b o hm=>by cases hm) rfl rfl hm
 |some b=>
  obtain⟨arr,ha⟩:=x0_ h hs
  refine Gr.slM (h.keep (L':= [(b, .cells arr E (0,0))]) fun b' o hb ho=> ?_) (fun b' o hmm=> ?_) rfl rfl hm
  ·rw[hs] at hb
   cases hb
   rw[ha] at ho
   cases ho
   simp[Sx.look]
  ·simp only[List.mem_singleton,Prod.mk.injEq] at hmm
   obtain⟨rfl,rfl⟩:=hmm
   exact hX _ _ ha
theorem Vx_ {S:DiskL} {dir x:List UInt8} (h:zD_ dir=none∨qn_ x=false):km_ S dir x=([],1):=by
 have h0:jd_ S dir [x]=1:=by
  unfold jd_
  rw[if_pos]
  rcases h with h|h
  ·exact .inl h
  ·right;simp[h]
 unfold km_
 rw[if_pos (by rw[h0];simp),h0]
set_option linter.defProp false
def j8_:=And.intro (And.intro (And.intro (@zn_) (@zm_)) (And.intro (@k3_) (@k6_))) (And.intro (And.intro (@ve_) (@vm_)) (And.intro (@Sx.tup2_0) (@Sx.tup2_1)))
theorem ag7_ (w:World) (G:DcG) (S:DiskL) (dir name:List UInt8) (hD:DcW w G S) (ok:DkOk S) (hB:DkB S) (hnm:name.length<1099511627776):
  Rets Tryz.prog 66 #[vp G.bd 0,vs dir,vs name] w (fun v D=>v= .tuple #[vs (km_ S dir name).1,vi ((km_ S dir name).2:Nat)]∧D= []):=by
 obtain⟨X,hX,hP⟩:=hD
 have hd:=hX _ _ hP.disk
 refine Rets.enterV Tryz.func66 rfl (rs:= [.tmp 6, .tmp 7]) Tryz.results66 Tryz.ntmps66 ?_
 refine kf ?_
 first|with_reducible refine ks [] @j8_ ?_|refine kp @j8_ ?_
 refine Ow.callFV rfl Tryz.call30 (fun w' hw'=>Qb_ dir w') ?_
 cases hw:zD_ dir with
 |none=>
  have hwi:xJ_ dir= -1:=by unfold xJ_;rw[hw]
  have e1:decide ((-1:Int)<0)=true:=rfl
  rw[hwi]
  refine ko @j8_ ?_
  first|with_reducible refine ks [] (And.intro @j8_ @e1) ?_|refine kp (And.intro @j8_ @e1) ?_
  refine⟨_,(ke @j8_),trivial, ?_⟩
  (rw[Vx_ (.inl hw)];rfl)
 |some k=>
  have hk:=(z3_ hw).1
  have hwi:xJ_ dir=(k:Int):=by unfold xJ_;rw[hw]
  have e1:decide ((k:Int)<0)=false:=decide_eq_false (by omega)
  rw[hwi]
  refine ko @j8_ ?_
  first|with_reducible refine ks [] (And.intro @j8_ @e1) ?_|refine kp (And.intro @j8_ @e1) ?_
  refine Ow.callFV rfl Tryz.call31 (fun w' hw'=>ZA_ name w' hnm) ?_
  cases hf:qn_ name with
  |false=>
   refine ko @j8_ ?_
   first|with_reducible refine ks [] @j8_ ?_|refine kp @j8_ ?_
   refine⟨_,(ke @j8_),trivial, ?_⟩
   (rw[Vx_ (.inr hf)];rfl)
  |true=>
   refine ko @j8_ ?_
   have hfe:jd_ S dir [name]=if S.off=true then 9 else 0:=by
    unfold jd_
    rw[if_neg (by rw[hw];simp[hf])]
   have hat: ((zD_ dir).bind fun k=>zC_ (S.dir k).seen name)=zC_ (S.dir k).seen name:=by rw[hw];rfl
   rcases Bool.eq_false_or_eq_true S.off with ho|ho
   ·first|with_reducible refine ks [] (And.intro @j8_ (And.intro @hd (@ho))) ?_|refine kp (And.intro @j8_ (And.intro @hd (@ho))) ?_
    refine⟨_,(ke @j8_),trivial, ?_⟩
    (unfold km_;rw[hfe,if_pos ho,if_pos (by simp)];rfl)
   ·have hsl:=Gr.slW (z:=nd0) (hP.seen k hk) hX zW_
    have lds:=fun n=>x7_ G S hk n
    have hfl:=Gr.slW (z:=fd0) hP.files hX ji_
    obtain⟨rb,off,arr,E,fz,hr⟩:=hfl.row
    rw[if_neg (by rw[ho];simp)] at hfe
    have hrd:km_ S dir name=match zC_ (S.dir k).seen name with|none=>([],6) |some n=>((zz_ S n).data,0):=by
     unfold km_
     rw[hfe,if_neg (by simp),hat]
     cases zC_ (S.dir k).seen name<;>rfl
    first|with_reducible refine ks [] (And.intro @j8_ (And.intro @hd (And.intro @ho (@lds)))) ?_|refine kp (And.intro @j8_ (And.intro @hd (And.intro @ho (@lds)))) ?_
    refine Ow.callFV rfl Tryz.call67 (fun w' hw'=>Qp_ (G.s k) (S.dir k).seen name w' (hsl.oldN hw' trivial) (by have:=(hB k hk).1;omega)) ?_
    cases hfn:zC_ (S.dir k).seen name with
    |none=>
     have hfi:v3_ (S.dir k).seen name= -1:=by unfold v3_;rw[hfn]
     have e2:decide ((-1:Int)<0)=true:=rfl
     rw[hfi]
     refine ko @j8_ ?_
     first|with_reducible refine ks [] (And.intro @j8_ @e2) ?_|refine kp (And.intro @j8_ @e2) ?_
     refine⟨_,(ke @j8_),trivial, ?_⟩
     (rw[hrd,hfn];rfl)
    |some n=>
     have hfi:v3_ (S.dir k).seen name=(n:Int):=by unfold v3_;rw[hfn]
     have e2:decide ((n:Int)<0)=false:=decide_eq_false (by omega)
     have hnl:=ok.seenN k hk _ (q1_ hfn)
     have hnm2:n< (S.files.map kT_).length:=by rw[List.length_map];exact hnl
     have ix:=hr.idx true n hnm2
     have hh:=hr.has (by omega)
     have l0: ∀x,zk_ (some (false,x)) (some (.cells arr E fz)) (off+n*2)=some (vs ((S.files.map kT_).getD n fd0).data):=fun x=>by have:=adV_ hr hnm2 x;rwa [Nat.add_zero] at this
     rw[QB_] at l0
     rw[hfi]
     refine ko @j8_ ?_
     first|with_reducible refine ks [] (And.intro @j8_ (And.intro @e2 (And.intro @hd (And.intro @ix (And.intro @hh (@l0)))))) ?_|refine kp (And.intro @j8_ (And.intro @e2 (And.intro @hd (And.intro @ix (And.intro @hh (@l0)))))) ?_
     refine⟨_,(ke @j8_),trivial, ?_⟩
     (rw[hrd,hfn];rfl)
end Go.Proofs
end
section
open Go Go.Proofs Go.Sx Go.StP
namespace Go.Proofs
set_option maxRecDepth 10000
set_option maxHeartbeats 400000
set_option linter.unusedSimpArgs false
structure LcG where
 k:Nat
 v:Value
 D:ze_
 DG:ze_
theorem kP_ {w:World} {b:Nat} {o:Obj} (hb:w.heap[b]? =some o) {Y:ze_} (hY:New w.heap.size Y):zy_ w Y b=some o:=by
 rw[z6_ (hY.not (Array.getElem?_eq_some_iff.1 hb).1)];exact hb
set_option linter.defProp false
def Zx_:=And.intro (And.intro (And.intro (@zn_) (@zm_)) (And.intro (@k3_) (@k6_))) (And.intro (And.intro (@ve_) (@vm_)) (And.intro (@Sx.tup2_0) (@Sx.tup2_1)))
def abS_ (S:DiskL):Nat→Nat
 |0=>0
 |k+1=>abS_ S k+j5_ S (S.dir k).seen
theorem anh_ (S:DiskL) {k:Nat} (hk:k<3):abS_ S k+j5_ S (S.dir k).seen≤xO_ S:=by
 have:k=0∨k=1∨k=2:=by omega
 rcases this with rfl|rfl|rfl<;>(simp only[abS_,xO_];omega)
theorem aiO_ (S:DiskL) {l:NmL} {i:Nat} (h:i<l.length):j5_ S (l.take (i+1))=j5_ S (l.take i)+ (zz_ S (l.getD i ([],0)).2).data.length:=by
 unfold j5_
 rw[StP.take_snoc (z:=([],0)) h,List.map_append,List.sum_append,List.map_singleton,List.sum_singleton];rfl
theorem aap_ (S:DiskL) (l:NmL) (i:Nat):j5_ S (l.take i)≤j5_ S l:=by
 have:j5_ S l=j5_ S (l.take i)+j5_ S (l.drop i):=by
  unfold j5_
  rw[←List.sum_append,←List.map_append,List.take_append_drop]
 omega
structure UkG where
 k:Nat
 n:Nat
theorem Vg_ (w:World) (G:DcG) (S:DiskL) (hD:DcW w G S) (ok:DkOk S) (hB:DkB S) (hb:xO_ S<4611686018427387904):
  Rets Tryz.prog 42 #[vp G.bd 0] w (fun v D=>v=vi (xO_ S:Nat)∧D= []):=by
 obtain⟨X,hX,hP⟩:=hD
 have hd:=hX _ _ hP.disk
 have hfl:=Gr.slW (z:=fd0) hP.files hX ji_
 obtain⟨rf,offf,arrf,Ef,fzf,hrf⟩:=hfl.row
 refine Rets.enterV Tryz.func42 rfl (rs:= [.tmp 2]) Tryz.results42 Tryz.ntmps42 ?_
 refine kf ?_
 first|with_reducible refine ks [] @Zx_ ?_|refine kp @Zx_ ?_
 refine Cw.loopG (G:=UkG) [6,7,5,10,11,12,13,14,15,16,17,18,19,22,23,24,25,26,27,28,29,30,31,32,33,34,35,36,37,38,39,40,41,42,3,20,21,8,9,4] (fun g=> [(3,vi g.n),(4,vi g.k)]) (fun g=> []) (fun g=>g.k≤3∧g.n=abS_ S g.k) (fun g=>3 - g.k) ⟨0,0⟩ rfl rfl ?_ ?_
 ·exact⟨Nat.zero_le _,rfl⟩
 intro g j hg
 refine kv ?_
 obtain⟨k,n⟩:=g
 simp only at hg ⊢
 obtain⟨hk,hn⟩:=hg
 by_cases hlt:k<3
 ·have d1:decide ((k:Int)<3)=true:=decide_eq_true (by omega)
  have hsl:=Gr.slW (z:=nd0) (hP.seen k hlt) hX zW_
  have lds:=fun n=>x7_ G S hlt n
  have lns:=hsl.len
  rw[List.length_map] at lns
  obtain⟨rb,off,arr,E,fz,hr⟩:=hsl.row
  have hle:=anh_ S hlt
  have hsn:=ok.seenN k hlt
  have hbl:=(hB k hlt).1
  have hks:abS_ S (k+1)=abS_ S k+j5_ S (S.dir k).seen:=rfl
  generalize (S.dir k).seen=sn at*
  first|with_reducible refine ks [] (And.intro @Zx_ @d1) ?_|refine kp (And.intro @Zx_ @d1) ?_
  refine Cw.loopG (G:=UkG) [10,11,12,13,14,15,16,17,18,19,22,23,24,25,26,27,28,29,30,31,32,33,34,35,36,37,38,39,40,41,42,3,20,21,5] (fun g=> [(3,vi g.n),(5,vi g.k)]) (fun g=> []) (fun g=>g.k≤sn.length∧g.n=n+j5_ S (sn.take g.k)) (fun g=>sn.length - g.k) ⟨0,n⟩ rfl rfl ?_ ?_
  ·exact⟨Nat.zero_le _,rfl⟩
  intro g j hg
  refine kv ?_
  obtain⟨i,m⟩:=g
  simp only at hg ⊢
  obtain⟨hi,hm⟩:=hg
  by_cases hit:i<sn.length
  ·have d2:decide ((i:Int)< (sn.length:Int))=true:=decide_eq_true (by omega)
   have hlm:i< (sn.map qh_).length:=by rw[List.length_map];exact hit
   have ix:=hr.idx true i hlm
   have hh:=hr.has (by omega)
   have l1: ∀n,zk_ (some (false,n)) (some (.cells arr E fz)) (off+i*2+1)=some (vi ((sn.map qh_).getD i nd0).n):=fun n=>aj2_ hr hlm n
   rw[WT_] at l1
   have hus:=aiO_ S hit
   have hul:=aap_ S sn (i+1)
   have hnl:=hsn (sn.getD i ([],0)) (xd_ (z:=([],0)) hit)
   generalize sn.getD i ([],0)=q at*
   obtain⟨qs,qn⟩:=q
   simp only[qh_] at l1 hnl hus
   have hnm2:qn< (S.files.map kT_).length:=by rw[List.length_map];exact hnl
   have ixf:=hrf.idx true qn hnm2
   have hhf:=hrf.has (by omega)
   have f0: ∀x,zk_ (some (false,x)) (some (.cells arrf Ef fzf)) (offf+qn*2)=some (vs ((S.files.map kT_).getD qn fd0).data):=fun x=>by have:=adV_ hrf hnm2 x;rwa [Nat.add_zero] at this
   rw[QB_] at f0
   have f0': ∀x,zk_ (some (false,x)) (some (.cells arrf Ef fzf)) (offf+qn*2)=some (vs (zz_ S qn).data):=f0
   clear f0
   have es: (m:Int)+ ((zz_ S qn).data.length:Int)=((m+ (zz_ S qn).data.length:Nat):Int):=by omega
   first|with_reducible refine ks [] (And.intro @Zx_ (And.intro @hd (And.intro @lds (And.intro @lns (@d2))))) ?_|refine kp (And.intro @Zx_ (And.intro @hd (And.intro @lds (And.intro @lns (@d2))))) ?_
   refine Cw.regionS [G.bd,rf,rb] [0,1,2,3,5,6,7,8,9,10,12,4,11,13,14,15,16,17,18,19,20,21] [] (by kernel_rfl) (by kernel_rfl) (by kernel_rfl) ?_
   simp only[zj_, ↓zf_, ↓zc_, ↓zw_, ↓zv_,zd_]
   refine kq (And.intro @Zx_ (And.intro @hd (And.intro @lds (And.intro @ix (And.intro @hh (And.intro @l1 (And.intro @ixf (And.intro @hhf (And.intro @f0' (@es)))))))))) ?_
   first|with_reducible refine ks [] @Zx_ ?_|refine kp @Zx_ ?_
   exact Again.mk ⟨i+1,m+ (zz_ S qn).data.length⟩ (by show sn.length - (i+1)<sn.length - i;omega) ⟨hit,by show m+ (zz_ S qn).data.length=n+j5_ S (sn.take (i+1));omega⟩ rfl rfl
  ·obtain rfl:i=sn.length:=by omega
   have d2:decide ((sn.length:Int)< (sn.length:Int))=false:=decide_eq_false (by omega)
   rw[List.take_length] at hm
   first|with_reducible refine ks [] (And.intro @Zx_ (And.intro @hd (And.intro @lds (And.intro @lns (@d2))))) ?_|refine kp (And.intro @Zx_ (And.intro @hd (And.intro @lds (And.intro @lns (@d2))))) ?_
   exact Again.mk ⟨k+1,m⟩ (by show 3 - (k+1)<3 - k;omega) ⟨hlt,by show m=abS_ S (k+1);omega⟩ rfl rfl
 ·obtain rfl:k=3:=by omega
  have d1:decide (((3:Nat):Int)<3)=false:=rfl
  first|with_reducible refine ks [] (And.intro @Zx_ @d1) ?_|refine kp (And.intro @Zx_ @d1) ?_
  refine⟨_,(ke @Zx_),trivial, ?_⟩
  (rw[hn];show vi _=vi _;congr 2;simp[abS_,xO_])
end Go.Proofs
end
section
open Go Go.Proofs Go.Sx Go.StP
namespace Go.Proofs
set_option maxRecDepth 10000
set_option maxHeartbeats 400000
set_option linter.unusedSimpArgs false
theorem ajA_ {S:DiskL} (h:S.off=true):ZT_ S= []:=by
 unfold ZT_ q9_ q9_ q9_ q9_ zV_
 simp[h]
set_option linter.defProp false
def xz_:=And.intro (And.intro (And.intro (@zn_) (And.intro (@zm_) (@k3_))) (And.intro (@k6_) (And.intro (@ve_) (@vm_)))) (And.intro (And.intro (@Sx.tup2_0) (And.intro (@Sx.tup2_1) (@afJ_))) (And.intro (And.intro (@afR_) (@akg_)) (And.intro (@xc_) (@ZH_))))
theorem aj5_ (w:World) (G:DcG) (S:DiskL) (hD:DcW w G S) (ok:DkOk S) (hB:DkB S):
  Rets Tryz.prog 39 #[vp G.bd 0] w (XS w [] (fun v D=>GrI D 60 3 v (ZT_ S).length ((ZT_ S).map fiC).flatten)):=by
 obtain⟨X,hX,hP⟩:=hD
 have hd:=hX _ _ hP.disk
 have hfs:=Gr.slW (z:=fd0) hP.files hX ji_
 obtain⟨rf,offf,arrf,Ef,fzf,hrf⟩:=hfs.row
 refine Rets.enterX Tryz.func39 rfl (rs:= [.tmp 2]) Tryz.results39 Tryz.ntmps39 (fun p hp=>by cases hp) (by simp[keys]) ?_
 refine kf ?_
 rcases Bool.eq_false_or_eq_true S.off with ho|ho
 ·first|with_reducible refine ks [] (And.intro @xz_ (And.intro @hd (@ho))) ?_|refine kp (And.intro @xz_ (And.intro @hd (@ho))) ?_
  refine⟨_,(ke @xz_), ?_⟩
  rw[ajA_ ho]
  exact⟨Ext.refl w [],Gr.nl.i fun _ h=>h⟩
 ·first|with_reducible refine ks [] (And.intro @xz_ (And.intro @hd (@ho))) ?_|refine kp (And.intro @xz_ (And.intro @hd (@ho))) ?_
  refine Ow.callC rfl rfl Tryz.call57 (fun w' hw'=>abk_ w') (fun B1 v1 D1 hA1 hB1 hN1 hS1=> ?_)
  obtain⟨b4,rfl,rfl⟩:=hS1
  have hw4:w.heap.size≤b4:=(hN1.mono hB1).1
  rw[List.nil_append]
  refine ko @xz_ ?_
  first|with_reducible refine ks [] @xz_ ?_|refine kp @xz_ ?_
  refine Cw.permL (M:=(b4,wC_):: ([]++ [])) (List.Perm.refl _) ?_
  refine Cw.loopG (G:=LcG) [13,14,6,17,18,19,20,21,22,23,24,25,26,29,30,31,32,33,34,35,36,37,38,7,39,40,41,42,43,44,45,46,47,48,49,50,51,52,53,54,55,56,57,3,27,28,15,16,5] (fun g=> [(3,g.v),(5,vi g.k)]) (fun g=>(b4,wC_):: (g.D++g.DG)) (fun g=>g.k≤3∧New w.heap.size g.D∧New w.heap.size g.DG∧Gr g.D 60 3 g.v (q9_ S g.k).length ((q9_ S g.k).map fiC).flatten) (fun g=>3 - g.k) ⟨0, .slice none 0 0,[],[]⟩ rfl rfl ?_ ?_
  ·exact⟨Nat.zero_le _,trivial,trivial,Gr.nl⟩
  intro g j hg
  refine kv ?_
  obtain⟨k,v,D,DG⟩:=g
  simp only at hg ⊢
  obtain⟨hk,hN,hNG,hGr⟩:=hg
  by_cases hlt:k<3
  ·have d1:decide ((k:Int)<3)=true:=decide_eq_true (by omega)
   have hfl:=wz_ hB k hk
   have hdl:=v2_ hB hlt
   have hsl:=Gr.slW (z:=nd0) (hP.seen k hlt) hX zW_
   have lds:=fun n=>x7_ G S hlt n
   have lns:=hsl.len
   rw[List.length_map] at lns
   obtain⟨rb,off,arr,E,fz,hr⟩:=hsl.row
   have hsn:=ok.seenN k hlt
   have hbl:=(hB k hlt).1
   have hdf:zV_ S k=(S.dir k).seen.map fun p=>⟨qp_ k,p.1,(S.files.getD p.2 qO_).data⟩:=by unfold zV_;rw[ho];rfl
   generalize (S.dir k).seen=sn at*
   rw[hdf,List.length_map] at hdl
   have ixd:=aeZ_ b4 hlt true
   have ldd:=fun n=>abc_ hlt n
   first|with_reducible refine ks [10] (And.intro @xz_ @d1) ?_|refine kp (And.intro @xz_ @d1) ?_
   refine Cw.loopG (G:=LcG) [17,18,19,20,21,22,23,24,25,26,29,30,31,32,33,34,35,36,37,38,7,39,40,41,42,43,44,45,46,47,48,49,50,51,52,53,54,55,56,57,3,27,28,6] (fun g=> [(3,g.v),(6,vi g.k)]) (fun g=>(b4,wC_):: (g.D++g.DG)) (fun g=>g.k≤sn.length∧New w.heap.size g.D∧New w.heap.size g.DG∧Gr g.D 60 3 g.v ((q9_ S k).length+g.k) ((q9_ S k++ (zV_ S k).take g.k).map fiC).flatten) (fun g=>sn.length - g.k) ⟨0,v,D,DG⟩ rfl rfl ?_ ?_
   ·exact⟨Nat.zero_le _,hN,hNG,by simpa using hGr⟩
   intro g j hg
   refine kv ?_
   clear hN hNG hGr
   obtain⟨j,v,D,DG⟩:=g
   simp only at hg ⊢
   obtain⟨hj,hN,hNG,hGr⟩:=hg
   have hNr:New w.heap.size ((b4,wC_):: (D++DG)):=⟨hw4,hN.app hNG⟩
   have rdd:=kP_ hd hNr
   by_cases hjt:j<sn.length
   ·have d2:decide ((j:Int)< (sn.length:Int))=true:=decide_eq_true (by omega)
    have hlm:j< (sn.map qh_).length:=by rw[List.length_map];exact hjt
    have ix:=hr.idx true j hlm
    have rda:=kP_ (hr.has (by omega)) hNr
    have lda:=ajs_ hr hlm
    rw[WT_] at lda
    have hts: (zV_ S k).take (j+1)=(zV_ S k).take j++ [⟨qp_ k,(sn.getD j ([],0)).1,(zz_ S (sn.getD j ([],0)).2).data⟩]:=by
     rw[hdf,List.take_add_one]
     simp[hjt,zz_]
    have hnl:=hsn (sn.getD j ([],0)) (xd_ (z:=([],0)) hjt)
    generalize sn.getD j ([],0)=q at*
    obtain⟨x,n⟩:=q
    simp only at hts hnl
    have hnm2:n< (S.files.map kT_).length:=by rw[List.length_map];exact hnl
    have ixf:=hrf.idx true n hnm2
    have f0: ∀y,zk_ (some (false,y)) (some (.cells arrf Ef fzf)) (offf+n*2)=some (vs ((S.files.map kT_).getD n fd0).data):=fun y=>by have:=adV_ hrf hnm2 y;rwa [Nat.add_zero] at this
    rw[QB_] at f0
    have f0': ∀y,zk_ (some (false,y)) (some (.cells arrf Ef fzf)) (offf+n*2)=some (vs (zz_ S n).data):=f0
    clear f0
    have hq0: (qh_ (x,n)).s=x:=rfl
    have hq1: (qh_ (x,n)).n=(n:Int):=rfl
    first|with_reducible refine ks [10] (And.intro @xz_ (And.intro @rdd (And.intro @lds (And.intro @lns (And.intro @d2 (And.intro @ix (And.intro @rda (@lda)))))))) ?_|refine kp (And.intro @xz_ (And.intro @rdd (And.intro @lds (And.intro @lns (And.intro @d2 (And.intro @ix (And.intro @rda (@lda)))))))) ?_
    refine Ow.alloc rfl rfl zrNd fun b7 hb7 hw7=> ?_
    simp only[zh_,List.nil_append,List.cons_append]
    have h47:b4<b7:=zx_ hb7 (by simp[keys])
    refine Ow.permL (M:=(b7, .cells (ndC nd0).toArray 86 (0,0)):: (b4,wC_):: (D++DG)) (by classical exact List.perm_iff_count.2 fun a=>by simp only[List.count_append,List.count_cons,List.count_nil]<;>omega) ?_
    refine ko @xz_ ?_
    have hN7:New w.heap.size ((b7,Obj.cells (ndC (qh_ (x,n))).toArray 86 (0,0)):: (b4,wC_):: (D++DG)):=⟨hw7,hNr⟩
    have rd7:=kP_ hd hN7
    have rf7:=kP_ (hrf.has (by omega)) hN7
    refine Cw.regionS [b4,b7,G.bd,rf] [0,1,2,3,5,7,8,9,11,4,6,10,12,13,14,15,16,17,18,19] [] (by kernel_rfl) (by kernel_rfl) (by kernel_rfl) ?_
    simp only[zj_, ↓zf_, ↓zc_, ↓zw_, ↓zv_,zd_]
    refine kq (And.intro @xz_ (And.intro @ixd (And.intro @ldd (And.intro @rd7 (And.intro @rf7 (And.intro @ixf (And.intro @f0' (And.intro @hq0 (@hq1))))))))) ?_
    refine Ow.build (.agg (fiC ⟨qp_ k,x,(zz_ S n).data⟩).toArray) rfl (afx_ ⟨qp_ k,x,(zz_ S n).data⟩) ?_
    refine kq @xz_ ?_
    refine Ow.soft rfl rfl rfl ?_
    refine Ow.buildSlice (e:=60) (fiC ⟨qp_ k,x,(zz_ S n).data⟩).toArray rfl rfl (zT_ Tryz.underlying22 anf_ zrFi (by decide) (jX_ _)) fun ba hba hwa=> ?_
    have hb4a:b4<ba:=zx_ hba (by simp[keys])
    have hb7a:b7<ba:=zx_ hba (by simp[keys])
    have hN8:New w.heap.size ((b7,Obj.cells (ndC (qh_ (x,n))).toArray 86 (0,0)):: (b4,wC_):: (D++ (DG++ [(ba,Obj.cells (fiC ⟨qp_ k,x,(zz_ S n).data⟩).toArray 60 (0,0))]))):=⟨hw7,hw4,hN.app (hNG.app ⟨hwa,trivial⟩)⟩
    refine Ow.permL (M:=(b7, .cells (ndC (qh_ (x,n))).toArray 86 (0,0)):: (b4,wC_):: (D++ (DG++ [(ba, .cells (fiC ⟨qp_ k,x,(zz_ S n).data⟩).toArray 60 (0,0))]))) (by classical exact List.perm_iff_count.2 fun a=>by simp only[List.count_append,List.count_cons,List.count_nil]<;>omega) ?_
    with_reducible refine Ow.nil ?_
    refine⟨fun r hr=> ?_, ?_⟩
    ·simp only[List.mem_cons,List.not_mem_nil,or_false] at hr
     rcases hr with rfl|rfl|rfl|rfl
     ·simp(disch:=omega) only[jz_,kE_]
     ·simp(disch:=omega) only[jz_,kE_]
     ·exact(kP_ hd hN8).trans rd7.symm
     ·exact(kP_ (hrf.has (by omega)) hN8).trans rf7.symm
    refine kq @xz_ ?_
    refine Ow.soft rfl rfl rfl ?_
    refine Ow.permL (M:=D++ ((b7, .cells (ndC (qh_ (x,n))).toArray 86 (0,0)):: (b4,wC_):: (DG++ [(ba, .cells (fiC ⟨qp_ k,x,(zz_ S n).data⟩).toArray 60 (0,0))]))) (by classical exact List.perm_iff_count.2 fun a=>by simp only[List.count_append,List.count_cons,List.count_nil]<;>omega) ?_
    refine Ow.appendXG (e:=60) (k:=1) (new:=fiC ⟨qp_ k,x,(zz_ S n).data⟩) (X:=D) v rfl rfl rfl rfl Tryz.underlying22 anf_ (by kernel_rfl) zrFi (by rw[ZH_,List.size_toArray,jX_]) Tryz.underlying22 (by intro k h;cases h) hGr (fun w' hw'=>AppX.one1 (hw'.has ba (.cells (fiC ⟨qp_ k,x,(zz_ S n).data⟩).toArray 60 (0,0)) (by simp)) (jX_ _) (add_ _)) (by omega) (fun B4 v4 D4 hA4 hB4 hG4 hk41 hk42 hlk4=> ?_)
    have hN4:New w.heap.size D4:=New.of_le fun q hq=>by
     rcases hk42 q hq with h|h
     ·exact hN.le q h
     ·omega
    have hN9:New w.heap.size ((b7,Obj.cells (ndC (qh_ (x,n))).toArray 86 (0,0)):: (b4,wC_):: (D4++ (DG++ [(ba,Obj.cells (fiC ⟨qp_ k,x,(zz_ S n).data⟩).toArray 60 (0,0))]))):=⟨hw7,hw4,hN4.app (hNG.app ⟨hwa,trivial⟩)⟩
    refine Ow.permL (M:=(b7, .cells (ndC (qh_ (x,n))).toArray 86 (0,0)):: (b4,wC_):: (D4++ (DG++ [(ba, .cells (fiC ⟨qp_ k,x,(zz_ S n).data⟩).toArray 60 (0,0))]))) (by classical exact List.perm_iff_count.2 fun a=>by simp only[List.count_append,List.count_cons,List.count_nil]<;>omega) ?_
    with_reducible refine Ow.nil ?_
    refine⟨fun r hr=> ?_, ?_⟩
    ·simp only[List.mem_cons,List.not_mem_nil,or_false] at hr
     rcases hr with rfl|rfl|rfl|rfl
     ·simp(disch:=omega) only[jz_,kE_]
     ·simp(disch:=omega) only[jz_,kE_]
     ·exact(kP_ hd hN9).trans (kP_ hd hN8).symm
     ·exact(kP_ (hrf.has (by omega)) hN9).trans (kP_ (hrf.has (by omega)) hN8).symm
    refine kq @xz_ ?_
    refine Cw.permL (M:=(b4,wC_):: (D4++ (DG++ [(ba, .cells (fiC ⟨qp_ k,x,(zz_ S n).data⟩).toArray 60 (0,0)),(b7, .cells (ndC (qh_ (x,n))).toArray 86 (0,0))]))) (by classical exact List.perm_iff_count.2 fun a=>by simp only[List.count_append,List.count_cons,List.count_nil]<;>omega) ?_
    first|with_reducible refine ks [] @xz_ ?_|refine kp @xz_ ?_
    refine Again.mk ⟨j+1,v4,D4,DG++ [(ba, .cells (fiC ⟨qp_ k,x,(zz_ S n).data⟩).toArray 60 (0,0)),(b7, .cells (ndC (qh_ (x,n))).toArray 86 (0,0))]⟩ (by show sn.length - (j+1)<sn.length - j;omega) ⟨hjt,hN4,hNG.app ⟨hwa,hw7,trivial⟩, ?_⟩ rfl rfl
    show Gr D4 60 3 v4 ((q9_ S k).length+j+1) ((q9_ S k++ (zV_ S k).take (j+1)).map fiC).flatten
    rw[hts]
    simpa only[List.map_append,List.map_cons,List.map_nil,List.flatten_append,List.flatten_cons,List.flatten_nil,List.append_nil,List.append_assoc] using hG4
   ·obtain rfl:j=sn.length:=by omega
    have d2:decide ((sn.length:Int)< (sn.length:Int))=false:=decide_eq_false (by omega)
    have hdl2: (zV_ S k).length=sn.length:=by rw[hdf,List.length_map]
    rw[←hdl2,List.take_length] at hGr
    first|with_reducible refine ks [] (And.intro @xz_ (And.intro @rdd (And.intro @lds (And.intro @lns (@d2))))) ?_|refine kp (And.intro @xz_ (And.intro @rdd (And.intro @lds (And.intro @lns (@d2))))) ?_
    refine Again.mk ⟨k+1,v,D,DG⟩ (by show 3 - (k+1)<3 - k;omega) ⟨hlt,hN,hNG, ?_⟩ rfl rfl
    show Gr D 60 3 v (q9_ S k++zV_ S k).length ((q9_ S k++zV_ S k).map fiC).flatten
    rw[List.length_append];exact hGr
  ·obtain rfl:k=3:=by omega
   have d1:decide (((3:Nat):Int)<3)=false:=rfl
   first|with_reducible refine ks [] (And.intro @xz_ @d1) ?_|refine kp (And.intro @xz_ @d1) ?_
   refine⟨_,(ke @xz_), ?_⟩
   exact⟨Ext.of_new (show New w.heap.size ((b4,wC_):: (D++DG)) from⟨hw4,hN.app hNG⟩),hGr.i fun p hp=>List.mem_cons_of_mem _ (List.mem_append_left _ hp)⟩
end Go.Proofs
end
section
open Go Go.Proofs Go.Sx Go.StP
namespace Go.Proofs
set_option maxRecDepth 10000
set_option maxHeartbeats 400000
set_option linter.unusedSimpArgs false
def Vu_ (S:DiskL) (kind:Int) (dir name s:List UInt8):Nat:=
 if zD_ dir=none∨(kind≠3∧qn_ name=false)∨(kind=4∧qn_ s=false) then 1
 else if S.off=true then 9
 else match atD S dir name with
  |some n=>if kind=0 then 7 else if kind=1∧vu_ S n s=true then 8 else 0
  |none=>if kind≠0∧kind≠3 then 6 else 0
def actV (S:DiskL) (kind:Int) (dir name s:List UInt8):DiskL:=
 if kind=0 then w2_ (kg_ (zl_ S).1 qO_) ((zD_ dir).getD 0) ⟨0,name,[],S.files.length⟩
 else if kind=1 then J4_ (zl_ S).1 ((atD S dir name).getD 0) ⟨(zz_ S ((atD S dir name).getD 0)).data++s,(zz_ S ((atD S dir name).getD 0)).stl⟩
 else if kind=2 then J4_ (zl_ S).1 ((atD S dir name).getD 0) ⟨(zz_ S ((atD S dir name).getD 0)).data,(zz_ S ((atD S dir name).getD 0)).data.length⟩
 else if kind=3 then jV_ (zl_ S).1 ((zD_ dir).getD 0)
 else if kind=4 then(if name=s then(zl_ S).1 else w2_ (zl_ S).1 ((zD_ dir).getD 0) ⟨1,name,s,0⟩)
 else w2_ (zl_ S).1 ((zD_ dir).getD 0) ⟨2,name,[],0⟩
theorem wm_ (S:DiskL) (dir name:List UInt8):jd_ S dir [name]=if zD_ dir=none∨qn_ name=false then 1 else if S.off=true then 9 else 0:=by
 unfold jd_
 simp
theorem agq_ (S:DiskL) (dir name to:List UInt8):jd_ S dir [name,to]=if zD_ dir=none∨qn_ name=false∨qn_ to=false then 1 else if S.off=true then 9 else 0:=by
 unfold jd_
 cases hf:qn_ name<;>cases ht:qn_ to<;>simp[hf,ht]
theorem apg_ {S:DiskL} {kind:Int} (hk:0≤kind∧kind<6) (dir name s:List UInt8):
  (Vu_ S kind dir name s≠0→doV S kind dir name s=(S,Vu_ S kind dir name s))∧
  (Vu_ S kind dir name s=0→doV S kind dir name s=if(zl_ S).2≠0 then zl_ S else(actV S kind dir name s,0)):=by
 have h6:kind=0∨kind=1∨kind=2∨kind=3∨kind=4∨kind=5:=by omega
 rcases h6 with rfl|rfl|rfl|rfl|rfl|rfl
 ·unfold doV Vu_ actV j3_
  rw[wm_]
  by_cases h1:zD_ dir=none∨qn_ name=false
  ·simp[h1]
  ·by_cases h2:S.off=true
   ·simp[h1,h2]
   ·cases h3:atD S dir name<;>simp[h1,h2]
 ·unfold doV Vu_ actV xH_
  rw[wm_]
  by_cases h1:zD_ dir=none∨qn_ name=false
  ·simp[h1]
  ·by_cases h2:S.off=true
   ·simp[h1,h2]
   ·cases h3:atD S dir name with
    |none=>simp[h1,h2]
    |some n=>
     by_cases h4:vu_ S n s=true
     ·simp[h1,h2,h4]
     ·simp[h1,h2,h4]
 ·unfold doV Vu_ actV Xo_
  rw[wm_]
  by_cases h1:zD_ dir=none∨qn_ name=false
  ·simp[h1]
  ·by_cases h2:S.off=true
   ·simp[h1,h2]
   ·cases h3:atD S dir name<;>simp[h1,h2]
 ·unfold doV Vu_ actV zS_ jd_
  by_cases h1:zD_ dir=none
  ·simp[h1]
  ·by_cases h2:S.off=true
   ·simp[h1,h2]
   ·cases h3:atD S dir name<;>simp[h1,h2]
 ·unfold doV Vu_ actV j7_
  rw[agq_]
  by_cases h1:zD_ dir=none∨qn_ name=false∨qn_ s=false
  ·simp[h1]
  ·by_cases h2:S.off=true
   ·simp[h1,h2]
   ·cases h3:atD S dir name with
    |none=>simp[h1,h2]
    |some n=>
     have h1a: ¬zD_ dir=none:=fun h=>h1 (.inl h)
     have h1b: ¬qn_ name=false:=fun h=>h1 (.inr (.inl h))
     have h1c: ¬qn_ s=false:=fun h=>h1 (.inr (.inr h))
     by_cases h4:name=s
     ·subst h4
      simp[h1a,h1b,h2]
      exact fun h=>Prod.ext rfl h
     ·simp[h1a,h1b,h1c,h2,h4]
 ·unfold doV Vu_ actV zR_
  rw[wm_]
  by_cases h1:zD_ dir=none∨qn_ name=false
  ·simp[h1]
  ·by_cases h2:S.off=true
   ·simp[h1,h2]
   ·cases h3:atD S dir name<;>simp[h1,h2]
theorem Gr.upd {α:Type} {X:ze_} {E:TypeId} {m:Nat} {v:Value} {enc:α→List Value} {l:List α} (h:Gr X E m v l.length (l.map enc).flatten) (hm: ∀x,(enc x).length=m) {k:Nat} (hk:k<l.length) (x:α):
  ∃b rest c,v=vsl b 0 l.length c∧Sx.look X b=some (vo_ enc E rest l)∧ ∀L,Sx.look L b=some (vo_ enc E rest (l.set k x))→Gr L E m v (l.set k x).length ((l.set k x).map enc).flatten:=by
 rcases h with h| ⟨h,-⟩
 ·generalize hn:l.length=n at h
  generalize hcs: (l.map enc).flatten=cs at h
  cases h with
  |nl=>omega
  | @at_ b n c cs rest hl h1 h2 h3 h4=>
   subst hcs
   refine⟨b,rest,c,rfl,hl,fun L hL=> .inl ?_⟩
   rw[List.length_set,hn]
   exact .at_ hL (by rw[aeP_ hm,List.length_set,hn]) h2 h3 h4
 ·omega
theorem abd_ {E:TypeId} {rest:List Value} {l:List FdR} (k:Nat) (hk:k<l.length) (y:List UInt8) (a:Bool):zu_ (some (a,1)) (some (vo_ fdC E rest l)) (k*2) (vs y)=some (vo_ fdC E rest (l.set k {l.getD k fd0 with data:=y})):=by
 obtain⟨A,C,e,hA,e2⟩:=Zi_ (z:=fd0) (rest:=rest) ji_ hk
 unfold vo_
 rw[e,e2 {l.getD k fd0 with data:=y}]
 exact zt_ A [vs (l.getD k fd0).data] [vs y] ([vi (l.getD k fd0).stl]++C) a _ E hA rfl rfl rfl rfl
theorem WW_ {E:TypeId} {rest:List Value} {l:List FdR} (k:Nat) (hk:k<l.length) (y:Int) (a:Bool):zu_ (some (a,1)) (some (vo_ fdC E rest l)) (k*2+1) (vi y)=some (vo_ fdC E rest (l.set k {l.getD k fd0 with stl:=y})):=by
 obtain⟨A,C,e,hA,e2⟩:=Zi_ (z:=fd0) (rest:=rest) ji_ hk
 unfold vo_
 rw[e,e2 {l.getD k fd0 with stl:=y}]
 have:=zt_ (A++ [vs (l.getD k fd0).data]) [vi (l.getD k fd0).stl] [vi y] C (o:=k*2+1) (n:=1) a (vi y) E (by rw[List.length_append,hA];rfl) rfl rfl rfl rfl
 rw[List.append_assoc,List.append_assoc] at this
 exact this
theorem wL_ {E:TypeId} {rest:List Value} {l:List FdR} (k:Nat) (hk:k<l.length) (n:Nat):zk_ (some (false,n)) (some (vo_ fdC E rest l)) (k*2)=some (vs (l.getD k fd0).data):=by
 obtain⟨A,C,e,hA,-⟩:=Zi_ (z:=fd0) (rest:=rest) ji_ hk
 unfold vo_
 rw[e]
 exact qw_ A ([vi (l.getD k fd0).stl]++C) _ n E (0,0) hA
theorem anA_: (some 83:Option TypeId)≠some 86:=by decide
theorem apV_: (some 83:Option TypeId)≠some 131:=by decide
theorem aiF_: (some 131:Option TypeId)≠some 86:=by decide
theorem anp_: (some 131:Option TypeId)≠some 83:=by decide
theorem Gr.keep2 {X L:ze_} {E F:TypeId} {m n m' n':Nat} {v u:Value} {cs cs':List Value} (h:Gr X E m v n cs) (hu:Gr X F m' u n' cs') (hne: (some F:Option TypeId)≠some E) {c:Nat} {oc:Obj} (hc:Sx.look X c=some oc) (ht:tyO oc≠some E) (keep: ∀b o,b≠c→slB u≠some b→Sx.look X b=some o→Sx.look L b=some o):Gr L E m v n cs:=h.keep fun b o hb ho=>by
 obtain⟨arr,ha⟩:=x0_ h hb
 refine keep b o ?_ ?_ ho
 ·rintro rfl
  rw[hc] at ha;cases ha;exact ht rfl
 ·intro e
  obtain⟨arr',ha'⟩:=x0_ hu e
  rw[ha] at ha';cases ha';exact hne rfl
theorem DcP.updF {X L:ze_} {G:DcG} {S:DiskL} (h:DcP X G S) {v:Value} {fl:List FileL} (keep: ∀b o,b≠G.bd→slB G.f≠some b→Sx.look X b=some o→Sx.look L b=some o) (hd:Sx.look L G.bd=some (dcO {G with f:=v} {S with files:=fl})) (hf:FdP L v fl):DcP L {G with f:=v} {S with files:=fl} where
 disk:=hd
 seen k hk:=Gr.keep2 (h.seen k hk) h.files anA_ h.disk (by rw[j4_];exact vE_) keep
 stl k hk:=Gr.keep2 (h.stl k hk) h.files anA_ h.disk (by rw[j4_];exact vE_) keep
 pend k hk:=by
  obtain⟨pl,h1,h2⟩:=h.pend k hk
  exact⟨pl,h1,Gr.keep2 h2 h.files apV_ h.disk (by rw[j4_];exact K9_) keep⟩
 files:=hf
 pdis:=h.pdis
theorem DcP.updP {X L:ze_} {G:DcG} {S:DiskL} (h:DcP X G S) {k:Nat} (hk:k<3) {sv pv:Value} {sn:NmL} {pl pl':List CallL} {pd:List CallL} (hpl:KcP X (G.p k) pl)
  (keep: ∀b o,b≠G.bd→slB (G.p k)≠some b→Sx.look X b=some o→Sx.look L b=some o)
  (hd:Sx.look L G.bd=some (dcO (jR_ (ko_ G k sv) k pv) S)) (hs:NdP L sv sn) (hp:KcP L pv pl') (hn:pl'.map wJ_=pd.map wJ_)
  (hb: ∀b,slB pv=some b→slB (G.p k)=some b∨b∉keys X):
  DcP L (jR_ (ko_ G k sv) k pv) (z4_ S k ⟨sn,(S.dir k).stl,pd⟩) where
 disk:=hd
 seen j hj:=by
  by_cases e:j=k
  ·subst e
   rw[zY_,show(jR_ (ko_ G j sv) j pv).s j=sv by simp[jR_,ko_]]
   exact hs
  ·rw[qv_ _ _ e,show(jR_ (ko_ G k sv) k pv).s j=G.s j by simp[jR_,ko_,e]]
   exact Gr.keep2 (h.seen j hj) hpl aiF_ h.disk (by rw[j4_];exact vE_) keep
 stl j hj:=by
  have e2: ((z4_ S k ⟨sn,(S.dir k).stl,pd⟩).dir j).stl=(S.dir j).stl:=by
   by_cases e:j=k
   ·subst e;rw[zY_]
   ·rw[qv_ _ _ e]
  rw[e2]
  exact Gr.keep2 (h.stl j hj) hpl aiF_ h.disk (by rw[j4_];exact vE_) keep
 pend j hj:=by
  by_cases e:j=k
  ·subst e
   rw[zY_,show(jR_ (ko_ G j sv) j pv).p j=pv by simp[jR_,ko_]]
   exact⟨pl',hn,hp⟩
  ·rw[qv_ _ _ e,show(jR_ (ko_ G k sv) k pv).p j=G.p j by simp[jR_,ko_,e]]
   obtain⟨ql,h1,h2⟩:=h.pend j hj
   refine⟨ql,h1,h2.keep fun b o hb' ho=> ?_⟩
   obtain⟨arr,ha⟩:=x0_ h2 hb'
   refine keep b o ?_ (fun e3=>h.pdis k j hk hj (Ne.symm e) b e3 hb') ho
   rintro rfl
   rw[h.disk] at ha
   have:=congrArg tyO (Option.some.inj ha)
   rw[j4_] at this
   exact K9_ this
 files:=Gr.keep2 h.files hpl anp_ h.disk (by rw[j4_];exact wH_) keep
 pdis i j hi hj hij b:=by
  have key: ∀ {i},i<3→ ∀ {b},slB ((jR_ (ko_ G k sv) k pv).p i)=some b→slB (G.p i)=some b∨(i=k∧b∉keys X):=fun{i} hi {b} hb'=>by
   by_cases e:i=k
   ·subst e
    rw[show(jR_ (ko_ G i sv) i pv).p i=pv by simp[jR_,ko_]] at hb'
    exact(hb b hb').imp id fun h=>⟨rfl,h⟩
   ·rw[show(jR_ (ko_ G k sv) k pv).p i=G.p i by simp[jR_,ko_,e]] at hb'
    exact .inl hb'
  intro hi' hj'
  have inX: ∀ {i},i<3→slB (G.p i)=some b→b∈keys X:=fun{i} hi e=>by
   obtain⟨pl,-,h2⟩:=h.pend i hi
   exact h2.key e
  rcases key hi hi' with a| ⟨rfl,a⟩
  ·rcases key hj hj' with c| ⟨rfl,c⟩
   ·exact h.pdis i j hi hj hij b a c
   ·exact c (inX hi a)
  ·rcases key hj hj' with c| ⟨rfl,-⟩
   ·exact a (inX hj c)
   ·exact hij rfl
end Go.Proofs
end
section
open Go Go.Proofs Go.Sx Go.StP
namespace Go.Proofs
set_option maxRecDepth 10000
set_option maxHeartbeats 400000
set_option linter.unusedSimpArgs false
structure PkL where
 v:Value
 l:List UInt16
 h:Value.oneCell' v=true∧v.cells= #[v]
structure ActL where
 kind:Int
 n:Int
 dir:List UInt8
 name:List UInt8
 s:List UInt8
 picks:PkL
structure ActOk (w:World) (a:ActL):Prop where
 pk:PkS w a.picks.v a.picks.l
 n: -9223372036854775808≤a.n∧a.n<9223372036854775808
theorem PkS.blk {w:World} {v:Value} {l:List UInt16} (h:PkS w v l) (hl:l≠ []) {b:Nat} (hb:slB v=some b):b<w.heap.size:=by
 obtain⟨b',off,c,arr,E,fz,hr,hc,⟨rfl,rfl,rfl⟩ | ⟨rfl,hh,-⟩⟩:=h.resolve_right fun e=>hl e.1
 ·exact absurd rfl hl
 ·cases hb
  exact(Array.getElem?_eq_some_iff.1 hh).1
set_option linter.defProp false
structure DkA (X:ze_) (G:DkG) (S:DiskL) (N:Nat):Prop where
 P:DkP X G S
 H:xY_ S
 B:DkN N S
theorem DkA.pend {X:ze_} {G:DkG} {S:DiskL} {N:Nat} (h:DkA X G S N) (hN:N<1000000): ∀k,k<3→(S.dir k).pend.length<1000000:=fun k _=>by
 have:=(h.B k).stl
 omega
theorem DkA.used {X:ze_} {G:DkG} {S:DiskL} {N:Nat} (h:DkA X G S N) (hN:N<1000000):xO_ S<4611686018427387904:=by
 have:=afM_ h.P.ok h.B
 omega
theorem DkA.mono {X X':ze_} {G:DkG} {S:DiskL} {N:Nat} (h:DkA X G S N) (hk: ∀b o,Sx.look X b=some o→Sx.look X' b=some o):DkA X' G S N:=⟨h.P.mono hk,h.H,h.B⟩
theorem DkA.b {X:ze_} {G:DkG} {S:DiskL} {N:Nat} (h:DkA X G S N) (hN:N<1000000):DkB S:=h.B.b (by omega)
end Go.Proofs
end
section
open Go Go.Proofs Go.Sx Go.StP
namespace Go.Proofs
set_option maxRecDepth 10000
set_option maxHeartbeats 400000
set_option linter.unusedSimpArgs false
set_option linter.defProp false
theorem am3_ {w:World} {X D:ze_} {b:Nat} {o:Obj} (h:Ext w X D) (hb:w.heap.size≤b):Ext w X ((b,o)::D):=
 ⟨fun c hc=>by
  rcases List.mem_cons.1 hc with rfl|hc
  ·exact .inr hb
  ·exact h.new c hc,fun c hc=>List.mem_cons_of_mem _ (h.all c hc)⟩
end Go.Proofs
end
section
open Go Go.Proofs Go.Sx Go.StP
namespace Go.Proofs
set_option maxRecDepth 10000
set_option maxHeartbeats 1000000
set_option linter.unusedSimpArgs false
theorem ais_ (kd:Int) (a b:List UInt8):qM_ (xX_ Tryz.prog 131) (zK_ Tryz.prog 131) [(0,vi kd),(1,vs a),(2,vs b)]=some (.agg (kcC ⟨kd,a,b,0⟩).toArray):=by
 rw[show xX_ Tryz.prog 131=some [(0,1),(1,1),(2,1),(3,1)] from id (by kernel_rfl),Tryz.zr131];rfl
theorem ajO_:qM_ (xX_ Tryz.prog 83) (zK_ Tryz.prog 83) []=some (.agg (fdC fd0).toArray):=by
 rw[show xX_ Tryz.prog 83=some [(0,1),(1,1)] from id (by kernel_rfl),Tryz.zr83];rfl
structure DoG where
 c:KcR
 S:DiskL
 G:DcG
 X:ze_
def DoS (G:DcG) (R:DiskL×Nat) (v:Value) (D:ze_):Prop:=v=vi (R.2:Nat)∧ ∃G',G'.bd=G.bd∧DcP D G' R.1
def DoJ (S0 T:DiskL) (k:Nat) (c:KcR) (S:DiskL):Prop:=(c.kind= -1∧S=T)∨S.dir=S0.dir∧ ∃d:CallL,c=WP_ d∧T=w2_ S k (wJ_ d)∧d.kind<3∧(d.kind=1→zC_ (S.dir k).seen d.a≠none)
set_option linter.defProp false
def zr_:=And.intro (And.intro (And.intro (And.intro (@zn_) (@zm_)) (And.intro (@k3_) (And.intro (@k6_) (@ve_)))) (And.intro (And.intro (@vm_) (And.intro (@abG_) (@K6_))) (And.intro (@abA_) (And.intro (@abL_) (@akN_))))) (And.intro (And.intro (And.intro (@aeY_) (@afh_)) (And.intro (@afr_) (And.intro (@aeS_) (@ajl_)))) (And.intro (And.intro (@aib_) (And.intro (@ajg_) (@ajZ_))) (And.intro (@akw_) (And.intro (@VI_) (@Q2_)))))
theorem aiZ_ (c:CallL):wJ_ (wJ_ c)=wJ_ c:=by
 unfold wJ_
 by_cases h0:c.kind=0
 ·simp[h0]
 ·by_cases h1:c.kind=1
  ·simp[h1]
  ·simp[h0,h1]
theorem alV_ (X:ze_) (G:DcG) (S:DiskL) (kind:Int) (dir name s:List UInt8) (w:World) (hX: ∀p,p∈X→w.heap[p.1]? =some p.2) (hn: (keys X).Nodup) (hP:DcP X G S) (ok:DkOk S) (hB:DkB S) (hK:0≤kind∧kind<6) (hnm:name.length<1099511627776) (hsl:s.length<1099511627776) (hpl: ∀k,k<3→(S.dir k).pend.length<1000000) (hfn:S.files.length<1000000000) (hus:xO_ S<4611686018427387904):
  Rets Tryz.prog 36 #[vp G.bd 0,vi kind,vs dir,vs name,vs s] w (XS w X (DoS G (doV S kind dir name s))):=by
 obtain⟨hp1,hp2⟩:=apg_ (S:=S) hK dir name s
 have hDW:=hP.worldX hX
 have rdd:=za_ (w0:=w) hP.disk
 refine Rets.enterX Tryz.func36 rfl (rs:= [.tmp 10]) Tryz.results36 Tryz.ntmps36 hX hn ?_
 refine kf ?_
 first|with_reducible refine ks [1000002,1000008,1000010,1000012,1000018,1000035] @zr_ ?_|refine kp @zr_ ?_
 refine Ow.callFV rfl Tryz.call30 (fun w' hw'=>Qb_ dir w') ?_
 cases hw:zD_ dir with
 |none=>
  have hwi:xJ_ dir= -1:=by unfold xJ_;rw[hw]
  have e1:decide ((-1:Int)<0)=true:=rfl
  have hpe:Vu_ S kind dir name s=1:=by unfold Vu_;rw[if_pos (.inl hw)]
  rw[hwi]
  refine ko @zr_ ?_
  first|with_reducible refine ks [] (And.intro @zr_ @e1) ?_|refine kp (And.intro @zr_ @e1) ?_
  refine⟨_,(ke @zr_), ?_⟩
  rw[hp1 (by rw[hpe];simp),hpe]
  exact⟨Ext.refl w X,rfl,G,rfl,hP⟩
 |some k=>
  have hk:=(z3_ hw).1
  have hwi:xJ_ dir=(k:Int):=by unfold xJ_;rw[hw]
  have e1:decide ((k:Int)<0)=false:=decide_eq_false (by omega)
  have hat:atD S dir name=zC_ (S.dir k).seen name:=by unfold atD;rw[hw];rfl
  rw[hwi]
  refine ko @zr_ ?_
  refine Cw.cutO (G:=Unit) [18,19,20,21,22,23,24,25,26,27,28,29,30,31,32,33,34,35,36,37] (fun g=> []) (fun g=>X) (fun g=>(kind≠3→qn_ name=true)∧(kind=4→qn_ s=true)) ?_ ?_
  ·by_cases k3:kind=3
   ·have e3: (kind !=3)=false:=by rw[k3];rfl
    have e4: (kind==4)=false:=by rw[k3];rfl
    first|with_reducible refine ks [] (And.intro @zr_ (And.intro @e1 (And.intro @e3 (@e4)))) ?_|refine kp (And.intro @zr_ (And.intro @e1 (And.intro @e3 (@e4)))) ?_
    exact CutO.mk () ⟨fun h=>absurd k3 h,fun h=>by omega⟩ rfl rfl
   ·have e3: (kind !=3)=true:=bne_iff_ne.2 k3
    first|with_reducible refine ks [] (And.intro @zr_ (And.intro @e1 (@e3))) ?_|refine kp (And.intro @zr_ (And.intro @e1 (@e3))) ?_
    refine Ow.callFV rfl Tryz.call31 (fun w' hw'=>ZA_ name w' hnm) ?_
    cases hf:qn_ name with
    |false=>
     have hpe:Vu_ S kind dir name s=1:=by unfold Vu_;rw[if_pos (.inr (.inl ⟨k3,hf⟩))]
     refine ko @zr_ ?_
     first|with_reducible refine ks [] @zr_ ?_|refine kp @zr_ ?_
     refine⟨_,(ke @zr_), ?_⟩
     rw[hp1 (by rw[hpe];simp),hpe]
     exact⟨Ext.refl w X,rfl,G,rfl,hP⟩
    |true=>
     by_cases k4:kind=4
     ·have e4: (kind==4)=true:=beq_iff_eq.2 k4
      refine ko (And.intro @zr_ @e4) ?_
      refine Ow.callFV rfl Tryz.call31 (fun w' hw'=>ZA_ s w' hsl) ?_
      cases hf2:qn_ s with
      |false=>
       have hpe:Vu_ S kind dir name s=1:=by unfold Vu_;rw[if_pos (.inr (.inr ⟨k4,hf2⟩))]
       refine ko @zr_ ?_
       first|with_reducible refine ks [] @zr_ ?_|refine kp @zr_ ?_
       refine⟨_,(ke @zr_), ?_⟩
       rw[hp1 (by rw[hpe];simp),hpe]
       exact⟨Ext.refl w X,rfl,G,rfl,hP⟩
      |true=>
       refine ko @zr_ ?_
       first|with_reducible refine ks [] @zr_ ?_|refine kp @zr_ ?_
       exact CutO.mk () ⟨fun _=>rfl,fun _=>rfl⟩ rfl rfl
     ·have e4: (kind==4)=false:=beq_eq_false_iff_ne.2 k4
      refine ko (And.intro @zr_ @e4) ?_
      first|with_reducible refine ks [] @zr_ ?_|refine kp @zr_ ?_
      exact CutO.mk () ⟨fun _=>rfl,fun h=>absurd h k4⟩ rfl rfl
  ·intro gu jgu hgu
   refine kv ?_
   obtain⟨hf1,hf2⟩:=hgu
   have hpe:Vu_ S kind dir name s=if S.off=true then 9 else match zC_ (S.dir k).seen name with
     |some n=>if kind=0 then 7 else if kind=1∧vu_ S n s=true then 8 else 0
     |none=>if kind≠0∧kind≠3 then 6 else 0:=by
    unfold Vu_
    rw[if_neg (by
     rintro(h| ⟨h,h'⟩ | ⟨h,h'⟩)
     ·rw[hw] at h;cases h
     ·rw[hf1 h] at h';cases h'
     ·rw[hf2 h] at h';cases h'),hat]<;>rfl
   have lds:=fun n=>x7_ G S hk n
   rcases Bool.eq_false_or_eq_true S.off with ho|ho
   ·rw[if_pos ho] at hpe
    first|with_reducible refine ks [] (And.intro @zr_ (And.intro @rdd (@ho))) ?_|refine kp (And.intro @zr_ (And.intro @rdd (@ho))) ?_
    refine⟨_,(ke @zr_), ?_⟩
    rw[hp1 (by rw[hpe];simp),hpe]
    exact⟨Ext.refl w X,rfl,G,rfl,hP⟩
   rw[if_neg (by rw[ho];simp)] at hpe
   have hbl:=(hB k hk).1
   first|with_reducible refine ks [12,21,22,24,26,29,36,37,1000008,1000010,1000012,1000018,1000035] (And.intro @zr_ (And.intro @rdd (And.intro @ho (@lds)))) ?_|refine kp (And.intro @zr_ (And.intro @rdd (And.intro @ho (@lds)))) ?_
   refine Ow.callFV rfl Tryz.call67 (fun w' hw'=>Qp_ (G.s k) (S.dir k).seen name w' (Gr.slW (hP.seen k hk) (fun b o h=>hw'.has b o (zq_ h)) zW_) (by omega)) ?_
   refine ko @zr_ ?_
   have hfi: ∀n,zC_ (S.dir k).seen name=some n→v3_ (S.dir k).seen name=(n:Int):=fun n h=>by unfold v3_;rw[h]
   have hfo:zC_ (S.dir k).seen name=none→v3_ (S.dir k).seen name= -1:=fun h=>by unfold v3_;rw[h]
   refine Cw.cutO (G:=Unit) [53,54,55,56,57,58] (fun g=> []) (fun g=>X) (fun g=>kind=0→zC_ (S.dir k).seen name=none) ?_ ?_
   ·by_cases k0:kind=0
    ·have e0: (kind==0)=true:=beq_iff_eq.2 k0
     cases hfn2:zC_ (S.dir k).seen name with
     |some n=>
      have e2:decide ((0:Int)≤v3_ (S.dir k).seen name)=true:=by rw[hfi n hfn2];exact decide_eq_true (by omega)
      rw[hfn2] at hpe
      simp only[k0, ↓reduceIte] at hpe
      first|with_reducible refine ks [] (And.intro @zr_ (And.intro @e0 (@e2))) ?_|refine kp (And.intro @zr_ (And.intro @e0 (@e2))) ?_
      refine⟨_,(ke @zr_), ?_⟩
      rw[hp1 (by rw[k0,hpe];simp),k0,hpe]
      exact⟨Ext.refl w X,rfl,G,rfl,hP⟩
     |none=>
      have e2:decide ((0:Int)≤v3_ (S.dir k).seen name)=false:=by rw[hfo hfn2];rfl
      first|with_reducible refine ks [] (And.intro @zr_ (And.intro @e0 (@e2))) ?_|refine kp (And.intro @zr_ (And.intro @e0 (@e2))) ?_
      exact CutO.mk () (fun _=>rfl) rfl rfl
    ·have e0: (kind==0)=false:=beq_eq_false_iff_ne.2 k0
     first|with_reducible refine ks [] (And.intro @zr_ @e0) ?_|refine kp (And.intro @zr_ @e0) ?_
     exact CutO.mk () (fun h=>absurd h k0) rfl rfl
   ·intro gv jgv hgv
    refine kv ?_
    refine Cw.cutO (G:=Unit) [59,60,61,62,63,64,65,66,67,68] (fun g=> []) (fun g=>X) (fun g=>kind≠0→kind≠3→zC_ (S.dir k).seen name≠none) ?_ ?_
    ·by_cases k0:kind=0
     ·have e0: (kind !=0)=false:=by rw[k0];rfl
      first|with_reducible refine ks [] (And.intro @zr_ @e0) ?_|refine kp (And.intro @zr_ @e0) ?_
      exact CutO.mk () (fun h=>absurd k0 h) rfl rfl
     ·have e0: (kind !=0)=true:=bne_iff_ne.2 k0
      by_cases k3:kind=3
      ·have e3: (kind !=3)=false:=by rw[k3];rfl
       first|with_reducible refine ks [] (And.intro @zr_ (And.intro @e0 (@e3))) ?_|refine kp (And.intro @zr_ (And.intro @e0 (@e3))) ?_
       exact CutO.mk () (fun _ h=>absurd k3 h) rfl rfl
      ·have e3: (kind !=3)=true:=bne_iff_ne.2 k3
       cases hfn2:zC_ (S.dir k).seen name with
       |none=>
        have e2:decide (v3_ (S.dir k).seen name<0)=true:=by rw[hfo hfn2];rfl
        rw[hfn2] at hpe
        simp only[k0,k3,ne_eq,not_false_eq_true,and_self, ↓reduceIte] at hpe
        first|with_reducible refine ks [] (And.intro @zr_ (And.intro @e0 (And.intro @e3 (@e2)))) ?_|refine kp (And.intro @zr_ (And.intro @e0 (And.intro @e3 (@e2)))) ?_
        refine⟨_,(ke @zr_), ?_⟩
        rw[hp1 (by rw[hpe];simp),hpe]
        exact⟨Ext.refl w X,rfl,G,rfl,hP⟩
       |some n=>
        have e2:decide (v3_ (S.dir k).seen name<0)=false:=by rw[hfi n hfn2];exact decide_eq_false (by omega)
        first|with_reducible refine ks [] (And.intro @zr_ (And.intro @e0 (And.intro @e3 (@e2)))) ?_|refine kp (And.intro @zr_ (And.intro @e0 (And.intro @e3 (@e2)))) ?_
        exact CutO.mk () (fun _ _=>by simp) rfl rfl
    ·intro gx jgx hgx
     refine kv ?_
     refine Cw.cutO (G:=Unit) [69,70,71,72,73,74,75,76,77,78,79,80,81,82,83,84,85,86,87,88,89,90,91,92,93,94,95,96,97] (fun g=> []) (fun g=>X) (fun g=>kind=1→ ∀n,zC_ (S.dir k).seen name=some n→vu_ S n s=false) ?_ ?_
     ·by_cases k1:kind=1
      ·subst k1
       have e1k: ((1:Int)==1)=true:=rfl
       obtain⟨n,hfn2⟩: ∃n,zC_ (S.dir k).seen name=some n:=by
        cases h:zC_ (S.dir k).seen name with
        |none=>exact absurd h (hgx (by omega) (by omega))
        |some n=>exact⟨n,rfl⟩
       have hfin:=hfi n hfn2
       have hnl:n<S.files.length:=ok.seenN k hk _ (q1_ hfn2)
       have hnm2:n< (S.files.map kT_).length:=by rw[List.length_map];exact hnl
       obtain⟨rf,rest,cf,hv,hlk,-⟩:=Gr.upd hP.files ji_ hnm2 fd0
       have rdf:=za_ (w0:=w) hlk
       have ixf:zN_ (.sl (true,2)) G.f (some (n:Int))=some (vp rf (n*2)):=by rw[hv,qk_ _ _ _ _ _ _ (by omega)];simp
       have ld0:=fun y=>wL_ (E:=83) (rest:=rest) n hnm2 y
       rw[QB_] at ld0
       have ld0': ∀y,zk_ (some (false,y)) (some (vo_ fdC 83 rest (S.files.map kT_))) (n*2)=some (vs (zz_ S n).data):=ld0
       clear ld0
       obtain⟨hfo1,hfo2⟩:=vb_ ok hnl
       have hful:vu_ S n s=(decide ((1048576:Int)< ((zz_ S n).data.length:Int)+ (s.length:Int)) ||decide (S.max< (xO_ S:Int)+ (s.length:Int))):=by
        unfold vu_
        rw[Bool.eq_iff_iff]
        simp only[Bool.or_eq_true,decide_eq_true_eq]
        omega
       rw[hfin]
       first|with_reducible refine ks [12] @zr_ ?_|refine kp @zr_ ?_
       cases ha:decide ((1048576:Int)< ((zz_ S n).data.length:Int)+ (s.length:Int)) with
       |true=>
        rw[ha,Bool.true_or] at hful
        have hpe:Vu_ S 1 dir name s=8:=by rw[hpe,hfn2];simp[hful]
        refine Cw.regionS [G.bd,rf] [0,1,2,3,4,5,7,12,13,6,8,9,10,11,14,15,16,17,19,20,22,23,24,25,18,21,26,27,28] [] (by kernel_rfl) (by kernel_rfl) (by kernel_rfl) ?_
        simp only[zj_, ↓zf_, ↓zc_, ↓zw_, ↓zv_,zd_]
        refine kq (And.intro @zr_ (And.intro @e1k (And.intro @rdd (And.intro @rdf (And.intro @ixf (And.intro @ld0' (@ha))))))) ?_
        first|with_reducible refine ks [] @zr_ ?_|refine kp @zr_ ?_
        refine⟨_,(ke @zr_), ?_⟩
        rw[hp1 (by rw[hpe];simp),hpe]
        exact⟨Ext.refl w X,rfl,G,rfl,hP⟩
       |false=>
        rw[ha,Bool.false_or] at hful
        refine Cw.regionS [G.bd,rf] [0,1,2,3,4,5,7,12,13,6,8,9,10,11,14,15,16,17,19,20,22,23,24,25,18,21,26,27,28] [] (by kernel_rfl) (by kernel_rfl) (by kernel_rfl) ?_
        simp only[zj_, ↓zf_, ↓zc_, ↓zw_, ↓zv_,zd_]
        refine kq (And.intro @zr_ (And.intro @e1k (And.intro @rdd (And.intro @rdf (And.intro @ixf (And.intro @ld0' (@ha))))))) ?_
        refine Ow.soft rfl rfl rfl ?_
        refine Ow.callFV rfl Tryz.call42 (fun w' hw'=>Vg_ w' G S (hP.world hw') ok hB hus) ?_
        with_reducible refine Ow.nil ?_
        refine⟨by intro b hb;simp only[List.mem_cons,List.not_mem_nil,or_false] at hb;(try subst hb);rfl, ?_⟩
        cases hb:decide (S.max< (xO_ S:Int)+ (s.length:Int)) with
        |true=>
         rw[hb] at hful
         have hpe:Vu_ S 1 dir name s=8:=by rw[hpe,hfn2];simp[hful]
         refine kq (And.intro @zr_ (And.intro @rdd (@hb))) ?_
         first|with_reducible refine ks [] @zr_ ?_|refine kp @zr_ ?_
         refine⟨_,(ke @zr_), ?_⟩
         rw[hp1 (by rw[hpe];simp),hpe]
         exact⟨Ext.refl w X,rfl,G,rfl,hP⟩
        |false=>
         rw[hb] at hful
         refine kq (And.intro @zr_ (And.intro @rdd (@hb))) ?_
         first|with_reducible refine ks [] @zr_ ?_|refine kp @zr_ ?_
         exact CutO.mk () (fun _ m hm=>by rw[hfn2] at hm;cases hm;exact hful) rfl rfl
      ·have e1k: (kind==1)=false:=beq_eq_false_iff_ne.2 k1
       first|with_reducible refine ks [12] @zr_ ?_|refine kp @zr_ ?_
       refine Cw.regionS [G.bd] [0,1,2,3,4,5,7,12,13,6,8,9,10,11,14,15,16,17,19,20,22,23,24,25,18,21,26,27,28] [] (by kernel_rfl) (by kernel_rfl) (by kernel_rfl) ?_
       simp only[zj_, ↓zf_, ↓zc_, ↓zw_, ↓zv_,zd_]
       refine kq (And.intro @zr_ @e1k) ?_
       first|with_reducible refine ks [] @zr_ ?_|refine kp @zr_ ?_
       exact CutO.mk () (fun h=>absurd h k1) rfl rfl
     ·intro gy jgy hgy
      refine kv ?_
      have hpe0:Vu_ S kind dir name s=0:=by
       rw[hpe]
       cases hfn2:zC_ (S.dir k).seen name with
       |none=>
        have: ¬(kind≠0∧kind≠3):=fun h=>hgx h.1 h.2 hfn2
        simp only[this, ↓reduceIte]
       |some n=>
        have h0: ¬kind=0:=fun h=>by rw[hgv h] at hfn2;cases hfn2
        have h1: ¬ (kind=1∧vu_ S n s=true):=fun h=>by rw[hgy h.1 n hfn2] at h;cases h.2
        simp only[h0,h1, ↓reduceIte]
      rw[hp2 hpe0]
      first|with_reducible refine ks [21,22,24,26,29,36,37,1000018,1000035] @zr_ ?_|refine kp @zr_ ?_
      refine Ow.callM rfl rfl Tryz.call68 (zg_ hP.disk) (fun w' hw'=>agf_ G S w' ok.fuse (hw'.has _ _ (zq_ hP.disk))) ?_
      obtain⟨hb1,hb2,hb3⟩:=jb_ S
      have hP1:=hP.setD (zl_ S).1 hb1 hb2
      have hE1:=(Ext.refl w X).setB (b:=G.bd) (o:=dcO G (zl_ S).1)
      have hkX:keys (setB X G.bd (dcO G (zl_ S).1))=keys X:=zU_ _ _ _
      generalize hX1:setB X G.bd (dcO G (zl_ S).1)=X1 at*
      by_cases hbn: (zl_ S).2=0
      ·have e2: (((zl_ S).2:Int) !=0)=false:=by rw[hbn];rfl
       rw[if_neg (by rw[hbn];simp)]
       refine ko (And.intro @zr_ @e2) ?_
       first|with_reducible refine ks [21,22,24,26,29,36,37,1000018,1000035] (And.intro @zr_ @e2) ?_|refine kp (And.intro @zr_ @e2) ?_
       refine Ow.build (.agg (kcC ⟨-1,name,s,0⟩).toArray) rfl (ais_ (-1) name s) ?_
       refine ko @zr_ ?_
       refine Ow.alloc rfl rfl zrKc fun b15 hb15 hw15=> ?_
       simp only[zh_,List.nil_append,List.cons_append]
       have hb15X:b15∉keys X1:=fun hm=>by have:=zx_ hb15 hm;omega
       refine Ow.permL (M:=(b15, .cells (kcC kc0).toArray 131 (0,0))::X1) (by classical exact List.perm_iff_count.2 fun a=>by simp only[List.count_append,List.count_cons,List.count_nil]<;>omega) ?_
       refine ko @zr_ ?_
       have hP2:DcP ((b15,Obj.cells (kcC ⟨-1,name,s,0⟩).toArray 131 (0,0))::X1) G (zl_ S).1:=hP1.mono fun b o h=>xD_ hb15 h
       have hE2:Ext w X ((b15,Obj.cells (kcC ⟨-1,name,s,0⟩).toArray 131 (0,0))::X1):=am3_ hE1 hw15
       have hk15:Sx.look ((b15,Obj.cells (kcC ⟨-1,name,s,0⟩).toArray 131 (0,0))::X1) b15=some (.cells (kcC ⟨-1,name,s,0⟩).toArray 131 (0,0)):=by simp[Sx.look]
       have h15n: ∀ {E m n v cs},Gr X1 E m v n cs→slB v≠some b15:=fun h e=>hb15X (h.key e)
       have h15p:slB (G.p k)≠some b15:=by
        obtain⟨pl,-,h⟩:=hP1.pend k hk
        exact h15n h
       have h15b:G.bd≠b15:=fun e=>hb15X (e▸zg_ hP1.disk)
       have hk12: ∀x b o,Sx.look X1 b=some o→Sx.look (setB ((b15,Obj.cells (kcC ⟨-1,name,s,0⟩).toArray 131 (0,0))::X1) b15 x) b=some o:=fun x b o h=>by
        rw[zb_ (by rintro rfl;exact hb15X (zg_ h))]
        exact xD_ hb15 h
       generalize hX2: (b15,Obj.cells (kcC ⟨-1,name,s,0⟩).toArray 131 (0,0))::X1=X2 at*
       have hPc: ∀x,DcP (setB X2 b15 x) G (zl_ S).1:=fun x=>hP1.mono (hk12 x)
       have hmax: (zl_ S).1.dir=S.dir∧(zl_ S).1.files=S.files:=⟨hb1,hb2⟩
       have hact: ∀T,actV S kind dir name s=T→DoS G (actV S kind dir name s,0)=DoS G (T,0):=fun T h=>by rw[h]
       refine Cw.cutO (G:=DoG) [106,107,108,109,110,111,112,113,114,115,116,117,118,119,120,121,122,123,124,125,126,127,128,129,130,131,132,133,134,135,136,137,138,139,140,141,142,143,144,145,146,147,148,149,150,151,152,153,154,155,156,157,158,159,160,161,162,163,164,165,166,167,168,169,170,171,172,173,174,175,176,177,178,179,180,181,182,183,184] (fun g=> []) (fun g=>g.X) (fun g=>g.G.bd=G.bd∧DcP g.X g.G g.S∧Sx.look g.X b15=some (.cells (kcC g.c).toArray 131 (0,0))∧DoJ S (actV S kind dir name s) k g.c g.S∧Ext w X g.X∧slB (g.G.p k)≠some b15) ?_ ?_
       ·have h6:kind=0∨kind=1∨kind=2∨kind=3∨kind=4∨kind=5:=by omega
        have rd2:=za_ (w0:=w) hP2.disk
        have rk15:=za_ (w0:=w) hk15
        have hwk: (zD_ dir).getD 0=k:=by rw[hw];rfl
        rcases h6 with rfl|rfl|rfl|rfl|rfl|rfl
        ·have z0: ((0:Int)==0)=true:=rfl
         have hnf: (S.files.map kT_).length=S.files.length:=List.length_map ..
         have hFf:Gr X2 83 2 G.f ((zl_ S).1.files.map kT_).length (((zl_ S).1.files.map kT_).map fdC).flatten:=hP2.files
         rw[hb2,hnf] at hFf
         have hne:slB G.f≠some G.bd:=fun e=>by
          obtain⟨arr,ha⟩:=x0_ hFf e
          rw[hP2.disk] at ha
          have:=congrArg tyO (Option.some.inj ha)
          rw[j4_] at this
          exact wH_ this
         have hne15:slB G.f≠some b15:=h15n hP1.files
         first|with_reducible refine ks [21,22,36,37] (And.intro @zr_ (And.intro @z0 (@rd2))) ?_|refine kp (And.intro @zr_ (And.intro @z0 (@rd2))) ?_
         refine Ow.build (.agg (fdC fd0).toArray) rfl ajO_ ?_
         refine ko @zr_ ?_
         refine Ow.buildSlice (e:=83) (fdC fd0).toArray rfl rfl (zT_ Tryz.underlying74 alp_ zrFd (by decide) (ji_ _)) fun ba hba hwa=> ?_
         refine ko @zr_ ?_
         refine Ow.appendG (e:=83) (k:=1) (new:=fdC fd0) G.f rfl rfl rfl Tryz.underlying74 alp_ (by kernel_rfl) zrFd (by rw[Q2_,List.size_toArray,ji_]) Tryz.underlying74 (by intro k h;cases h) hFf.app (fun w' hw'=>AppX.one1 (hw'.has ba (.cells (fdC fd0).toArray 83 (0,0)) (by simp)) (ji_ _) (ajB_ _)) (ji_ _) (by omega) (fun v2 L2 hB2 _ hg2 hs2=> ?_)
         have hd2:Sx.look L2 G.bd=some (dcO G (zl_ S).1):=hg2.look _ _ hne (zi_ hP2.disk)
         have h152:Sx.look L2 b15=some (.cells (kcC ⟨-1,name,s,0⟩).toArray 131 (0,0)):=hg2.look _ _ hne15 (zi_ hk15)
         have hr2:=za_ (w0:=w) hd2
         have st:=fun x=>aaU_ G (zl_ S).1 x hB2.cell
         have hE3:=(hE2.app (o:= .cells (fdC fd0).toArray 83 (0,0)) hwa).grew hg2
         refine ko (And.intro @zr_ (And.intro @hd2 (And.intro @hr2 (And.intro @st (@j0_))))) ?_
         have hd3:Sx.look (setB L2 G.bd (dcO {G with f:=v2} (zl_ S).1)) G.bd=some (dcO {G with f:=v2} (zl_ S).1):=zB_ hd2
         have h153:Sx.look (setB L2 G.bd (dcO {G with f:=v2} (zl_ S).1)) b15=some (.cells (kcC ⟨-1,name,s,0⟩).toArray 131 (0,0)):=by rw[zb_ h15b];exact h152
         have hr153:=za_ (w0:=w) h153
         have hk3: ∀b o,b≠G.bd→Sx.look L2 b=some o→Sx.look (setB L2 G.bd (dcO {G with f:=v2} (zl_ S).1)) b=some o:=fun b o hb ho=>by rw[zb_ (Ne.symm hb)];exact ho
         have hE4:=hE3.setB (b:=G.bd) (o:=dcO {G with f:=v2} (zl_ S).1)
         generalize setB L2 G.bd (dcO {G with f:=v2} (zl_ S).1)=L3 at*
         first|with_reducible refine ks [22,36,37] (And.intro @zr_ (And.intro @h153 (And.intro @hr153 (@j0_)))) ?_|refine kp (And.intro @zr_ (And.intro @h153 (And.intro @hr153 (@j0_)))) ?_
         have hd4:Sx.look (setB L3 b15 (.cells (kcC ⟨0,name,s,0⟩).toArray 131 (0,0))) G.bd=some (dcO {G with f:=v2} (zl_ S).1):=by rw[zb_ (Ne.symm h15b)];exact hd3
         have h154:Sx.look (setB L3 b15 (.cells (kcC ⟨0,name,s,0⟩).toArray 131 (0,0))) b15=some (.cells (kcC ⟨0,name,s,0⟩).toArray 131 (0,0)):=zB_ h153
         have hr4:=za_ (w0:=w) hd4
         have hr154:=za_ (w0:=w) h154
         have ln2:=hB2.len
         have es: ((S.files.length+1:Nat):Int) - 1=(S.files.length:Int):=by omega
         first|with_reducible refine ks [] (And.intro @zr_ (And.intro @hr4 (And.intro @ln2 (And.intro @es (And.intro @h154 (And.intro @hr154 (@j0_))))))) ?_|refine kp (And.intro @zr_ (And.intro @hr4 (And.intro @ln2 (And.intro @es (And.intro @h154 (And.intro @hr154 (@j0_))))))) ?_
         refine CutO.mk ⟨⟨0,name,s,(S.files.length:Int)⟩,kg_ (zl_ S).1 qO_,{G with f:=v2},setB (setB L3 b15 (.cells (kcC ⟨0,name,s,0⟩).toArray 131 (0,0))) b15 (.cells (kcC ⟨0,name,s,(S.files.length:Int)⟩).toArray 131 (0,0))⟩ ⟨rfl, ?_,zB_ h154, .inr ⟨hb1,⟨0,name,s,S.files.length⟩,rfl,by unfold actV;simp[hwk,wJ_],(by show(0:Nat)<3;decide),fun h=>by cases h⟩,hE4.setB.setB,h15p⟩ rfl rfl
         have hk5: ∀b o,b≠b15→Sx.look L3 b=some o→Sx.look (setB (setB L3 b15 (.cells (kcC ⟨0,name,s,0⟩).toArray 131 (0,0))) b15 (.cells (kcC ⟨0,name,s,(S.files.length:Int)⟩).toArray 131 (0,0))) b=some o:=fun b o hb ho=>by
          rw[zb_ (Ne.symm hb),zb_ (Ne.symm hb)];exact ho
         refine DcP.updF (G:=G) hP1 (v:=v2) (fl:=(zl_ S).1.files++ [qO_]) (fun b o hb hf ho=> ?_) ?_ ?_
         ·exact hk5 b o (by rintro rfl;exact hb15X (zg_ ho)) (hk3 b o hb (hg2.look _ _ hf (zi_ (by rw[←hX2];exact xD_ hb15 ho))))
         ·exact hk5 _ _ h15b hd3
         ·have hG7:Gr L2 83 2 v2 (((zl_ S).1.files++ [qO_]).map kT_).length ((((zl_ S).1.files++ [qO_]).map kT_).map fdC).flatten:=by
           have hf0:kT_ qO_=fd0:=rfl
           rw[hb2]
           simpa [hf0] using hB2
          refine hG7.keep fun b o hb ho=> ?_
          obtain⟨arr,ha⟩:=x0_ hG7 hb
          refine hk5 b o ?_ (hk3 b o ?_ ho)
          ·rintro rfl
           rw[h152] at ha
           have:=congrArg tyO (Option.some.inj ha)
           exact anp_ this
          ·rintro rfl
           rw[hd2] at ha
           have:=congrArg tyO (Option.some.inj ha)
           rw[j4_] at this
           exact wH_ this
        ·have z0: ((1:Int)==0)=false:=rfl
         have z1: ((1:Int)==1)=true:=rfl
         obtain⟨n,hfn2⟩: ∃n,zC_ (S.dir k).seen name=some n:=by
          cases h:zC_ (S.dir k).seen name with
          |none=>exact absurd h (hgx (by decide) (by decide))
          |some n=>exact⟨n,rfl⟩
         have hfin:=hfi n hfn2
         rw[hfn2] at hat
         have hnl:n<S.files.length:=ok.seenN k hk _ (q1_ hfn2)
         have hnm2:n< (S.files.map kT_).length:=by rw[List.length_map];exact hnl
         obtain⟨hfo1,hfo2⟩:=vb_ ok hnl
         obtain⟨rf,rest,cf,hv,hlk,hup⟩:=Gr.upd hP.files ji_ hnm2 (kT_ ⟨(zz_ S n).data++s,(zz_ S n).stl⟩)
         have hlk2:Sx.look X2 rf=some (vo_ fdC 83 rest (S.files.map kT_)):=by
          have h1:Sx.look X1 rf=some (vo_ fdC 83 rest (S.files.map kT_)):=by
           rw[←hX1,zb_ (by rintro rfl;rw[hP.disk] at hlk;have:=congrArg tyO (Option.some.inj hlk);rw[j4_] at this;exact wH_ this)]
           exact hlk
          rw[←hX2];exact xD_ hb15 h1
         have rdf:=za_ (w0:=w) hlk2
         have ixf:zN_ (.sl (true,2)) G.f (some (n:Int))=some (vp rf (n*2)):=by rw[hv,qk_ _ _ _ _ _ _ (by omega)];simp
         have ld0:=fun y=>wL_ (E:=83) (rest:=rest) n hnm2 y
         rw[QB_] at ld0
         have ld0': ∀y,zk_ (some (false,y)) (some (vo_ fdC 83 rest (S.files.map kT_))) (n*2)=some (vs (zz_ S n).data):=ld0
         clear ld0
         have st:=fun(a:Bool)=>abd_ (E:=83) (rest:=rest) n hnm2 ((zz_ S n).data++s) a
         rw[QB_] at st
         have st': ∀a,zu_ (some (a,1)) (some (vo_ fdC 83 rest (S.files.map kT_))) (n*2) (vs ((zz_ S n).data++s))=some (vo_ fdC 83 rest ((S.files.map kT_).set n (kT_ ⟨(zz_ S n).data++s,(zz_ S n).stl⟩))):=st
         clear st
         rw[hfin]
         first|with_reducible refine ks [21,22,24,26,29,36,37] (And.intro @zr_ (And.intro @z0 (@z1))) ?_|refine kp (And.intro @zr_ (And.intro @z0 (@z1))) ?_
         refine Cw.regionO [0,1,2,4,5,6,7,9,13,3,8,10,11,12,14,15,16,17] [17] rfl (by kernel_rfl) (by kernel_rfl) ?_
         simp only[zj_, ↓zf_, ↓zc_, ↓zw_, ↓zv_,zd_]
         refine kq (And.intro @zr_ (And.intro @rd2 (And.intro @rdf (And.intro @ixf (@ld0'))))) ?_
         refine Ow.store rfl rfl rfl (ke (And.intro @zr_ (And.intro @hlk2 (@st')))) ?_
         refine ko @zr_ ?_
         first|with_reducible refine ks [] @zr_ ?_|refine kp @zr_ ?_
         refine CutO.mk ⟨⟨-1,name,s,0⟩,J4_ (zl_ S).1 n ⟨(zz_ S n).data++s,(zz_ S n).stl⟩,G,setB X2 rf (vo_ fdC 83 rest ((S.files.map kT_).set n (kT_ ⟨(zz_ S n).data++s,(zz_ S n).stl⟩)))⟩ ⟨rfl, ?_, ?_, .inl ⟨rfl,by unfold actV;simp[hat]⟩,hE2.setB,h15p⟩ rfl rfl
         ·have hfs:G.f=G.f:=rfl
          refine DcP.updF (G:=G) hP2 (v:=G.f) (fun b o hb hf ho=> ?_) ?_ ?_
          ·rw[zb_ (by rintro rfl;exact hf (by rw[hv];rfl))];exact ho
          ·rw[zb_ (by rintro e;rw[e,hP2.disk] at hlk2;have:=congrArg tyO (Option.some.inj hlk2);rw[j4_] at this;exact wH_ this)];exact hP2.disk
          ·show Gr _ _ _ _ _ _
           rw[hb2,List.map_set]
           exact hup _ (zB_ hlk2)
         ·rw[zb_ (fun e=>hb15X (by rw[←e,←hX1,zU_];exact zg_ hlk))];exact hk15
        ·have z0: ((2:Int)==0)=false:=rfl
         have z1: ((2:Int)==1)=false:=rfl
         have z2: ((2:Int)==2)=true:=rfl
         obtain⟨n,hfn2⟩: ∃n,zC_ (S.dir k).seen name=some n:=by
          cases h:zC_ (S.dir k).seen name with
          |none=>exact absurd h (hgx (by decide) (by decide))
          |some n=>exact⟨n,rfl⟩
         have hfin:=hfi n hfn2
         rw[hfn2] at hat
         have hnl:n<S.files.length:=ok.seenN k hk _ (q1_ hfn2)
         have hnm2:n< (S.files.map kT_).length:=by rw[List.length_map];exact hnl
         obtain⟨hfo1,hfo2⟩:=vb_ ok hnl
         obtain⟨rf,rest,cf,hv,hlk,hup⟩:=Gr.upd hP.files ji_ hnm2 (kT_ ⟨(zz_ S n).data,(zz_ S n).data.length⟩)
         have hlk2:Sx.look X2 rf=some (vo_ fdC 83 rest (S.files.map kT_)):=by
          have h1:Sx.look X1 rf=some (vo_ fdC 83 rest (S.files.map kT_)):=by
           rw[←hX1,zb_ (by rintro rfl;rw[hP.disk] at hlk;have:=congrArg tyO (Option.some.inj hlk);rw[j4_] at this;exact wH_ this)]
           exact hlk
          rw[←hX2];exact xD_ hb15 h1
         have rdf:=za_ (w0:=w) hlk2
         have ixf:zN_ (.sl (true,2)) G.f (some (n:Int))=some (vp rf (n*2)):=by rw[hv,qk_ _ _ _ _ _ _ (by omega)];simp
         have ld0:=fun y=>wL_ (E:=83) (rest:=rest) n hnm2 y
         rw[QB_] at ld0
         have ld0': ∀y,zk_ (some (false,y)) (some (vo_ fdC 83 rest (S.files.map kT_))) (n*2)=some (vs (zz_ S n).data):=ld0
         clear ld0
         have st:=fun(a:Bool)=>WW_ (E:=83) (rest:=rest) n hnm2 ((zz_ S n).data.length:Int) a
         rw[QB_] at st
         have st': ∀a,zu_ (some (a,1)) (some (vo_ fdC 83 rest (S.files.map kT_))) (n*2+1) (vi ((zz_ S n).data.length:Int))=some (vo_ fdC 83 rest ((S.files.map kT_).set n (kT_ ⟨(zz_ S n).data,(zz_ S n).data.length⟩))):=st
         clear st
         rw[hfin]
         first|with_reducible refine ks [21,22,24,26,29,36,37] (And.intro @zr_ (And.intro @z0 (And.intro @z1 (@z2)))) ?_|refine kp (And.intro @zr_ (And.intro @z0 (And.intro @z1 (@z2)))) ?_
         refine Cw.regionO [0,1,2,4,5,6,7,9,3,8,10,11,12,13,14,15,16] [16] rfl (by kernel_rfl) (by kernel_rfl) ?_
         simp only[zj_, ↓zf_, ↓zc_, ↓zw_, ↓zv_,zd_]
         refine kq (And.intro @zr_ (And.intro @rd2 (And.intro @rdf (And.intro @ixf (@ld0'))))) ?_
         refine Ow.store rfl rfl rfl (ke (And.intro @zr_ (And.intro @hlk2 (@st')))) ?_
         refine ko @zr_ ?_
         first|with_reducible refine ks [] @zr_ ?_|refine kp @zr_ ?_
         refine CutO.mk ⟨⟨-1,name,s,0⟩,J4_ (zl_ S).1 n ⟨(zz_ S n).data,(zz_ S n).data.length⟩,G,setB X2 rf (vo_ fdC 83 rest ((S.files.map kT_).set n (kT_ ⟨(zz_ S n).data,(zz_ S n).data.length⟩)))⟩ ⟨rfl, ?_, ?_, .inl ⟨rfl,by unfold actV;simp[hat]⟩,hE2.setB,h15p⟩ rfl rfl
         ·have hfs:G.f=G.f:=rfl
          refine DcP.updF (G:=G) hP2 (v:=G.f) (fun b o hb hf ho=> ?_) ?_ ?_
          ·rw[zb_ (by rintro rfl;exact hf (by rw[hv];rfl))];exact ho
          ·rw[zb_ (by rintro e;rw[e,hP2.disk] at hlk2;have:=congrArg tyO (Option.some.inj hlk2);rw[j4_] at this;exact wH_ this)];exact hP2.disk
          ·show Gr _ _ _ _ _ _
           rw[hb2,List.map_set]
           exact hup _ (zB_ hlk2)
         ·rw[zb_ (fun e=>hb15X (by rw[←e,←hX1,zU_];exact zg_ hlk))];exact hk15
        ·have z0: ((3:Int)==0)=false:=rfl
         have z1: ((3:Int)==1)=false:=rfl
         have z2: ((3:Int)==2)=false:=rfl
         have z3: ((3:Int)==3)=true:=rfl
         have ldk:=fun n=>x7_ G (zl_ S).1 hk n
         have st1:=fun x=>acc_ G (zl_ S).1 hk x (Gr.cell (hP2.seen k hk))
         have hl1:Sx.look (setB X2 G.bd (dcO (WM_ G k (G.s k)) (zl_ S).1)) G.bd=some (dcO (WM_ G k (G.s k)) (zl_ S).1):=zB_ hP2.disk
         have rl1:=za_ (w0:=w) hl1
         have st2:=fun x=>aaI_ (WM_ G k (G.s k)) (zl_ S).1 hk x (q:= .slice none 0 0) ⟨rfl,rfl⟩
         ((try with_reducible refine Cw.go [21,22,29,36,37] ?_);(try simp(disch:=(first|assumption|omega| (simp only[w5_,wR_,UInt64.reduceToNat];try omega))) only[↓Sx.S0,Sx.S1,Tryz.fx,zr_,Nat.reduceAdd,Nat.reducePow,Int.reducePow,Nat.reduceBEq, ↓reduceIte,UInt8.reduceToNat,UInt16.reduceToNat,UInt32.reduceToNat,UInt64.reduceToNat,Int.reduceToNat,z0,z1,z2,z3,hP2.disk,rd2,ldk,st1,j0_]))
         first|with_reducible refine ks [] (And.intro @zr_ (And.intro @hl1 (And.intro @rl1 (And.intro @st2 (@j0_))))) ?_|refine kp (And.intro @zr_ (And.intro @hl1 (And.intro @rl1 (And.intro @st2 (@j0_))))) ?_
         refine CutO.mk ⟨⟨-1,name,s,0⟩,jV_ (zl_ S).1 k,jR_ (WM_ G k (G.s k)) k (.slice none 0 0),setB (setB X2 G.bd (dcO (WM_ G k (G.s k)) (zl_ S).1)) G.bd (dcO (jR_ (WM_ G k (G.s k)) k (.slice none 0 0)) (zl_ S).1)⟩ ⟨rfl, ?_, ?_, .inl ⟨rfl,by unfold actV;simp[hwk]⟩,hE2.setB.setB,(by show slB ((jR_ (WM_ G k (G.s k)) k (.slice none 0 0)).p k)≠some b15;simp[jR_,slB])⟩ rfl rfl
         ·refine hP2.upd rfl (fun b o hb ho=>by rw[zb_ (Ne.symm hb),zb_ (Ne.symm hb)];exact ho) (zB_ hl1) (fun j hj=> .inl ⟨rfl,adg_ _ _ _⟩) (fun j hj=> ?_) (fun j hj=> ?_) ⟨rfl,rfl⟩
          ·by_cases e:j=k
           ·subst e
            refine .inr ?_
            rw[show(jR_ (WM_ G j (G.s j)) j (.slice none 0 0)).t j=G.s j by simp[jR_,WM_],show((jV_ (zl_ S).1 j).dir j).stl=((zl_ S).1.dir j).seen by unfold jV_;rw[zY_]]
            exact Gr.keepTy (hP2.seen j hj) hP2.disk (by rw[j4_];exact vE_) fun b o hb ho=>by rw[zb_ (Ne.symm hb),zb_ (Ne.symm hb)];exact ho
           ·exact .inl ⟨by simp[jR_,WM_,e],by unfold jV_;rw[qv_ _ _ e]⟩
          ·by_cases e:j=k
           ·subst e
            exact .inr ⟨by simp[jR_],by unfold jV_;rw[zY_]⟩
           ·exact .inl ⟨by simp[jR_,WM_,e],by unfold jV_;rw[qv_ _ _ e]⟩
         ·rw[zb_ h15b,zb_ h15b];exact hk15
        ·have z0: ((4:Int)==0)=false:=rfl
         have z1: ((4:Int)==1)=false:=rfl
         have z2: ((4:Int)==2)=false:=rfl
         have z3: ((4:Int)==3)=false:=rfl
         have z4: ((4:Int)==4)=true:=rfl
         by_cases hns:name=s
         ·have e5: (name !=s)=false:=by rw[hns];exact bne_self_eq_false _
          first|with_reducible refine ks [] (And.intro @zr_ (And.intro @z0 (And.intro @z1 (And.intro @z2 (And.intro @z3 (And.intro @z4 (@e5))))))) ?_|refine kp (And.intro @zr_ (And.intro @z0 (And.intro @z1 (And.intro @z2 (And.intro @z3 (And.intro @z4 (@e5))))))) ?_
          exact CutO.mk ⟨⟨-1,name,s,0⟩,(zl_ S).1,G,X2⟩ ⟨rfl,hP2,hk15, .inl ⟨rfl,by unfold actV;simp[hns]⟩,hE2,h15p⟩ rfl rfl
         ·have e5: (name !=s)=true:=bne_iff_ne.2 hns
          first|with_reducible refine ks [] (And.intro @zr_ (And.intro @z0 (And.intro @z1 (And.intro @z2 (And.intro @z3 (And.intro @z4 (And.intro @e5 (And.intro @hk15 (@rk15))))))))) ?_|refine kp (And.intro @zr_ (And.intro @z0 (And.intro @z1 (And.intro @z2 (And.intro @z3 (And.intro @z4 (And.intro @e5 (And.intro @hk15 (@rk15))))))))) ?_
          exact CutO.mk ⟨⟨1,name,s,0⟩,(zl_ S).1,G,setB X2 b15 (.cells (kcC ⟨1,name,s,0⟩).toArray 131 (0,0))⟩ ⟨rfl,hPc _,zB_ hk15, .inr ⟨hb1,⟨1,name,s,0⟩,rfl,by unfold actV;simp[hns,hwk,wJ_],(by show(1:Nat)<3;decide),fun _=>by show zC_ ((zl_ S).1.dir k).seen name≠none;rw[hb1];exact hgx (by decide) (by decide)⟩,hE2.setB,h15p⟩ rfl rfl
        ·have z0: ((5:Int)==0)=false:=rfl
         have z1: ((5:Int)==1)=false:=rfl
         have z2: ((5:Int)==2)=false:=rfl
         have z3: ((5:Int)==3)=false:=rfl
         have z4: ((5:Int)==4)=false:=rfl
         have z5: ((5:Int)==5)=true:=rfl
         first|with_reducible refine ks [] (And.intro @zr_ (And.intro @z0 (And.intro @z1 (And.intro @z2 (And.intro @z3 (And.intro @z4 (And.intro @z5 (And.intro @hk15 (@rk15))))))))) ?_|refine kp (And.intro @zr_ (And.intro @z0 (And.intro @z1 (And.intro @z2 (And.intro @z3 (And.intro @z4 (And.intro @z5 (And.intro @hk15 (@rk15))))))))) ?_
         exact CutO.mk ⟨⟨2,name,s,0⟩,(zl_ S).1,G,setB X2 b15 (.cells (kcC ⟨2,name,s,0⟩).toArray 131 (0,0))⟩ ⟨rfl,hPc _,zB_ hk15, .inr ⟨hb1,⟨2,name,s,0⟩,rfl,by unfold actV;simp[hwk,wJ_],(by show(2:Nat)<3;decide),fun h=>by cases h⟩,hE2.setB,h15p⟩ rfl rfl
       ·intro g j hg
        refine kv ?_
        clear hP1 hE1 hP2 hE2 hk15 hPc hk12 h15n
        obtain⟨c,S3,G3,X3⟩:=g
        simp only at hg ⊢
        obtain⟨hbd3,hP3,hk3,hJ,hE3,hb15n⟩:=hg
        have rk3:=za_ (w0:=w) hk3
        rcases hJ with⟨hc,hT⟩ | ⟨hdir,d,rfl,hT,hd3,hdk⟩
        ·have e5:decide ((0:Int)≤c.kind)=false:=by rw[hc];rfl
         first|with_reducible refine ks [] (And.intro @zr_ (And.intro @rk3 (@e5))) ?_|refine kp (And.intro @zr_ (And.intro @rk3 (@e5))) ?_
         refine⟨_,(ke @zr_), ?_⟩
         rw[←hT]
         exact⟨hE3,rfl,G3,hbd3,hP3⟩
        ·have hkd: (WP_ d).kind=(d.kind:Int):=rfl
         have e5:decide ((0:Int)≤ (d.kind:Int))=true:=decide_eq_true (by omega)
         have rd3:=za_ (w0:=w) hP3.disk
         have ls3:=fun n=>x7_ G3 S3 hk n
         have hsl3: (S3.dir k).seen.length<999999999:=by rw[hdir];omega
         have hpl3: (S3.dir k).pend.length<1000000:=by rw[hdir];exact hpl k hk
         rw[←hbd3]
         first|with_reducible refine ks [36,37] (And.intro @zr_ (And.intro @rk3 (And.intro @hkd (@e5)))) ?_|refine kp (And.intro @zr_ (And.intro @rk3 (And.intro @hkd (@e5)))) ?_
         refine Cw.regionG [G3.bd,b15] [9] 10 (by kernel_rfl) rfl ?_
         simp only[List.replicate_succ,List.replicate_zero]
         refine OwG.run [0,1,2,3,4,5] [true,true,true,true,true,true,false,false,false,false] 4 rfl (by kernel_rfl) (by kernel_rfl) fun k hk=> ?_
         simp only[zj_, ↓zf_, ↓zc_, ↓zw_, ↓zv_,zd_]
         simp(disch:=(first|assumption|omega| (simp only[w5_,wR_,UInt64.reduceToNat];try omega))) only[↓Sx.S0,Sx.S1,Tryz.fx,zr_,Nat.reduceAdd,Nat.reducePow,Int.reducePow,Nat.reduceBEq, ↓reduceIte,UInt8.reduceToNat,UInt16.reduceToNat,UInt32.reduceToNat,UInt64.reduceToNat,Int.reduceToNat,Md.next_sofnil,rd3,ls3,rk3]
         (with_reducible refine hk _ _ _ ?_);clear hk k
         refine OwG.one 6 _ (by kernel_rfl) rfl ?_
         refine Ow.callC rfl rfl Tryz.call69 (fun w' hw'=>ahG_ (G3.s k) (S3.dir k).seen d w' (Gr.slW (hP3.seen k hk) (fun b o h=>hw'.has b o (zq_ h)) zW_) hsl3 hdk) (fun B6 v6 D6 hA6 hB6 hN6 hS6=> ?_)
         have hN6':=hN6.mono hB6
         have hd6:Sx.look (X3++D6) G3.bd=some (dcO G3 S3):=zi_ hP3.disk
         have st6:=fun x=>aa9_ G3 S3 hk x (afk_ hS6)
         with_reducible refine Ow.nil ?_
         refine⟨(j6_ (fun r hr=>by simp only[List.mem_cons,List.not_mem_nil,or_false] at hr;rcases hr with rfl|rfl;exact zg_ hP3.disk;exact zg_ hk3)), ?_⟩
         simp only[List.set_cons_zero,List.set_cons_succ,jA_,vq_,vs_]
         refine OwG.rest [7,8,9] rfl (by kernel_rfl) (by kernel_rfl) ?_
         simp only[zj_, ↓zf_, ↓zc_, ↓zw_, ↓zv_,zd_]
         refine kq @zr_ ?_
         refine Ow.store rfl rfl rfl (ke (And.intro @zr_ (And.intro @hd6 (@st6)))) ?_
         refine ko @zr_ ?_
         refine Cw.world fun wz hwz=> ?_
         have hnd:=hwz.nodup
         clear hwz wz
         rw[zU_] at hnd
         obtain⟨Xs,hXs,hGs⟩:=hS6
         have hS7:NdP (X3++D6) v6 (qo_ (S3.dir k).seen d):=hGs.keep fun b o _ ho=>jK_ hnd (List.mem_append_right _ (hXs _ (zq_ ho)))
         obtain⟨pl,hpn,hGp⟩:=hP3.pend k hk
         have hpll:pl.length=(S3.dir k).pend.length:=by have:=congrArg List.length hpn;simpa using this
         have hGp6:KcP (X3++D6) (G3.p k) pl:=hGp.keep fun b o _ ho=>zi_ ho
         have hk6:Sx.look (X3++D6) b15=some (.cells (kcC (WP_ d)).toArray 131 (0,0)):=zi_ hk3
         have hE6:Ext w X (setB (X3++D6) G3.bd (dcO (ko_ G3 k v6) S3)):=Ext.setB ⟨fun c hc=>by
          rw[zo_] at hc
          rcases List.mem_append.1 hc with hc|hc
          ·exact hE3.new c hc
          ·exact .inr (hN6'.le c hc),fun c hc=>by rw[zo_];exact List.mem_append_left _ (hE3.all c hc)⟩
         have hd7:Sx.look (setB (X3++D6) G3.bd (dcO (ko_ G3 k v6) S3)) G3.bd=some (dcO (ko_ G3 k v6) S3):=zB_ hd6
         have hk7:Sx.look (setB (X3++D6) G3.bd (dcO (ko_ G3 k v6) S3)) b15=some (.cells (kcC (WP_ d)).toArray 131 (0,0)):=by rw[zb_ (fun e=>h15b (hbd3.symm.trans e))];exact hk6
         have hS8:NdP (setB (X3++D6) G3.bd (dcO (ko_ G3 k v6) S3)) v6 (qo_ (S3.dir k).seen d):=Gr.keepTy hS7 hd6 (by rw[j4_];exact vE_) fun b o hb ho=>by rw[zb_ (Ne.symm hb)];exact ho
         have hGp8:KcP (setB (X3++D6) G3.bd (dcO (ko_ G3 k v6) S3)) (G3.p k) pl:=Gr.keepTy hGp6 hd6 (by rw[j4_];exact K9_) fun b o hb ho=>by rw[zb_ (Ne.symm hb)];exact ho
         have hkp8: ∀b o,b≠G3.bd→Sx.look X3 b=some o→Sx.look (setB (X3++D6) G3.bd (dcO (ko_ G3 k v6) S3)) b=some o:=fun b o hb ho=>by rw[zb_ (Ne.symm hb)];exact zi_ ho
         have hkeys: ∀b,b∈keys X3→b∈keys (setB (X3++D6) G3.bd (dcO (ko_ G3 k v6) S3)):=fun b hb=>by rw[zU_,zo_];exact List.mem_append_left _ hb
         clear hnd hS7 hGp6 hk6 hd6 hGs hXs
         generalize setB (X3++D6) G3.bd (dcO (ko_ G3 k v6) S3)=L4 at*
         have rd7:=za_ (w0:=w) hd7
         have rk7:=za_ (w0:=w) hk7
         have lp7: ∀n,zk_ (some (false,n)) (some (dcO (ko_ G3 k v6) S3)) (k*3+2)=some (G3.p k):=fun n=>al9_ (ko_ G3 k v6) S3 hk n
         first|with_reducible refine ks [37] @zr_ ?_|refine kp @zr_ ?_
         refine Cw.regionG [G3.bd,b15] [10] 11 (by kernel_rfl) rfl ?_
         simp only[List.replicate_succ,List.replicate_zero]
         refine OwG.run [0,1,2,3,4,5] [true,true,true,true,true,true,false,false,false,false,false] 5 rfl (by kernel_rfl) (by kernel_rfl) fun k hk=> ?_
         simp only[zj_, ↓zf_, ↓zc_, ↓zw_, ↓zv_,zd_]
         simp(disch:=(first|assumption|omega| (simp only[w5_,wR_,UInt64.reduceToNat];try omega))) only[↓Sx.S0,Sx.S1,Tryz.fx,zr_,Nat.reduceAdd,Nat.reducePow,Int.reducePow,Nat.reduceBEq, ↓reduceIte,UInt8.reduceToNat,UInt16.reduceToNat,UInt32.reduceToNat,UInt64.reduceToNat,Int.reduceToNat,Md.next_sofnil,rd7,lp7,rk7]
         (with_reducible refine hk _ _ _ ?_);clear hk k
         refine OwG.one 6 _ (by kernel_rfl) rfl ?_
         refine Ow.buildSlice (e:=131) (kcC (WP_ d)).toArray rfl rfl (zT_ Tryz.underlying76 aqV_ zrKc (by decide) (wZ_ _)) fun bp hbp hwp=> ?_
         have hR9: ∀r,r∈ [G3.bd,b15]→r∈keys L4:=fun r hr=>by simp only[List.mem_cons,List.not_mem_nil,or_false] at hr;rcases hr with rfl|rfl;exact zg_ hd7;exact zg_ hk7
         with_reducible refine Ow.nil ?_
         refine⟨(j6_ hR9), ?_⟩
         simp only[List.set_cons_zero,List.set_cons_succ,jA_,vq_,vs_]
         refine OwG.one 7 _ (by kernel_rfl) rfl ?_
         refine Ow.appendG (e:=131) (k:=1) (new:=kcC (WP_ d)) (G3.p k) rfl rfl rfl Tryz.underlying76 aqV_ (by kernel_rfl) zrKc (by rw[VI_,List.size_toArray,wZ_]) Tryz.underlying76 (by intro k h;cases h) hGp8.app (fun w' hw'=>AppX.one1 (hw'.has bp (.cells (kcC (WP_ d)).toArray 131 (0,0)) (by simp)) (wZ_ _) (aiV_ _)) (wZ_ _) (by rw[List.length_map,hpll];omega) (fun v7 L5 hB7 _ hg7 hs7=> ?_)
         have hnb:slB (G3.p k)≠some G3.bd:=fun e=>by
          obtain⟨arr,ha⟩:=x0_ hGp8 e
          rw[hd7] at ha
          have:=congrArg tyO (Option.some.inj ha)
          rw[j4_] at this
          exact K9_ this
         have hd9:Sx.look L5 G3.bd=some (dcO (ko_ G3 k v6) S3):=hg7.look _ _ hnb (zi_ hd7)
         have rd9:=za_ (w0:=w) hd9
         have st9:=fun x=>aaI_ (ko_ G3 k v6) S3 hk x hB7.cell
         have hk9:Sx.look L5 b15=some (.cells (kcC (WP_ d)).toArray 131 (0,0)):=hg7.look _ _ (fun e=>by
          exact hb15n e) (zi_ hk7)
         with_reducible refine Ow.nil ?_
         refine⟨(fun r hr=>by simp only[List.mem_cons,List.not_mem_nil,or_false] at hr;rcases hr with rfl|rfl;exact rd9.trans (za_ (zi_ hd7)).symm;exact(za_ hk9).trans (za_ (zi_ hk7)).symm), ?_⟩
         simp only[List.set_cons_zero,List.set_cons_succ,jA_,vq_,vs_]
         refine OwG.rest [8,9,10] rfl (by kernel_rfl) (by kernel_rfl) ?_
         simp only[zj_, ↓zf_, ↓zc_, ↓zw_, ↓zv_,zd_]
         refine kq @zr_ ?_
         refine Ow.store rfl rfl rfl (ke (And.intro @zr_ (And.intro @hd9 (@st9)))) ?_
         refine ko @zr_ ?_
         first|with_reducible refine ks [] @zr_ ?_|refine kp @zr_ ?_
         refine⟨_,(ke @zr_), ?_⟩
         rw[hT]
         have hEf:=((hE6.app (o:= .cells (kcC (WP_ d)).toArray 131 (0,0)) hwp).grew hg7).setB (b:=G3.bd) (o:=dcO (jR_ (ko_ G3 k v6) k v7) S3)
         have hkf: ∀b o,b≠G3.bd→slB (G3.p k)≠some b→Sx.look L4 b=some o→Sx.look (setB L5 G3.bd (dcO (jR_ (ko_ G3 k v6) k v7) S3)) b=some o:=fun b o hb hf ho=>by
          rw[zb_ (Ne.symm hb)];exact hg7.look _ _ hf (zi_ ho)
         have hPf:DcP (setB L5 G3.bd (dcO (jR_ (ko_ G3 k v6) k v7) S3)) (jR_ (ko_ G3 k v6) k v7) (z4_ S3 k ⟨qo_ (S3.dir k).seen d,(S3.dir k).stl,(S3.dir k).pend++ [wJ_ d]⟩):=by
          refine hP3.updP hk (pl:=pl) (pl':=pl++ [d]) hGp (fun b o hb hf ho=>hkf b o hb hf (hkp8 b o hb ho)) (zB_ hd9) ?_ ?_ ?_ ?_
          ·exact Gr.keep2 hS8 hGp8 aiF_ hd7 (by rw[j4_];exact vE_) hkf
          ·have hG9:KcP L5 v7 (pl++ [d]):=by
            unfold KcP
            simpa using hB7
           exact Gr.keepTy hG9 hd9 (by rw[j4_];exact K9_) fun b o hb ho=>by rw[zb_ (Ne.symm hb)];exact ho
          ·rw[List.map_append,List.map_append,hpn]
           simp[aiZ_]
          ·intro b hb
           rcases hs7 with h| ⟨c,h,hab⟩
           ·exact .inl (by rw[←h];exact hb)
           ·right
            rw[h] at hb
            cases hb
            intro hm
            have:=zx_ hab (b:=b) (by rw[zo_];exact List.mem_append_left _ (hkeys _ hm))
            omega
         refine⟨hEf,rfl,jR_ (ko_ G3 k v6) k v7,hbd3, ?_⟩
         unfold w2_
         rw[ahT_]
         exact hPf
      ·have e2:=ju_ hbn
       rw[if_pos hbn]
       refine ko (And.intro @zr_ @e2) ?_
       first|with_reducible refine ks [] (And.intro @zr_ @e2) ?_|refine kp (And.intro @zr_ @e2) ?_
       refine⟨_,(ke @zr_), ?_⟩
       exact⟨hE1,rfl,G,rfl,hP1⟩
end Go.Proofs
end
section
open Go Go.Proofs Go.Sx Go.StP
namespace Go.Proofs
set_option maxRecDepth 10000
set_option maxHeartbeats 1000000
set_option linter.unusedSimpArgs false
structure OcG where
 i:Nat
 S:DiskL
 G:DcG
 X:ze_
def ofN (l:List FiL) (q:Int) (i:Nat):DiskL:=(l.take i).foldl zO_ (wK_ q)
theorem afE_ (l:List FiL) (q:Int) {i:Nat} (h:i<l.length):ofN l q (i+1)=zO_ (ofN l q i) (l.getD i fi0):=by
 unfold ofN
 rw[StP.take_snoc (z:=fi0) h,List.foldl_append];rfl
theorem Vq_ (S:DiskL) (f:FiL) {n:Nat} (h:S.files.length≤n∧ ∀k,(S.dir k).seen.length≤n): (zO_ S f).files.length≤n+1∧ ∀k,((zO_ S f).dir k).seen.length≤n+1:=by
 unfold zO_
 split
 ·rename_i k _
  split
  ·refine⟨?_,fun j=> ?_⟩
   ·show(S.files++ [_]).length≤n+1
    rw[List.length_append];simp;exact h.1
   ·by_cases e:j=k
    ·subst e
     rw[zY_]
     have:=Jr_ (S.dir j).seen (f.name,S.files.length)
     have:=h.2 j
     show(XY_ _ _).length≤n+1
     omega
    ·rw[qv_ _ _ e]
     have:=h.2 j
     show(S.dir j).seen.length≤n+1
     omega
  ·exact⟨Nat.le_succ_of_le h.1,fun k=>Nat.le_succ_of_le (h.2 k)⟩
 ·exact⟨Nat.le_succ_of_le h.1,fun k=>Nat.le_succ_of_le (h.2 k)⟩
def XZ_ (S:DiskL) (k:Nat):DiskL:={S with dir:=fun j=>if j<k then⟨(S.dir j).seen,(S.dir j).seen,[]⟩ else S.dir j}
theorem aq9_ (S:DiskL):XZ_ S 0=S:=by
 unfold XZ_
 simp
theorem arc_ {S:DiskL} (_h: ∀k,(S.dir k).pend= []∧(S.dir k).stl= []):XZ_ S 3=setV S [0,1,2]:=by
 unfold XZ_ setV
 congr 1
 funext j
 by_cases e:j<3
 ·rw[if_pos e,if_pos (by
   have:j=0∨j=1∨j=2:=by omega
   rcases this with rfl|rfl|rfl<;>simp)]
 ·rw[if_neg e,if_neg (by simp;omega)]
theorem ajz_ {S:DiskL} (h: ∀k,(S.dir k).pend= []∧(S.dir k).stl= []) (k j:Nat): ((XZ_ S (k+1)).dir j).seen=((XZ_ S k).dir j).seen∧((XZ_ S (k+1)).dir j).pend=((XZ_ S k).dir j).pend∧(j≠k→((XZ_ S (k+1)).dir j).stl=((XZ_ S k).dir j).stl)∧((XZ_ S (k+1)).dir k).stl=((XZ_ S k).dir k).seen:=by
 have hp:=(h j).1
 unfold XZ_
 simp only
 refine⟨?_, ?_,fun e=> ?_, ?_⟩
 ·split<;>split<;>first|rfl|omega
 ·split<;>split<;>first|rfl|omega| (rw[hp])
 ·split<;>split<;>first|rfl|omega
 ·rw[if_pos (Nat.lt_succ_self k),if_neg (Nat.lt_irrefl k)]
theorem DcP.updS {X L:ze_} {G:DcG} {S:DiskL} (h:DcP X G S) {k:Nat} (hk:k<3) {sv:Value} {sn:NmL} (keep: ∀b o,b≠G.bd→Sx.look X b=some o→Sx.look L b=some o) (hd:Sx.look L G.bd=some (dcO (ko_ G k sv) S)) (hs:NdP L sv sn):DcP L (ko_ G k sv) (z4_ S k ⟨sn,(S.dir k).stl,(S.dir k).pend⟩):=
 h.upd rfl keep hd (fun j hj=>by
  by_cases e:j=k
  ·subst e
   right
   rw[zY_,show(ko_ G j sv).s j=sv by simp[ko_]]
   exact hs
  ·exact .inl ⟨by simp[ko_,e],by rw[qv_ _ _ e]⟩) (fun j hj=> .inl ⟨rfl,by
   by_cases e:j=k
   ·subst e;rw[zY_]
   ·rw[qv_ _ _ e]⟩) (fun j hj=> .inl ⟨rfl,by
   by_cases e:j=k
   ·subst e;rw[zY_]
   ·rw[qv_ _ _ e]⟩) ⟨rfl,rfl⟩
set_option linter.defProp false
def qD_:=And.intro (And.intro (And.intro (@zn_) (@zm_)) (And.intro (@k3_) (@k6_))) (And.intro (And.intro (@ve_) (@vm_)) (And.intro (@Q2_) (@xc_)))
theorem alA_ (quota:Int) (v:Value) (l:List FiL) (w:World) (_hq: -9223372036854775808≤quota∧quota<9223372036854775808) (hv:FiSl w v l) (hl:l.length<1000000) (hb:FiB l):
  Rets Tryz.prog 8 #[vi quota,v] w (XS w [] (fun v D=> ∃G,v=vp G.bd 0∧DcP D G (ofD quota l))):=by
 have ln:=hv.len
 obtain⟨rb,off,arr,E,fz,hr⟩:=hv.row
 refine Rets.enterX Tryz.func8 rfl (rs:= [.tmp 4]) Tryz.results8 Tryz.ntmps8 (fun p hp=>by cases hp) (by simp[keys]) ?_
 refine kf ?_
 first|with_reducible refine ks [7,8,12,1000002] @qD_ ?_|refine kp @qD_ ?_
 refine Ow.callC rfl rfl Tryz.call29 (fun w' hw'=>ajv_ quota w') (fun B1 v1 X0 hA1 hB1 hN1 hS1=> ?_)
 obtain⟨G0,rfl,hP0⟩:=hS1
 have hN0:=hN1.mono hB1
 rw[List.nil_append]
 refine ko @qD_ ?_
 first|with_reducible refine ks [4,7,8,12] @qD_ ?_|refine kp @qD_ ?_
 refine Cw.loopG (G:=OcG) [11,12,13,14,17,18,19,20,21,22,7,23,24,25,26,27,28,29,30,31,32,33,34,35,36,37,38,39,40,41,42,43,44,45,46,47,48,49,50,51,52,53,54,55,56,57,58,59,60,61,62,63,64,65,66,67,68,69,70,71,72,73,74,75,76,77,78,79,80,81,82,83,84,85,86,87,88,89,15,16,6] (fun g=> [(6,vi g.i)]) (fun g=>g.X) (fun g=>g.i≤l.length∧g.S=ofN l quota g.i∧DcP g.X g.G g.S∧g.G.bd=G0.bd∧New w.heap.size g.X∧(g.S.files.length≤g.i∧ ∀k,(g.S.dir k).seen.length≤g.i)) (fun g=>l.length - g.i) ⟨0,wK_ quota,G0,X0⟩ rfl rfl ?_ ?_
 ·exact⟨Nat.zero_le _,rfl,hP0,rfl,hN0,Nat.zero_le _,fun _=>Nat.zero_le _⟩
 intro g j hg
 refine kv ?_
 obtain⟨i,S,G,X⟩:=g
 simp only at hg ⊢
 obtain⟨hi,hS,hP,hbd,hN,hln⟩:=hg
 rw[←hbd]
 by_cases hlt:i<l.length
 ·have d1:decide ((i:Int)< (l.length:Int))=true:=decide_eq_true (by omega)
  have ix:=hr.idx true i hlt
  have rda: ∀Y,New w.heap.size Y→zy_ w Y rb=some (.cells arr E fz):=fun Y hY=>by rw[z6_ (hY.not (hr.lt (by omega)))];exact hr.has (by omega)
  have rd1:=rda X hN
  have l0: ∀n,zk_ (some (false,n)) (some (.cells arr E fz)) (off+i*3)=some (vs (l.getD i fi0).dir):=fun n=>by have:=aoX_ hr hlt n;rwa [Nat.add_zero] at this
  have l1:=fun n=>aiM_ hr hlt n
  have l2:=fun n=>acI_ hr hlt n
  have hfb:=hb (l.getD i fi0) (xd_ hlt)
  have hnx:=afE_ l quota hlt
  rw[←hS] at hnx
  have hsl:=Vq_ S (l.getD i fi0) hln
  generalize l.getD i fi0=f at*
  have hrdd:=za_ (w0:=w) hP.disk
  first|with_reducible refine ks [4,7,8] (And.intro @qD_ (And.intro @ln (And.intro @d1 (And.intro @ix (And.intro @rd1 (@l0)))))) ?_|refine kp (And.intro @qD_ (And.intro @ln (And.intro @d1 (And.intro @ix (And.intro @rd1 (@l0)))))) ?_
  refine Ow.callFV rfl Tryz.call30 (fun w' hw'=>Qb_ f.dir w') ?_
  cases hw:zD_ f.dir with
  |none=>
   have hwi:xJ_ f.dir= -1:=by unfold xJ_;rw[hw]
   have e1:decide ((-1:Int)<0)=true:=rfl
   have hst:zO_ S f=S:=by unfold zO_;rw[hw]
   rw[hwi]
   refine ko (And.intro @qD_ @e1) ?_
   first|with_reducible refine ks [] @qD_ ?_|refine kp @qD_ ?_
   exact Again.mk ⟨i+1,S,G,X⟩ (by show l.length - (i+1)<l.length - i;omega) ⟨hlt,by rw[hnx,hst],hP,rfl,hN,Nat.le_succ_of_le hln.1,fun k=>Nat.le_succ_of_le (hln.2 k)⟩ rfl rfl
  |some k=>
   have hk:=(z3_ hw).1
   have hwi:xJ_ f.dir=(k:Int):=by unfold xJ_;rw[hw]
   have e1:decide ((k:Int)<0)=false:=decide_eq_false (by omega)
   rw[hwi]
   refine ko (And.intro @qD_ (And.intro @e1 (And.intro @ix (And.intro @rd1 (@l1))))) ?_
   refine Ow.callFV rfl Tryz.call31 (fun w' hw'=>ZA_ f.name w' hfb.1) ?_
   cases hf:qn_ f.name with
   |false=>
    have hst:zO_ S f=S:=by unfold zO_;rw[hw];simp only[hf,Bool.false_eq_true,false_and, ↓reduceIte]
    refine ko @qD_ ?_
    first|with_reducible refine ks [] @qD_ ?_|refine kp @qD_ ?_
    exact Again.mk ⟨i+1,S,G,X⟩ (by show l.length - (i+1)<l.length - i;omega) ⟨hlt,by rw[hnx,hst],hP,rfl,hN,Nat.le_succ_of_le hln.1,fun k=>Nat.le_succ_of_le (hln.2 k)⟩ rfl rfl
   |true=>
    cases hm:decide ((1048576:Int)< (f.data.length:Int)) with
    |true=>
     have hm':=of_decide_eq_true hm
     have hst:zO_ S f=S:=by unfold zO_;rw[hw];simp only[hf,true_and];rw[if_neg (by omega)]
     refine ko (And.intro @qD_ (And.intro @ix (And.intro @rd1 (And.intro @l2 (@hm))))) ?_
     first|with_reducible refine ks [] @qD_ ?_|refine kp @qD_ ?_
     exact Again.mk ⟨i+1,S,G,X⟩ (by show l.length - (i+1)<l.length - i;omega) ⟨hlt,by rw[hnx,hst],hP,rfl,hN,Nat.le_succ_of_le hln.1,fun k=>Nat.le_succ_of_le (hln.2 k)⟩ rfl rfl
    |false=>
     have hm':=of_decide_eq_false hm
     have hst:zO_ S f=z4_ (kg_ S ⟨f.data,f.data.length⟩) k ⟨XY_ (S.dir k).seen (f.name,S.files.length),(S.dir k).stl,(S.dir k).pend⟩:=by unfold zO_;rw[hw];simp only[hf,true_and];rw[if_pos (by omega)]
     refine ko (And.intro @qD_ (And.intro @ix (And.intro @rd1 (And.intro @l2 (@hm))))) ?_
     first|with_reducible refine ks [4,7,8] @qD_ ?_|refine kp @qD_ ?_
     refine Cw.regionG [G.bd,rb] [21] 22 (by kernel_rfl) rfl ?_
     simp only[List.replicate_succ,List.replicate_zero]
     refine OwG.run [0,1,2,3,4,5,6,7,8,9,10,11,12,13,14,15] [true,true,true,true,true,true,true,true,true,true,true,true,true,true,true,true,false,false,false,false,false,false] 6 rfl (by kernel_rfl) (by kernel_rfl) fun k hk=> ?_
     simp only[zj_, ↓zf_, ↓zc_, ↓zw_, ↓zv_,zd_]
     simp(disch:=(first|assumption|omega| (simp only[w5_,wR_,UInt64.reduceToNat];try omega))) only[↓Sx.S0,Sx.S1,Tryz.fx,qD_,Nat.reduceAdd,Nat.reducePow,Int.reducePow,Nat.reduceBEq, ↓reduceIte,UInt8.reduceToNat,UInt16.reduceToNat,UInt32.reduceToNat,UInt64.reduceToNat,Int.reduceToNat,Md.next_sofnil,hrdd,ix,rd1,l2]
     (with_reducible refine hk _ _ _ ?_);clear hk k
     refine OwG.one 16 _ (by kernel_rfl) rfl ?_
     refine Ow.build (.agg (fdC ⟨f.data,(f.data.length:Int)⟩).toArray) rfl (amV_ ⟨f.data,(f.data.length:Int)⟩) ?_
     with_reducible refine Ow.nil ?_
     refine⟨(fun _ _=>rfl), ?_⟩
     simp only[List.set_cons_zero,List.set_cons_succ,jA_,vq_,vs_]
     refine OwG.one 17 _ (by kernel_rfl) rfl ?_
     refine Ow.buildSlice (e:=83) (fdC ⟨f.data,(f.data.length:Int)⟩).toArray rfl rfl (zT_ Tryz.underlying74 alp_ zrFd (by decide) (ji_ _)) fun bp hbp hwp=> ?_
     have hFf:Gr X 83 2 G.f S.files.length ((S.files.map kT_).map fdC).flatten:=by
      have:=hP.files
      unfold FdP at this
      rwa [List.length_map] at this
     have hne:slB G.f≠some G.bd:=fun e=>by
      obtain⟨arr,ha⟩:=x0_ hFf e
      rw[hP.disk] at ha
      have:=congrArg tyO (Option.some.inj ha)
      rw[j4_] at this
      exact wH_ this
     have hN2:New w.heap.size (X++ [(bp,Obj.cells (fdC ⟨f.data,(f.data.length:Int)⟩).toArray 83 (0,0))]):=hN.app ⟨hwp,trivial⟩
     have hd2:Sx.look (X++ [(bp,Obj.cells (fdC ⟨f.data,(f.data.length:Int)⟩).toArray 83 (0,0))]) G.bd=some (dcO G S):=zi_ hP.disk
     with_reducible refine Ow.nil ?_
     refine⟨(fun r hr=>by simp only[List.mem_cons,List.not_mem_nil,or_false] at hr;rcases hr with rfl|rfl;exact(za_ hd2).trans hrdd.symm;exact(rda _ hN2).trans rd1.symm), ?_⟩
     simp only[List.set_cons_zero,List.set_cons_succ,jA_,vq_,vs_]
     refine OwG.one 18 _ (by kernel_rfl) rfl ?_
     refine Ow.appendG (e:=83) (k:=1) (new:=fdC ⟨f.data,(f.data.length:Int)⟩) G.f rfl rfl rfl Tryz.underlying74 alp_ (by kernel_rfl) zrFd (by rw[Q2_,List.size_toArray,ji_]) Tryz.underlying74 (by intro k h;cases h) hFf.app (fun w' hw'=>AppX.one1 (hw'.has bp (.cells (fdC ⟨f.data,(f.data.length:Int)⟩).toArray 83 (0,0)) (by simp)) (ji_ _) (ajB_ _)) (ji_ _) (by omega) (fun v2 L5 hB5 _ hg5 hs5=> ?_)
     have hd5:Sx.look L5 G.bd=some (dcO G S):=hg5.look _ _ hne hd2
     have rd5:=za_ (w0:=w) hd5
     have hN5:New w.heap.size L5:=New.of_le fun c hc=>by
      rcases hg5.new c hc with h| ⟨-,h⟩
      ·exact hN2.le c h
      ·exact h
     have st5:=fun x=>aaU_ G S x hB5.cell
     with_reducible refine Ow.nil ?_
     refine⟨(fun r hr=>by simp only[List.mem_cons,List.not_mem_nil,or_false] at hr;rcases hr with rfl|rfl;exact rd5.trans (za_ hd2).symm;exact(rda _ hN5).trans (rda _ hN2).symm), ?_⟩
     simp only[List.set_cons_zero,List.set_cons_succ,jA_,vq_,vs_]
     refine OwG.rest [19,20,21] rfl (by kernel_rfl) (by kernel_rfl) ?_
     simp only[zj_, ↓zf_, ↓zc_, ↓zw_, ↓zv_,zd_]
     refine kq @qD_ ?_
     refine Ow.store rfl rfl rfl (ke (And.intro @qD_ (And.intro @hd5 (@st5)))) ?_
     refine ko @qD_ ?_
     have hP6:DcP (setB L5 G.bd (dcO {G with f:=v2} S)) {G with f:=v2} (kg_ S ⟨f.data,f.data.length⟩):=by
      refine DcP.updF (G:=G) hP (v:=v2) (fl:=S.files++ [⟨f.data,f.data.length⟩]) (fun b o hb hf ho=>by rw[zb_ (Ne.symm hb)];exact hg5.look _ _ hf (zi_ ho)) (zB_ hd5) ?_
      have hG7:FdP L5 v2 (S.files++ [⟨f.data,f.data.length⟩]):=by
       have hf0:kT_ ⟨f.data,f.data.length⟩=⟨f.data,(f.data.length:Int)⟩:=rfl
       unfold FdP
       simpa [hf0] using hB5
      exact Gr.keepTy hG7 hd5 (by rw[j4_];exact wH_) fun b o hb ho=>by rw[zb_ (Ne.symm hb)];exact ho
     have hN6:New w.heap.size (setB L5 G.bd (dcO {G with f:=v2} S)):=New.of_le fun c hc=>hN5.le c (by rwa [zU_] at hc)
     generalize setB L5 G.bd (dcO {G with f:=v2} S)=L6 at*
     obtain⟨G2,hG2⟩: ∃G2:DcG,G2={G with f:=v2}:=⟨_,rfl⟩
     rw[←hG2] at hP6
     have hbd2:G.bd=G2.bd:=by rw[hG2]
     rw[hbd2]
     clear hg5 hs5 hB5 st5 hd5 rd5 hN5 hd2 hN2
     have rd6:=za_ (w0:=w) hP6.disk
     have ls6:=fun n=>x7_ G2 (kg_ S ⟨f.data,f.data.length⟩) hk n
     have ln6: ∀m,Zz_ (.sl m) G2.f=some (vi ((S.files.length+1:Nat):Int)):=fun m=>by
      have:=(hP6.files).len m
      rw[List.length_map] at this
      rw[this]
      show some (vi (((S.files++ [_]).length:Nat):Int))=_
      rw[List.length_append];rfl
     have es: ((S.files.length+1:Nat):Int) - 1=(S.files.length:Int):=by omega
     have rdb6:=rda _ hN6
     have hsl6:=hln.2 k
     first|with_reducible refine ks [4,8] @qD_ ?_|refine kp @qD_ ?_
     refine Cw.regionG [G2.bd,rb] [26] 27 (by kernel_rfl) rfl ?_
     simp only[List.replicate_succ,List.replicate_zero]
     refine OwG.run [0,1,2,3,4,5,6,7,8,9,10,11,12,13,14,15,16,17,18,19,22,23] [true,true,true,true,true,true,true,true,true,true,true,true,true,true,true,true,true,true,true,true,false,false,true,true,false,false,false] 5 rfl (by kernel_rfl) (by kernel_rfl) fun k hk=> ?_
     simp only[zj_, ↓zf_, ↓zc_, ↓zw_, ↓zv_,zd_]
     simp(disch:=(first|assumption|omega| (simp only[w5_,wR_,UInt64.reduceToNat];try omega))) only[↓Sx.S0,Sx.S1,Tryz.fx,qD_,Nat.reduceAdd,Nat.reducePow,Int.reducePow,Nat.reduceBEq, ↓reduceIte,UInt8.reduceToNat,UInt16.reduceToNat,UInt32.reduceToNat,UInt64.reduceToNat,Int.reduceToNat,Md.next_sofnil,rd6,ls6,ix,rdb6,l1,ln6,es]
     (with_reducible refine hk _ _ _ ?_);clear hk k
     refine OwG.one 20 _ (by kernel_rfl) rfl ?_
     refine Ow.build (.agg (ndC (qh_ (f.name,S.files.length))).toArray) rfl (Xz_ (f.name,S.files.length)) ?_
     with_reducible refine Ow.nil ?_
     refine⟨(fun _ _=>rfl), ?_⟩
     simp only[List.set_cons_zero,List.set_cons_succ,jA_,vq_,vs_]
     refine OwG.one 21 _ (by kernel_rfl) rfl ?_
     refine Ow.callC rfl rfl Tryz.call32 (fun w' hw'=>Jx_ (G2.s k) (S.dir k).seen (f.name,S.files.length) w' (Gr.slW (hP6.seen k hk) (fun b o h=>hw'.has b o (zq_ h)) zW_) (by omega)) (fun B7 v7 D7 hA7 hB7 hN7 hS7=> ?_)
     have hN7':=hN7.mono hB7
     have hN8:=hN6.app hN7'
     have hd7:Sx.look (L6++D7) G2.bd=some (dcO G2 (kg_ S ⟨f.data,f.data.length⟩)):=zi_ hP6.disk
     have st7:=fun x=>aa9_ G2 (kg_ S ⟨f.data,f.data.length⟩) hk x (afk_ hS7)
     with_reducible refine Ow.nil ?_
     refine⟨(fun r hr=>by simp only[List.mem_cons,List.not_mem_nil,or_false] at hr;rcases hr with rfl|rfl;exact(za_ hd7).trans rd6.symm;exact(rda _ hN8).trans rdb6.symm), ?_⟩
     simp only[List.set_cons_zero,List.set_cons_succ,jA_,vq_,vs_]
     refine OwG.rest [24,25,26] rfl (by kernel_rfl) (by kernel_rfl) ?_
     simp only[zj_, ↓zf_, ↓zc_, ↓zw_, ↓zv_,zd_]
     refine kq @qD_ ?_
     refine Ow.store rfl rfl rfl (ke (And.intro @qD_ (And.intro @hd7 (@st7)))) ?_
     refine ko @qD_ ?_
     refine Cw.world fun wz hwz=> ?_
     have hnd:=hwz.nodup
     clear hwz wz
     rw[zU_] at hnd
     obtain⟨Xs,hXs,hGs⟩:=hS7
     have hS8:NdP (L6++D7) v7 (XY_ (S.dir k).seen (f.name,S.files.length)):=hGs.keep fun b o _ ho=>jK_ hnd (List.mem_append_right _ (hXs _ (zq_ ho)))
     have hP8:DcP (setB (L6++D7) G2.bd (dcO (ko_ G2 k v7) (kg_ S ⟨f.data,f.data.length⟩))) (ko_ G2 k v7) (zO_ S f):=by
      rw[hst]
      exact hP6.updS hk (fun b o hb ho=>by rw[zb_ (Ne.symm hb)];exact zi_ ho) (zB_ hd7) (Gr.keepTy hS8 hd7 (by rw[j4_];exact vE_) fun b o hb ho=>by rw[zb_ (Ne.symm hb)];exact ho)
     first|with_reducible refine ks [] @qD_ ?_|refine kp @qD_ ?_
     exact Again.mk ⟨i+1,zO_ S f,ko_ G2 k v7,setB (L6++D7) G2.bd (dcO (ko_ G2 k v7) (kg_ S ⟨f.data,f.data.length⟩))⟩ (by show l.length - (i+1)<l.length - i;omega) ⟨hlt,hnx.symm,hP8,rfl,New.of_le (fun c hc=>hN8.le c (by rwa [zU_] at hc)),hsl⟩ rfl rfl
 ·obtain rfl:i=l.length:=by omega
  have d1:decide ((l.length:Int)< (l.length:Int))=false:=decide_eq_false (by omega)
  have hT:S=l.foldl zO_ (wK_ quota):=by rw[hS];unfold ofN;rw[List.take_length]
  have hpe:=XI_ l (wK_ quota) (fun _=>⟨rfl,rfl⟩)
  rw[←hT] at hpe
  have hof:ofD quota l=setV S [0,1,2]:=by rw[hT];rfl
  rw[hof]
  clear hS hT hof
  rw[←arc_ hpe]
  first|with_reducible refine ks [12] (And.intro @qD_ (And.intro @ln (@d1))) ?_|refine kp (And.intro @qD_ (And.intro @ln (@d1))) ?_
  refine Cw.loopG (G:=OcG) [90,91,94,95,96,97,98,99,100,101,102,103,104,105,106,92,93,8] (fun g=> [(8,vi g.i)]) (fun g=>g.X) (fun g=>g.i≤3∧g.S=XZ_ S g.i∧DcP g.X g.G g.S∧g.G.bd=G.bd∧New w.heap.size g.X) (fun g=>3 - g.i) ⟨0,S,G,X⟩ rfl rfl ?_ ?_
  ·exact⟨Nat.zero_le _,(aq9_ S).symm,hP,rfl,hN⟩
  intro g j hg
  refine kv ?_
  clear hP hN hbd
  obtain⟨k,S2,G2,X2⟩:=g
  simp only at hg ⊢
  obtain⟨hk,hS2,hP,hbd,hN⟩:=hg
  rw[←hbd]
  by_cases hlt:k<3
  ·have d2:decide ((k:Int)<3)=true:=decide_eq_true (by omega)
   have rdd:=za_ (w0:=w) hP.disk
   have lds:=fun n=>x7_ G2 S2 hlt n
   have st:=fun x=>acc_ G2 S2 hlt x (Gr.cell (hP.seen k hlt))
   have hk1: ∀j,((XZ_ S (k+1)).dir j).seen=(S2.dir j).seen∧((XZ_ S (k+1)).dir j).pend=(S2.dir j).pend∧(j≠k→((XZ_ S (k+1)).dir j).stl=(S2.dir j).stl)∧((XZ_ S (k+1)).dir k).stl=(S2.dir k).seen:=fun j=>by
    rw[hS2];exact ajz_ hpe k j
   have hfi: (XZ_ S (k+1)).files=S2.files:=by rw[hS2];rfl
   have hdc:dcO (WM_ G2 k (G2.s k)) S2=dcO (WM_ G2 k (G2.s k)) (XZ_ S (k+1)):=by rw[hS2];rfl
   first|with_reducible refine ks [] (And.intro @qD_ @d2) ?_|refine kp (And.intro @qD_ @d2) ?_
   refine Cw.regionO [0,1,2,3,4,5,6,7,9,10,8,11,12,13] [13] rfl (by kernel_rfl) (by kernel_rfl) ?_
   simp only[zj_, ↓zf_, ↓zc_, ↓zw_, ↓zv_,zd_]
   refine kq (And.intro @qD_ (And.intro @rdd (@lds))) ?_
   refine Ow.store rfl rfl rfl (by simp(disch:=(first|assumption|omega| (simp only[w5_,wR_,UInt64.reduceToNat];try omega))) only[↓Sx.S0,Sx.S1,Tryz.fx,qD_,Nat.reduceAdd,Nat.reducePow,Int.reducePow,Nat.reduceBEq, ↓reduceIte,UInt8.reduceToNat,UInt16.reduceToNat,UInt32.reduceToNat,UInt64.reduceToNat,Int.reduceToNat,hP.disk,st];rfl) ?_
   refine ko @qD_ ?_
   rw[hdc]
   first|with_reducible refine ks [] @qD_ ?_|refine kp @qD_ ?_
   refine Again.mk ⟨k+1,XZ_ S (k+1),WM_ G2 k (G2.s k),setB X2 G2.bd (dcO (WM_ G2 k (G2.s k)) (XZ_ S (k+1)))⟩ (by show 3 - (k+1)<3 - k;omega) ⟨hlt,rfl, ?_,rfl,New.of_le (fun c hc=>hN.le c (by rwa [zU_] at hc))⟩ rfl rfl
   refine hP.upd rfl (fun b o hb ho=>by rw[zb_ (Ne.symm hb)];exact ho) (zB_ hP.disk) (fun j hj=> .inl ⟨rfl,(hk1 j).1⟩) (fun j hj=> ?_) (fun j hj=> .inl ⟨rfl,(hk1 j).2.1⟩) ⟨rfl,hfi⟩
   by_cases e:j=k
   ·subst e
    right
    rw[(hk1 j).2.2.2,show(WM_ G2 j (G2.s j)).t j=G2.s j by simp[WM_]]
    exact Gr.keepTy (hP.seen j hj) hP.disk (by rw[j4_];exact vE_) fun b o hb ho=>by rw[zb_ (Ne.symm hb)];exact ho
   ·exact .inl ⟨by simp[WM_,e],(hk1 j).2.2.1 e⟩
  ·obtain rfl:k=3:=by omega
   have d2:decide (((3:Nat):Int)<3)=false:=rfl
   first|with_reducible refine ks [] (And.intro @qD_ @d2) ?_|refine kp (And.intro @qD_ @d2) ?_
   refine⟨_,(ke @qD_), ?_⟩
   rw[←hS2]
   exact⟨Ext.of_new hN,G2,rfl,hP⟩
end Go.Proofs
end
section
open Go Go.Proofs Go.Sx Go.StP
namespace Go.Proofs
set_option maxRecDepth 10000
set_option maxHeartbeats 1000000
set_option linter.unusedSimpArgs false
set_option linter.defProp false
end Go.Proofs
end
section
open Go Go.Proofs Go.Sx Go.StP Go.Flo
namespace Go.Proofs
set_option maxRecDepth 10000
set_option maxHeartbeats 400000
set_option linter.unusedSimpArgs false
set_option linter.defProp false
def x2_:=And.intro (@zn_) (And.intro (@zm_) (@ak5_))
theorem aaZ_ (x a b:Int) (w:World) (hx:x.natAbs<8192) (ha:a.natAbs<8192) (hb:b.natAbs<8192):
  Rets Tryz.prog 148 #[fl x,vi a,vi b] w (fun v D=>v= .tuple #[vi (if a≤x∧x≤b then x else 0), .bool (decide (a≤x∧x≤b))]∧D= []):=by
 refine Rets.enterV Tryz.func148 rfl (rs:= [.tmp 6, .tmp 7]) Tryz.results148 Tryz.ntmps148 ?_
 refine kf ?_
 first|with_reducible refine ks [] @x2_ ?_|refine kp @x2_ ?_
 refine Ow.convIF rfl rfl cvIF Tryz.underlying3 Tryz.underlying219 rfl ?_
 refine Ow.fgeq rfl rfl rfl hx ha ?_
 by_cases h1:a≤x
 ·rw[decide_eq_true h1]
  refine ko @x2_ ?_
  refine Ow.convIF rfl rfl cvIF Tryz.underlying3 Tryz.underlying219 rfl ?_
  refine Ow.fleq rfl rfl rfl hx hb ?_
  by_cases h2:x≤b
  ·rw[decide_eq_true h2,decide_eq_true (show a≤x∧x≤b from⟨h1,h2⟩),if_pos ⟨h1,h2⟩]
   refine ko @x2_ ?_
   first|with_reducible refine ks [] @x2_ ?_|refine kp @x2_ ?_
   refine Ow.convFI rfl rfl cvFI Tryz.underlying219 Tryz.underlying3 rfl hx ?_
   refine ko @x2_ ?_
   first|with_reducible refine ks [] @x2_ ?_|refine kp @x2_ ?_
   refine Ow.convIF rfl rfl cvIF Tryz.underlying3 Tryz.underlying219 rfl ?_
   refine ko @x2_ ?_
   refine Ow.feql rfl rfl rfl hx hx ?_
   rw[show(x==x)=true by simp]
   refine ko @x2_ ?_
   first|with_reducible refine ks [] @x2_ ?_|refine kp @x2_ ?_
   refine⟨_,(ke @x2_),trivial, ?_⟩
   rfl
  ·rw[decide_eq_false h2,decide_eq_false (show¬ (a≤x∧x≤b) from fun h=>h2 h.2),if_neg (fun h=>h2 h.2)]
   refine ko @x2_ ?_
   first|with_reducible refine ks [] @x2_ ?_|refine kp @x2_ ?_
   refine⟨_,(ke @x2_),trivial, ?_⟩
   rfl
 ·rw[decide_eq_false h1,decide_eq_false (show¬ (a≤x∧x≤b) from fun h=>h1 h.1),if_neg (fun h=>h1 h.1)]
  refine ko @x2_ ?_
  first|with_reducible refine ks [] @x2_ ?_|refine kp @x2_ ?_
  refine⟨_,(ke @x2_),trivial, ?_⟩
  rfl
def cpR (p:PcL) (b:Int):Value:=match cpV p b with
 |some q=> .tuple #[vi q.1,vi q.2, .bool true]
 |none=>if(1≤p.n∧p.n≤4099)∧p.x= []∧(p.n:Int)≤b then .tuple #[vi 0,vi p.n, .bool false] else .tuple #[vi 0,vi 0, .bool false]
theorem apC_ {p:PcL} {b:Int} (h:1≤p.n∧p.n≤4099∧p.x= []∧(p.a:Int)≤b - p.n):cpV p b=some (p.a,p.n):=by unfold cpV;rw[if_pos h]
theorem Vh_ {p:PcL} {b:Int} (h: ¬ (1≤p.n∧p.n≤4099∧p.x= []∧(p.a:Int)≤b - p.n)):cpV p b=none:=by unfold cpV;rw[if_neg h]
set_option linter.defProp false
def jT_:=And.intro (And.intro (And.intro (And.intro (@zn_) (@zm_)) (And.intro (@wq_) (@wi_))) (And.intro (And.intro (@Qa_) (@k1_)) (And.intro (@ab4_) (@cxz)))) (And.intro (And.intro (And.intro (@afF_) (@ae5_)) (And.intro (@w1_) (@Sx.tup2_0))) (And.intro (And.intro (@Sx.tup2_1) (@Sx.tup3_0)) (And.intro (@Sx.tup3_1) (@Sx.tup3_2))))
theorem wj_ (p:PcL) (b:Int) (w:World) (hp:PcB p) (h0:0≤b) (h1:b≤4099):
  Rets Tryz.prog 146 #[.agg (pcC p).toArray,vi b] w (fun v D=>v=cpR p b∧D= []):=by
 obtain⟨hpa,hpn⟩:=hp
 refine Rets.enterV Tryz.func146 rfl (rs:= [.tmp 4, .tmp 5, .tmp 6]) Tryz.results146 Tryz.ntmps146 ?_
 refine kf ?_
 first|with_reducible refine ks [] @jT_ ?_|refine kp @jT_ ?_
 refine Ow.box rfl rfl fun b2 hb2 hw2=> ?_
 simp only[qm_,ql_,qu_,zh_,List.nil_append,List.cons_append]
 refine Ow.go rfl ?_
 simp(disch:=(first|assumption|omega| (simp only[w5_,wR_,UInt64.reduceToNat];try omega))) only[↓Sx.S0,Sx.S1,Tryz.fx,jT_,Nat.reduceAdd,Nat.reducePow,Int.reducePow,Nat.reduceBEq, ↓reduceIte,UInt8.reduceToNat,UInt16.reduceToNat,UInt32.reduceToNat,UInt64.reduceToNat,Int.reduceToNat]
 first|with_reducible refine ks [] @jT_ ?_|refine kp @jT_ ?_
 refine Ow.imag rfl rfl ?_
 refine Ow.callFV rfl Tryz.call148 (fun w' hw'=>aaZ_ (p.n:Int) 1 4099 w' (by omega) (by omega) (by omega)) ?_
 unfold cpR
 by_cases c1:1≤p.n
 ·rw[decide_eq_true (show(1:Int)≤ (p.n:Int)∧(p.n:Int)≤4099 by omega),if_pos (show(1:Int)≤ (p.n:Int)∧(p.n:Int)≤4099 by omega)]
  by_cases c2:p.x= []
  ·have d2:decide (0< (p.x.length:Int))=false:=by rw[c2];rfl
   by_cases c4: (p.n:Int)≤b
   ·have d4:decide (b< (p.n:Int))=false:=decide_eq_false (by omega)
    refine ko (And.intro @jT_ (And.intro @d2 (@d4))) ?_
    first|with_reducible refine ks [] @jT_ ?_|refine kp @jT_ ?_
    refine Ow.real rfl rfl ?_
    refine ko @jT_ ?_
    refine Ow.callFV rfl Tryz.call148 (fun w' hw'=>aaZ_ (p.a:Int) 0 (b - p.n) w' (by omega) (by omega) (by omega)) ?_
    by_cases c3: (p.a:Int)≤b - p.n
    ·rw[decide_eq_true (show(0:Int)≤ (p.a:Int)∧(p.a:Int)≤b - p.n by omega),if_pos (show(0:Int)≤ (p.a:Int)∧(p.a:Int)≤b - p.n by omega),apC_ ⟨c1,hpn,c2,c3⟩]
     refine ko @jT_ ?_
     first|with_reducible refine ks [] @jT_ ?_|refine kp @jT_ ?_
     refine⟨_,(ke @jT_),⟨hw2,trivial⟩, ?_⟩
     rfl
    ·rw[decide_eq_false (show¬ ((0:Int)≤ (p.a:Int)∧(p.a:Int)≤b - p.n) by omega),if_neg (show¬ ((0:Int)≤ (p.a:Int)∧(p.a:Int)≤b - p.n) by omega),Vh_ (fun h=>c3 h.2.2.2)]
     simp only
     rw[if_pos ⟨⟨c1,hpn⟩,c2,c4⟩]
     refine ko @jT_ ?_
     first|with_reducible refine ks [] @jT_ ?_|refine kp @jT_ ?_
     refine⟨_,(ke @jT_),⟨hw2,trivial⟩, ?_⟩
     rfl
   ·have d4:decide (b< (p.n:Int))=true:=decide_eq_true (by omega)
    rw[Vh_ (fun h=>by have:=h.2.2.2;omega)]
    simp only
    rw[if_neg (fun h=>c4 h.2.2)]
    refine ko (And.intro @jT_ (And.intro @d2 (@d4))) ?_
    first|with_reducible refine ks [] @jT_ ?_|refine kp @jT_ ?_
    refine⟨_,(ke @jT_),⟨hw2,trivial⟩, ?_⟩
    rfl
  ·have d2:decide (0< (p.x.length:Int))=true:=decide_eq_true (by have:=List.length_pos_iff.2 c2;omega)
   rw[Vh_ (fun h=>c2 h.2.2.1)]
   simp only
   rw[if_neg (fun h=>c2 h.2.1)]
   refine ko (And.intro @jT_ @d2) ?_
   first|with_reducible refine ks [] @jT_ ?_|refine kp @jT_ ?_
   refine⟨_,(ke @jT_),⟨hw2,trivial⟩, ?_⟩
   rfl
 ·rw[decide_eq_false (show¬ ((1:Int)≤ (p.n:Int)∧(p.n:Int)≤4099) by omega),if_neg (show¬ ((1:Int)≤ (p.n:Int)∧(p.n:Int)≤4099) by omega),Vh_ (fun h=>c1 h.1)]
  simp only
  rw[if_neg (fun h=>c1 h.1.1)]
  refine ko @jT_ ?_
  first|with_reducible refine ks [] @jT_ ?_|refine kp @jT_ ?_
  refine⟨_,(ke @jT_),⟨hw2,trivial⟩, ?_⟩
  rfl
end Go.Proofs
end
section
open Go Go.Proofs Go.Sx Go.StP Go.Flo
namespace Go.Proofs
set_option maxRecDepth 10000
set_option maxHeartbeats 400000
set_option linter.unusedSimpArgs false
theorem Xv_ {p:PcL} {b:Int} (h:jP_ p b≠0):jP_ p b=(match cpV p b with|some q=>q.2|none=>p.x.length):=by
 unfold jP_ at h ⊢
 split
 ·rename_i hz
  rw[Vh_ (fun hc=>by omega)]
 ·rename_i hz
  rw[if_neg hz] at h
  cases hc:cpV p b with
  |none=>rw[hc] at h;exact absurd rfl h
  |some q=>rfl
theorem anR_ {p:PcL} {b:Int} {q:Nat×Nat} (h:cpV p b=some q):q=(p.a,p.n)∧1≤p.n:=by
 unfold cpV at h
 split at h
 ·rename_i hc;cases h;exact⟨rfl,hc.1⟩
 ·cases h
set_option linter.defProp false
def jC_:=And.intro (And.intro (And.intro (And.intro (@zn_) (@zm_)) (And.intro (@wq_) (@wi_))) (And.intro (And.intro (@Qa_) (@k1_)) (And.intro (@ab4_) (@cxz)))) (And.intro (And.intro (And.intro (@afF_) (@ae5_)) (And.intro (@w1_) (@Sx.tup2_0))) (And.intro (And.intro (@Sx.tup2_1) (@Sx.tup3_0)) (And.intro (@Sx.tup3_1) (@Sx.tup3_2))))
theorem adQ_ (p:PcL) (b:Int) (w:World) (hp:PcB p) (h0:0≤b) (h1:b≤4099):
  Rets Tryz.prog 147 #[.agg (pcC p).toArray,vi b] w (fun v D=>v= .bool (decide (jP_ p b≠0))∧D= []):=by
 have hp':=hp
 obtain⟨hpa,hpn⟩:=hp'
 have hcall: ¬ (p.a=0∧p.n=0)→(cpV p b).isSome=decide (jP_ p b≠0):=by
  intro hz
  unfold jP_
  rw[if_neg (fun h=>hz ⟨h.1,h.2.1⟩)]
  cases hc:cpV p b with
  |none=>rfl
  |some q=>
   obtain⟨rfl,hn⟩:=anR_ hc
   rw[decide_eq_true (show p.n≠0 by omega)]
   rfl
 refine Rets.enterV Tryz.func147 rfl (rs:= [.tmp 4]) Tryz.results147 Tryz.ntmps147 ?_
 refine kf ?_
 first|with_reducible refine ks [3] @jC_ ?_|refine kp @jC_ ?_
 refine Ow.box rfl rfl fun b2 hb2 hw2=> ?_
 simp only[qm_,ql_,qu_,zh_,List.nil_append,List.cons_append]
 refine Ow.go rfl ?_
 simp(disch:=(first|assumption|omega| (simp only[w5_,wR_,UInt64.reduceToNat];try omega))) only[↓Sx.S0,Sx.S1,Tryz.fx,jC_,Nat.reduceAdd,Nat.reducePow,Int.reducePow,Nat.reduceBEq, ↓reduceIte,UInt8.reduceToNat,UInt16.reduceToNat,UInt32.reduceToNat,UInt64.reduceToNat,Int.reduceToNat]
 first|with_reducible refine ks [] @jC_ ?_|refine kp @jC_ ?_
 refine Ow.real rfl rfl ?_
 refine Ow.feql (b:=0) rfl rfl rfl (by omega) (by omega) ?_
 have fin: ∀v,v=cpR p b→ ∃x y,v= .tuple #[x,y, .bool (cpV p b).isSome]:=by
  rintro v rfl
  unfold cpR
  cases cpV p b with
  |some q=>exact⟨_,_,rfl⟩
  |none=>
   simp only
   split
   ·exact⟨_,_,rfl⟩
   ·exact⟨_,_,rfl⟩
 obtain⟨x,y,hxy⟩:=fin _ rfl
 by_cases ha:p.a=0
 ·have e1: (((p.a:Nat):Int)==0)=true:=by rw[ha];rfl
  rw[e1]
  refine ko @jC_ ?_
  refine Ow.imag rfl rfl ?_
  refine Ow.feql (b:=0) rfl rfl rfl (by omega) (by omega) ?_
  by_cases hn:p.n=0
  ·have e2: (((p.n:Nat):Int)==0)=true:=by rw[hn];rfl
   rw[e2]
   have hc:cpV p b=none:=Vh_ (fun h=>by omega)
   by_cases hl:1≤p.x.length
   ·have d1:decide ((1:Int)≤ (p.x.length:Int))=true:=decide_eq_true (by omega)
    by_cases hm:p.x.length≤4099
    ·have d2:decide ((p.x.length:Int)≤4099)=true:=decide_eq_true (by omega)
     have hr:decide (jP_ p b≠0)=true:=decide_eq_true (by unfold jP_;rw[if_pos ⟨ha,hn,hm⟩];omega)
     rw[hr]
     refine ko (And.intro @jC_ (And.intro @d1 (@d2))) ?_
     first|with_reducible refine ks [] (And.intro @jC_ (And.intro @d1 (@d2))) ?_|refine kp (And.intro @jC_ (And.intro @d1 (@d2))) ?_
     refine⟨_,(ke @jC_),⟨hw2,trivial⟩, ?_⟩
     rfl
    ·have d2:decide ((p.x.length:Int)≤4099)=false:=decide_eq_false (by omega)
     have hr:decide (jP_ p b≠0)=false:=decide_eq_false (by unfold jP_;rw[if_neg (fun h=>hm h.2.2),hc];simp)
     rw[hr]
     refine ko (And.intro @jC_ (And.intro @d1 (@d2))) ?_
     first|with_reducible refine ks [] (And.intro @jC_ (And.intro @d1 (@d2))) ?_|refine kp (And.intro @jC_ (And.intro @d1 (@d2))) ?_
     refine⟨_,(ke @jC_),⟨hw2,trivial⟩, ?_⟩
     rfl
   ·have d1:decide ((1:Int)≤ (p.x.length:Int))=false:=decide_eq_false (by omega)
    have hr:decide (jP_ p b≠0)=false:=decide_eq_false (by unfold jP_;rw[if_pos ⟨ha,hn,by omega⟩];omega)
    rw[hr]
    refine ko (And.intro @jC_ @d1) ?_
    first|with_reducible refine ks [] (And.intro @jC_ @d1) ?_|refine kp (And.intro @jC_ @d1) ?_
    refine⟨_,(ke @jC_),⟨hw2,trivial⟩, ?_⟩
    rfl
  ·have e2: (((p.n:Nat):Int)==0)=false:=beq_eq_false_iff_ne.2 (by omega)
   rw[e2,←hcall (fun h=>hn h.2)]
   refine ko @jC_ ?_
   first|with_reducible refine ks [] @jC_ ?_|refine kp @jC_ ?_
   refine Ow.callFV rfl Tryz.call146 (fun w' hw'=>wj_ p b w' hp h0 h1) ?_
   rw[hxy]
   refine ko @jC_ ?_
   first|with_reducible refine ks [] @jC_ ?_|refine kp @jC_ ?_
   refine⟨_,(ke @jC_),⟨hw2,trivial⟩, ?_⟩
   rfl
 ·have e1: (((p.a:Nat):Int)==0)=false:=beq_eq_false_iff_ne.2 (by omega)
  rw[e1,←hcall (fun h=>ha h.1)]
  refine ko @jC_ ?_
  first|with_reducible refine ks [] @jC_ ?_|refine kp @jC_ ?_
  refine Ow.callFV rfl Tryz.call146 (fun w' hw'=>wj_ p b w' hp h0 h1) ?_
  rw[hxy]
  refine ko @jC_ ?_
  first|with_reducible refine ks [] @jC_ ?_|refine kp @jC_ ?_
  refine⟨_,(ke @jC_),⟨hw2,trivial⟩, ?_⟩
  rfl
end Go.Proofs
end
section
open Go Go.Proofs Go.Sx Go.StP Go.Flo
namespace Go.Proofs
set_option maxRecDepth 10000
set_option maxHeartbeats 400000
set_option linter.unusedSimpArgs false
theorem afo_ {p:PcL} {b:Int} {q:Nat×Nat} (h:cpV p b=some q):cpR p b= .tuple #[vi q.1,vi q.2, .bool true]:=by unfold cpR;rw[h]
theorem afs_ {p:PcL} {b:Int} (h:cpV p b=none): ∃y:Int,cpR p b= .tuple #[vi 0,vi y, .bool false]:=by
 unfold cpR
 rw[h]
 simp only
 split
 ·exact⟨_,rfl⟩
 ·exact⟨_,rfl⟩
set_option linter.defProp false
def jf_:=And.intro (And.intro (And.intro (@zn_) (@zm_)) (And.intro (@wq_) (And.intro (@wi_) (@Qa_)))) (And.intro (And.intro (@k1_) (And.intro (@Sx.tup2_0) (@Sx.tup2_1))) (And.intro (@Sx.tup3_0) (And.intro (@Sx.tup3_1) (@Sx.tup3_2))))
theorem Xc_ (b:Int) (v:Value) (l:List PcL) (w:World) (hv:PcSl w v l) (hl:BndP l) (hn:l.length<1000000000):
  Rets Tryz.prog 145 #[vi b,v] w (fun v D=>v= .tuple #[vi (WS_ b l).1,vi (WS_ b l).2]∧D= []):=by
 obtain⟨bb,off,arr,E,fz,hr⟩:=hv.row
 have ln:=hv.len
 refine Rets.enterV Tryz.func145 rfl (rs:= [.tmp 4, .tmp 5]) Tryz.results145 Tryz.ntmps145 ?_
 refine kf ?_
 unfold WS_
 by_cases hb0:b<0
 ·have d1:decide (b<0)=true:=decide_eq_true hb0
  rw[if_pos (.inl hb0)]
  first|with_reducible refine ks [] (And.intro @jf_ @d1) ?_|refine kp (And.intro @jf_ @d1) ?_
  refine⟨_,(ke @jf_),trivial, ?_⟩
  rfl
 have d1:decide (b<0)=false:=decide_eq_false hb0
 by_cases hb4:4099<b
 ·have d2:decide (4099<b)=true:=decide_eq_true hb4
  rw[if_pos (.inr hb4)]
  first|with_reducible refine ks [] (And.intro @jf_ (And.intro @d1 (@d2))) ?_|refine kp (And.intro @jf_ (And.intro @d1 (@d2))) ?_
  refine⟨_,(ke @jf_),trivial, ?_⟩
  rfl
 have d2:decide (4099<b)=false:=decide_eq_false hb4
 rw[if_neg (by omega)]
 first|with_reducible refine ks [] (And.intro @jf_ (And.intro @d1 (@d2))) ?_|refine kp (And.intro @jf_ (And.intro @d1 (@d2))) ?_
 refine Cw.loopG (G:=Nat) [18,19,20,21,24,25,26,27,28,29,30,4,5,22,23,6] (fun g=> [(6,vi g)]) (fun g=> []) (fun g=>g≤l.length∧anyZ b (l.take g)=false) (fun g=>l.length - g) 0 rfl rfl ?_ ?_
 ·exact⟨Nat.zero_le _,rfl⟩
 intro k jk hk
 refine kv ?_
 obtain⟨hk,hz⟩:=hk
 by_cases hlt:k<l.length
 ·have d3:decide ((k:Int)< (l.length:Int))=true:=decide_eq_true (by omega)
  have rd:=hr.has (by omega)
  have ix:=hr.idx true k hlt
  have ld:=hr.load w0_ (by omega) hlt
  obtain⟨hpb,hpx⟩:=hl k hlt
  have htk:=aiJ_ (b:=b) hlt
  have hmz:=VH_ (b:=b) hlt
  generalize l.getD k pc0=p at*
  first|with_reducible refine ks [] (And.intro @jf_ (And.intro @ln (And.intro @d3 (And.intro @ix (And.intro @rd (@ld)))))) ?_|refine kp (And.intro @jf_ (And.intro @ln (And.intro @d3 (And.intro @ix (And.intro @rd (@ld)))))) ?_
  refine Ow.callFV rfl Tryz.call147 (fun w' hw'=>adQ_ p b w' hpb (by omega) (by omega)) ?_
  by_cases hp0:jP_ p b=0
  ·rw[decide_eq_false (show¬ (jP_ p b≠0) by omega),if_pos (hmz hp0)]
   refine ko @jf_ ?_
   first|with_reducible refine ks [] @jf_ ?_|refine kp @jf_ ?_
   refine⟨_,(ke @jf_),trivial, ?_⟩
   rfl
  ·rw[decide_eq_true (show jP_ p b≠0 from hp0)]
   refine ko @jf_ ?_
   first|with_reducible refine ks [] @jf_ ?_|refine kp @jf_ ?_
   refine Again.mk (k+1) (by omega) ⟨hlt, ?_⟩ rfl rfl
   rw[htk,hz,Bool.false_or]
   exact beq_eq_false_iff_ne.2 hp0
 ·obtain rfl:k=l.length:=by omega
  have d3:decide ((l.length:Int)< (l.length:Int))=false:=decide_eq_false (by omega)
  rw[List.take_length] at hz
  rw[if_neg (by rw[hz];decide)]
  first|with_reducible refine ks [] (And.intro @jf_ (And.intro @ln (@d3))) ?_|refine kp (And.intro @jf_ (And.intro @ln (@d3))) ?_
  refine Cw.loopG (G:=Nat) [31,32,33,34,38,39,40,41,42,43,37,44,45,46,9,10,11,47,48,49,50,51,52,53,54,55,56,57,7,58,59,4,5,35,36,8] (fun g=> [(7,vi (v0_ b (l.take g):Nat)),(8,vi g)]) (fun g=> []) (fun g=>g≤l.length∧v0_ b (l.take g)≤4099) (fun g=>l.length - g) 0 rfl rfl ?_ ?_
  ·exact⟨Nat.zero_le _,by simp[v0_]⟩
  intro m jm hm
  refine kv ?_
  obtain⟨hm,hs⟩:=hm
  by_cases hlt:m<l.length
  ·have d4:decide ((m:Int)< (l.length:Int))=true:=decide_eq_true (by omega)
   have rd:=hr.has (by omega)
   have ix:=hr.idx true m hlt
   have ld:=hr.load w0_ (by omega) hlt
   have ld1:zk_ (some (false,1)) (some (.cells arr E fz)) (off+m*2+1)=some (vs (l.getD m pc0).x):=hr.cell (j:=1) (n:=1) hlt (by omega)
   obtain⟨hpb,hpx⟩:=hl m hlt
   have hst:=ait_ (b:=b) hlt
   have hle:=QS_ (b:=b) (l:=l) (g:=m+1)
   have hp0:jP_ (l.getD m pc0) b≠0:=fun h=>by rw[VH_ hlt h] at hz;cases hz
   have hpr:=Xv_ hp0
   have hpl:=aeX_ (l.getD m pc0) b
   generalize l.getD m pc0=p at*
   first|with_reducible refine ks [15] (And.intro @jf_ (And.intro @ln (And.intro @d4 (And.intro @ix (And.intro @rd (@ld)))))) ?_|refine kp (And.intro @jf_ (And.intro @ln (And.intro @d4 (And.intro @ix (And.intro @rd (@ld)))))) ?_
   refine Ow.callFV rfl Tryz.call146 (fun w' hw'=>wj_ p b w' hpb (by omega) (by omega)) ?_
   have fin: ∀N:Nat,v0_ b (l.take (m+1))=v0_ b (l.take m)+N→((v0_ b (l.take m):Nat):Int)+ (N:Int)=((v0_ b (l.take (m+1)):Nat):Int):=fun N h=>by omega
   cases hc:cpV p b with
   |some q=>
    rw[hc] at hpr
    simp only at hpr
    rw[afo_ hc,←hpr]
    generalize jP_ p b=N at*
    have hf:=fin N hst
    refine ko @jf_ ?_
    by_cases h4:4099<v0_ b (l.take (m+1))
    ·have d5:decide ((4099:Int)< ((v0_ b (l.take (m+1)):Nat):Int))=true:=decide_eq_true (by omega)
     rw[if_pos (show 4099<v0_ b l by omega)]
     first|with_reducible refine ks [] (And.intro @jf_ (And.intro @hf (@d5))) ?_|refine kp (And.intro @jf_ (And.intro @hf (@d5))) ?_
     refine⟨_,(ke @jf_),trivial, ?_⟩
     rfl
    ·have d5:decide ((4099:Int)< ((v0_ b (l.take (m+1)):Nat):Int))=false:=decide_eq_false (by omega)
     first|with_reducible refine ks [] (And.intro @jf_ (And.intro @hf (@d5))) ?_|refine kp (And.intro @jf_ (And.intro @hf (@d5))) ?_
     exact Again.mk (m+1) (by omega) ⟨hlt,by omega⟩ rfl rfl
   |none=>
    rw[hc] at hpr
    simp only at hpr
    obtain⟨y,hy⟩:=afs_ hc
    rw[hy]
    have hf:=fin p.x.length (by omega)
    refine ko (And.intro @jf_ (And.intro @ix (And.intro @rd (@ld1)))) ?_
    by_cases h4:4099<v0_ b (l.take (m+1))
    ·have d5:decide ((4099:Int)< ((v0_ b (l.take (m+1)):Nat):Int))=true:=decide_eq_true (by omega)
     rw[if_pos (show 4099<v0_ b l by omega)]
     first|with_reducible refine ks [] (And.intro @jf_ (And.intro @hf (@d5))) ?_|refine kp (And.intro @jf_ (And.intro @hf (@d5))) ?_
     refine⟨_,(ke @jf_),trivial, ?_⟩
     rfl
    ·have d5:decide ((4099:Int)< ((v0_ b (l.take (m+1)):Nat):Int))=false:=decide_eq_false (by omega)
     first|with_reducible refine ks [] (And.intro @jf_ (And.intro @hf (@d5))) ?_|refine kp (And.intro @jf_ (And.intro @hf (@d5))) ?_
     exact Again.mk (m+1) (by omega) ⟨hlt,by omega⟩ rfl rfl
  ·obtain rfl:m=l.length:=by omega
   have d4:decide ((l.length:Int)< (l.length:Int))=false:=decide_eq_false (by omega)
   rw[List.take_length] at hs
   rw[if_neg (by omega),List.take_length]
   first|with_reducible refine ks [] (And.intro @jf_ (And.intro @ln (@d4))) ?_|refine kp (And.intro @jf_ (And.intro @ln (@d4))) ?_
   refine⟨_,(ke @jf_),trivial, ?_⟩
   rfl
end Go.Proofs
end
section
open Go Go.Proofs Go.Sx Go.StP Go.Flo
namespace Go.Proofs
set_option maxRecDepth 10000
set_option maxHeartbeats 400000
set_option linter.unusedSimpArgs false
theorem aqD_ {p:PcL} {b:Int} {q:Nat×Nat} (h:cpV p b=some q):q=(p.a,p.n)∧1≤p.n∧p.n≤4099∧p.x= []∧(p.a:Int)≤b - p.n:=by
 unfold cpV at h
 split at h
 ·rename_i hc;cases h;exact⟨rfl,hc⟩
 ·cases h
set_option linter.defProp false
def kQ_:=And.intro (And.intro (And.intro (@zn_) (@zm_)) (And.intro (@wq_) (And.intro (@wi_) (@Qa_)))) (And.intro (And.intro (@k1_) (And.intro (@Sx.tup2_0) (@Sx.tup2_1))) (And.intro (@Sx.tup3_0) (And.intro (@Sx.tup3_1) (@Sx.tup3_2))))
theorem adL_ (base:List UInt8) (v:Value) (l:List PcL) (w:World) (hv:PcSl w v l) (hl:BndP l) (hn:l.length<1000000000):
  Rets Tryz.prog 142 #[vs base,v] w (fun v' D=>v'= .tuple #[vs (if(WS_ base.length l).2=0 then txtP base l else []),vi (WS_ base.length l).2]∧D= []):=by
 obtain⟨bb,off,arr,E,fz,hr⟩:=hv.row
 have ln:=hv.len
 refine Rets.enterV Tryz.func142 rfl (rs:= [.tmp 4, .tmp 5]) Tryz.results142 Tryz.ntmps142 ?_
 refine kf ?_
 first|with_reducible refine ks [] @kQ_ ?_|refine kp @kQ_ ?_
 refine Ow.callFV rfl Tryz.call145 (fun w' hw'=>Xc_ (base.length:Int) v l w' (hv.oldN hw' trivial) hl hn) ?_
 by_cases he: (WS_ base.length l).2=0
 ·obtain⟨m,hm⟩: ∃m,WS_ base.length l=(m,0):=⟨(WS_ base.length l).1,by rw[←he]⟩
  obtain⟨-,hb4,hz,hs4,-,hl4⟩:=adB_ hm
  rw[if_pos he,hm]
  have e0: ((0:Int) !=0)=false:=rfl
  refine ko @kQ_ ?_
  first|with_reducible refine ks [] (And.intro @kQ_ @e0) ?_|refine kp (And.intro @kQ_ @e0) ?_
  refine Cw.loopG (G:=Nat) [23,24,25,26,30,31,32,33,34,35,36,29,37,38,39,10,11,12,40,41,42,43,44,45,46,47,48,8,49,50,51,52,53,54,55,27,28,9] (fun g=> [(8,vs (txtP base (l.take g))),(9,vi g)]) (fun g=> []) (fun g=>g≤l.length) (fun g=>l.length - g) 0 rfl rfl ?_ ?_
  ·exact Nat.zero_le _
  intro k jk hk
  refine kv ?_
  by_cases hlt:k<l.length
  ·have d3:decide ((k:Int)< (l.length:Int))=true:=decide_eq_true (by omega)
   have rd:=hr.has (by omega)
   have ix:=hr.idx true k hlt
   have ld:=hr.load w0_ (by omega) hlt
   have ld1:zk_ (some (false,1)) (some (.cells arr E fz)) (off+k*2+1)=some (vs (l.getD k pc0).x):=hr.cell (j:=1) (n:=1) hlt (by omega)
   obtain⟨hpb,hpx⟩:=hl k hlt
   have htk:=ah0_ (base:=base) hlt
   have hpt:pcT base (l.getD k pc0)=(match cpV (l.getD k pc0) base.length with|some q=>(base.drop q.1).take q.2++ (l.getD k pc0).x|none=>(l.getD k pc0).x):=rfl
   have htl: (txtP base (l.take k)).length≤4099:=by
    rw[Wz_ (base:=base) (apj_ (g:=k) hz)]
    have:=QS_ (b:=(base.length:Int)) (l:=l) (g:=k)
    omega
   have hxl:cpV (l.getD k pc0) base.length=none→(l.getD k pc0).x.length≤4099:=fun hc=>by
    have hp0:jP_ (l.getD k pc0) base.length≠0:=fun h=>by rw[VH_ hlt h] at hz;cases hz
    have h1:=Xv_ hp0
    have h2:=aeX_ (l.getD k pc0) base.length
    rw[hc] at h1
    simp only at h1
    omega
   generalize l.getD k pc0=p at*
   first|with_reducible refine ks [] (And.intro @kQ_ (And.intro @ln (And.intro @d3 (And.intro @ix (And.intro @rd (@ld)))))) ?_|refine kp (And.intro @kQ_ (And.intro @ln (And.intro @d3 (And.intro @ix (And.intro @rd (@ld)))))) ?_
   refine Ow.callFV rfl Tryz.call146 (fun w' hw'=>wj_ p (base.length:Int) w' hpb (by omega) (by omega)) ?_
   cases hc:cpV p base.length with
   |some q=>
    rw[hc] at hpt
    simp only at hpt
    obtain⟨rfl,h1,h2,h3,h4⟩:=aqD_ hc
    rw[afo_ hc]
    rw[h3,List.append_nil] at hpt
    simp only at hpt ⊢
    refine ko @kQ_ ?_
    first|with_reducible refine ks [] @kQ_ ?_|refine kp @kQ_ ?_
    refine Again.mk (k+1) (by omega) (by omega) rfl ?_
    rw[htk,hpt,←show(base.take (p.a+p.n)).drop p.a=(base.drop p.a).take p.n by rw[List.drop_take,Nat.add_sub_cancel_left]]
    rfl
   |none=>
    rw[hc] at hpt
    simp only at hpt
    obtain⟨y,hy⟩:=afs_ hc
    have hx4:=hxl hc
    rw[hy]
    refine ko @kQ_ ?_
    first|with_reducible refine ks [] (And.intro @kQ_ (And.intro @ix (And.intro @rd (@ld1)))) ?_|refine kp (And.intro @kQ_ (And.intro @ix (And.intro @rd (@ld1)))) ?_
    refine Again.mk (k+1) (by omega) (by omega) rfl ?_
    rw[htk,hpt]
    rfl
  ·obtain rfl:k=l.length:=by omega
   have d3:decide ((l.length:Int)< (l.length:Int))=false:=decide_eq_false (by omega)
   rw[List.take_length]
   first|with_reducible refine ks [] (And.intro @kQ_ (And.intro @ln (@d3))) ?_|refine kp (And.intro @kQ_ (And.intro @ln (@d3))) ?_
   refine⟨_,(ke @kQ_),trivial, ?_⟩
   rfl
 ·rw[if_neg he]
  have e0: ((WS_ base.length l).2 !=0)=true:=bne_iff_ne.2 he
  refine ko @kQ_ ?_
  first|with_reducible refine ks [] (And.intro @kQ_ @e0) ?_|refine kp (And.intro @kQ_ @e0) ?_
  refine⟨_,(ke @kQ_),trivial, ?_⟩
  rfl
end Go.Proofs
end
section
open Go Go.Proofs Go.Sx Go.StP Go.Flo
namespace Go.Proofs
set_option maxRecDepth 10000
set_option maxHeartbeats 400000
set_option linter.unusedSimpArgs false
def rrO (s:List UInt8) (a:Nat) (e:Int):Obj:= .cells #[vs s,vi a,vi e] 162 (0,0)
theorem afb_ (s:List UInt8) (a:Nat) (e:Int) (n:Nat):zk_ (some (false,n)) (some (rrO s a e)) 0=some (vs s):=(rfl)
theorem afQ_ (s:List UInt8) (a:Nat) (e:Int) (n:Nat):zk_ (some (false,n)) (some (rrO s a e)) 1=some (vi a):=(rfl)
theorem aeL_ (s:List UInt8) (a:Nat) (e:Int) (n:Nat):zk_ (some (false,n)) (some (rrO s a e)) 2=some (vi e):=(rfl)
theorem W6_ (b:Nat) (s:List UInt8) (a:Nat) (e n:Int) (w:World) (ha:a≤s.length) (hs:s.length<1099511627776) (ho:w.heap[b]? =some (rrO s a e)):
  Rets Tryz.prog 125 #[vp b 0,vi n] w (fun v D=> ∃o,D= [(b,o)]∧v=vs (jM_ s a e n).1∧o=rrO s (jM_ s a e n).2.1 (jM_ s a e n).2.2):=wP_ b s a e n w ha hs ho
theorem qN_ (b:Nat) (s:List UInt8) (a:Nat) (e most:Int) (w:World) (ha:a≤s.length) (hs:s.length<1099511627776) (ho:w.heap[b]? =some (rrO s a e)):
  Rets Tryz.prog 101 #[vp b 0,vi most] w (fun v D=> ∃o,D= [(b,o)]∧v=vi (zF_ s a e most).1∧o=rrO s (zF_ s a e most).2.1 (zF_ s a e most).2.2):=xb_ b s a e most w ha hs ho
theorem Qw_ (b:Nat) (s:List UInt8) (a:Nat) (e:Int) (w:World) (ho:w.heap[b]? =some (rrO s a e)):
  Rets Tryz.prog 98 #[vp b 0] w (fun v D=>v=vi (wl_ s a e)∧D= []):=vd_ b s a e w ho
theorem zrRR:zK_ Tryz.prog 162=some (.agg #[vs [],vi 0,vi 0]):=id (by kernel_rfl)
theorem alF_ (s:List UInt8):qM_ (xX_ Tryz.prog 162) (zK_ Tryz.prog 162) [(0,vs s)]=some (.agg #[vs s,vi 0,vi 0]):=by
 rw[show xX_ Tryz.prog 162=some [(0,1),(1,1),(2,1)] from id (by kernel_rfl),zrRR];rfl
theorem ajh_:qM_ (xX_ Tryz.prog 218) (zK_ Tryz.prog 218) []=some (.agg (pcC pc0).toArray):=by
 rw[show xX_ Tryz.prog 218=some [(0,1),(1,1)] from id (by kernel_rfl),zrPc];rfl
theorem aiQ_ (x n:Nat) (E:TypeId) (a:Bool):zu_ (some (a,1)) (some (.cells (pcC pc0).toArray E (0,0))) 0 (cx x n)=some (.cells (pcC ⟨x,n,[]⟩).toArray E (0,0)):=(rfl)
theorem ajy_ (x:List UInt8) (E:TypeId) (a:Bool):zu_ (some (a,1)) (some (.cells (pcC pc0).toArray E (0,0))) 1 (vs x)=some (.cells (pcC ⟨0,0,x⟩).toArray E (0,0)):=(rfl)
structure RrG where
 a:Nat
 e:Int
 out:List PcL
 v:Value
 D:ze_
 DG:ze_
def RrJ (d:List UInt8) (a0:Nat) (e0:Int) (sz:Nat) (g:RrG):Prop:=
 New sz g.D∧New sz g.DG∧Gr g.D 218 2 g.v g.out.length (g.out.map pcC).flatten∧g.a≤d.length∧BndP g.out∧g.out.length≤g.a+1∧(g.e=0→g.out.length≤g.a)∧
  ((e0≠0∧g.e≠0)∨(e0=0∧((g.e=0∧pcs d a0=(g.out++ (pcs d g.a).1,(pcs d g.a).2))∨(g.e≠0∧pcs d a0=(g.out,g.a,g.e)))))
def afK_ (d:List UInt8) (v:Value) (D:ze_):Prop:=match K4_ d with
 |some p=> ∃x,v= .tuple #[vi p.1,x, .bool true]∧BndP p.2∧p.2.length≤4099∧p.1≤4099∧GrI D 218 2 x p.2.length (p.2.map pcC).flatten
 |none=>v= .tuple #[vi 0, .slice none 0 0, .bool false]
theorem akT_ {out:List PcL} {p:PcL} (h:BndP out) (hp:PcB p∧p.x.length<9223372036854775808):BndP (out++ [p]):=by
 intro g hg
 by_cases hlt:g<out.length
 ·rw[Vr_ hlt];exact h g hlt
 ·rw[List.length_append] at hg
  rw[Vd_ (by omega),show g - out.length=0 by simp at hg;omega]
  exact hp
set_option linter.defProp false
def z5_:=And.intro (And.intro (And.intro (@zn_) (And.intro (@zm_) (@afb_))) (And.intro (And.intro (@afQ_) (@aeL_)) (And.intro (@wq_) (@wi_)))) (And.intro (And.intro (And.intro (@Qa_) (@k1_)) (And.intro (@Sx.tup2_0) (@Sx.tup2_1))) (And.intro (And.intro (@Sx.tup3_0) (@Sx.tup3_1)) (And.intro (@Sx.tup3_2) (@w1_))))
theorem adU_ (d:List UInt8) (w:World) (hd:d.length<100000000):Rets Tryz.prog 141 #[vs d] w (XS w [] (afK_ d)):=by
 refine Rets.enterX Tryz.func141 rfl (rs:= [.tmp 2, .tmp 3, .tmp 4]) Tryz.results141 Tryz.ntmps141 (fun p hp=>by cases hp) (by simp[keys]) ?_
 refine kf ?_
 first|with_reducible refine ks [] @z5_ ?_|refine kp @z5_ ?_
 refine Ow.build (.agg #[vs d,vi 0,vi 0]) rfl (alF_ d) ?_
 refine ko @z5_ ?_
 refine Ow.box rfl rfl fun br hbr hwr=> ?_
 simp only[qm_,ql_,qu_,zh_,List.nil_append]
 refine Ow.permL (M:= [(br,rrO d 0 0)]) (List.Perm.refl _) ?_
 refine ko @z5_ ?_
 first|with_reducible refine ks [] @z5_ ?_|refine kp @z5_ ?_
 have l1:=q6_ (s:=d) (a:=0) (e:=0) (most:=4099) (Nat.zero_le _)
 have m1:=jo_ (s:=d) (a:=0) (e:=0) (most:=4099) (by omega)
 refine Ow.callM rfl rfl Tryz.call101 (by simp[keys]) (fun w' hw'=>qN_ br d 0 0 4099 w' (Nat.zero_le _) (by omega) (hw'.has _ _ List.mem_cons_self)) ?_
 refine kn ?_
 refine ko @z5_ ?_
 first|with_reducible refine ks [] @z5_ ?_|refine kp @z5_ ?_
 have l2:=q6_ (s:=d) (a:=(zF_ d 0 0 4099).2.1) (e:=(zF_ d 0 0 4099).2.2) (most:=4099) l1.2
 refine Ow.callM rfl rfl Tryz.call101 (by simp[keys]) (fun w' hw'=>qN_ br d (zF_ d 0 0 4099).2.1 (zF_ d 0 0 4099).2.2 4099 w' l1.2 (by omega) (hw'.has _ _ List.mem_cons_self)) ?_
 have hdR:=ab3_ d
 rw[show zF_ d 0 0 4099=dB d from rfl] at l2 m1 ⊢
 rw[show zF_ d (dB d).2.1 (dB d).2.2 4099=dM d from rfl] at l2 ⊢
 refine kn ?_
 refine ko @z5_ ?_
 first|with_reducible refine ks [] @z5_ ?_|refine kp @z5_ ?_
 refine Cw.permL (M:=(br,rrO d (dM d).2.1 (dM d).2.2):: ([]++ [])) (List.Perm.refl _) ?_
 refine Cw.loopG (G:=RrG) [20,21,22,23,24,25,26,27,28,29,30,31,32,33,34,35,9,36,10,37,38,39,40,41,42,43,44,45,46,47,48,49,50,51,52,53,54,55,56,8] (fun g=> [(8,g.v)]) (fun g=>(br,rrO d g.a g.e):: (g.D++g.DG)) (fun g=>RrJ d (dM d).2.1 (dM d).2.2 w.heap.size g) (fun g=>(if g.e=0 then d.length - g.a+1 else 0)) ⟨(dM d).2.1,(dM d).2.2,[], .slice none 0 0,[],[]⟩ rfl rfl ?_ ?_
 ·refine⟨trivial,trivial,Gr.nl,l2.2,fun g hg=>by simp at hg,by simp,fun _=>Nat.zero_le _, ?_⟩
  by_cases he: (dM d).2.2=0
  ·exact .inr ⟨he, .inl ⟨he,rfl⟩⟩
  ·exact .inl ⟨he,he⟩
 intro g j hg
 refine kv ?_
 obtain⟨a,e,out,v,D,DG⟩:=g
 obtain⟨hN,hNG,hG,hal,hB,hol,hol0,hrel⟩:=hg
 simp only at hN hNG hG hal hB hol hol0 hrel ⊢
 by_cases hc:e=0∧a<d.length
 ·obtain⟨rfl,hlt⟩:=hc
  have e0: ((0:Int)==0)=true:=rfl
  have d1:decide ((a:Int)< (d.length:Int))=true:=decide_eq_true (by omega)
  have hle1:=q6_ (s:=d) (a:=a) (e:=0) (most:=8199) hal
  have hm1:=jo_ (s:=d) (a:=a) (e:=0) (most:=8199) (by omega)
  have hpR:pcR d a=pcR d a:=rfl
  conv at hpR=>rhs;unfold pcR
  first|with_reducible refine ks [1000008] (And.intro @z5_ (And.intro @e0 (@d1))) ?_|refine kp (And.intro @z5_ (And.intro @e0 (@d1))) ?_
  refine Ow.callM rfl rfl Tryz.call101 (by simp[keys]) (fun w' hw'=>qN_ br d a 0 8199 w' hal (by omega) (hw'.has _ _ List.mem_cons_self)) ?_
  generalize zF_ d a 0 8199=q at*
  obtain⟨q1,a1,e1⟩:=q
  simp only at hle1 hm1 hpR ⊢
  obtain⟨Q,rfl⟩: ∃Q:Nat,q1=(Q:Int):=⟨q1.toNat,by omega⟩
  have hQ:Q≤8199:=by omega
  refine kn ?_
  refine ko @z5_ ?_
  first|with_reducible refine ks [] @z5_ ?_|refine kp @z5_ ?_
  refine Ow.build (.agg (pcC pc0).toArray) rfl ajh_ ?_
  refine ko @z5_ ?_
  refine Ow.alloc rfl rfl zrPc fun b10 hb10 hw10=> ?_
  simp only[zh_,List.nil_append,List.cons_append]
  have h10:br<b10:=zx_ hb10 (by simp[keys])
  have hst:=alL_ pc0 pc0 218
  refine Ow.permL (M:=(b10, .cells (pcC pc0).toArray 218 (0,0)):: (br,rrO d a1 e1):: (D++DG)) (by classical exact List.perm_iff_count.2 fun a=>by simp only[List.count_append,List.count_cons,List.count_nil]<;>omega) ?_
  refine ko (And.intro @z5_ @hst) ?_
  refine Cw.cutO (G:=(PcL×Nat×Int)) [37,38,39,40,41,42,43,44,45,46,47,48,49,50,51,52] (fun g=> []) (fun g=>(b10, .cells (pcC g.1).toArray 218 (0,0)):: (br,rrO d g.2.1 g.2.2):: (D++DG)) (fun g=>pcR d a=g∧(PcB g.1∧g.1.x.length<9223372036854775808)) ?_ ?_
  ·by_cases hodd: (Q:Int)%2=1
   ·have d2: (((Q:Nat):Int)%2==1)=true:=by rw[beq_iff_eq];exact hodd
    rw[if_pos hodd] at hpR
    have hm2:=jo_ (s:=d) (a:=a1) (e:=e1) (most:=4099) (by omega)
    first|with_reducible refine ks [] (And.intro @z5_ @d2) ?_|refine kp (And.intro @z5_ @d2) ?_
    refine Ow.callM rfl rfl Tryz.call101 (by simp[keys]) (fun w' hw'=>qN_ br d a1 e1 4099 w' hle1.2 (by omega) (hw'.has _ _ (List.mem_cons_of_mem _ List.mem_cons_self))) ?_
    generalize zF_ d a1 e1 4099=x at*
    obtain⟨x1,a2,e2⟩:=x
    simp only at hm2 hpR ⊢
    obtain⟨X,rfl⟩: ∃X:Nat,x1=(X:Int):=⟨x1.toNat,by omega⟩
    rw[Int.toNat_natCast,show((Q:Int) / 2).toNat=Q / 2 by omega] at hpR
    refine kn ?_
    refine Ow.convIF rfl rfl cvIF Tryz.underlying3 Tryz.underlying219 rfl ?_
    refine ko @z5_ ?_
    rw[show(Q:Int) / 2=((Q / 2:Nat):Int) by omega]
    refine Ow.convIF rfl rfl cvIF Tryz.underlying3 Tryz.underlying219 rfl ?_
    refine Ow.complexB (a:=(X:Nat)) (b:=(Q / 2:Nat)) rfl rfl rfl ?_
    have hs2:=fun a=>aiQ_ X (Q / 2) 218 a
    refine ko (And.intro @z5_ @hs2) ?_
    refine CutO.mk (⟨X,Q / 2,[]⟩,a2,e2) ⟨hpR,⟨by show X≤4099;omega,by show Q / 2≤4099;omega⟩,by show 0<9223372036854775808;omega⟩ rfl rfl
   ·have d2: (((Q:Nat):Int)%2==1)=false:=by rw[beq_eq_false_iff_ne];exact hodd
    rw[if_neg hodd] at hpR
    first|with_reducible refine ks [] (And.intro @z5_ @d2) ?_|refine kp (And.intro @z5_ @d2) ?_
    refine Ow.callM rfl rfl Tryz.call125 (by simp[keys]) (fun w' hw'=>W6_ br d a1 e1 ((Q:Int) / 2) w' hle1.2 (by omega) (hw'.has _ _ (List.mem_cons_of_mem _ List.mem_cons_self))) ?_
    have hxl: (jM_ d a1 e1 ((Q:Int) / 2)).1.length≤d.length:=by
     unfold jM_
     split
     ·simp
     ·split
      ·simp
      ·split
       ·simp
       ·simp only[List.length_take,List.length_drop];omega
    generalize jM_ d a1 e1 ((Q:Int) / 2)=x at*
    obtain⟨x1,a2,e2⟩:=x
    simp only at hxl hpR ⊢
    refine kn ?_
    have hs2:=fun a=>ajy_ x1 218 a
    refine ko (And.intro @z5_ @hs2) ?_
    refine CutO.mk (⟨0,0,x1⟩,a2,e2) ⟨hpR,⟨Nat.zero_le _,Nat.zero_le _⟩,by show x1.length<9223372036854775808;omega⟩ rfl rfl
  ·intro g j hg
   refine kv ?_
   obtain⟨p,a2,e2⟩:=g
   obtain⟨hpq,hpB⟩:=hg
   simp only at hpB ⊢
   have hle:=ajw_ hal
   have hup:=aiE_ hal
   have hok:=aqx_ hlt
   have her:=aol_ hlt
   rw[hpq] at hle hup hok her
   simp only at hle hup hok her
   first|with_reducible refine ks [] @z5_ ?_|refine kp @z5_ ?_
   refine Ow.buildSlice (e:=218) (pcC p).toArray rfl rfl (aon_ p) fun b11 hb11 hw11=> ?_
   refine ko @z5_ ?_
   refine Ow.permL (M:=D++ ((b10, .cells (pcC p).toArray 218 (0,0)):: (br,rrO d a2 e2):: (DG++ [(b11, .cells (pcC p).toArray 218 (0,0))]))) (by classical exact List.perm_iff_count.2 fun a=>by simp only[List.count_append,List.count_cons,List.count_nil]<;>omega) ?_
   refine Ow.appendXG (e:=218) (k:=1) (new:=pcC p) (X:=D) v rfl rfl rfl rfl Tryz.underlying208 (id (by kernel_rfl):qf_ Tryz.prog 218=some (true,2)) (by kernel_rfl) zrPc (by rw[k1_];rfl) Tryz.underlying208 (by intro k h;cases h) hG (fun w' hw'=>AppX.one1 (hw'.has b11 (.cells (pcC p).toArray 218 (0,0)) (by simp)) (w0_ p) (aj3_ p)) (by omega) (fun B3 v3 D3 hA3 hB3 hG3 hk13 hk23 hlk3=> ?_)
   have hN3:New w.heap.size D3:=New.of_le fun q hq=>by
    rcases hk23 q hq with h|h
    ·exact hN.le q h
    ·omega
   refine Ow.permL (M:=(br,rrO d a2 e2):: (D3++ ((b10, .cells (pcC p).toArray 218 (0,0)):: (DG++ [(b11, .cells (pcC p).toArray 218 (0,0))])))) (by classical exact List.perm_iff_count.2 fun a=>by simp only[List.count_append,List.count_cons,List.count_nil]<;>omega) ?_
   refine ko @z5_ ?_
   refine Again.mk ⟨a2,e2,out++ [p],v3,D3,(b10, .cells (pcC p).toArray 218 (0,0)):: (DG++ [(b11, .cells (pcC p).toArray 218 (0,0))])⟩ ?_ ⟨hN3,⟨hw10,hNG.app ⟨hw11,trivial⟩⟩,by simpa using hG3,hle.2,akT_ hB hpB, ?_, ?_, ?_⟩ rfl rfl
   ·show(if e2=0 then d.length - a2+1 else 0)< (if(0:Int)=0 then d.length - a+1 else 0)
    rw[if_pos rfl]
    split
    ·rename_i he;have:=hup he;omega
    ·omega
   ·show(out++ [p]).length≤a2+1
    have:=hol0 rfl
    rw[List.length_append];simp;omega
   ·intro he
    show(out++ [p]).length≤a2
    have:=hol0 rfl
    have:=hup he
    rw[List.length_append];simp;omega
   ·rcases hrel with⟨h1,h2⟩ | ⟨h1,h2|h2⟩
    ·exact absurd rfl h2
    ·refine .inr ⟨h1, ?_⟩
     by_cases he:e2=0
     ·refine .inl ⟨he, ?_⟩
      rw[h2.2,hok he]
      simp
     ·refine .inr ⟨he, ?_⟩
      rw[h2.2,her he]
    ·exact absurd rfl h2.1
 ·have hdone: (e==0&&decide ((a:Int)< (d.length:Int)))=false:=by
   rw[Bool.and_eq_false_iff]
   by_cases he:e=0
   ·right;exact decide_eq_false (fun h=>hc ⟨he,by omega⟩)
   ·left;exact beq_eq_false_iff_ne.2 he
  have hNr:New w.heap.size ((br,rrO d a e):: (D++DG)):=⟨hwr,hN.app hNG⟩
  by_cases he:e=0
  ·subst he
   have hal2: ¬a<d.length:=fun h=>hc ⟨rfl,h⟩
   have e0: ((0:Int)==0)=true:=rfl
   have d1:decide ((a:Int)< (d.length:Int))=false:=decide_eq_false (by omega)
   have hE:wl_ d a 0=0:=by unfold wl_;rw[if_neg (by simp),if_neg (by omega)]
   have n0: ((0:Int) !=0)=false:=rfl
   obtain⟨h1,h2⟩: (dM d).2.2=0∧pcs d (dM d).2.1=(out,a,0):=by
    rcases hrel with⟨h1,h2⟩ | ⟨h1,h2|h2⟩
    ·exact absurd rfl h2
    ·rw[apP_ hal2] at h2
     exact⟨h1,by rw[h2.2,List.append_nil]⟩
    ·exact absurd rfl h2.1
   rw[h2] at hdR
   rw[if_neg (by rw[h1];simp),if_neg (by simp)] at hdR
   simp only at hdR
   first|with_reducible refine ks [] (And.intro @z5_ (And.intro @e0 (@d1))) ?_|refine kp (And.intro @z5_ (And.intro @e0 (@d1))) ?_
   refine Ow.callFV rfl Tryz.call98 (fun w' hw'=>Qw_ br d a 0 w' (hw'.has _ _ List.mem_cons_self)) ?_
   rw[hE]
   refine ko (And.intro @z5_ @n0) ?_
   first|with_reducible refine ks [] (And.intro @z5_ @n0) ?_|refine kp (And.intro @z5_ @n0) ?_
   refine Ow.callFV rfl Tryz.call145 (fun w' hw'=>Xc_ (dB d).1 v out w' (hG.slM (fun b o hm=>hw'.has b o (by simp[hm])) rfl rfl w0_) hB (by omega)) ?_
   unfold afK_
   by_cases hk:WS_ (dB d).1 out=((dM d).1,0)
   ·rw[if_pos hk] at hdR
    rw[hdR,hk]
    obtain⟨-,-,-,-,-,hc4⟩:=adB_ hk
    have n1: ((dM d).1 !=(dM d).1)=false:=bne_self_eq_false _
    refine ko @z5_ ?_
    first|with_reducible refine ks [] (And.intro @z5_ (And.intro @n0 (@n1))) ?_|refine kp (And.intro @z5_ (And.intro @n0 (@n1))) ?_
    refine⟨_,(ke @z5_), ?_⟩
    refine⟨Ext.of_new hNr,v, ?_,hB,hc4,by show(dB d).1.toNat≤4099;omega,Gr.i hG fun q hq=>by simp[hq]⟩
    show Value.tuple #[vi (dB d).1,v, .bool true]= .tuple #[vi ((dB d).1.toNat:Nat),v, .bool true]
    rw[show(((dB d).1.toNat:Nat):Int)=(dB d).1 by omega]
   ·rw[if_neg hk] at hdR
    rw[hdR]
    obtain⟨N,E,hNE⟩: ∃N E,WS_ (dB d).1 out=(N,E):=⟨_,_,rfl⟩
    rw[hNE] at hk ⊢
    by_cases hE0:E=0
    ·subst hE0
     have n1: (N !=(dM d).1)=true:=bne_iff_ne.2 (fun h=>hk (by rw[h]))
     refine ko @z5_ ?_
     first|with_reducible refine ks [] (And.intro @z5_ (And.intro @n0 (@n1))) ?_|refine kp (And.intro @z5_ (And.intro @n0 (@n1))) ?_
     refine⟨_,(ke @z5_), ?_⟩
     exact⟨Ext.of_new hNr,rfl⟩
    ·have n1: (E !=0)=true:=bne_iff_ne.2 hE0
     refine ko @z5_ ?_
     first|with_reducible refine ks [] (And.intro @z5_ @n1) ?_|refine kp (And.intro @z5_ @n1) ?_
     refine⟨_,(ke @z5_), ?_⟩
     exact⟨Ext.of_new hNr,rfl⟩
  ·have e0: (e==0)=false:=beq_eq_false_iff_ne.2 he
   have hE:wl_ d a e=e:=by unfold wl_;rw[if_pos he]
   have n0: (e !=0)=true:=bne_iff_ne.2 he
   have hno:K4_ d=none:=by
    rw[hdR]
    rcases hrel with⟨h1,h2⟩ | ⟨h1,h2|h2⟩
    ·rw[if_pos h1]
    ·exact absurd h2.1 he
    ·rw[h2.2,if_neg (by rw[h1];simp),if_pos he]
   first|with_reducible refine ks [] (And.intro @z5_ @e0) ?_|refine kp (And.intro @z5_ @e0) ?_
   refine Ow.callFV rfl Tryz.call98 (fun w' hw'=>Qw_ br d a e w' (hw'.has _ _ List.mem_cons_self)) ?_
   rw[hE]
   refine ko (And.intro @z5_ @n0) ?_
   first|with_reducible refine ks [] (And.intro @z5_ @n0) ?_|refine kp (And.intro @z5_ @n0) ?_
   refine⟨_,(ke @z5_), ?_⟩
   refine⟨Ext.of_new hNr, ?_⟩
   unfold afK_
   rw[hno]
   rfl
end Go.Proofs
end
section
open Go Go.Proofs Go.Sx Go.StP Go.Flo
namespace Go.Proofs
set_option maxRecDepth 10000
set_option maxHeartbeats 400000
set_option linter.unusedSimpArgs false
set_option linter.defProp false
def vL_:=And.intro (And.intro (And.intro (@zn_) (@zm_)) (And.intro (@wq_) (And.intro (@wi_) (@Qa_)))) (And.intro (And.intro (@k1_) (And.intro (@Sx.tup2_0) (@Sx.tup2_1))) (And.intro (@Sx.tup3_0) (And.intro (@Sx.tup3_1) (@Sx.tup3_2))))
theorem aek_ (base d:List UInt8) (w:World) (hd:d.length<100000000):
  Rets Tryz.prog 127 #[vs base,vs d] w (fun v D=>v= .tuple #[vs (xi_ base d).1,vi (xi_ base d).2]∧D= []):=by
 refine Rets.enterV Tryz.func127 rfl (rs:= [.tmp 4, .tmp 5]) Tryz.results127 Tryz.ntmps127 ?_
 refine kf ?_
 first|with_reducible refine ks [] @vL_ ?_|refine kp @vL_ ?_
 refine Ow.callC rfl rfl Tryz.call141 (fun w' hw'=>adU_ d w' hd) (fun B1 v1 D1 hA1 hB1 hN1 hS1=> ?_)
 have hN1':=hN1.mono hB1
 unfold afK_ at hS1
 cases hr:K4_ d with
 |none=>
  rw[hr] at hS1
  have hS1':v1= .tuple #[vi 0, .slice none 0 0, .bool false]:=hS1
  subst hS1'
  have hap:xi_ base d=([],2):=by unfold xi_;rw[hr]
  refine ko @vL_ ?_
  first|with_reducible refine ks [] @vL_ ?_|refine kp @vL_ ?_
  refine⟨_,(ke @vL_),hN1', ?_⟩
  rw[hap];rfl
 |some p=>
  rw[hr] at hS1
  obtain⟨x,rfl,hB,hl4,hp4,hg⟩:=hS1
  by_cases hb:p.1=base.length
  ·have e1: (((p.1:Nat):Int) !=((base.length:Nat):Int))=false:=by rw[hb];exact bne_self_eq_false _
   obtain⟨m,hm⟩:=Vs_ hr
   rw[hb] at hm
   have hap:xi_ base d=(txtP base p.2,0):=by unfold xi_;rw[hr];simp only;rw[if_neg (by simp[hb])]
   refine ko @vL_ ?_
   first|with_reducible refine ks [] (And.intro @vL_ @e1) ?_|refine kp (And.intro @vL_ @e1) ?_
   refine Ow.callFV rfl Tryz.call142 (fun w' hw'=>adL_ base x p.2 w' (GrI.slV (hg.mono fun q hq=>by simp[hq]) hw' rfl rfl w0_) hB (by omega)) ?_
   rw[hm,if_pos rfl]
   refine ko @vL_ ?_
   first|with_reducible refine ks [] @vL_ ?_|refine kp @vL_ ?_
   refine⟨_,(ke @vL_),hN1', ?_⟩
   rw[hap];rfl
  ·have e1: (((p.1:Nat):Int) !=((base.length:Nat):Int))=true:=by rw[bne_iff_ne];omega
   have hap:xi_ base d=([],19):=by unfold xi_;rw[hr];simp only;rw[if_pos hb]
   refine ko @vL_ ?_
   first|with_reducible refine ks [] (And.intro @vL_ @e1) ?_|refine kp (And.intro @vL_ @e1) ?_
   refine⟨_,(ke @vL_),hN1', ?_⟩
   rw[hap];rfl
structure PrG where
 at_:Nat
 out:List Nat
 v:Value
 D:ze_
 DG:ze_
set_option linter.defProp false
def je_:=And.intro (And.intro (And.intro (@zn_) (@zm_)) (And.intro (@Va_) (@KX_))) (And.intro (And.intro (@KY_) (@wh_)) (And.intro (@Sx.tup2_0) (@Sx.tup2_1)))
theorem ahk_ (v0:Value) (l:List PartL) (a0:Int) (w:World) (hv:anL_ w v0 l):
  Rets Tryz.prog 126 #[v0,vi a0] w (XS w [] (aa2_ l a0)):=by
 obtain⟨bb,off,arr,E,fz,hr⟩:=hv.row
 have ln:=hv.len
 refine Rets.enterX Tryz.func126 rfl (rs:= [.tmp 4, .tmp 5]) Tryz.results126 Tryz.ntmps126 (fun p hp=>by cases hp) (by simp[keys]) ?_
 refine kf ?_
 by_cases hc:200<l.length∨a0<0∨(l.length:Int)≤a0
 ·have hpv:vn_ l a0= .error 1:=by unfold vn_;rw[if_pos hc]
  unfold aa2_
  rw[hpv]
  by_cases h1:200<l.length
  ·have d1:decide ((200:Int)< (l.length:Int))=true:=decide_eq_true (by omega)
   first|with_reducible refine ks [] (And.intro @je_ (And.intro @ln (@d1))) ?_|refine kp (And.intro @je_ (And.intro @ln (@d1))) ?_
   refine⟨_,(ke @je_), ?_⟩
   exact⟨Ext.refl _ _,rfl⟩
  ·have d1:decide ((200:Int)< (l.length:Int))=false:=decide_eq_false (by omega)
   by_cases h2:a0<0
   ·have d2:decide (a0<0)=true:=decide_eq_true h2
    first|with_reducible refine ks [] (And.intro @je_ (And.intro @ln (And.intro @d1 (@d2)))) ?_|refine kp (And.intro @je_ (And.intro @ln (And.intro @d1 (@d2)))) ?_
    refine⟨_,(ke @je_), ?_⟩
    exact⟨Ext.refl _ _,rfl⟩
   ·have d2:decide (a0<0)=false:=decide_eq_false h2
    have d3:decide ((l.length:Int)≤a0)=true:=decide_eq_true (by omega)
    first|with_reducible refine ks [] (And.intro @je_ (And.intro @ln (And.intro @d1 (And.intro @d2 (@d3))))) ?_|refine kp (And.intro @je_ (And.intro @ln (And.intro @d1 (And.intro @d2 (@d3))))) ?_
    refine⟨_,(ke @je_), ?_⟩
    exact⟨Ext.refl _ _,rfl⟩
 ·have d1:decide ((200:Int)< (l.length:Int))=false:=decide_eq_false (by omega)
  have d2:decide (a0<0)=false:=decide_eq_false (by omega)
  have d3:decide ((l.length:Int)≤a0)=false:=decide_eq_false (by omega)
  obtain⟨A,rfl⟩: ∃A:Nat,a0=(A:Int):=⟨a0.toNat,by omega⟩
  have hpv:vn_ l (A:Int)=(xr_ l 5 A).map ([]++ ·):=by
   unfold vn_
   rw[if_neg hc,Int.toNat_natCast]
   cases xr_ l 5 A<;>rfl
  first|with_reducible refine ks [] (And.intro @je_ (And.intro @ln (And.intro @d1 (And.intro @d2 (@d3))))) ?_|refine kp (And.intro @je_ (And.intro @ln (And.intro @d1 (And.intro @d2 (@d3))))) ?_
  refine Cw.loopG (G:=PrG) [21,22,25,26,4,5,27,28,29,30,6,31,32,33,34,35,36,37,38,39,40,41,42,43,44,45,46,47,48,49,50,51,52,53,54,55,56,57,58,59,60,61,62,63,1,23,24,7] (fun g=> [(1,vi g.at_),(6,g.v),(7,vi g.out.length)]) (fun g=>g.D++g.DG) (fun g=>New w.heap.size g.D∧New w.heap.size g.DG∧Gr g.D 3 1 g.v g.out.length (g.out.map natC).flatten∧g.at_<l.length∧g.out.length≤5∧vn_ l (A:Int)=(xr_ l (5 - g.out.length) g.at_).map (g.out++ ·)) (fun g=>6 - g.out.length) ⟨A,[], .slice none 0 0,[],[]⟩ rfl rfl ?_ ?_
  ·exact⟨trivial,trivial,Gr.nl,by show A<l.length;omega,by simp,hpv⟩
  intro g j hg
  refine kv ?_
  obtain⟨a,out,v,D,DG⟩:=g
  obtain⟨hN,hNG,hG,hal,hol,hrel⟩:=hg
  simp only at hN hNG hG hal hol hrel ⊢
  have d4:decide ((out.length:Int)<6)=true:=decide_eq_true (by omega)
  by_cases h5:out.length=5
  ·have d5: ((out.length:Int)==5)=true:=by rw[h5];rfl
   rw[h5] at hrel
   have hpe:vn_ l (A:Int)= .error 11:=hrel
   first|with_reducible refine ks [] (And.intro @je_ (And.intro @d4 (@d5))) ?_|refine kp (And.intro @je_ (And.intro @d4 (@d5))) ?_
   refine⟨_,(ke @je_), ?_⟩
   refine⟨Ext.of_new (hN.app hNG), ?_⟩
   unfold aa2_
   rw[hpe]
   rfl
  ·have d5: ((out.length:Int)==5)=false:=beq_eq_false_iff_ne.2 (by omega)
   have hk5:xr_ l (5 - out.length) a=xr_ l (4 - out.length+1) a:=by congr 1;omega
   rw[hk5,xr_] at hrel
   first|with_reducible refine ks [] (And.intro @je_ (And.intro @d4 (@d5))) ?_|refine kp (And.intro @je_ (And.intro @d4 (@d5))) ?_
   refine Ow.buildSlice (e:=3) #[vi a] rfl rfl (by kernel_rfl) fun b9 hb9 hw9=> ?_
   refine ko @je_ ?_
   refine Ow.permL (M:=D++ (DG++ [(b9, .cells #[vi a] 3 (0,0))])) (by classical exact List.perm_iff_count.2 fun a=>by simp only[List.count_append,List.count_cons,List.count_nil]<;>omega) ?_
   refine Ow.appendXG (e:=3) (k:=1) (new:=natC a) (X:=D) v rfl rfl rfl rfl Tryz.underlying37 (id (by kernel_rfl):qf_ Tryz.prog 3=some (false,1)) (by kernel_rfl) (id (by kernel_rfl):zK_ Tryz.prog 3=some (vi 0)) rfl Tryz.underlying37 (by intro k h;cases h) hG (fun w' hw'=>AppX.one1 (hw'.has b9 (.cells #[vi a] 3 (0,0)) (by simp)) (afP_ a) rfl) (by omega) (fun B3 v3 D3 hA3 hB3 hG3 hk13 hk23 hlk3=> ?_)
   have hN3:New w.heap.size D3:=New.of_le fun c hc=>by
    rcases hk23 c hc with h|h
    ·exact hN.le c h
    ·omega
   have hG4:Gr D3 3 1 v3 (out++ [a]).length ((out++ [a]).map natC).flatten:=by simpa using hG3
   have hol2: (out++ [a]).length=out.length+1:=by simp
   have hNG9:New w.heap.size (DG++ [(b9, .cells #[vi a] 3 (0,0))]):=hNG.app ⟨hw9,trivial⟩
   generalize DG++ [(b9,Obj.cells #[vi a] 3 (0,0))]=DG' at*
   have hNr:New w.heap.size (D3++DG'):=hN3.app hNG9
   have hb0:0<l.length:=by omega
   have hbl:=hr.lt hb0
   have rd:zy_ w (D3++DG') bb=some (.cells arr E fz):=by rw[z6_ (hNr.not hbl)];exact hr.has hb0
   have i2:=hr.idx true a hal
   have ld0:zk_ (some (false,1)) (some (.cells arr E fz)) (off+a*3)=some (.bool (l.getD a j1_).d):=hr.cell (j:=0) (n:=1) hal (by omega)
   have ld1:zk_ (some (false,1)) (some (.cells arr E fz)) (off+a*3+1)=some (vi (l.getD a j1_).b):=hr.cell (j:=1) (n:=1) hal (by omega)
   generalize l.getD a j1_=p at*
   cases hd:p.d with
   |false=>
    rw[hd,if_neg (by simp)] at hrel
    rw[hd] at ld0
    by_cases hb:p.b=0
    ·have e1: (p.b !=0)=false:=by rw[hb];rfl
     rw[if_neg (by simp[hb])] at hrel
     refine ko (And.intro @je_ (And.intro @i2 (And.intro @rd (And.intro @ld0 (And.intro @ld1 (@e1)))))) ?_
     first|with_reducible refine ks [] (And.intro @je_ (And.intro @i2 (And.intro @rd (And.intro @ld0 (And.intro @ld1 (@e1)))))) ?_|refine kp (And.intro @je_ (And.intro @i2 (And.intro @rd (And.intro @ld0 (And.intro @ld1 (@e1)))))) ?_
     refine⟨_,(ke @je_), ?_⟩
     refine⟨Ext.of_new hNr, ?_⟩
     unfold aa2_
     rw[hrel]
     exact⟨v3,rfl,by show(out++ [a]).length≤5;omega,Gr.i hG4 fun c hc=>by simp[hc]⟩
    ·have e1: (p.b !=0)=true:=by rw[bne_iff_ne];exact hb
     rw[if_pos hb] at hrel
     have hpe:vn_ l (A:Int)= .error 2:=hrel
     refine ko (And.intro @je_ (And.intro @i2 (And.intro @rd (And.intro @ld0 (And.intro @ld1 (@e1)))))) ?_
     first|with_reducible refine ks [] (And.intro @je_ (And.intro @i2 (And.intro @rd (And.intro @ld0 (And.intro @ld1 (@e1)))))) ?_|refine kp (And.intro @je_ (And.intro @i2 (And.intro @rd (And.intro @ld0 (And.intro @ld1 (@e1)))))) ?_
     refine⟨_,(ke @je_), ?_⟩
     refine⟨Ext.of_new hNr, ?_⟩
     unfold aa2_
     rw[hpe];rfl
   |true=>
    rw[hd,if_pos rfl] at hrel
    rw[hd] at ld0
    by_cases hb:p.b<0
    ·have e1:decide (p.b<0)=true:=decide_eq_true hb
     rw[if_pos (.inl hb)] at hrel
     have hpe:vn_ l (A:Int)= .error 2:=hrel
     refine ko (And.intro @je_ (And.intro @i2 (And.intro @rd (And.intro @ld0 (And.intro @ld1 (@e1)))))) ?_
     first|with_reducible refine ks [] (And.intro @je_ (And.intro @i2 (And.intro @rd (And.intro @ld0 (And.intro @ld1 (@e1)))))) ?_|refine kp (And.intro @je_ (And.intro @i2 (And.intro @rd (And.intro @ld0 (And.intro @ld1 (@e1)))))) ?_
     refine⟨_,(ke @je_), ?_⟩
     refine⟨Ext.of_new hNr, ?_⟩
     unfold aa2_
     rw[hpe];rfl
    ·have e1:decide (p.b<0)=false:=decide_eq_false hb
     by_cases hb2: (a:Int)≤p.b
     ·have e2:decide ((a:Int)≤p.b)=true:=decide_eq_true hb2
      rw[if_pos (.inr hb2)] at hrel
      have hpe:vn_ l (A:Int)= .error 2:=hrel
      refine ko (And.intro @je_ (And.intro @i2 (And.intro @rd (And.intro @ld0 (And.intro @ld1 (And.intro @e1 (@e2))))))) ?_
      first|with_reducible refine ks [] (And.intro @je_ (And.intro @i2 (And.intro @rd (And.intro @ld0 (And.intro @ld1 (And.intro @e1 (@e2))))))) ?_|refine kp (And.intro @je_ (And.intro @i2 (And.intro @rd (And.intro @ld0 (And.intro @ld1 (And.intro @e1 (@e2))))))) ?_
      refine⟨_,(ke @je_), ?_⟩
      refine⟨Ext.of_new hNr, ?_⟩
      unfold aa2_
      rw[hpe];rfl
     ·have e2:decide ((a:Int)≤p.b)=false:=decide_eq_false hb2
      rw[if_neg (by omega)] at hrel
      obtain⟨Bn,hBn⟩: ∃Bn:Nat,p.b=(Bn:Int):=⟨p.b.toNat,by omega⟩
      rw[hBn] at ld1 e1 e2 hrel
      rw[Int.toNat_natCast] at hrel
      refine ko (And.intro @je_ (And.intro @i2 (And.intro @rd (And.intro @ld0 (And.intro @ld1 (And.intro @e1 (@e2))))))) ?_
      first|with_reducible refine ks [] (And.intro @je_ (And.intro @i2 (And.intro @rd (And.intro @ld0 (And.intro @ld1 (And.intro @e1 (@e2))))))) ?_|refine kp (And.intro @je_ (And.intro @i2 (And.intro @rd (And.intro @ld0 (And.intro @ld1 (And.intro @e1 (@e2))))))) ?_
      refine Again.mk ⟨Bn,out++ [a],v3,D3,DG'⟩ (by show 6 - (out++ [a]).length<6 - out.length;omega) ⟨hN3,hNG9,hG4,by show Bn<l.length;omega,by show(out++ [a]).length≤5;omega, ?_⟩ rfl (by simp only[hol2];rfl)
      show vn_ l (A:Int)=(xr_ l (5 - (out++ [a]).length) Bn).map ((out++ [a])++ ·)
      rw[hrel,show 5 - (out++ [a]).length=4 - out.length by omega]
      split
      ·rename_i h4
       rw[h4];rfl
      ·cases xr_ l (4 - out.length) Bn with
       |error x=>rfl
       |ok x=>show Except.ok _=Except.ok _;simp
end Go.Proofs
end
section
open Go Go.Proofs Go.Sx Go.StP Go.Flo
namespace Go.Proofs
set_option maxRecDepth 10000
set_option maxHeartbeats 400000
set_option linter.unusedSimpArgs false
def BndD (l:List PartL):Prop:= ∀g,g<l.length→(l.getD g j1_).x.length<100000000
theorem ZO_ {α:Type} {enc:α→List Value} {m:Nat} {D:ze_} {E:TypeId} {v:Value} {l:List α} (h:GrI D E m v l.length (l.map enc).flatten) (hn: (keys D).Nodup):l.length=0∨ ∃b c rest,v=vsl b 0 l.length c∧b∈keys D∧Sx.look D b=some (vo_ enc E rest l):=by
 obtain⟨X,hX,h| ⟨h0,-⟩⟩:=h
 ·rcases h.inv with⟨-,h0,-⟩ | ⟨b,c,rest,rfl,hl,h1,h2,h3,h4⟩
  ·exact .inl h0
  ·exact .inr ⟨b,c,rest,rfl,List.mem_map_of_mem (f:=Prod.fst) (hX _ (zq_ hl)),jK_ hn (hX _ (zq_ hl))⟩
 ·exact .inl h0
structure TrG where
 n:Nat
 s:List UInt8
 DG:ze_
set_option linter.defProp false
def jL_:=And.intro (And.intro (And.intro (@zn_) (@zm_)) (And.intro (@Va_) (@KX_))) (And.intro (And.intro (@KY_) (@wh_)) (And.intro (@Sx.tup2_0) (@Sx.tup2_1)))
theorem aet_ (v0:Value) (l:List PartL) (a0:Int) (w:World) (hv:anL_ w v0 l) (hb:BndD l):
  Rets Tryz.prog 100 #[v0,vi a0] w (fun v D=>v=ahH_ (partV l a0)∧D= []):=by
 obtain⟨bb,off,arr,E,fz,hr⟩:=hv.row
 refine Rets.enterV Tryz.func100 rfl (rs:= [.tmp 4, .tmp 5]) Tryz.results100 Tryz.ntmps100 ?_
 refine kf ?_
 first|with_reducible refine ks [] @jL_ ?_|refine kp @jL_ ?_
 refine Ow.callC rfl rfl Tryz.call126 (fun w' hw'=>ahk_ v0 l a0 w' (hv.oldN hw' trivial)) (fun B1 v1 D1 hA1 hB1 hN1 hS1=> ?_)
 have hN1':=hN1.mono hB1
 unfold aa2_ at hS1
 unfold partV
 cases hp:vn_ l a0 with
 |error e=>
  rw[hp] at hS1
  have hS1':v1= .tuple #[.slice none 0 0,vi e]:=hS1
  subst hS1'
  have e0: (e !=0)=true:=by rw[bne_iff_ne];exact aac_ hp
  refine ko @jL_ ?_
  first|with_reducible refine ks [] (And.intro @jL_ @e0) ?_|refine kp (And.intro @jL_ @e0) ?_
  refine⟨_,(ke @jL_),hN1', ?_⟩
  rfl
 |ok p=>
  rw[hp] at hS1
  obtain⟨x,rfl,hp5,hgp⟩:=hS1
  have hlt:=amg_ hp
  have e0: ((0:Int) !=0)=false:=rfl
  have hlen: ∀m,Zz_ (.sl m) x=some (vi p.length):=fun m=>kr_ hgp m
  rw[List.nil_append]
  refine ko (And.intro @jL_ (And.intro @e0 (@hlen))) ?_
  first|with_reducible refine ks [] @jL_ ?_|refine kp @jL_ ?_
  refine Cw.world fun wz hwz=> ?_
  have hnd:=hwz.nodup
  clear hwz wz
  refine Cw.permL (M:=D1++ []) (by rw[List.append_nil]) ?_
  refine Cw.loopG (G:=TrG) [25,26,29,30,31,32,33,34,35,10,36,37,38,39,40,41,42,4,5,43,44,8,46,47,48,49,45,50,51,11,12,52,53,54,55,27,28,9] (fun g=> [(8,vs g.s),(9,vi ((g.n:Int) - 1))]) (fun g=>D1++g.DG) (fun g=>g.n≤p.length∧vh_ l (p.drop g.n)= .ok g.s∧New w.heap.size g.DG) (fun g=>g.n) ⟨p.length,[],[]⟩ rfl rfl ?_ ?_
  ·exact⟨Nat.le_refl _,by rw[List.drop_length];rfl,trivial⟩
  intro g j hg
  refine kv ?_
  obtain⟨n,s,DG⟩:=g
  simp only at hg ⊢
  obtain⟨hn1,hfn,hNG⟩:=hg
  have hNr:New w.heap.size (D1++DG):=hN1'.app hNG
  cases n with
  |zero=>
   have d1:decide ((0:Int)≤ ((0:Nat):Int) - 1)=false:=rfl
   first|with_reducible refine ks [] (And.intro @jL_ @d1) ?_|refine kp (And.intro @jL_ @d1) ?_
   refine⟨_,(ke @jL_),hNr, ?_⟩
   rw[List.drop_zero] at hfn;show _=ahH_ ((Except.ok p).bind (vh_ l));rw[show(Except.ok p).bind (vh_ l)=vh_ l p from rfl,hfn];rfl
  |succ n=>
   have en: ((n+1:Nat):Int) - 1=(n:Int):=by omega
   rw[en]
   have d1:decide ((0:Int)≤ (n:Int))=true:=decide_eq_true (by omega)
   obtain h0| ⟨bp,cp,rp,rfl,hkp,hlk⟩:=ZO_ hgp hnd
   ·omega
   have hnl:n<p.length:=by omega
   have rdp:zy_ w (D1++DG) bp=some (vo_ natC 3 rp p):=za_ (zi_ hlk)
   have lp:=amC_ (E:=3) (rest:=rp) 1 n hnl
   have hmem:p.getD n 0<l.length:=hlt _ (xd_ hnl)
   have hdr:p.drop n=p.getD n 0::p.drop (n+1):=aiX_ (z:=0) hnl
   have hfo:vh_ l (p.drop n)=if(xQ_ (l.getD (p.getD n 0) j1_) s).2=0 then .ok (xQ_ (l.getD (p.getD n 0) j1_) s).1 else .error (xQ_ (l.getD (p.getD n 0) j1_) s).2:=by
    rw[hdr,vh_,hfn];rfl
   generalize p.getD n 0=a at*
   have hb0:0<l.length:=by omega
   have hbl:=hr.lt hb0
   have rd:zy_ w (D1++DG) bb=some (.cells arr E fz):=by rw[z6_ (hNr.not hbl)];exact hr.has hb0
   have i2:=hr.idx true a hmem
   have ld:=hr.load Xn_ (by omega) hmem
   have hpx:=hb a hmem
   generalize l.getD a j1_=pt at*
   have hst:=K2_ pt j1_ 193
   first|with_reducible refine ks [7] (And.intro @jL_ (And.intro @d1 (And.intro @lp (And.intro @rdp (And.intro @rd (And.intro @i2 (@ld))))))) ?_|refine kp (And.intro @jL_ (And.intro @d1 (And.intro @lp (And.intro @rdp (And.intro @rd (And.intro @i2 (@ld))))))) ?_
   refine Ow.alloc rfl rfl aaD_ fun b10 hb10 hw10=> ?_
   simp only[zh_,List.nil_append,List.cons_append]
   refine Ow.permL (M:=(b10, .cells (qx_ j1_).toArray 193 (0,0)):: (D1++DG)) (by classical exact List.perm_iff_count.2 fun a=>by simp only[List.count_append,List.count_cons,List.count_nil]<;>omega) ?_
   cases hd:pt.d with
   |false=>
    by_cases hl4:4099<pt.x.length
    ·have d2:decide ((4099:Int)< (pt.x.length:Int))=true:=decide_eq_true (by omega)
     have ht:xQ_ pt s=([],19):=by unfold xQ_;rw[if_neg (by rw[hd];decide),if_pos hl4]
     rw[ht,if_neg (by decide)] at hfo
     refine ko (And.intro @jL_ (And.intro @hst (And.intro @hd (@d2)))) ?_
     first|with_reducible refine ks [] (And.intro @jL_ (And.intro @hd (@d2))) ?_|refine kp (And.intro @jL_ (And.intro @hd (@d2))) ?_
     refine⟨_,(ke @jL_),(show New w.heap.size ((b10,_):: (D1++DG)) from⟨hw10,hNr⟩), ?_⟩
     show _=ahH_ (vh_ l p);rw[Z7_ p n hfo];rfl
    ·have d2:decide ((4099:Int)< (pt.x.length:Int))=false:=decide_eq_false (by omega)
     have ht:xQ_ pt s=(pt.x,0):=by unfold xQ_;rw[if_neg (by rw[hd];decide),if_neg hl4]
     rw[ht,if_pos rfl] at hfo
     refine ko (And.intro @jL_ (And.intro @hst (And.intro @hd (@d2)))) ?_
     refine Cw.permL (M:=D1++ ((b10, .cells (qx_ pt).toArray 193 (0,0))::DG)) (by classical exact List.perm_iff_count.2 fun a=>by simp only[List.count_append,List.count_cons,List.count_nil]<;>omega) ?_
     first|with_reducible refine ks [] @jL_ ?_|refine kp @jL_ ?_
     exact Again.mk ⟨n,pt.x,(b10, .cells (qx_ pt).toArray 193 (0,0))::DG⟩ (by show n<n+1;omega) ⟨by show n≤p.length;omega,hfo,⟨hw10,hNG⟩⟩ rfl rfl
   |true=>
    have ht:xQ_ pt s=xi_ s pt.x:=by unfold xQ_;rw[if_pos hd]
    rw[ht] at hfo
    refine ko (And.intro @jL_ (And.intro @hst (@hd))) ?_
    first|with_reducible refine ks [] (And.intro @jL_ @hd) ?_|refine kp (And.intro @jL_ @hd) ?_
    refine Ow.callFV rfl Tryz.call127 (fun w' hw'=>aek_ s pt.x w' hpx) ?_
    by_cases he: (xi_ s pt.x).2=0
    ·have e1: ((xi_ s pt.x).2 !=0)=false:=by rw[he];rfl
     rw[if_pos he] at hfo
     refine ko (And.intro @jL_ @e1) ?_
     refine Cw.permL (M:=D1++ ((b10, .cells (qx_ pt).toArray 193 (0,0))::DG)) (by classical exact List.perm_iff_count.2 fun a=>by simp only[List.count_append,List.count_cons,List.count_nil]<;>omega) ?_
     first|with_reducible refine ks [] @jL_ ?_|refine kp @jL_ ?_
     exact Again.mk ⟨n,(xi_ s pt.x).1,(b10, .cells (qx_ pt).toArray 193 (0,0))::DG⟩ (by show n<n+1;omega) ⟨by show n≤p.length;omega,hfo,⟨hw10,hNG⟩⟩ rfl rfl
    ·have e1: ((xi_ s pt.x).2 !=0)=true:=by rw[bne_iff_ne];exact he
     rw[if_neg he] at hfo
     refine ko @jL_ ?_
     first|with_reducible refine ks [] (And.intro @jL_ @e1) ?_|refine kp (And.intro @jL_ @e1) ?_
     refine⟨_,(ke @jL_),(show New w.heap.size ((b10,_):: (D1++DG)) from⟨hw10,hNr⟩), ?_⟩
     show _=ahH_ (vh_ l p);rw[Z7_ p n hfo];rfl
end Go.Proofs
end
section
open Go Go.Proofs Go.Sx Go.StP Go.Flo
namespace Go.Proofs
set_option maxRecDepth 10000
set_option maxHeartbeats 400000
set_option linter.unusedSimpArgs false
set_option linter.defProp false
end Go.Proofs
end
section
open Go Go.Proofs Go.Sx Go.StP Go.Flo
namespace Go.Proofs
set_option maxRecDepth 10000
set_option maxHeartbeats 400000
set_option linter.unusedSimpArgs false
theorem adC_ (s:List UInt8) (a:Nat) (e most:Int):zF_ s (a+1) e most=((zF_ (s.drop 1) a e most).1,(zF_ (s.drop 1) a e most).2.1+1,(zF_ (s.drop 1) a e most).2.2):=by
 unfold zF_
 rw[List.drop_drop,Nat.add_comm 1 a]
 by_cases he:e≠0
 ·rw[if_pos he,if_pos he]
 ·rw[if_neg he,if_neg he]
  cases qZ_ most (List.drop (a+1) s) 0 0 with
  |error x=>rfl
  |ok p=>simp only[Prod.mk.injEq,true_and];exact⟨by omega,trivial⟩
theorem aeh_ (s:List UInt8) (a:Nat) (e n:Int) (hs:1≤s.length):jM_ s (a+1) e n=((jM_ (s.drop 1) a e n).1,(jM_ (s.drop 1) a e n).2.1+1,(jM_ (s.drop 1) a e n).2.2):=by
 unfold jM_
 rw[List.length_drop,List.drop_drop,Nat.add_comm 1 a]
 have hq: ((s.length:Int) - ((a+1:Nat):Int)<n)=(((s.length - 1:Nat):Int) - (a:Int)<n):=by rw[eq_iff_iff];omega
 simp only[hq]
 by_cases he:e≠0
 ·simp only[if_pos he]
 ·simp only[if_neg he]
  by_cases hn:n<0
  ·simp only[if_pos hn]
  ·simp only[if_neg hn]
   by_cases hl: ((s.length - 1:Nat):Int) - (a:Int)<n
   ·simp only[if_pos hl]
   ·simp only[if_neg hl,Prod.mk.injEq,true_and]
    exact⟨by omega,trivial⟩
theorem aaY_ (s:List UInt8) (a:Nat) (e most:Int) (hs:1≤s.length):zX_ s (a+1) e most=((zX_ (s.drop 1) a e most).1,(zX_ (s.drop 1) a e most).2.1+1,(zX_ (s.drop 1) a e most).2.2):=by
 unfold zX_
 simp only[adC_]
 rw[aeh_ _ _ _ _ hs]
 simp only
 split<;>rfl
theorem afe_ (c:UInt8) (r:List UInt8):frR (c::r)=([c],1,0):=by
 unfold frR jM_
 rw[if_neg (by simp),if_neg (by decide),if_neg (by simp only[List.length_cons];omega)]
 rfl
theorem aeQ_ (c:UInt8) (r:List UInt8):frT (c::r)=((lfT r).1,(lfT r).2.1+1,(lfT r).2.2):=by
 unfold frT
 rw[afe_]
 exact aaY_ (c::r) 0 0 4096 (by simp)
theorem akj_ (c:UInt8) (r:List UInt8) (a:Nat) (e:Int):wl_ (c::r) (a+1) e=wl_ r a e:=by
 unfold wl_
 rw[List.length_cons]
 have: ((((a+1:Nat):Int)< ((r.length+1:Nat):Int))=((a:Int)< (r.length:Int))):=by rw[eq_iff_iff];omega
 simp only[this]
theorem alq_ (c:UInt8) (r:List UInt8): (fkC c=0∧ ¬ (1≤frK (c::r)∧frK (c::r)≤3))∨(fkC c≠0∧frK (c::r)=fkC c∧aqP_ (fkC c)= [c]):=by
 have e:frK (c::r)=Lib.indexByte letL c:=by unfold frK;rw[afe_];rfl
 rw[e]
 by_cases h1:c=98
 ·subst h1;exact .inr ⟨by decide,rfl,rfl⟩
 by_cases h2:c=116
 ·subst h2;exact .inr ⟨by decide,rfl,rfl⟩
 by_cases h3:c=99
 ·subst h3;exact .inr ⟨by decide,rfl,rfl⟩
 refine .inl ⟨by unfold fkC;rw[if_neg h1,if_neg h2,if_neg h3], ?_⟩
 have b1: ((98:UInt8)==c)=false:=beq_eq_false_iff_ne.2 (Ne.symm h1)
 have b2: ((116:UInt8)==c)=false:=beq_eq_false_iff_ne.2 (Ne.symm h2)
 have b3: ((99:UInt8)==c)=false:=beq_eq_false_iff_ne.2 (Ne.symm h3)
 simp only[Lib.indexByte,b1,b2,b3,Bool.false_eq_true, ↓reduceIte]
 split<;>simp
theorem ai3_ {k:Int} {t:List UInt8} (h: ¬ (1≤k∧k≤3)):RdOk k t=false:=by
 unfold RdOk;rw[if_neg (fun h'=>h ⟨h'.1,h'.2.1⟩)]
theorem anS_ (s:List UInt8):frOk s=lfOk s∧(frOk s=true→frK s=lfK s∧(frT s).1=(lfT (s.drop 1)).1):=by
 cases s with
 |nil=>
  have h:frOk []=false:=by
   unfold frOk
   rw[ai3_ (k:=frK []) (by decide),Bool.and_false]
  exact⟨by rw[h];rfl,fun h'=>by rw[h] at h';cases h'⟩
 |cons c r=>
  have e1:frOk (c::r)=(wl_ r (lfT r).2.1 (lfT r).2.2==0&&RdOk (frK (c::r)) (lfT r).1):=by
   unfold frOk;rw[aeQ_,akj_]
  have e2:lfOk (c::r)=(fkC c !=0&&wl_ r (lfT r).2.1 (lfT r).2.2==0&&xP_ (fkC c) (lfT r).1):=rfl
  rcases alq_ c r with⟨h1,h2⟩ | ⟨h1,h2,-⟩
  ·rw[e1,e2,ai3_ h2,h1,Bool.and_false]
   exact⟨rfl,fun h=>by cases h⟩
  ·have h3: (fkC c !=0)=true:=by simpa using h1
   rw[e1,e2,h2,h3,K8_,Bool.true_and]
   refine⟨rfl,fun _=>⟨rfl, ?_⟩⟩
   rw[aeQ_];rfl
set_option linter.defProp false
end Go.Proofs
end
section
open Go Go.Proofs Go.Sx Go.StP Go.Flo
namespace Go.Proofs
set_option maxRecDepth 10000
set_option maxHeartbeats 1000000
set_option linter.unusedSimpArgs false
theorem Jd_ (s:List UInt8):vF_ s=⟨if lfOk s then lfK s else 0,if lfOk s then(lfT (s.drop 1)).1 else []⟩:=by
 unfold vF_
 have h:=anS_ s
 rw[←h.1]
 cases hf:frOk s
 ·rfl
 ·rw[(h.2 hf).1,(h.2 hf).2]
theorem alH_ {k:Int} {t:List UInt8} (h:RdOk k t=true):t.length≤4096:=by
 unfold RdOk at h
 split at h
 ·rename_i h1;exact h1.2.2
 ·cases h
set_option linter.defProp false
end Go.Proofs
end
section
open Go Go.Proofs Go.Sx Go.StP Go.Flo
namespace Go.Proofs
set_option maxRecDepth 10000
set_option maxHeartbeats 400000
set_option linter.unusedSimpArgs false
theorem Z2_ (l:List PartL): ∀k,(kw_ l k).length≤k
 |0=>Nat.le_refl _
 |k+1=>by
  have:=Z2_ l k
  unfold kw_
  split
  ·split
   ·simp;omega
   ·omega
  ·omega
set_option linter.defProp false
end Go.Proofs
end
section
open Go Go.Proofs Go.Sx Go.StP Go.Flo
namespace Go.Proofs
set_option maxRecDepth 10000
set_option maxHeartbeats 400000
set_option linter.unusedSimpArgs false
end Go.Proofs
end
section
open Go Go.Proofs Go.Sx Go.StP Go.Flo
namespace Go.Proofs
set_option maxRecDepth 10000
set_option maxHeartbeats 400000
set_option linter.unusedSimpArgs false
set_option linter.defProp false
end Go.Proofs
end
section
open Go Go.Proofs Go.Sx Go.StP Go.Flo
namespace Go.Proofs
set_option maxRecDepth 10000
set_option maxHeartbeats 400000
set_option linter.unusedSimpArgs false
theorem aq8_ (k k':Int) (t t':List UInt8):q7_ Tryz.prog .eql 116 (obV k t) (obV k' t')=some (.bool (decide ((⟨k,t⟩:ObL)=⟨k',t'⟩))):=arP_ ⟨k,t⟩ ⟨k',t'⟩
set_option linter.defProp false
end Go.Proofs
end
section
open Go Go.Proofs Go.Sx Go.StP Go.Flo
namespace Go.Proofs
set_option maxRecDepth 10000
set_option maxHeartbeats 400000
set_option linter.unusedSimpArgs false
set_option linter.defProp false
end Go.Proofs
end
namespace Go.Sx
def kB (c:Bool):BitVec 32:=bif c then 3988292384#32 else 0#32
def stB (x:BitVec 32):BitVec 32:=(x>>>1)^^^kB (x.getLsbD 0)
theorem ap2_ (c:Bool) (j:Nat) (h:j<5): (kB c).getLsbD j=false:=by
 have:j=0∨j=1∨j=2∨j=3∨j=4:=by omega
 rcases this with rfl|rfl|rfl|rfl|rfl<;>cases c<;>decide
theorem Qs_ (x:BitVec 32) (j:Nat) (h:j<5): (stB x).getLsbD j=x.getLsbD (j+1):=by
 unfold stB
 rw[BitVec.getLsbD_xor,ap2_ _ _ h,BitVec.getLsbD_ushiftRight,Bool.xor_false,Nat.add_comm]
theorem stB4 (x:BitVec 32):stB (stB (stB (stB x)))=(x>>>4)^^^ (kB (x.getLsbD 0)>>>3^^^kB (x.getLsbD 1)>>>2^^^kB (x.getLsbD 2)>>>1^^^kB (x.getLsbD 3)):=by
 have h1: (stB x).getLsbD 0=x.getLsbD 1:=Qs_ x 0 (by omega)
 have h2: (stB (stB x)).getLsbD 0=x.getLsbD 2:=by rw[Qs_ _ 0 (by omega),Qs_ _ 1 (by omega)]
 have h3: (stB (stB (stB x))).getLsbD 0=x.getLsbD 3:=by rw[Qs_ _ 0 (by omega),Qs_ _ 1 (by omega),Qs_ _ 2 (by omega)]
 have e4:stB (stB (stB (stB x)))=(stB (stB (stB x))>>>1)^^^kB (x.getLsbD 3):=by rw[←h3];rfl
 have e3:stB (stB (stB x))=(stB (stB x)>>>1)^^^kB (x.getLsbD 2):=by rw[←h2];rfl
 have e2:stB (stB x)=(stB x>>>1)^^^kB (x.getLsbD 1):=by rw[←h1];rfl
 have e1:stB x=(x>>>1)^^^kB (x.getLsbD 0):=rfl
 rw[e4,e3,e2,e1]
 simp only[BitVec.ushiftRight_xor_distrib,←BitVec.shiftRight_add,BitVec.xor_assoc]
def hvB:List (BitVec 32):= [0x00000000,0x1db71064,0x3b6e20c8,0x26d930ac,0x76dc4190,0x6b6b51f4,0x4db26158,0x5005713c,0xedb88320,0xf00f9344,0xd6d6a3e8,0xcb61b38c,0x9b64c2b0,0x86d3d2d4,0xa00ae278,0xbdbdf21c]
theorem tabB: ∀a b c d:Bool,(kB a>>>3^^^kB b>>>2^^^kB c>>>1^^^kB d)=hvB.getD (a.toNat+2*b.toNat+4*c.toNat+8*d.toNat) 0:=by decide
theorem lowB (x:BitVec 32):x.toNat%16=(x.getLsbD 0).toNat+2* (x.getLsbD 1).toNat+4* (x.getLsbD 2).toNat+8* (x.getLsbD 3).toNat:=by
 have e: ∀i,(x.getLsbD i).toNat=x.toNat / 2^i%2:=by
  intro i
  rw[BitVec.getLsbD,Nat.testBit_eq_decide_div_mod_eq]
  have:=Nat.mod_lt (x.toNat / 2^i) (show 0<2 by omega)
  by_cases h:x.toNat / 2^i%2=1
  ·simp[h]
  ·have h0:x.toNat / 2^i%2=0:=by omega
   simp[h0]
 rw[e 0,e 1,e 2,e 3]
 omega
theorem arE_ (x:BitVec 32):stB (stB (stB (stB x)))=(x>>>4)^^^hvB.getD (x.toNat%16) 0:=by
 rw[stB4,tabB,lowB]
end Go.Sx
