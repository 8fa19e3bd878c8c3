/-
  Part 3 of the walk: contracts of the functions that the law reaches, and the calculus they stand on.
  No conditions.
-/
import Derived.Test.YtjjiclcgdngfdaaGreatDoorV2
section
open Go Go.Proofs Go.Sx Go.StP
namespace Go.Proofs
set_option maxRecDepth 10000
set_option maxHeartbeats 400000
set_option linter.unusedSimpArgs false
theorem DkP.stl1 {X L:aA} {G:DkG} {S:DiskL} (h:DkP X G S) {k:Nat} (hk:k<3) {l':NmL} (keep: ∀b o,Sx.look X b=some o→b≠G.t k→Sx.look L b=some o) (hs:NmM L G.fb (G.t k) l') (h1:SrtN l') (h3: ∀p,p∈l'→p.2<S.files.length):
  DkP L G (dX S k ⟨(S.dir k).seen,l',(S.dir k).pend⟩):=by
 obtain⟨osk,msk,ns,nk,-⟩:=h.stl k hk
 have dN: ∀b o,Sx.look X b=some o→tyO o≠none→b≠G.t k:=by
  rintro b o hb ht rfl
  rw[ns] at hb;cases hb;exact ht (iQ nk)
 have K: ∀b o,Sx.look X b=some o→tyO o≠none→Sx.look L b=some o:=fun b o hb h1=>keep b o hb (dN b o hb h1)
 have es: ∀j,(dX S k ⟨(S.dir k).seen,l',(S.dir k).pend⟩).dir j=if j=k then⟨(S.dir k).seen,l',(S.dir k).pend⟩ else S.dir j:=fun _=>rfl
 have e2: ∀j,((dX S k ⟨(S.dir k).seen,l',(S.dir k).pend⟩).dir j).seen=(S.dir j).seen:=fun j=>by
  rw[es];by_cases e:j=k
  ·subst e;rw[if_pos rfl]
  ·rw[if_neg e]
 have e3: ∀j,((dX S k ⟨(S.dir k).seen,l',(S.dir k).pend⟩).dir j).pend=(S.dir j).pend:=fun j=>by
  rw[es];by_cases e:j=k
  ·subst e;rw[if_pos rfl]
  ·rw[if_neg e]
 refine⟨K _ _ h.disk (by simp[tyO,bF]), ?_,fun j hj=>K _ _ (h.dir j hj) (by simp[tyO,cG]),fun j hj=> ?_,fun j hj=> ?_,fun j hj=> ?_,fun n hn=>K _ _ (h.file n hn) (by simp[tyO,cQ]),h.len,h.nodf,h.nodm,h.nodd,h.nodb,h.nodp,va h.ok _ (h.ok.seen k hk) h1 (h.ok.seenN k hk) h3 (h.ok.pendN k hk)⟩
 ·obtain⟨o,h1,h2⟩:=h.dirs
  exact⟨o,keep _ _ h1 (h.nodb k hk).2,h2⟩
 ·rw[e2]
  obtain⟨o,m,h1,h2,h3⟩:=h.seen j hj
  exact⟨o,m,keep _ _ h1 (oE h.nodm hj hk).2.2,h2,h3⟩
 ·rw[es]
  by_cases e:j=k
  ·subst e;rw[if_pos rfl];exact hs
  ·rw[if_neg e]
   obtain⟨o,m,h1,h2,h3⟩:=h.stl j hj
   exact⟨o,m,keep _ _ h1 ((oE h.nodm hj hk).2.1 e),h2,h3⟩
 ·rw[e3]
  obtain⟨vals,h1,h2,h3⟩:=h.pend j hj
  refine⟨vals,h1,h2.keep fun b o hb ho=> ?_,fun i hi=>(h3 i hi).keep fun b o ho hx=>K b o ho ?_⟩
  ·obtain⟨arr,ha⟩:=gd h2 hb
   rw[ho] at ha;cases ha
   exact K _ _ ho (by simp[tyO])
  ·rcases hx with⟨s,rfl⟩ | ⟨a,rfl⟩<;>simp[tyO,dI,iC]
theorem kX (S:DiskL) (k:Nat) (d:DirL): (dX S k d).dir k=d:=by
 unfold dX;simp
theorem lE (S:DiskL) {k j:Nat} (d:DirL) (h:j≠k): (dX S k d).dir j=S.dir j:=by
 unfold dX;simp[h]
theorem VD (S:DiskL) (k:Nat) (d d':DirL):dX (dX S k d) k d'=dX S k d':=by
 unfold dX
 simp only
 congr 1
 funext j
 by_cases e:j=k
 ·rw[if_pos e,if_pos e]
 ·rw[if_neg e,if_neg e,if_neg e]
def zy (d:DirL):Prop:= ∀i,i<d.pend.length→okC ((d.pend.take i).foldl cJ d.stl) (d.pend.getD i jx)
def kP (S:DiskL) (k i:Nat):NmL:=((S.dir k).pend.take i).foldl cJ (S.dir k).stl
def pO (q:DiskL×List UInt16) (k:Nat):DiskL×List UInt16:=
 (dX q.1 k ⟨kP q.1 k (jT q.2 (q.1.dir k).pend.length),kP q.1 k (jT q.2 (q.1.dir k).pend.length),[]⟩,q.2.drop 1)
def ec (q:DiskL×List UInt16):Nat→DiskL×List UInt16
 |0=>q
 |k+1=>pO (ec q k) k
theorem yK (l:List UInt16) (n:Nat):jT l n≤n:=by
 unfold jT
 split
 ·exact Nat.zero_le _
 ·have:=Nat.mod_lt ‹UInt16›.toNat (show 0<n+1 by omega)
  omega
theorem Ik {S:DiskL} {k i:Nat} (h:i< (S.dir k).pend.length):kP S k (i+1)=cJ (kP S k i) ((S.dir k).pend.getD i jx):=by
 unfold kP
 rw[StP.take_snoc (z:=jx) h,List.foldl_append];rfl
end Go.Proofs
end
section
open Go Go.Proofs Go.Sx Go.StP
namespace Go.Proofs
set_option maxRecDepth 10000
set_option maxHeartbeats 400000
set_option linter.unusedSimpArgs false
theorem DkP.away {X:aA} {G:DkG} {S:DiskL} (h:DkP X G S) {b:Nat} {v:Value} (hb:Sx.look X b=some (cg v)) (x:Obj):DkP (setB X b x) G S where
 disk:=fv hb h.disk (by simp[tyO,bF,cg])
 dirs:=by obtain⟨o,h1,h2⟩:=h.dirs;exact⟨o,fv hb h1 (by rw[iQ h2];intro e;cases e),h2⟩
 dir k cb:=fv hb (h.dir k cb) (by simp[tyO,cG,cg])
 seen k cb:=by
  obtain⟨o,m,h1,h2,h3⟩:=h.seen k cb
  exact⟨o,m,fv hb h1 (by rw[iQ h2];intro e;cases e),h2,h3⟩
 stl k cb:=by
  obtain⟨o,m,h1,h2,h3⟩:=h.stl k cb
  exact⟨o,m,fv hb h1 (by rw[iQ h2];intro e;cases e),h2,h3⟩
 pend k cb:=by
  obtain⟨vals,h1,h2,h3⟩:=h.pend k cb
  refine⟨vals,h1,h2.keep fun b o dZ ho=> ?_,fun i hi=>(h3 i hi).keep fun b o ho hx=>fv hb ho ?_⟩
  ·obtain⟨arr,ha⟩:=gd h2 dZ
   rw[ho] at ha;cases ha
   exact fv hb ho (by simp[tyO,cg])
  ·rcases hx with⟨s,rfl⟩ | ⟨a,rfl⟩<;>simp[tyO,cg,dI,iC]
 file n hn:=fv hb (h.file n hn) (by simp[tyO,cQ,cg])
 len:=h.len
 nodf:=h.nodf
 nodm:=h.nodm
 nodd:=h.nodd
 nodb:=h.nodb
 nodp:=h.nodp
 ok:=h.ok
theorem wo {w:World} {v v':Value} {q:List UInt16} (hv:PkS w v q) (h1:q= []→v'=v) (h2:q≠ []→ft (.sl (false,1)) v (some (some 1)) none=some v'):PkS w v' (q.drop 1)∧ ∀ {X:aA},PkB w X q v→PkB w X (q.drop 1) v':=by
 cases q with
 |nil=>rw[h1 rfl];exact⟨hv,fun h=>h⟩
 |cons x l=>
  have hv:tM w v (x::l):=hv.resolve_right fun e=>by cases e.1
  obtain⟨v2,e1,e2,e3⟩:=hv.dropE (k:=1) (by simp) false
  have:=h2 (by simp)
  rw[show((1:Nat):Int)=1 from rfl,this] at e1
  cases e1
  exact⟨.inl e2,fun h _ b hb=>h (by simp) b (e3 b hb)⟩
theorem P3 {w w1:World} {L:aA} {T:TypeId} {v:Value} {vals:List Value} (h:Gr L T 1 v vals.length vals) (hw:Hp w L w1) {n:Nat} (hn:n≤vals.length):
  ∃vc rb off arr E fz,ft (.sl (false,1)) v none (some (some (n:Int)))=some vc∧RowS 1 (fun v:Value=> [v]) undef w1 vc (vals.take n) rb off arr E fz∧(0<n→Sx.look L rb=some (.cells arr E fz)):=by
 have eN:vals=(vals.map fun v:Value=> [v]).flatten:=by
  clear h hn
  induction vals with
  |nil=>rfl
  |cons x l ih=>simp[←ih]
 have cT:SlV 1 (fun v:Value=> [v]) undef w1 v vals:=h.slV hw rfl eN (fun _=>rfl)
 obtain⟨vc,h1,h2,h3⟩:=cT.take hn false
 obtain⟨b,off,c,arr,E,fz,hr,hc,⟨q1,q2,q3⟩ | ⟨q1,hb,hs⟩⟩:=h2
 ·refine⟨vc,b,off,arr,E,fz,h1,hr,fun h0=> ?_⟩
  have:=congrArg List.length q2
  rw[List.length_take,List.length_nil,Nat.min_eq_left hn] at this
  omega
 ·refine⟨vc,b,off,arr,E,fz,h1,hr,fun h0=> ?_⟩
  have hk:=h.key (h3 b (by rw[q1];rfl))
  obtain⟨o,ho⟩:=CQ hk
  have:=hw.has _ _ (bh ho)
  rw[hb] at this
  rw[ho,this]
theorem Ot {w:World} {v:Value} {l:List Value} {b off:Nat} {arr:Array Value} {E:TypeId} {fz:Nat×Nat} (h:RowS 1 (fun v:Value=> [v]) undef w v l b off arr E fz) {k:Nat} (hk:k<l.length) (n:Nat):
  aF (some (false,n)) (some (.cells arr E fz)) (off+k)=some (l.getD k undef):=by
 have:=h.cell (j:=0) (n:=n) hk (by omega)
 rwa [Nat.mul_one,Nat.add_zero] at this
theorem Jh (a b y:Nat) (v:Value) (x:Bool):ac (some (x,1)) (some (cG a b v)) 0 (vm y)=some (cG y b v):=d9 [] [vm a] [vm y] [vm b,v] x _ 130 rfl rfl rfl rfl rfl
theorem Hj (S:DiskL) (k:Nat):dX S k (S.dir k)=S:=by
 unfold dX
 cases S
 simp only
 congr 1
 funext j
 by_cases e:j=k
 ·subst e;simp
 ·simp[e]
def kW (q:DiskL×List UInt16) (p:List UInt8×Nat):DiskL×List UInt16:=
 (nA q.1 p.2 ⟨(aR q.1 p.2).data.take ((aR q.1 p.2).stl+jT q.2 ((aR q.1 p.2).data.length - (aR q.1 p.2).stl)),((aR q.1 p.2).data.take ((aR q.1 p.2).stl+jT q.2 ((aR q.1 p.2).data.length - (aR q.1 p.2).stl))).length⟩,q.2.drop 1)
def gD (q:DiskL×List UInt16):Nat→DiskL×List UInt16
 |0=>q
 |k+1=>(q.1.dir k).seen.foldl kW (gD q k)
def n8 (S:DiskL):DiskL:={S with off:=false,fused:=false}
def sB (S:DiskL) (pl:List UInt16):DiskL:=(gD (n8 (ec (S,pl) 3).1,(ec (S,pl) 3).2) 3).1
theorem VI (q:DiskL×List UInt16) (l:NmL): (l.foldl kW q).1.dir=q.1.dir:=by
 induction l generalizing q with
 |nil=>rfl
 |cons p l ih=>rw[List.foldl_cons,ih];rfl
theorem Bi (q:DiskL×List UInt16): ∀k,(gD q k).1.dir=q.1.dir
 |0=>rfl
 |k+1=>by
  show(List.foldl kW (gD q k) _).1.dir=_
  rw[VI,Bi q k]
theorem Ie (q:DiskL×List UInt16) (l:NmL): (l.foldl kW q).1.off=q.1.off:=by
 induction l generalizing q with
 |nil=>rfl
 |cons p l ih=>rw[List.foldl_cons,ih];rfl
theorem Um (q:DiskL×List UInt16): ∀k,(gD q k).1.off=q.1.off
 |0=>rfl
 |k+1=>by
  show(List.foldl kW (gD q k) _).1.off=_
  rw[Ie,Um q k]
structure C3G where
 k:Nat
 L:aA
 v:Value
structure C4G where
 j:Nat
 L:aA
 v:Value
structure C1G where
 k:Nat
 G:DkG
 L:aA
 v:Value
structure C2G where
 j:Nat
 L:aA
theorem Uf (q:DiskL×List UInt16): ∀ {k j:Nat},k≤j→(ec q k).1.dir j=q.1.dir j
 |0,_,_=>rfl
 |k+1,j,h=>by
  show(dX _ k _).dir j=_
  rw[lE _ _ (by omega)]
  exact Uf q (by omega)
set_option linter.defProp false
def cP:=And.intro (And.intro (And.intro (@ay) (@ax)) (And.intro (@lD) (And.intro (@mT) (@mR)))) (And.intro (And.intro (@mS) (@uc)) (And.intro (@ud) (And.intro (@yN) (@pj))))
theorem GZ (X:aA) (G0:DkG) (S:DiskL) (v0:Value) (pl:List UInt16) (w:World) (hX: ∀p,p∈X→w.heap[p.1]? =some p.2) (hn: (keys X).Nodup) (kl:DkP X G0 S) (Ry:mX w) (tu:0∉keys X) (hB:DkB (ec (S,pl) 3).1)
  (X8:PkS w v0 pl) (vO:PkB w X pl v0) (fT:pl.length<1000000) (qU: ∀k,k<3→zy (S.dir k)∧(S.dir k).pend.length<1000000):
  Rets Tryz.prog 22 #[vp G0.bd 0,v0] w (XS w X (fun _v D=> ∃G',G'.bd=G0.bd∧DkP D G' (sB S pl))):=by
 obtain⟨eg,fzg,qG⟩:=Ry
 refine Rets.enterX Tryz.func22 rfl (rs:= []) Tryz.results22 Tryz.ntmps22 hX hn ?_
 refine kf ?_
 first|with_reducible refine ks [3] @cP ?_|refine kp @cP ?_
 refine Ow.box rfl rfl fun bk rD vU=> ?_
 simp only[eU,eT,ed,X8.cell.2]
 refine Ow.permL (M:=X++ [(bk,cg v0)]) (List.Perm.refl _) ?_
 refine ko @cP ?_
 first|with_reducible refine ks [3] @cP ?_|refine kp @cP ?_
 simp only[List.map_toArray,List.map_cons,List.map_nil,eU,eT,ed]
 have rdg: ∀L,Ext w X L→aM w L 0=some (.cells #[vs fB,vs jV,vs jC] eg fzg):=fun L hE=>hE.old qG tu
 have k7:Ext w X (X++ [(bk,cg v0)]):=(Ext.refl w X).app vU
 have qV:=rdg _ k7
 have rN:Sx.look (X++ [(bk,cg v0)]) bk=some (cg v0):=p5 rD
 have aS:DkP (X++ [(bk,cg v0)]) G0 S:=kl.mono fun b o h=>aq h
 generalize X++ [(bk,cg v0)]=L0 at*
 first|with_reducible refine ks [5,8,12,16] (And.intro @cP (And.intro @qV (@rx))) ?_|refine kp (And.intro @cP (And.intro @qV (@rx))) ?_
 refine Cw.loopG (G:=C1G) [20,21,6,22,23,24,25,26,27,7,28,29,30,31,32,33,34,35,36,37,38,39,40,41,42,43,44,9,45,46,47,48,49,50,51,52,53,54,55,56,57,58,59,60,61,62,63,19] (fun g=> [(19,vi g.k)]) (fun g=>g.L) (fun g=>g.k≤3∧DkP g.L g.G (ec (S,pl) g.k).1∧g.G.bd=G0.bd∧Sx.look g.L bk=some (cg g.v)∧PkS w g.v (ec (S,pl) g.k).2∧PkB w X (ec (S,pl) g.k).2 g.v∧Ext w X g.L∧(ec (S,pl) g.k).2.length<1000000) (fun g=>3 - g.k) ⟨0,G0,L0,v0⟩ rfl rfl ?_ ?_
 ·exact⟨Nat.zero_le _,aS,rfl,rN,X8,vO,k7,fT⟩
 intro g j hg
 refine kv ?_
 clear qV rN aS k7
 obtain⟨k,G,L,v⟩:=g
 simp only at hg ⊢
 obtain⟨hk,hP,bJ,bP,hv,BZ,hE,BL⟩:=hg
 rw[←bJ]
 by_cases aC:k<3
 ·have d1:decide ((k:Int)<3)=true:=decide_eq_true (by omega)
  have ixk:=Bt aC
  obtain⟨om,jI,hM⟩:=hP.dirs
  have ce:=aL (w0:=w) hP.disk
  have Wx:=aL (w0:=w) (hP.dir k aC)
  have jl:ab (some (G.d k))=vp (G.d k) 0:=rfl
  have qD:=Uf (S,pl) (Nat.le_refl k)
  simp only at qD
  obtain⟨vals,Ba,cw,hF⟩:=hP.pend k aC
  rw[qD] at Ba hF
  have hpn1:=(qU k aC).2
  have lnp:=cw.len (false,1)
  first|with_reducible refine ks [] (And.intro @cP (And.intro @d1 (And.intro @ixk (@ce)))) ?_|refine kp (And.intro @cP (And.intro @d1 (And.intro @ixk (@ce)))) ?_
  refine Ow.mapGetG (encK:=vs) (encV:=ab) (k:=aH k) (z:=none) rfl rfl Tryz.underlying121 gr zrPd rfl rfl (aL jI) hM ?_
  rw[wJ,og aC]
  show Ow _ _ _ _ _ _ _ _
  refine ko (And.intro @cP @jl) ?_
  first|with_reducible refine ks [] @cP ?_|refine kp @cP ?_
  refine Cw.regionS [G.d k] [0,1,2,4,5,6,7,13,3,8,9,10,11,12] [] (by kernel_rfl) (by kernel_rfl) (by kernel_rfl) ?_
  simp only[ar, ↓ap, ↓ag, ↓an, ↓am,ah]
  refine kq (And.intro @cP (And.intro @Wx (@lnp))) ?_
  refine Ow.soft rfl rfl rfl ?_
  refine Ow.callFnXC (b:=vi vals.length) (ars:= #[vi vals.length,vp bk 0]) rfl (X:=L) (Y:= []) (List.append_nil _).symm rfl rfl rfl rfl Tryz.call82 (fun w' aB aQ aN=>Rets.chunk aQ aN (bV bP) (V5 vals.length bk v (ec (S,pl) k).2 w' (by omega) (hv.old aB fun hq b hb=>hE.not (BZ hq b hb).1 (BZ hq b hb).2) BL (fun hq e=>by have:=(BZ hq bk e).1;omega) (aQ _ (bh bP)))) (fun r D hC hS=> ?_)
  obtain⟨o,rfl,rfl,v',rfl,vR,U5⟩:=hS
  rw[List.append_nil]
  obtain⟨vS,uK⟩:=wo hv vR U5
  have aS:=hP.away bP (cg v')
  have bU:=hE.came0 hC
  have fR: ∀b o,Sx.look L b=some o→tyO o≠some 24→Sx.look (setB L bk (cg v')) b=some o:=fun b o hb ht=>fv bP hb ht
  have u2:Sx.look (setB L bk (cg v')) bk=some (cg v'):=ee bP
  have Tv:=aL (w0:=w) (aS.dir k aC)
  have Rz:Gr (setB L bk (cg v')) 137 1 (G.p k) vals.length vals:=cw.keep fun b o hb ho=>by
   obtain⟨arr,ha⟩:=gd cw hb
   rw[ho] at ha;cases ha
   exact fR _ _ ho (by simp[tyO])
  have Zg: ∀i,i<vals.length→FnP (setB L bk (cg v')) G.fb (vals.getD i undef) ((S.dir k).pend.getD i jx):=fun i hi=>(hF i hi).keep fun b o ho hx=>fR _ _ ho (by rcases hx with⟨s,rfl⟩ | ⟨a,rfl⟩<;>simp[tyO,dI,iC])
  have uH:=yK (ec (S,pl) k).2 vals.length
  have vE:ec (S,pl) (k+1)=pO (ec (S,pl) k) k:=rfl
  unfold pO at vE
  rw[qD,←Ba] at vE
  generalize jT (ec (S,pl) k).2 vals.length=n at*
  have td:bk≠G.d k:=fun e=>by
   have vF:=aS.dir k aC
   rw[←e,u2] at vF
   simp[cG,cg] at vF
  generalize setB L bk (cg v')=L1 at*
  refine Ow.world fun w1 aJ=> ?_
  obtain⟨vc,rb,off,arr,E,fz,cT,Tw,Wo⟩:=P3 Rz aJ uH
  clear aJ
  have lnc:=Tw.len (false,1)
  rw[List.length_take,Nat.min_eq_left uH] at lnc
  with_reducible refine Ow.nil ?_
  refine⟨fun b hb=>by rw[List.mem_singleton] at hb;subst hb;rw[Wx,Tv], ?_⟩
  refine kq (And.intro @cP (And.intro @cT (@lnc))) ?_
  have BT:dX (ec (S,pl) k).1 k ⟨((ec (S,pl) k).1.dir k).seen,kP (ec (S,pl) k).1 k 0,((ec (S,pl) k).1.dir k).pend⟩=(ec (S,pl) k).1:=Hj _ _
  have dq: ∀j,kP (ec (S,pl) k).1 k j=kP S k j:=fun j=>by unfold kP;rw[qD]
  have Ww: (ec (S,pl) (k+1)).2=(ec (S,pl) k).2.drop 1:=rfl
  generalize ec (S,pl) k=q at*
  obtain⟨Sk,pk⟩:=q
  simp only at*
  refine Cw.loopG (G:=C2G) [42,43,44,9,45,46,47,48,49,50,51,41] (fun g=> [(41,vi g.j)]) (fun g=>g.L) (fun g=>g.j≤n∧DkP g.L G (dX Sk k ⟨(Sk.dir k).seen,kP Sk k g.j,(Sk.dir k).pend⟩)∧Sx.look g.L bk=some (cg v')∧Ext w X g.L∧(∀b o,Sx.look L1 b=some o→b≠G.t k→Sx.look g.L b=some o)) (fun g=>n - g.j) ⟨0,L1⟩ rfl rfl ?_ ?_
  ·exact⟨Nat.zero_le _,by rw[BT];exact aS,u2,bU,fun _ _ h _=>h⟩
  intro g j hg
  refine kv ?_
  obtain⟨j,L2⟩:=g
  simp only at hg ⊢
  obtain⟨hj,aw,dk,aj,rM⟩:=hg
  by_cases hjt:j<n
  ·have d2:decide ((j:Int)< (n:Int))=true:=decide_eq_true (by omega)
   have rL:j< (vals.take n).length:=by rw[List.length_take,Nat.min_eq_left uH];exact hjt
   have ix3:=Tw.idx false j rL
   rw[Nat.mul_one] at ix3
   have ld3:=fun n=>Ot Tw rL n
   have Dq: (vals.take n).getD j undef=vals.getD j undef:=by
    rw[List.getD_eq_getElem?_getD,List.getD_eq_getElem?_getD,List.getElem?_take_of_lt hjt]
   rw[Dq] at ld3
   have Th:j< (S.dir k).pend.length:=by omega
   have U3: ∀ {b:Nat} {o:Obj},Sx.look L1 b=some o→tyO o≠none→b≠G.t k:=by
    intro b o hb ht e
    obtain⟨ot,mt,oZ,jh,-⟩:=aS.stl k aC
    rw[e,oZ] at hb;cases hb
    exact ht (iQ jh)
   have Zh:FnP L2 G.fb (vals.getD j undef) ((S.dir k).pend.getD j jx):=(Zg j (by omega)).keep fun b o ho hx=>rM b o ho (U3 ho (by rcases hx with⟨s,rfl⟩ | ⟨a,rfl⟩<;>simp[tyO,dI,iC]))
   have bw:=aw.stl k aC
   have eQ:=aw.ok.stl k aC
   have ik:=aw.ok.stlN k aC
   have gQ:=aw.ok.pendN k aC
   rw[kX] at bw eQ ik gQ
   have eX:okC (kP Sk k j) ((S.dir k).pend.getD j jx):=by rw[dq];exact(qU k aC).1 j Th
   obtain⟨fk,cap,hvf,fo,iI⟩:=EI Zh bw eQ eX
   rw[hvf] at ld3
   have TH:=rM rb _ (Wo (by omega)) (U3 (Wo (by omega)) (by simp[tyO]))
   have rd3:=aL (w0:=w) TH
   have nw:=aL (w0:=w) (aw.dir k aC)
   have SX:=U3 u2 (by simp[tyO,cg])
   first|with_reducible refine ks [] (And.intro @cP (And.intro @d2 (And.intro @ix3 (And.intro @ld3 (And.intro @rd3 (@nw)))))) ?_|refine kp (And.intro @cP (And.intro @d2 (And.intro @ix3 (And.intro @ld3 (And.intro @rd3 (@nw)))))) ?_
   refine Ow.callFnXC (b:=vm (G.t k)) (cap:=cap) (ars:= #[vm (G.t k)]++cap) rfl (X:=L2) (Y:= []) (List.append_nil _).symm rfl rfl rfl rfl fo (fun w' aB aQ aN=>iI w' aQ aN) (fun r D hC hS=> ?_)
   rw[List.append_nil]
   obtain⟨rfl,o',hO,dY⟩:=hS
   have iX:=aj.came0 hC
   have dy:=aw.stl1 aC (l':=cJ (kP Sk k j) ((S.dir k).pend.getD j jx)) (fun b o hb ad=>(hO.rest b ad).trans hb) dY (Ez _ eQ) (CJ ik eX fun h0=>gQ _ (by show _∈ (Sk.dir k).pend;rw[qD,List.getD_eq_getElem?_getD,List.getElem?_eq_getElem Th];exact List.getElem_mem _) h0)
   rw[kX,VD] at dy
   have bW:kP Sk k (j+1)=cJ (kP Sk k j) ((S.dir k).pend.getD j jx):=by rw[Ik (by rw[qD];exact Th),qD]
   refine ko @cP ?_
   first|with_reducible refine ks [] @cP ?_|refine kp @cP ?_
   exact Again.mk ⟨j+1,D⟩ (by show n - (j+1)<n - j;omega) ⟨hjt,by rw[bW];exact dy,(hO.rest bk SX).trans dk,iX,fun b o hb ad=>(hO.rest b ad).trans (rM b o hb ad)⟩ rfl rfl
  ·obtain rfl:j=n:=by omega
   have d2:decide ((j:Int)< (j:Int))=false:=decide_eq_false (by omega)
   have bw:=aw.stl k aC
   have eQ:=aw.ok.stl k aC
   have ik:=aw.ok.stlN k aC
   rw[kX] at bw eQ ik
   obtain⟨ot,mt,oZ,jh,gP⟩:=bw
   have fP:=aw.dir k aC
   have nw:=aL (w0:=w) fP
   first|with_reducible refine ks [13] (And.intro @cP (And.intro @d2 (@nw))) ?_|refine kp (And.intro @cP (And.intro @d2 (@nw))) ?_
   refine Ow.callC rfl rfl Tryz.call83 (fun w' aB=>I7 (G.t k) ot mt w' (aB.has _ _ (bh oZ)) jh) (fun B4 v4 D4 jE r7 fi aZ=> ?_)
   obtain⟨c,o4,rfl,rfl,hm4⟩:=aZ
   have nW:eG L2 c:=gi fun b hb=>by
    have h1:=cY jE hb
    have h2:=fi.le c (by simp[keys])
    omega
   have rF:c∉keys L2:=fun hm=>by have:=cY nW hm;omega
   have ml:Sx.look (L2++ [(c,o4)]) (G.d k)=some (cG (G.s k) (G.t k) (G.p k)):=aq fP
   have T8:Sx.look (L2++ [(c,o4)]) c=some o4:=p5 nW
   have T4: ∀b o,Sx.look L2 b=some o→Sx.look (L2++ [(c,o4)]) b=some o:=fun b o h=>aq h
   have iX:=aj.app (o:=o4) (b:=c) (by have:=fi.le c (by simp[keys]);omega)
   generalize L2++ [(c,o4)]=L3 at*
   have lW:=aL (w0:=w) ml
   have st0:=fun x=>Jh (G.s k) (G.t k) c (G.p k) x
   have g8:c≠G.d k:=fun e=>rF (by rw[e];exact bV fP)
   have lU:Sx.look (setB L3 (G.d k) (cG c (G.t k) (G.p k))) (G.d k)=some (cG c (G.t k) (G.p k)):=ee ml
   have T9:Sx.look (setB L3 (G.d k) (cG c (G.t k) (G.p k))) c=some o4:=by rw[bH (Ne.symm g8)];exact T8
   have u0: ∀b o,Sx.look L2 b=some o→b≠G.d k→Sx.look (setB L3 (G.d k) (cG c (G.t k) (G.p k))) b=some o:=fun b o h ad=>by rw[bH (Ne.symm ad)];exact T4 b o h
   have dR:=iX.setB (b:=G.d k) (o:=cG c (G.t k) (G.p k))
   refine ko (And.intro @cP (And.intro @ml (And.intro @st0 (@iu)))) ?_
   generalize setB L3 (G.d k) (cG c (G.t k) (G.p k))=L4 at*
   have rU:=aL (w0:=w) lU
   have st2:=fun x=>ES c (G.t k) (G.p k) (.slice none 0 0) x ⟨rfl,rfl⟩
   first|with_reducible refine ks [] (And.intro @cP (And.intro @lU (And.intro @rU (And.intro @st2 (@iu))))) ?_|refine kp (And.intro @cP (And.intro @lU (And.intro @rU (And.intro @st2 (@iu))))) ?_
   have T5: ∀b o,Sx.look L2 b=some o→b≠G.t k→b≠G.d k→Sx.look (setB L4 (G.d k) (cG c (G.t k) (.slice none 0 0))) b=some o:=fun b o h _ ad=>by rw[bH (Ne.symm ad)];exact u0 b o h ad
   have nj: ∀ {b:Nat} {o:Obj} {m:List (List UInt8×Option Nat)},Sx.look L2 b=some o→eD vs ab o m→b≠G.d k:=by
    intro b o m hb hm e
    rw[e,fP] at hb;cases hb
    obtain⟨es,cl,h,-⟩:=hm;cases h
   have mh:=aw.calm aC (s':=c) ⟨kP Sk k j,kP Sk k j,[]⟩ rfl T5 ⟨o4,mt,by rw[bH (Ne.symm g8)];exact T9,hm4,gP⟩ ⟨ot,mt,by rw[bH (Ne.symm (nj oZ jh))];exact u0 _ _ oZ (nj oZ jh),jh,gP⟩ (ee lU) (.inr rF) eQ eQ ik ik
   rw[VD] at mh
   have WY:bk≠G.d k:=fun e=>td e
   exact Again.mk ⟨k+1,nM G k c,setB L4 (G.d k) (cG c (G.t k) (.slice none 0 0)),v'⟩ (by show 3 - (k+1)<3 - k;omega) ⟨aC,by rw[vE];exact mh,rfl,by rw[bH (Ne.symm td)];exact u0 _ _ dk td,by rw[vE];exact vS,by rw[vE];exact uK BZ,dR.setB,by rw[vE];show(pk.drop 1).length<1000000;rw[List.length_drop];omega⟩ rfl rfl
 ·obtain rfl:k=3:=by omega
  have d1:decide (((3:Nat):Int)<3)=false:=rfl
  unfold sB
  generalize ec (S,pl) 3=q at*
  obtain⟨S3,p3⟩:=q
  simp only at*
  have qO:DkOk {S3 with off:=false}:=⟨hP.ok.seen,hP.ok.stl,hP.ok.seenN,hP.ok.stlN,hP.ok.pendN,hP.ok.file,hP.ok.fuse,hP.ok.max⟩
  have aS:=hP.setDisk {S3 with off:=false} rfl rfl qO
  have TX:DkOk (n8 S3):=⟨hP.ok.seen,hP.ok.stl,hP.ok.seenN,hP.ok.stlN,hP.ok.pendN,hP.ok.file,⟨hP.ok.fuse.1,hP.ok.fuse.2.1,fun h=>by cases h⟩,hP.ok.max⟩
  have aw:=aS.setDisk (n8 S3) rfl rfl TX
  have qV:=aL (w0:=w) hP.disk
  have jH:=hP.disk
  have ik:=aS.disk
  have st4:=fun x=>V7 G.bm S3 false x
  have st3:=fun x=>VU G.bm {S3 with off:=false} false x
  have Dl:=rdg
  have AR:bk≠G.bd:=fun e=>by
   have vF:=hP.disk
   rw[←e,bP] at vF
   simp[bF,cg] at vF
  have dk:Sx.look (setB (setB L G.bd (bF G.bm {S3 with off:=false})) G.bd (bF G.bm (n8 S3))) bk=some (cg v):=by
   rw[bH (Ne.symm AR),bH (Ne.symm AR)];exact bP
  have aj:=(hE.setB (b:=G.bd) (o:=bF G.bm {S3 with off:=false})).setB (b:=G.bd) (o:=bF G.bm (n8 S3))
  have nt:=rdg _ aj
  have Dk:aM w (setB (setB L G.bd (bF G.bm {S3 with off:=false})) G.bd (bF G.bm {S3 with off:=false,fused:=false})) 0=_:=nt
  have ey:Sx.look (setB (setB L G.bd (bF G.bm {S3 with off:=false})) G.bd (bF G.bm {S3 with off:=false,fused:=false})) bk=some (cg v):=dk
  have A9:Ext w X (setB (setB L G.bd (bF G.bm {S3 with off:=false})) G.bd (bF G.bm {S3 with off:=false,fused:=false})):=aj
  have mh:DkP (setB (setB L G.bd (bF G.bm {S3 with off:=false})) G.bd (bF G.bm {S3 with off:=false,fused:=false})) G (n8 S3):=aw
  clear nt dk aj aw
  first|with_reducible refine ks [17] (And.intro @cP (And.intro @d1 (And.intro @jH (And.intro @ik (And.intro @st4 (And.intro @st3 (And.intro @iu (And.intro @Dk (@rx))))))))) ?_|refine kp (And.intro @cP (And.intro @d1 (And.intro @jH (And.intro @ik (And.intro @st4 (And.intro @st3 (And.intro @iu (And.intro @Dk (@rx))))))))) ?_
  generalize hL5:setB (setB L G.bd (bF G.bm {S3 with off:=false})) G.bd (bF G.bm {S3 with off:=false,fused:=false})=L5 at*
  have hdw: (n8 S3).dir=S3.dir:=rfl
  have how: (n8 S3).off=false:=rfl
  generalize n8 S3=S5 at*
  refine Cw.loopG (G:=C3G) [72,73,11,74,75,76,77,78,79,80,81,13,82,83,84,85,86,87,88,89,90,91,92,14,93,94,95,96,97,98,99,100,101,102,103,104,105,106,107,108,109,110,111,112,113,114,115,116,117,118,119,120,121,122,123,124,125,126,127,71] (fun g=> [(71,vi g.k)]) (fun g=>g.L) (fun g=>g.k≤3∧DkP g.L G (gD (S5,p3) g.k).1∧Sx.look g.L bk=some (cg g.v)∧PkS w g.v (gD (S5,p3) g.k).2∧PkB w X (gD (S5,p3) g.k).2 g.v∧Ext w X g.L∧(gD (S5,p3) g.k).2.length<1000000) (fun g=>3 - g.k) ⟨0,L5,v⟩ rfl rfl ?_ ?_
  ·exact⟨Nat.zero_le _,mh,ey,hv,BZ,A9,BL⟩
  intro g j hg
  refine kv ?_
  obtain⟨k,L6,v6⟩:=g
  simp only at hg ⊢
  obtain⟨mE,m8,u4,hv6,U8,r8,Tk⟩:=hg
  by_cases im:k<3
  ·have d6:decide ((k:Int)<3)=true:=decide_eq_true (by omega)
   have ixk:=Bt im
   have oS:=Bi (S5,p3) k
   have Wr:=Um (S5,p3) k
   simp only at oS Wr
   have A7:DkB (gD (S5,p3) k).1:=by
    intro i hi
    rw[oS,hdw];exact hB i hi
   have rE:gD (S5,p3) (k+1)=((S5.dir k).seen).foldl kW (gD (S5,p3) k):=rfl
   first|with_reducible refine ks [26] (And.intro @cP (And.intro @d6 (@ixk))) ?_|refine kp (And.intro @cP (And.intro @d6 (@ixk))) ?_
   refine Ow.callC rfl rfl Tryz.call79 (fun w' aB=>EA w' G (gD (S5,p3) k).1 (aH k) (m8.world aB) A7) (fun B7 v7 D7 WG uv mg nU=> ?_)
   rw[DD im,oS,Wr,how,if_neg (by simp),←DB] at nU
   obtain⟨sn,iq⟩: ∃sn,(S5.dir k).seen=sn:=⟨_,rfl⟩
   rw[iq] at rE nU
   have ln7:=oG nU
   rw[List.length_map] at ln7
   refine ko (And.intro @cP @ln7) ?_
   refine Cw.world fun w1 aJ=> ?_
   obtain⟨rb,off,arr,E,fz,jJ,u5⟩:=nU.rowL (z:= []) (by rw[List.length_map]) ((aJ.perm (M:=D7++L6) List.perm_append_comm).part) wE
   clear aJ
   have Dj:=m8.ok.seen k im
   have BV:=(A7 k im).1
   rw[oS,iq] at Dj BV
   have nv: ∀c,c∈keys L6→0<sn.length→rb≠c:=fun c hc h0 e=>by
    have h1:=cY WG hc
    have h2:=mg.le rb (bV (u5 (by rw[List.length_map];exact h0)))
    omega
   have TI:0<sn.length→Sx.look (L6++D7) rb=some (.cells arr E fz):=fun h0=>by
    rw[iB (fun hm=>nv rb hm h0 rfl)]
    exact u5 (by rw[List.length_map];exact h0)
   have Zr:DkP (L6++D7) G (gD (S5,p3) k).1:=m8.mono fun b o h=>aq h
   have Ar:Sx.look (L6++D7) bk=some (cg v6):=aq u4
   have Zc:Ext w X (L6++D7):=⟨fun c hc=>by
    rw[bO] at hc
    rcases List.mem_append.1 hc with h|h
    ·exact r8.new c h
    ·exact .inr (Nat.le_trans uv (mg.le c h)),fun c hc=>by rw[bO];exact List.mem_append_left _ (r8.all c hc)⟩
   have fo: ∀n,n< (gD (S5,p3) k).1.files.length→G.fb.getD n 0∈keys L6:=fun n hn=>bV (m8.file n hn)
   have SY:=bV u4
   clear u5 nU
   generalize L6++D7=L7 at*
   refine Cw.loopG (G:=C4G) [79,80,81,13,82,83,84,85,86,87,88,89,90,91,92,14,93,94,95,96,97,98,99,100,101,102,103,104,105,106,107,108,109,110,111,112,113,114,115,116,117,118,119,120,121,122,123,124,125,126,78] (fun g=> [(78,vi g.j)]) (fun g=>g.L) (fun g=>g.j≤sn.length∧DkP g.L G ((sn.take g.j).foldl kW (gD (S5,p3) k)).1∧Sx.look g.L bk=some (cg g.v)∧PkS w g.v ((sn.take g.j).foldl kW (gD (S5,p3) k)).2∧PkB w X ((sn.take g.j).foldl kW (gD (S5,p3) k)).2 g.v∧Ext w X g.L∧((sn.take g.j).foldl kW (gD (S5,p3) k)).2.length<1000000∧(0<sn.length→Sx.look g.L rb=some (.cells arr E fz))) (fun g=>sn.length - g.j) ⟨0,L7,v6⟩ rfl rfl ?_ ?_
   ·exact⟨Nat.zero_le _,Zr,Ar,hv6,U8,Zc,Tk,TI⟩
   intro g j hg
   refine kv ?_
   obtain⟨j,L8,v8⟩:=g
   simp only at hg ⊢
   obtain⟨hj,km,l8,BY,mM,Rw,qT,TJ⟩:=hg
   by_cases hjt:j<sn.length
   ·have d2:decide ((j:Int)< (sn.length:Int))=true:=decide_eq_true (by omega)
    have rL:j< (sn.map Prod.fst).length:=by rw[List.length_map];exact hjt
    have ix3:=jJ.idx false j rL
    rw[Nat.mul_one] at ix3
    have ld3:=fun n=>us jJ rL n
    have Au:=TJ (by omega)
    have rd3:=aL (w0:=w) Au
    have hp:sn[j]'hjt∈sn:=List.getElem_mem _
    have Tx: (sn.map Prod.fst).getD j []=(sn[j]'hjt).1:=by simp[List.getD_eq_getElem?_getD,hjt]
    have jo:sn.take (j+1)=sn.take j++ [sn[j]'hjt]:=by
     rw[List.take_add_one];simp[hjt]
    rw[Tx] at ld3
    generalize sn[j]'hjt=p at*
    obtain⟨x,n⟩:=p
    have Wa: ((sn.take j).foldl kW (gD (S5,p3) k)).1.dir=S5.dir:=by rw[VI,Bi]
    have nd: ((sn.take (j+1)).foldl kW (gD (S5,p3) k))=kW ((sn.take j).foldl kW (gD (S5,p3) k)) (x,n):=by rw[jo,List.foldl_append];rfl
    generalize (sn.take j).foldl kW (gD (S5,p3) k)=q8 at*
    obtain⟨S8,p8⟩:=q8
    simp only at km BY qT Wa ld3
    have rX: (S8.dir k).seen=sn:=by rw[Wa];exact iq
    obtain⟨om,jI,hM⟩:=km.dirs
    obtain⟨os,ms,fq,fG,gP⟩:=km.seen k im
    rw[rX] at gP
    have eu:aV sn x=some n:=CV Dj.nodup hp
    have cH:n<S8.files.length:=km.ok.seenN k im _ (by rw[rX];exact hp)
    have rdd:=aL (w0:=w) km.disk
    have rdr:=aL (w0:=w) (km.dir k im)
    have kD:=km.file n cH
    have rdf:=aL (w0:=w) kD
    have jl:ab (some (G.d k))=vp (G.d k) 0:=rfl
    have Tg:ab (some (G.fb.getD n 0))=vp (G.fb.getD n 0) 0:=rfl
    first|with_reducible refine ks [] (And.intro @cP (And.intro @d2 (And.intro @ix3 (And.intro @ld3 (And.intro @rd3 (@rdd)))))) ?_|refine kp (And.intro @cP (And.intro @d2 (And.intro @ix3 (And.intro @ld3 (And.intro @rd3 (@rdd)))))) ?_
    refine kq (And.intro @cP @rdd) ?_
    refine Ow.mapGetG (encK:=vs) (encV:=ab) (k:=aH k) (z:=none) rfl rfl Tryz.underlying121 gr zrPd rfl rfl (aL jI) hM ?_
    rw[wJ,og im]
    show Ow _ _ _ _ _ _ _ _
    refine ko (And.intro @cP (And.intro @jl (@rdr))) ?_
    refine Ow.mapGetG (encK:=vs) (encV:=ab) (k:=x) (z:=none) rfl rfl Tryz.underlying127 gr zrPf rfl rfl (aL fq) fG ?_
    rw[gP.get Dj.nodup,eu]
    show Ow _ _ _ _ _ _ _ _
    refine ko (And.intro @cP @Tg) ?_
    have gm:=qj km.ok cH
    have BR:aM w L8 (G.fb.getD n 0)=some (cQ (aR S8 n)):=rdf
    have ig:S8.files.getD n dC=aR S8 n:=rfl
    rw[ig] at kD
    clear rdf
    have hcf:kW (S8,p8) (x,n)=(nA S8 n ⟨(aR S8 n).data.take ((aR S8 n).stl+jT p8 ((aR S8 n).data.length - (aR S8 n).stl)),((aR S8 n).data.take ((aR S8 n).stl+jT p8 ((aR S8 n).data.length - (aR S8 n).stl))).length⟩,p8.drop 1):=rfl
    rw[hcf] at nd
    have Wv:=yK p8 ((aR S8 n).data.length - (aR S8 n).stl)
    generalize aR S8 n=f at*
    have U1: (f.data.length:Int) - (f.stl:Int)=((f.data.length - f.stl:Nat):Int):=by omega
    refine Cw.regionG [G.fb.getD n 0] [25] 26 (by kernel_rfl) rfl ?_
    simp only[List.replicate_succ,List.replicate_zero]
    refine OwG.run [0,1,2,3,4,5,6,7,8,9,10,11,12,13,14,15,16,17,18,19] [true,true,true,true,true,true,true,true,true,true,true,true,true,true,true,true,true,true,true,true,false,false,false,false,false,false] 6 rfl (by kernel_rfl) (by kernel_rfl) fun k hk=> ?_
    simp only[ar, ↓ap, ↓ag, ↓an, ↓am,ah]
    simp(disch:=(first|assumption|omega| (simp only[fM,fL,UInt64.reduceToNat];try omega))) only[↓Sx.S0,Sx.S1,Tryz.fx,cP,Nat.reduceAdd,Nat.reducePow,Int.reducePow,Nat.reduceBEq, ↓reduceIte,UInt8.reduceToNat,UInt16.reduceToNat,UInt32.reduceToNat,UInt64.reduceToNat,Int.reduceToNat,Md.next_sofnil,BR,U1]
    (with_reducible refine hk _ _ _ ?_);clear hk k
    refine OwG.one 20 _ (by kernel_rfl) rfl ?_
    refine Ow.callFnXC (b:=vi ((f.data.length - f.stl:Nat):Int)) (ars:= #[vi ((f.data.length - f.stl:Nat):Int),vp bk 0]) rfl (X:=L8) (Y:= []) (List.append_nil _).symm rfl rfl rfl rfl Tryz.call82 (fun w' aB aQ aN=>Rets.chunk aQ aN (bV l8) (V5 (f.data.length - f.stl) bk v8 p8 w' (by omega) (BY.old aB fun hq b hb=>Rw.not (mM hq b hb).1 (mM hq b hb).2) qT (fun hq e=>by have:=(mM hq bk e).1;omega) (aQ _ (bh l8)))) (fun r D hC hS=> ?_)
    rw[List.append_nil]
    obtain⟨o,rfl,rfl,v9,rfl,vR,U5⟩:=hS
    obtain⟨vS,uK⟩:=wo BY vR U5
    have Zd:=Rw.came0 hC
    have Zs:=km.away l8 (cg v9)
    have Sz: ∀b o,Sx.look L8 b=some o→tyO o≠some 24→Sx.look (setB L8 bk (cg v9)) b=some o:=fun b o hb ht=>fv l8 hb ht
    have ni:Sx.look (setB L8 bk (cg v9)) (G.fb.getD n 0)=some (cQ f):=Sz _ _ kD (by simp[tyO,cQ])
    have As:Sx.look (setB L8 bk (cg v9)) bk=some (cg v9):=ee l8
    have Tr:Sx.look (setB L8 bk (cg v9)) rb=some (.cells arr E fz):=by rw[bH (fun e=>nv bk SY (by omega) e.symm)];exact Au
    have Tt:=aL (w0:=w) ni
    generalize jT p8 (f.data.length - f.stl)=m at*
    have SM: (f.stl:Int)+ (m:Int)=((f.stl+m:Nat):Int):=by omega
    have AS:bk≠G.fb.getD n 0:=fun e=>by
     rw[←e,As] at ni
     simp[cQ,cg] at ni
    generalize setB L8 bk (cg v9)=L9 at*
    have st0:=fun x=>Ec f (f.data.take (f.stl+m)) x
    with_reducible refine Ow.nil ?_
    refine⟨(fun b hb=>by rw[List.mem_singleton] at hb;subst hb;rw[BR,Tt]), ?_⟩
    simp only[List.set_cons_zero,List.set_cons_succ,ol,my,mz]
    refine OwG.rest [21,22,23,24,25] rfl (by kernel_rfl) (by kernel_rfl) ?_
    simp only[ar, ↓ap, ↓ag, ↓an, ↓am,ah]
    refine kq (And.intro @cP @SM) ?_
    refine Ow.store rfl rfl rfl (ke (And.intro @cP (And.intro @ni (@st0)))) ?_
    have od: (f.data.take (f.stl+m)).length≤f.data.length:=by rw[List.length_take];omega
    have U2:f.stl≤ (f.data.take (f.stl+m)).length:=by rw[List.length_take];omega
    have Wn:Sx.look (setB L9 (G.fb.getD n 0) (cQ ⟨f.data.take (f.stl+m),f.stl⟩)) (G.fb.getD n 0)=some (cQ ⟨f.data.take (f.stl+m),f.stl⟩):=ee ni
    have hrB:=aL (w0:=w) Wn
    have st1:=fun x=>ET ⟨f.data.take (f.stl+m),f.stl⟩ (f.data.take (f.stl+m)).length x
    have BE:=vv (n:=n) (f:=⟨f.data.take (f.stl+m),f.stl⟩) km.ok ⟨Nat.le_trans od gm.1,U2⟩
    have Zt:=Zs.setFile cH ⟨f.data.take (f.stl+m),f.stl⟩ BE
    have TY:=vv (n:=n) (f:=⟨f.data.take (f.stl+m),(f.data.take (f.stl+m)).length⟩) BE ⟨Nat.le_trans od gm.1,Nat.le_refl _⟩
    have WT:=Zt.setFile (by rw[List.length_set];exact cH) ⟨f.data.take (f.stl+m),(f.data.take (f.stl+m)).length⟩ TY
    simp only[List.set_set] at WT
    have Ze:=(Zd.setB (b:=G.fb.getD n 0) (o:=cQ ⟨f.data.take (f.stl+m),f.stl⟩)).setB (b:=G.fb.getD n 0) (o:=cQ ⟨f.data.take (f.stl+m),(f.data.take (f.stl+m)).length⟩)
    have lA:rb≠G.fb.getD n 0:=nv _ (fo n (by have:=m8.len;have:=km.len;omega)) (by omega)
    have TC:Sx.look (setB (setB L9 (G.fb.getD n 0) (cQ ⟨f.data.take (f.stl+m),f.stl⟩)) (G.fb.getD n 0) (cQ ⟨f.data.take (f.stl+m),(f.data.take (f.stl+m)).length⟩)) bk=some (cg v9):=by
     rw[bH (Ne.symm AS),bH (Ne.symm AS)];exact As
    have Ts:Sx.look (setB (setB L9 (G.fb.getD n 0) (cQ ⟨f.data.take (f.stl+m),f.stl⟩)) (G.fb.getD n 0) (cQ ⟨f.data.take (f.stl+m),(f.data.take (f.stl+m)).length⟩)) rb=some (.cells arr E fz):=by
     rw[bH (Ne.symm lA),bH (Ne.symm lA)];exact Tr
    refine ko (And.intro @cP (And.intro @iu (And.intro @hrB (And.intro @Wn (@st1))))) ?_
    first|with_reducible refine ks [] @cP ?_|refine kp @cP ?_
    exact Again.mk ⟨j+1,setB (setB L9 (G.fb.getD n 0) (cQ ⟨f.data.take (f.stl+m),f.stl⟩)) (G.fb.getD n 0) (cQ ⟨f.data.take (f.stl+m),(f.data.take (f.stl+m)).length⟩),v9⟩ (by show sn.length - (j+1)<sn.length - j;omega) ⟨hjt,by rw[nd];exact WT,TC,by rw[nd];exact vS,by rw[nd];exact uK mM,Ze,by rw[nd];show(p8.drop 1).length<1000000;rw[List.length_drop];omega,fun _=>Ts⟩ rfl rfl
   ·obtain rfl:j=sn.length:=by omega
    have d2:decide ((sn.length:Int)< (sn.length:Int))=false:=decide_eq_false (by omega)
    rw[List.take_length] at km BY mM qT
    first|with_reducible refine ks [] (And.intro @cP @d2) ?_|refine kp (And.intro @cP @d2) ?_
    first|with_reducible refine ks [] @cP ?_|refine kp @cP ?_
    exact Again.mk ⟨k+1,L8,v8⟩ (by show 3 - (k+1)<3 - k;omega) ⟨im,by rw[rE];exact km,l8,by rw[rE];exact BY,by rw[rE];exact mM,Rw,by rw[rE];exact qT⟩ rfl rfl
  ·obtain rfl:k=3:=by omega
   have d6:decide (((3:Nat):Int)<3)=false:=rfl
   first|with_reducible refine ks [] (And.intro @cP @d6) ?_|refine kp (And.intro @cP @d6) ?_
   refine⟨_,(ke @cP), ?_⟩
   exact⟨r8,G,rfl,m8⟩
end Go.Proofs
end
section
open Go Go.Proofs Go.Sx Go.StP
namespace Go.Proofs
set_option maxRecDepth 10000
set_option maxHeartbeats 400000
set_option linter.unusedSimpArgs false
def nL (d:DirL):Prop:=d.pend.foldl cJ d.stl=d.seen∧zy d
def gh (S:DiskL):Prop:= ∀k,nL (S.dir k)
theorem vY (l:NmL):nL ⟨l,l,[]⟩:=⟨rfl,fun i hi=>absurd hi (Nat.not_lt_zero i)⟩
theorem JU {d:DirL} {c:CallL} (h:nL d) (eX:okC d.seen c):nL ⟨cJ d.seen c,d.stl,d.pend++ [c]⟩:=by
 refine⟨by show(d.pend++ [c]).foldl cJ d.stl=_;rw[List.foldl_append,h.1];rfl,fun i hi=> ?_⟩
 have vI:i< (d.pend++ [c]).length:=hi
 show okC (((d.pend++ [c]).take i).foldl cJ d.stl) ((d.pend++ [c]).getD i jx)
 by_cases e:i<d.pend.length
 ·rw[List.take_append_of_le_length (by omega),List.getD_eq_getElem?_getD,List.getElem?_append_left e,←List.getD_eq_getElem?_getD]
  exact h.2 i e
 ·rw[List.length_append,List.length_singleton] at vI
  obtain rfl:i=d.pend.length:=by omega
  rw[List.take_append_of_le_length (Nat.le_refl _),List.take_length,h.1,List.getD_eq_getElem?_getD,List.getElem?_append_right (Nat.le_refl _),Nat.sub_self]
  exact eX
theorem uU {S S':DiskL} (h:gh S) (e:S'.dir=S.dir):gh S':=fun k=>by rw[e];exact h k
theorem E2 {S:DiskL} (h:gh S) {k:Nat} {d:DirL} (hd:nL d):gh (dX S k d):=fun j=>by
 by_cases e:j=k
 ·subst e;rw[kX];exact hd
 ·rw[lE _ _ e];exact h j
theorem E7 {S:DiskL} (h:gh S) {k:Nat} {c:CallL} (eX:okC (S.dir k).seen c):gh (lH S k c):=E2 h (JU (h k) eX)
theorem Br {S:DiskL} (h:gh S):gh (aG S).1:=uU h (la S).1
theorem Nl (q:Int):gh (eV q):=fun _=>vY []
theorem HD {S:DiskL} (h:gh S) (dir name:List UInt8):gh (dp S dir name).1:=by
 unfold dp
 split
 ·exact h
 ·split
  ·exact h
  ·split
   ·exact Br h
   ·exact E7 (Br h) (fun e=>by cases e)
theorem Fs {S:DiskL} (h:gh S) (dir:List UInt8):gh (fC S dir).1:=by
 unfold fC
 split
 ·exact h
 ·split
  ·exact Br h
  ·exact E2 (Br h) (vY _)
theorem Vt {q:DiskL×List UInt16} (h:gh q.1): ∀k,gh (ec q k).1
 |0=>h
 |k+1=>E2 (Vt h k) (vY _)
theorem JR {S:DiskL} (h:gh S) (pl:List UInt16):gh (sB S pl):=by
 unfold sB
 refine uU (S:=n8 (ec (S,pl) 3).1) ?_ (Bi _ 3)
 exact uU (Vt (q:=(S,pl)) h 3) rfl
end Go.Proofs
end
section
open Go Go.Proofs Go.Sx Go.StP
namespace Go.Proofs
set_option maxRecDepth 10000
set_option maxHeartbeats 400000
set_option linter.unusedSimpArgs false
def NmB (l:NmL):Prop:= ∀p,p∈l→p.1.length≤1000000
def nR (c:CallL):Prop:=c.a.length≤1000000∧c.b.length≤1000000
structure DirB (N:Nat) (d:DirL):Prop where
 seen:d.seen.length≤N
 stl:d.stl.length+d.pend.length≤N
 seenB:NmB d.seen
 stlB:NmB d.stl
 pendB: ∀c,c∈d.pend→nR c
def DkN (N:Nat) (S:DiskL):Prop:= ∀k,DirB N (S.dir k)
theorem DkN.b {N:Nat} {S:DiskL} (h:DkN N S) (hN:N≤1000000):DkB S:=fun k _=>⟨Nat.le_trans (h k).seen hN,(h k).seenB⟩
theorem DirB.mono {N M:Nat} {d:DirL} (h:DirB N d) (hm:N≤M):DirB M d:=⟨Nat.le_trans h.seen hm,Nat.le_trans h.stl hm,h.seenB,h.stlB,h.pendB⟩
theorem DkN.mono {N M:Nat} {S:DiskL} (h:DkN N S) (hm:N≤M):DkN M S:=fun k=>(h k).mono hm
theorem Cn (l:NmL) (s:List UInt8): (ci l s).length≤l.length:=List.length_filter_le _ _
theorem CW (l:NmL) (x:List UInt8×Nat): (gY l x).length≤l.length+1:=by
 have h1:=(s8 x (ci l x.1)).length_eq
 have h2:=Cn l x.1
 rw[List.length_cons] at h1
 show(insN (ci l x.1) x).length≤_
 omega
theorem wu (l:NmL) (c:CallL): (cJ l c).length≤l.length+1:=by
 unfold cJ
 split
 ·exact CW l _
 ·have h1:=CW (ci l c.a) (c.b,(aV l c.a).getD 0)
  have h2:=Cn l c.a
  omega
 ·exact Nat.le_succ_of_le (Cn l _)
theorem sU {l:NmL} (h:NmB l) (s:List UInt8):NmB (ci l s):=fun p hp=>h p (List.mem_filter.1 hp).1
theorem tG {l:NmL} (h:NmB l) {x:List UInt8×Nat} (hx:x.1.length≤1000000):NmB (gY l x):=fun p hp=>by
 have:=(s8 x (ci l x.1)).mem_iff.1 hp
 rcases List.mem_cons.1 this with rfl|h1
 ·exact hx
 ·exact sU h _ p h1
theorem zI {l:NmL} (h:NmB l) {c:CallL} (hc:nR c):NmB (cJ l c):=by
 unfold cJ
 split
 ·exact tG h hc.1
 ·exact tG (sU h _) hc.2
 ·exact sU h _
theorem zG: ∀ (cs:List CallL) {l:NmL},NmB l→(∀c,c∈cs→nR c)→NmB (cs.foldl cJ l)∧(cs.foldl cJ l).length≤l.length+cs.length
 | [],l,h,_=>⟨h,Nat.le_refl _⟩
 |c::cs,l,h,hc=>by
  have h1:=zG cs (zI h (hc c List.mem_cons_self)) (fun c' h'=>hc c' (List.mem_cons_of_mem _ h'))
  have h2:=wu l c
  refine⟨h1.1, ?_⟩
  have h3:=h1.2
  rw[List.length_cons]
  show(List.foldl cJ (cJ l c) cs).length≤_
  omega
theorem Lq {N:Nat} {d:DirL} {c:CallL} (h:DirB N d) (hc:nR c):DirB (N+1) ⟨cJ d.seen c,d.stl,d.pend++ [c]⟩ where
 seen:=by have:=wu d.seen c;have:=h.seen;show(cJ d.seen c).length≤_;omega
 stl:=by have:=h.stl;show d.stl.length+ (d.pend++ [c]).length≤_;rw[List.length_append,List.length_singleton];omega
 seenB:=zI h.seenB hc
 stlB:=h.stlB
 pendB:=fun c' h'=>by
  rcases List.mem_append.1 h' with h'|h'
  ·exact h.pendB c' h'
  ·rw[List.mem_singleton.1 h'];exact hc
theorem Bw {N:Nat} {l:NmL} (h:l.length≤N) (hb:NmB l):DirB N ⟨l,l,[]⟩:=⟨h,h,hb,hb,fun c hc=>by cases hc⟩
theorem Bk {N:Nat} {S:DiskL} (h:DkN N S) {k:Nat} {d:DirL} (hd:DirB N d):DkN N (dX S k d):=fun j=>by
 by_cases e:j=k
 ·subst e;rw[kX];exact hd
 ·rw[lE _ _ e];exact h j
theorem s5 {N:Nat} {S S':DiskL} (h:DkN N S) (e:S'.dir=S.dir):DkN N S':=fun k=>by rw[e];exact h k
theorem Ct {N:Nat} {S:DiskL} (h:DkN N S) {k:Nat} {c:CallL} (hc:nR c):DkN (N+1) (lH S k c):=Bk (h.mono (Nat.le_succ N)) (Lq (h k) hc)
theorem FM {N:Nat} {q:DiskL×List UInt16} (h:DkN N q.1): ∀k,DkN N (ec q k).1
 |0=>h
 |k+1=>by
  have h1:=FM h k
  have hd:=h1 k
  show DkN N (pO (ec q k) k).1
  generalize ec q k=r at*
  refine Bk h1 ?_
  have h2:=zG ((r.1.dir k).pend.take (jT r.2 (r.1.dir k).pend.length)) hd.stlB (fun c hc=>hd.pendB c (List.mem_of_mem_take hc))
  refine Bw ?_ h2.1
  have h3:=h2.2
  rw[List.length_take] at h3
  have h4:=hd.stl
  show(List.foldl cJ _ _).length≤N
  omega
theorem Kg {N:Nat} {S:DiskL} (h:DkN N S) (pl:List UInt16):DkN N (sB S pl):=by
 unfold sB
 refine s5 (S:=n8 (ec (S,pl) 3).1) ?_ (Bi _ 3)
 exact s5 (FM (q:=(S,pl)) h 3) rfl
theorem yg (q:Int):DkN 0 (eV q):=fun _=>Bw (Nat.le_refl 0) fun _ h=>by cases h
end Go.Proofs
end
section
open Go Go.Proofs Go.Sx Go.StP
namespace Go.Proofs
set_option maxRecDepth 10000
set_option maxHeartbeats 400000
set_option linter.unusedSimpArgs false
theorem J4 (X:aA) (G:DkG) (S:DiskL) (n:Int) (w:World) (hX: ∀p,p∈X→w.heap[p.1]? =some p.2) (av: (keys X).Nodup) (hP:DkP X G S) (hn: -9223372036854775808≤n∧n<9223372036854775808):
  Rets Tryz.prog 37 #[vp G.bd 0,vi n] w (XS w X (fun v D=>v=ck []∧ ∃G',G'.bd=G.bd∧DkP D G' {S with fuse:=n,fused:=decide (0≤n)})):=by
 refine Rets.mono (Rets.chunk hX av (bV hP.disk) (JG G.bd G.bm S n w (hX _ (bh hP.disk)))) ?_
 rintro v D ⟨hE,o,rfl,rfl,rfl⟩
 exact⟨hE,rfl,G,rfl,hP.setDisk {S with fuse:=n,fused:=decide (0≤n)} rfl rfl ⟨hP.ok.seen,hP.ok.stl,hP.ok.seenN,hP.ok.stlN,hP.ok.pendN,hP.ok.file,⟨hn.1,hn.2,fun h=>by simpa using h⟩,hP.ok.max⟩⟩
end Go.Proofs
end
section
open Go Go.Proofs Go.Sx Go.StP
namespace Go.Proofs
set_option maxRecDepth 10000
set_option maxHeartbeats 400000
set_option linter.unusedSimpArgs false
theorem Hg (S:DiskL) (f:FiL) (h: ∀k,(S.dir k).pend= []∧(S.dir k).stl= []): ∀k,((co S f).dir k).pend= []∧((co S f).dir k).stl= []:=by
 intro k
 unfold co
 split
 ·rename_i j hj
  split
  ·by_cases e:k=j
   ·subst e;rw[kX];exact⟨(h k).1,(h k).2⟩
   ·rw[lE _ _ e];exact h k
  ·exact h k
 ·exact h k
theorem Vm (l:List FiL): ∀ (S:DiskL),(∀k,(S.dir k).pend= []∧(S.dir k).stl= [])→ ∀k,((l.foldl co S).dir k).pend= []∧((l.foldl co S).dir k).stl= []:=by
 induction l with
 |nil=>exact fun _ h=>h
 |cons f l ih=>exact fun S h=>ih _ (Hg S f h)
theorem NC {N:Nat} {S:DiskL} (h:DkN N S) (f:FiL) (hf:f.name.length≤1000000):DkN (N+1) (co S f):=by
 unfold co
 split
 ·split
  ·rename_i k hk hc
   refine Bk (s5 (h.mono (Nat.le_succ N)) rfl) ⟨?_,Nat.le_succ_of_le (h k).stl,tG (h k).seenB hf,(h k).stlB,(h k).pendB⟩
   have h1:=CW (S.dir k).seen (f.name,S.files.length)
   have h2:=(h k).seen
   show(gY (S.dir k).seen (f.name,S.files.length)).length≤N+1
   omega
  ·exact h.mono (Nat.le_succ N)
 ·exact h.mono (Nat.le_succ N)
theorem xU: ∀ (l:List FiL) {N:Nat} {S:DiskL},DkN N S→(∀f,f∈l→f.name.length≤1000000)→DkN (N+l.length) (l.foldl co S)
 | [],_,_,h,_=>h
 |f::l,N,S,h,hf=>by
  have h1:=xU l (NC h f (hf f List.mem_cons_self)) (fun g hg=>hf g (List.mem_cons_of_mem _ hg))
  rw[List.length_cons,show N+ (l.length+1)=N+1+l.length by omega]
  exact h1
theorem Ih (S:DiskL) (f:FiL) (h: ∀k,3≤k→(S.dir k).seen= []): ∀k,3≤k→((co S f).dir k).seen= []:=by
 intro k hk
 unfold co
 split
 ·rename_i j hj
  split
  ·have h3:=(g5 hj).1
   rw[lE _ _ (by omega)];exact h k hk
  ·exact h k hk
 ·exact h k hk
theorem Je (l:List FiL): ∀ (S:DiskL),(∀k,3≤k→(S.dir k).seen= [])→ ∀k,3≤k→((l.foldl co S).dir k).seen= []:=by
 induction l with
 |nil=>exact fun _ h=>h
 |cons f l ih=>exact fun S h=>ih _ (Ih S f h)
theorem xb (S:DiskL) (k:Nat): (setV S [0,1,2]).dir k=if k∈ [0,1,2] then⟨(S.dir k).seen,(S.dir k).seen,[]⟩ else S.dir k:=rfl
theorem O6 (q:Int) (l:List FiL):gh (ofD q l):=fun k=>by
 have h1:=Vm l (eV q) (fun _=>⟨rfl,rfl⟩) k
 have h2:=Je l (eV q) (fun _ _=>rfl) k
 unfold ofD
 rw[xb]
 generalize l.foldl co (eV q)=S at*
 split
 ·exact vY _
 ·rename_i hk
  have h3:3≤k:=by
   simp only[List.mem_cons,List.not_mem_nil,or_false,not_or] at hk
   omega
  have h4:=h2 h3
  generalize S.dir k=d at*
  obtain⟨a,b,c⟩:=d
  simp only at h1 h4
  obtain⟨rfl,rfl⟩:=h1
  subst h4
  exact vY []
theorem QL (q:Int) (l:List FiL) (hf: ∀f,f∈l→f.name.length≤1000000):DkN l.length (ofD q l):=fun k=>by
 have h1:=xU l (yg q) hf k
 rw[Nat.zero_add] at h1
 unfold ofD
 rw[xb]
 split
 ·exact Bw h1.seen h1.seenB
 ·exact h1
end Go.Proofs
end
section
open Go Go.Proofs Go.Sx Go.StP
namespace Go.Proofs
set_option maxRecDepth 10000
set_option maxHeartbeats 400000
set_option linter.unusedSimpArgs false
theorem uN {N:Nat} {S:DiskL} (h:DkN N S):DkN N (aG S).1:=s5 h (la S).1
theorem r5 {N:Nat} {S:DiskL} (h:DkN N S):DkN (N+1) S:=h.mono (Nat.le_succ N)
theorem Ir {N:Nat} {S:DiskL} (h:DkN N S) (dir:List UInt8) {name:List UInt8} (hn:name.length≤1000000):DkN (N+1) (dp S dir name).1:=by
 unfold dp
 split
 ·exact r5 h
 ·split
  ·exact r5 h
  ·split
   ·exact r5 (uN h)
   ·exact Ct (uN h) ⟨hn,Nat.zero_le _⟩
theorem GT {N:Nat} {S:DiskL} (h:DkN N S) (dir:List UInt8):DkN N (fC S dir).1:=by
 unfold fC
 split
 ·exact h
 ·split
  ·exact uN h
  ·exact Bk (uN h) (Bw ((uN h) _).seen ((uN h) _).seenB)
theorem CZ {S:DiskL} (ok:DkOk S): ∀ (l:NmL),(∀p,p∈l→p.2<S.files.length)→fW S l≤l.length*1048576
 | [],_=>Nat.zero_le _
 |p::l,h=>by
  have h1:=CZ ok l fun q hq=>h q (List.mem_cons_of_mem _ hq)
  have h2:=(qj ok (h p List.mem_cons_self)).1
  unfold fW aR at*
  rw[List.map_cons,List.sum_cons,List.length_cons]
  omega
theorem y5 {N:Nat} {S:DiskL} (ok:DkOk S) (h:DkN N S):gV S≤3* (N*1048576):=by
 have h0:=CZ ok _ (ok.seenN 0 (by omega))
 have h1:=CZ ok _ (ok.seenN 1 (by omega))
 have h2:=CZ ok _ (ok.seenN 2 (by omega))
 have g0:=Nat.mul_le_mul_right 1048576 (h 0).seen
 have g1:=Nat.mul_le_mul_right 1048576 (h 1).seen
 have g2:=Nat.mul_le_mul_right 1048576 (h 2).seen
 unfold gV
 omega
end Go.Proofs
end
section
open Go Go.Proofs Go.Sx Go.StP
namespace Go.Proofs
set_option maxRecDepth 10000
set_option maxHeartbeats 400000
set_option linter.unusedSimpArgs false
def zx (S:DiskL):Prop:= ∀j k,j<3→k<3→ ∀p,p∈ (S.dir j).seen→ ∀q,q∈ (S.dir k).seen→p.2=q.2→j=k∧p=q
def LtS (S:DiskL):Prop:= ∀k,k<3→ ∀p,p∈ (S.dir k).seen→p.2<S.files.length
end Go.Proofs
end
section
open Go Go.Proofs Go.Sx Go.StP
namespace Go.Proofs
set_option maxRecDepth 10000
set_option maxHeartbeats 400000
set_option linter.unusedSimpArgs false
def doV (S:DiskL) (kind:Int) (dir name s:List UInt8):DiskL×Nat:=
 if kind=0 then mU S dir name else if kind=1 then oI S dir name s else if kind=2 then nC S dir name else if kind=3 then fC S dir else if kind=4 then mV S dir name s else if kind=5 then dp S dir name else(S,0)
inductive StepD (S:DiskL) (kind:Int) (dir name s:List UInt8):DiskL→Nat→Prop
 |same (e:Nat) (h:e≠0∨(kind≠2∧kind≠3)):StepD S kind dir name s S e
 |burn (h:kind≠2∧kind≠3∨(aG S).2≠0):StepD S kind dir name s (aG S).1 (aG S).2
 |create (k:Nat) (hk:bT dir=some k) (hf:cI name=true) (hn:aV (S.dir k).seen name=none) (hb: (aG S).2=0):StepD S kind dir name s (lH (gz (aG S).1 dC) k ⟨0,name,[],S.files.length⟩) 0
 |append (k m:Nat) (hk:bT dir=some k) (hm:aV (S.dir k).seen name=some m) (hf:jS S m s=false) (hb: (aG S).2=0):StepD S kind dir name s (nA (aG S).1 m ⟨(aR S m).data++s,(aR S m).stl⟩) 0
 |sync (k m:Nat) (hk:bT dir=some k) (hm:aV (S.dir k).seen name=some m) (hb: (aG S).2=0):StepD S kind dir name s (nA (aG S).1 m ⟨(aR S m).data,(aR S m).data.length⟩) 0
 |syncDir (k:Nat) (hk:bT dir=some k) (hb: (aG S).2=0):StepD S kind dir name s (lY (aG S).1 k) 0
 |rename (k m:Nat) (h4:kind=4) (hk:bT dir=some k) (hm:aV (S.dir k).seen name=some m) (hf:cI s=true) (ad:name≠s) (hb: (aG S).2=0):StepD S kind dir name s (lH (aG S).1 k ⟨1,name,s,0⟩) 0
 |remove (k m:Nat) (hk:bT dir=some k) (hm:aV (S.dir k).seen name=some m) (hb: (aG S).2=0):StepD S kind dir name s (lH (aG S).1 k ⟨2,name,[],0⟩) 0
theorem Ca {S:DiskL} {dir name:List UInt8} {m:Nat} (h:atD S dir name=some m): ∃k,bT dir=some k∧aV (S.dir k).seen name=some m:=by
 unfold atD at h
 cases hk:bT dir with
 |none=>rw[hk] at h;cases h
 |some k=>rw[hk] at h;exact⟨k,rfl,h⟩
theorem OA {S:DiskL} {dir name:List UInt8} {k:Nat} (hk:bT dir=some k) (h:atD S dir name=none):aV (S.dir k).seen name=none:=by
 unfold atD at h
 rw[hk] at h;exact h
theorem DH {S:DiskL} {dir:List UInt8} {names:List (List UInt8)} (h:dV S dir names=0): ∃k,bT dir=some k∧names.all cI=true:=by
 obtain⟨h1,h2,-⟩:=Il h
 cases hk:bT dir with
 |none=>exact absurd hk h1
 |some k=>exact⟨k,rfl,h2⟩
theorem Vr (S:DiskL) (dir name s:List UInt8):StepD S 0 dir name s (mU S dir name).1 (mU S dir name).2:=by
 unfold mU
 split
 ·exact .same _ (.inr ⟨by decide,by decide⟩)
 ·rename_i hf
  split
  ·exact .same _ (.inr ⟨by decide,by decide⟩)
  ·rename_i ha
   split
   ·exact .burn (.inl ⟨by decide,by decide⟩)
   ·rename_i hb
    obtain⟨k,hk,hn⟩:=DH (S:=S) (dir:=dir) (names:= [name]) (by simpa using hf)
    rw[hk]
    exact .create k hk (by simpa using hn) (OA hk ha) (by simpa using hb)
theorem UN (S:DiskL) (dir name s:List UInt8):StepD S 5 dir name s (dp S dir name).1 (dp S dir name).2:=by
 unfold dp
 split
 ·exact .same _ (.inr ⟨by decide,by decide⟩)
 ·split
  ·exact .same _ (.inr ⟨by decide,by decide⟩)
  ·rename_i m ha
   split
   ·exact .burn (.inl ⟨by decide,by decide⟩)
   ·rename_i hb
    obtain⟨k,hk,hm⟩:=Ca ha
    rw[hk]
    exact .remove k m hk hm (by simpa using hb)
theorem Ue (S:DiskL) (dir name s:List UInt8):StepD S 4 dir name s (mV S dir name s).1 (mV S dir name s).2:=by
 unfold mV
 split
 ·exact .same _ (.inr ⟨by decide,by decide⟩)
 ·rename_i hf
  split
  ·exact .same _ (.inr ⟨by decide,by decide⟩)
  ·rename_i m ha
   split
   ·exact .burn (.inl ⟨by decide,by decide⟩)
   ·rename_i ad
    split
    ·exact .burn (.inl ⟨by decide,by decide⟩)
    ·rename_i hb
     obtain⟨k,hk,hm⟩:=Ca ha
     obtain⟨-,-,hn⟩:=DH (S:=S) (dir:=dir) (names:= [name,s]) (by simpa using hf)
     simp only[List.all_cons,List.all_nil,Bool.and_true,Bool.and_eq_true] at hn
     rw[hk]
     exact .rename k m rfl hk hm hn.2 ad (by simpa using hb)
theorem UX (S:DiskL) (dir name s:List UInt8):StepD S 1 dir name s (oI S dir name s).1 (oI S dir name s).2:=by
 unfold oI
 split
 ·exact .same _ (.inr ⟨by decide,by decide⟩)
 ·split
  ·exact .same _ (.inr ⟨by decide,by decide⟩)
  ·rename_i m ha
   split
   ·exact .same _ (.inr ⟨by decide,by decide⟩)
   ·rename_i eN
    split
    ·exact .burn (.inl ⟨by decide,by decide⟩)
    ·rename_i hb
     obtain⟨k,hk,hm⟩:=Ca ha
     exact .append k m hk hm (by simpa using eN) (by simpa using hb)
theorem xC (S:DiskL) (dir name s:List UInt8):StepD S 2 dir name s (nC S dir name).1 (nC S dir name).2:=by
 unfold nC
 split
 ·rename_i hf
  exact .same _ (.inl hf)
 ·split
  ·exact .same _ (.inl (Nat.succ_ne_zero 5))
  ·rename_i m ha
   split
   ·rename_i hb
    exact .burn (.inr hb)
   ·rename_i hb
    obtain⟨k,hk,hm⟩:=Ca ha
    exact .sync k m hk hm (by simpa using hb)
theorem Uq (S:DiskL) (dir name s:List UInt8):StepD S 3 dir name s (fC S dir).1 (fC S dir).2:=by
 unfold fC
 split
 ·rename_i hf
  exact .same _ (.inl hf)
 ·rename_i hf
  split
  ·rename_i hb
   exact .burn (.inr hb)
  ·rename_i hb
   obtain⟨k,hk,-⟩:=DH (S:=S) (dir:=dir) (names:= []) (by simpa using hf)
   rw[hk]
   exact .syncDir k hk (by simpa using hb)
theorem QE (S:DiskL) (kind:Int) (dir name s:List UInt8):StepD S kind dir name s (doV S kind dir name s).1 (doV S kind dir name s).2:=by
 unfold doV
 split
 ·rename_i h;subst h;exact Vr S dir name s
 split
 ·rename_i h;subst h;exact UX S dir name s
 split
 ·rename_i h;subst h;exact xC S dir name s
 split
 ·rename_i h;subst h;exact Uq S dir name s
 split
 ·rename_i h;subst h;exact Ue S dir name s
 split
 ·rename_i h;subst h;exact UN S dir name s
 ·rename_i h0 h1 h2 h3 h4 h5
  exact .same 0 (.inr ⟨h2,h3⟩)
theorem zJ {l:NmL} {a b:List UInt8} {m:Nat} (h:aV l a=some m) (ad:a≠b):okC l ⟨1,a,b,0⟩:=fun _=>⟨by rw[h];simp,ad⟩
section
variable {S S':DiskL} {kind:Int} {dir name s:List UInt8} {e:Nat}
theorem He (S:DiskL) (k j:Nat): ((lY S k).dir j).seen=(S.dir j).seen:=by
 unfold lY
 by_cases e:j=k
 ·subst e;rw[kX]
 ·rw[lE _ _ e]
theorem M9 (hu:gh S) (h:StepD S kind dir name s S' e):gh S':=by
 obtain⟨bE,bG,-⟩:=la S
 have je:=Br hu
 cases h with
 |same=>exact hu
 |burn=>exact je
 |create k hk hf hn hb=>exact E7 (uU je rfl) (fun e=>by cases e)
 |append k m hk hm hf hb=>exact uU je rfl
 |sync k m hk hm hb=>exact uU je rfl
 |syncDir k hk hb=>exact E2 je (vY _)
 |rename k m h4 hk hm hf ad hb=>exact E7 je (by rw[bE];exact zJ hm ad)
 |remove k m hk hm hb=>exact E7 je (fun e=>by cases e)
theorem xa {N:Nat} (hu:DkN N S) (hn:name.length≤1000000) (hs:s.length≤1000000) (h:StepD S kind dir name s S' e):DkN (N+1) S':=by
 have je:=uN hu
 cases h with
 |same=>exact r5 hu
 |burn=>exact r5 je
 |create k hk hf aN hb=>exact Ct (s5 je rfl) ⟨hn,Nat.zero_le _⟩
 |append k m hk hm hf hb=>exact r5 (s5 je rfl)
 |sync k m hk hm hb=>exact r5 (s5 je rfl)
 |syncDir k hk hb=>exact r5 (Bk je (Bw (je k).seen (je k).seenB))
 |rename k m h4 hk hm hf ad hb=>exact Ct je ⟨hn,hs⟩
 |remove k m hk hm hb=>exact Ct je ⟨hn,Nat.zero_le _⟩
end
end Go.Proofs
end
section
open Go Go.Proofs Go.Sx Go.StP
namespace Go.Proofs
set_option maxRecDepth 10000
set_option maxHeartbeats 400000
set_option linter.unusedSimpArgs false
section
variable {S S':DiskL} {kind:Int} {dir name s:List UInt8} {e:Nat}
end
end Go.Proofs
end
section
open Go Go.Proofs Go.Sx Go.StP
namespace Go.Proofs
set_option maxRecDepth 10000
set_option maxHeartbeats 400000
set_option linter.unusedSimpArgs false
def BegF (f g:FileL):Prop:=(∃t,g.data=f.data.take t)∧(f.stl=f.data.length→g.data=f.data∧g.stl=g.data.length)
theorem BegF.refl (f:FileL):BegF f f:=⟨⟨f.data.length,(List.take_length).symm⟩,fun h=>⟨rfl,h⟩⟩
theorem BegF.trans {f g h:FileL} (h1:BegF f g) (h2:BegF g h):BegF f h:=by
 obtain⟨⟨t,ht⟩,a⟩:=h1
 obtain⟨⟨u,hu⟩,b⟩:=h2
 refine⟨⟨min u t,by rw[hu,ht,List.take_take]⟩,fun e=> ?_⟩
 obtain⟨a1,a2⟩:=a e
 obtain⟨b1,b2⟩:=b a2
 exact⟨b1.trans a1,b2⟩
section
variable {S S':DiskL} {kind:Int} {dir name s:List UInt8} {e:Nat}
end
end Go.Proofs
end
section
open Go Go.Proofs Go.Sx Go.StP
namespace Go.Proofs
set_option maxRecDepth 10000
set_option maxHeartbeats 400000
set_option linter.unusedSimpArgs false
structure KeepS (S:DiskL) (k:Nat) (nm:List UInt8) (n:Nat) (data:List UInt8):Prop where
 lt:n<S.files.length
 data: (aR S n).data=data
 stl: (aR S n).stl=(aR S n).data.length
 at_:aV (S.dir k).stl nm=some n
 pend: ∀c,c∈ (S.dir k).pend→c.a≠nm∧(c.kind=1→c.b≠nm)
theorem wd {x:List UInt8×Nat} {s:List UInt8} (hx:x.1≠s): ∀l:NmL,aV (insN l x) s=aV l s
 | []=>by
  have: (s==x.1)=false:=beq_eq_false_iff_ne.2 (Ne.symm hx)
  unfold insN aV
  rw[List.find?_cons,this]
 |p::l=>by
  have e: (s==x.1)=false:=beq_eq_false_iff_ne.2 (Ne.symm hx)
  have ih:=wd hx l
  unfold insN
  split
  ·unfold aV
   rw[List.find?_cons,e]
  ·unfold aV at ih ⊢
   rw[List.find?_cons,List.find?_cons]
   split
   ·rfl
   ·exact ih
theorem Cx {a s:List UInt8} (ha:a≠s): ∀l:NmL,aV (ci l a) s=aV l s
 | []=>rfl
 |p::l=>by
  have ih:=Cx ha l
  unfold ci at ih ⊢
  rw[List.filter_cons]
  by_cases e:a=p.1
  ·have e1: (s==p.1)=false:=beq_eq_false_iff_ne.2 (fun h=>ha (by rw[e,h]))
   rw[if_neg (by rw[e];simp),ih]
   unfold aV
   rw[List.find?_cons,e1]
  ·rw[if_pos (by simpa using e)]
   unfold aV at ih ⊢
   rw[List.find?_cons,List.find?_cons]
   split
   ·rfl
   ·exact ih
theorem xr {x:List UInt8×Nat} {s:List UInt8} (hx:x.1≠s) (l:NmL):aV (gY l x) s=aV l s:=by
 unfold gY
 rw[wd hx,Cx hx]
theorem JT {l:NmL} {c:CallL} {s:List UInt8} (h:c.a≠s∧(c.kind=1→c.b≠s)):aV (cJ l c) s=aV l s:=by
 unfold cJ
 split
 ·exact xr h.1 l
 ·rename_i hk
  rw[xr (h.2 hk),Cx h.1]
 ·exact Cx h.1 l
theorem wh {s:List UInt8}: ∀ (cs:List CallL) (l:NmL),(∀c,c∈cs→c.a≠s∧(c.kind=1→c.b≠s))→aV (cs.foldl cJ l) s=aV l s
 | [],_,_=>rfl
 |c::cs,l,h=>by
  rw[List.foldl_cons,wh cs _ fun d hd=>h d (List.mem_cons_of_mem _ hd),JT (h c List.mem_cons_self)]
section
variable {S S':DiskL} {kind:Int} {dir name s:List UInt8} {e k n:Nat} {nm data:List UInt8}
theorem KeepS.seen (h:KeepS S k nm n data) (hh:gh S):aV (S.dir k).seen nm=some n:=by
 rw[← (hh k).1,wh _ _ h.pend,h.at_]
end
end Go.Proofs
end
section
open Go Go.Proofs Go.Sx Go.StP
namespace Go.Proofs
set_option maxRecDepth 10000
set_option maxHeartbeats 400000
set_option linter.unusedSimpArgs false
structure NdR where
 s:List UInt8
 n:Int
def ndC (r:NdR):List Value:= [vs r.s]++ ([vi r.n])
def nd0:NdR:=⟨[],0⟩
theorem ef (r:NdR): (ndC r).length=2:=by simp[ndC]
theorem p7 (r:NdR):Value.cells (.agg (ndC r).toArray)=(ndC r).toArray:=bL _
theorem ub (r:NdR): (ndC r).all Value.oneCell'=true:=by
 unfold ndC
 simp only[List.all_append,List.all_cons,List.all_nil,oy,Bool.and_true,Bool.true_and]
 rfl
theorem zrNd:al Tryz.prog 144=some (.agg (ndC nd0).toArray):=id (by kernel_rfl)
theorem mY:aK Tryz.prog 144=some (true,2):=id (by kernel_rfl)
theorem zZ (r:NdR):ndC r=([]:List Value)++ (([vs r.s])++ ([vi r.n])):=by
 unfold ndC;simp only[List.append_assoc,List.nil_append,List.append_nil]
theorem xz (r:NdR) (n:Nat) (E:TypeId) (fz:Nat×Nat):aF (some (false,n)) (some (.cells (ndC r).toArray E fz)) 0=some (vs r.s):=by
 rw[zZ];exact jO _ _ _ n E fz (by simp)
theorem Cm {w:World} {v:Value} {l:List NdR} {b off:Nat} {arr:Array Value} {E:TypeId} {fz:Nat×Nat} (h:RowS 2 ndC nd0 w v l b off arr E fz) {k:Nat} (hk:k<l.length) (n:Nat):aF (some (false,n)) (some (.cells arr E fz)) (off+k*2+0)=some (vs (l.getD k nd0).s):=by
 rw[RowS.cell h hk (by omega)];generalize l.getD k nd0=r;rw[zZ];exact ru _ _ _ (by simp)
theorem zP (r:NdR):ndC r=(([vs r.s]))++ (([vi r.n])++ (([]:List Value))):=by
 unfold ndC;simp only[List.append_assoc,List.nil_append,List.append_nil]
theorem yB (r:NdR) (n:Nat) (E:TypeId) (fz:Nat×Nat):aF (some (false,n)) (some (.cells (ndC r).toArray E fz)) 1=some (vi r.n):=by
 rw[zP];exact jO _ _ _ n E fz (by simp)
theorem zE {w:World} {v:Value} {l:List NdR} {b off:Nat} {arr:Array Value} {E:TypeId} {fz:Nat×Nat} (h:RowS 2 ndC nd0 w v l b off arr E fz) {k:Nat} (hk:k<l.length) (n:Nat):aF (some (false,n)) (some (.cells arr E fz)) (off+k*2+1)=some (vi (l.getD k nd0).n):=by
 rw[RowS.cell h hk (by omega)];generalize l.getD k nd0=r;rw[zP];exact ru _ _ _ (by simp)
theorem zM (r:NdR) (E:TypeId) (fz:Nat×Nat):aF (some (true,2)) (some (.cells (ndC r).toArray E fz)) 0=some (.agg (ndC r).toArray):=p6 _ E fz 2 (by rw[List.size_toArray,ef])
theorem OU (old:Array Value) (r:NdR) (a:Bool) (E:TypeId) (h:old.size=2):ac (some (a,2)) (some (.cells old E (0,0))) 0 (.agg (ndC r).toArray)=some (.cells (ndC r).toArray E (0,0)):=ro _ a old E (ef r) (ub r) h
theorem MG (r r':NdR) (a:Bool) (E:TypeId):ac (some (a,2)) (some (.cells (ndC r').toArray E (0,0))) 0 (.agg (ndC r).toArray)=some (.cells (ndC r).toArray E (0,0)):=OU _ r a E (by rw[List.size_toArray,ef])
theorem sq {w:World} {v:Value} {l:List NdR} {b off:Nat} {arr:Array Value} {E:TypeId} {fz:Nat×Nat} (h:RowS 2 ndC nd0 w v l b off arr E fz) {k:Nat} (hk:k<l.length):aF (some (true,2)) (some (.cells arr E fz)) (off+k*2)=some (.agg (ndC (l.getD k nd0)).toArray):=RowS.load h ef (by omega) hk
structure KcR where
 kind:Int
 a:List UInt8
 b:List UInt8
 n:Int
def kcC (r:KcR):List Value:= [vi r.kind]++ ([vs r.a]++ ([vs r.b]++ ([vi r.n])))
def kc0:KcR:=⟨0,[],[],0⟩
theorem uX (r:KcR): (kcC r).length=4:=by simp[kcC]
theorem El (r:KcR):Value.cells (.agg (kcC r).toArray)=(kcC r).toArray:=bL _
theorem ya (r:KcR): (kcC r).all Value.oneCell'=true:=by
 unfold kcC
 simp only[List.all_append,List.all_cons,List.all_nil,oy,Bool.and_true,Bool.true_and]
 rfl
theorem zrKc:al Tryz.prog 150=some (.agg (kcC kc0).toArray):=id (by kernel_rfl)
theorem zm:aK Tryz.prog 150=some (true,4):=id (by kernel_rfl)
theorem sy (r:KcR):kcC r=([]:List Value)++ (([vi r.kind])++ ([vs r.a]++ ([vs r.b]++ ([vi r.n])))):=by
 unfold kcC;simp only[List.append_assoc,List.nil_append,List.append_nil]
theorem xm (r:KcR) (n:Nat) (E:TypeId) (fz:Nat×Nat):aF (some (false,n)) (some (.cells (kcC r).toArray E fz)) 0=some (vi r.kind):=by
 rw[sy];exact jO _ _ _ n E fz (by simp)
theorem Kk (r:KcR) (x:Int) (a:Bool) (E:TypeId):ac (some (a,1)) (some (.cells (kcC r).toArray E (0,0))) 0 (vi x)=some (.cells (kcC {r with kind:=x}).toArray E (0,0)):=by
 rw[sy r,sy {r with kind:=x}];exact d9 _ _ _ _ a _ E (by simp) rfl (rfl) rfl (rfl)
theorem sk (r:KcR):kcC r=(([vi r.kind]))++ (([vs r.a])++ ([vs r.b]++ ([vi r.n]))):=by
 unfold kcC;simp only[List.append_assoc,List.nil_append,List.append_nil]
theorem yJ (r:KcR) (n:Nat) (E:TypeId) (fz:Nat×Nat):aF (some (false,n)) (some (.cells (kcC r).toArray E fz)) 1=some (vs r.a):=by
 rw[sk];exact jO _ _ _ n E fz (by simp)
theorem Lc (r:KcR) (x:List UInt8) (a:Bool) (E:TypeId):ac (some (a,1)) (some (.cells (kcC r).toArray E (0,0))) 1 (vs x)=some (.cells (kcC {r with a:=x}).toArray E (0,0)):=by
 rw[sk r,sk {r with a:=x}];exact d9 _ _ _ _ a _ E (by simp) rfl (rfl) rfl (rfl)
theorem si (r:KcR):kcC r=(([vi r.kind])++ ([vs r.a]))++ (([vs r.b])++ ([vi r.n])):=by
 unfold kcC;simp only[List.append_assoc,List.nil_append,List.append_nil]
theorem yV (r:KcR) (n:Nat) (E:TypeId) (fz:Nat×Nat):aF (some (false,n)) (some (.cells (kcC r).toArray E fz)) 2=some (vs r.b):=by
 rw[si];exact jO _ _ _ n E fz (by simp)
theorem Kz (r:KcR) (x:List UInt8) (a:Bool) (E:TypeId):ac (some (a,1)) (some (.cells (kcC r).toArray E (0,0))) 2 (vs x)=some (.cells (kcC {r with b:=x}).toArray E (0,0)):=by
 rw[si r,si {r with b:=x}];exact d9 _ _ _ _ a _ E (by simp) rfl (rfl) rfl (rfl)
theorem su (r:KcR):kcC r=(([vi r.kind])++ ([vs r.a])++ ([vs r.b]))++ (([vi r.n])++ (([]:List Value))):=by
 unfold kcC;simp only[List.append_assoc,List.nil_append,List.append_nil]
theorem xf (r:KcR) (n:Nat) (E:TypeId) (fz:Nat×Nat):aF (some (false,n)) (some (.cells (kcC r).toArray E fz)) 3=some (vi r.n):=by
 rw[su];exact jO _ _ _ n E fz (by simp)
theorem Lv (r:KcR) (x:Int) (a:Bool) (E:TypeId):ac (some (a,1)) (some (.cells (kcC r).toArray E (0,0))) 3 (vi x)=some (.cells (kcC {r with n:=x}).toArray E (0,0)):=by
 rw[su r,su {r with n:=x}];exact d9 _ _ _ _ a _ E (by simp) rfl (rfl) rfl (rfl)
theorem zD (r:KcR) (E:TypeId) (fz:Nat×Nat):aF (some (true,4)) (some (.cells (kcC r).toArray E fz)) 0=some (.agg (kcC r).toArray):=p6 _ E fz 4 (by rw[List.size_toArray,uX])
theorem NZ (old:Array Value) (r:KcR) (a:Bool) (E:TypeId) (h:old.size=4):ac (some (a,4)) (some (.cells old E (0,0))) 0 (.agg (kcC r).toArray)=some (.cells (kcC r).toArray E (0,0)):=ro _ a old E (uX r) (ya r) h
theorem Lg (r r':KcR) (a:Bool) (E:TypeId):ac (some (a,4)) (some (.cells (kcC r').toArray E (0,0))) 0 (.agg (kcC r).toArray)=some (.cells (kcC r).toArray E (0,0)):=NZ _ r a E (by rw[List.size_toArray,uX])
structure FdR where
 data:List UInt8
 stl:Int
def fdC (r:FdR):List Value:= [vs r.data]++ ([vi r.stl])
def fd0:FdR:=⟨[],0⟩
theorem jr (r:FdR): (fdC r).length=2:=by simp[fdC]
theorem CY (r:FdR):Value.cells (.agg (fdC r).toArray)=(fdC r).toArray:=bL _
theorem yr (r:FdR): (fdC r).all Value.oneCell'=true:=by
 unfold fdC
 simp only[List.all_append,List.all_cons,List.all_nil,oy,Bool.and_true,Bool.true_and]
 rfl
theorem zrFd:al Tryz.prog 141=some (.agg (fdC fd0).toArray):=id (by kernel_rfl)
theorem pV:aK Tryz.prog 141=some (true,2):=id (by kernel_rfl)
theorem QM (r:FdR):fdC r=([]:List Value)++ (([vs r.data])++ ([vi r.stl])):=by
 unfold fdC;simp only[List.append_assoc,List.nil_append,List.append_nil]
theorem sR {w:World} {v:Value} {l:List FdR} {b off:Nat} {arr:Array Value} {E:TypeId} {fz:Nat×Nat} (h:RowS 2 fdC fd0 w v l b off arr E fz) {k:Nat} (hk:k<l.length) (n:Nat):aF (some (false,n)) (some (.cells arr E fz)) (off+k*2+0)=some (vs (l.getD k fd0).data):=by
 rw[RowS.cell h hk (by omega)];generalize l.getD k fd0=r;rw[QM];exact ru _ _ _ (by simp)
theorem NF (r:FdR):fU (cX Tryz.prog 141) (al Tryz.prog 141) [(0,vs r.data),(1,vi r.stl)]=some (.agg (fdC r).toArray):=by
 have hp:cX Tryz.prog 141=some [(0,1),(1,1)]:=id (by kernel_rfl)
 rw[hp,zrFd]
 have e0: (fdC fd0).toArray=(([]:List Value)++ (([vs fd0.data])++ ([vi fd0.stl]))).toArray:=by congr 1<;>simp only[fdC,List.append_assoc,List.nil_append,List.append_nil]
 have q0:fY (([]:List Value)++ (([vs fd0.data])++ ([vi fd0.stl]))).toArray 0 ([vs r.data])=(([]:List Value)++ (([vs r.data])++ ([vi fd0.stl]))).toArray:=w6 _ _ _ _ (by simp) (rfl)
 have s0: (([]:List Value)++ (([vs fd0.data])++ ([vi fd0.stl]))).toArray.size=2:=by simp
 have z0: (Value.cells (vs r.data)).toList= [vs r.data]:=by rfl
 have y0: (Value.cells (vs r.data)).size=1:=by rw[←Array.length_toList,z0];simp
 have e1: (([]:List Value)++ (([vs r.data])++ ([vi fd0.stl]))).toArray=((([vs r.data]))++ (([vi fd0.stl])++ (([]:List Value)))).toArray:=by congr 1<;>simp only[fdC,List.append_assoc,List.nil_append,List.append_nil]
 have q1:fY ((([vs r.data]))++ (([vi fd0.stl])++ (([]:List Value)))).toArray 1 ([vi r.stl])=((([vs r.data]))++ (([vi r.stl])++ (([]:List Value)))).toArray:=w6 _ _ _ _ (by simp) (rfl)
 have s1: ((([vs r.data]))++ (([vi fd0.stl])++ (([]:List Value)))).toArray.size=2:=by simp
 have z1: (Value.cells (vi r.stl)).toList= [vi r.stl]:=by rfl
 have y1: (Value.cells (vi r.stl)).size=1:=by rw[←Array.length_toList,z1];simp
 have e2: ((([vs r.data]))++ (([vi r.stl])++ (([]:List Value)))).toArray=(fdC r).toArray:=by congr 1<;>simp only[fdC,List.append_assoc,List.nil_append,List.append_nil]
 simp only[fU]
 rw[e0]
 unfold Sx.fillV
 simp only[List.getElem?_cons_zero,List.getElem?_cons_succ,z0,y0]
 rw[if_pos ⟨trivial,by rw[s0];decide⟩,q0]
 rw[e1]
 unfold Sx.fillV
 simp only[List.getElem?_cons_zero,List.getElem?_cons_succ,z1,y1]
 rw[if_pos ⟨trivial,by rw[s1];decide⟩,q1]
 rw[e2];rfl
def aO (p:List UInt8×Nat):NdR:=⟨p.1,(p.2:Int)⟩
def jA (c:CallL):KcR:=⟨(c.kind:Int),c.a,c.b,(c.n:Int)⟩
def dA (f:FileL):FdR:=⟨f.data,(f.stl:Int)⟩
theorem uf (l:NmL) (k:Nat): (l.map aO).getD k nd0=aO (l.getD k ([],0)):=by
 rw[List.getD_eq_getElem?_getD,List.getD_eq_getElem?_getD,List.getElem?_map]
 cases l[k]? <;>rfl
theorem qt (l:List FileL) (k:Nat): (l.map dA).getD k fd0=dA (l.getD k dC):=by
 rw[List.getD_eq_getElem?_getD,List.getD_eq_getElem?_getD,List.getElem?_map]
 cases l[k]? <;>rfl
abbrev NdSl (w:World) (v:Value) (l:NmL):Prop:=SlV 2 ndC nd0 w v (l.map aO)
def NdG (D:aA) (v:Value) (l:NmL):Prop:=GrI D 144 2 v (l.map aO).length ((l.map aO).map ndC).flatten
def iw (s:List UInt8):Int:=match bT s with|some k=>(k:Int) |none=> -1
def cV:Obj:= .cells #[vs fB,vs jV,vs jC] 9 (0,0)
theorem MN {s:List UInt8} (h: ∀j,j<3→aH j≠s):bT s=none:=by
 cases hw:bT s with
 |none=>rfl
 |some k=>exact absurd (g5 hw).2.symm (h k (g5 hw).1)
theorem Eh (b:Nat) {k:Nat} (hk:k<3) (a:Bool):jX (.sl (a,1)) (vsl b 0 3 3) (some (k:Int))=some (vp b k):=by
 rw[ox _ _ _ _ _ _ (by omega)];simp
theorem FB {k:Nat} (hk:k<3) (n:Nat):aF (some (false,n)) (some cV) k=some (vs (aH k)):=by
 have:k=0∨k=1∨k=2:=by omega
 rcases this with rfl|rfl|rfl<;>rfl
set_option linter.defProp false
def dO:=And.intro (@ay) (@ax)
theorem FE (w:World):Rets Tryz.prog 87 #[] w (XS w [] (fun v D=> ∃b,v=vsl b 0 3 3∧D= [(b,cV)])):=by
 refine Rets.enterX Tryz.func87 rfl (rs:= [.tmp 0]) Tryz.results87 Tryz.ntmps87 (fun p hp=>by cases hp) (by simp[keys]) ?_
 refine kf ?_
 first|with_reducible refine ks [] @dO ?_|refine kp @dO ?_
 refine Ow.buildSlice (e:=9) #[vs fB,vs jV,vs jC] rfl rfl (by kernel_rfl) fun b1 bE aJ=> ?_
 refine ko @dO ?_
 first|with_reducible refine ks [] @dO ?_|refine kp @dO ?_
 refine⟨_,(ke @dO), ?_⟩
 exact⟨Ext.of_new ⟨aJ,trivial⟩,b1,rfl,rfl⟩
theorem E8 (s:List UInt8) (w:World):Rets Tryz.prog 84 #[vs s] w (fun v D=>v=vi (iw s)∧D= []):=by
 refine Rets.enterV Tryz.func84 rfl (rs:= [.tmp 2]) Tryz.results84 Tryz.ntmps84 ?_
 refine kf ?_
 first|with_reducible refine ks [] @dO ?_|refine kp @dO ?_
 refine Ow.callC rfl rfl Tryz.call87 (fun w' aB=>FE w') (fun B1 v1 D1 bv dh bX cz=> ?_)
 obtain⟨b1,rfl,rfl⟩:=cz
 have cy:=bX.mono dh
 rw[List.nil_append]
 refine ko @dO ?_
 first|with_reducible refine ks [] @dO ?_|refine kp @dO ?_
 refine Cw.loopG (G:=Nat) [6,7,10,11,12,13,14,15,16,2,8,9,4] (fun g=> [(4,vi g)]) (fun g=> [(b1,cV)]) (fun g=>g≤3∧ ∀j,j<g→aH j≠s) (fun g=>3 - g) 0 rfl rfl ?_ ?_
 ·exact⟨Nat.zero_le _,fun j hj=>absurd hj (Nat.not_lt_zero j)⟩
 intro i ji hi
 refine kv ?_
 obtain⟨Dc,oU⟩:=hi
 by_cases aC:i<3
 ·have d1:decide ((i:Int)<3)=true:=decide_eq_true (by omega)
  have ix:=Eh b1 aC true
  have ld:=fun n=>FB aC n
  by_cases he:aH i=s
  ·have e1: (aH i==s)=true:=beq_iff_eq.2 he
   first|with_reducible refine ks [] (And.intro @dO (And.intro @d1 (And.intro @ix (And.intro @ld (@e1))))) ?_|refine kp (And.intro @dO (And.intro @d1 (And.intro @ix (And.intro @ld (@e1))))) ?_
   refine⟨_,(ke @dO),cy, ?_⟩
   (unfold iw;rw[←he,og aC];rfl)
  ·have e1: (aH i==s)=false:=beq_eq_false_iff_ne.2 he
   first|with_reducible refine ks [] (And.intro @dO (And.intro @d1 (And.intro @ix (And.intro @ld (@e1))))) ?_|refine kp (And.intro @dO (And.intro @d1 (And.intro @ix (And.intro @ld (@e1))))) ?_
   exact Again.mk (i+1) (by omega) ⟨aC,fun j hj=>by
    by_cases h:j=i
    ·rw[h];exact he
    ·exact oU j (by omega)⟩ rfl rfl
 ·obtain rfl:i=3:=by omega
  have d1:decide (((3:Nat):Int)<3)=false:=rfl
  first|with_reducible refine ks [] (And.intro @dO @d1) ?_|refine kp (And.intro @dO @d1) ?_
  refine⟨_,(ke @dO),cy, ?_⟩
  (unfold iw;rw[MN oU];rfl)
theorem DJ (s:List UInt8) (w:World) (hs:s.length<1099511627776):Rets Tryz.prog 85 #[vs s] w (fun v D=>v= .bool (cI s)∧D= []):=by
 refine Rets.enterV Tryz.func85 rfl (rs:= [.tmp 2]) Tryz.results85 Tryz.ntmps85 ?_
 refine kf ?_
 first|with_reducible refine ks [] @dO ?_|refine kp @dO ?_
 refine Cw.loopG (G:=Nat) [4,5,6,7,10,11,12,13,14,15,16,17,18,19,20,21,22,23,24,25,2,8,9,3] (fun g=> [(3,vi g)]) (fun g=> []) (fun g=>g≤s.length∧(s.take g).any eo=false) (fun g=>s.length - g) 0 rfl rfl ?_ ?_
 ·exact⟨Nat.zero_le _,rfl⟩
 intro i ji hi
 refine kv ?_
 obtain⟨Dc,oU⟩:=hi
 by_cases aC:i<s.length
 ·have d1:decide ((i:Int)< (s.length:Int))=true:=decide_eq_true (by omega)
  have bW: (s.take (i+1)).any eo=eo (s.getD i 0):=by
   rw[StP.take_snoc (z:=0) aC,List.any_append,oU];simp
  have uA:eo (s.getD i 0)=true→cI s=false:=fun h=>by
   unfold cI
   rw[show s.any eo=true from List.any_eq_true.2 ⟨_,mq (z:=0) aC,h⟩];simp
  rw[zK] at bW uA
  cases h1:decide (s.getD i 0<33) with
  |true=>
   first|with_reducible refine ks [] (And.intro @dO (And.intro @d1 (@h1))) ?_|refine kp (And.intro @dO (And.intro @d1 (@h1))) ?_
   refine⟨_,(ke @dO),trivial, ?_⟩
   (rw[uA (by rw[h1];rfl)];rfl)
  |false=>
   cases h2:decide (126<s.getD i 0) with
   |true=>
    first|with_reducible refine ks [] (And.intro @dO (And.intro @d1 (And.intro @h1 (@h2)))) ?_|refine kp (And.intro @dO (And.intro @d1 (And.intro @h1 (@h2)))) ?_
    refine⟨_,(ke @dO),trivial, ?_⟩
    (rw[uA (by rw[h1,h2];rfl)];rfl)
   |false=>
    cases h3: (s.getD i 0==47) with
    |true=>
     first|with_reducible refine ks [] (And.intro @dO (And.intro @d1 (And.intro @h1 (And.intro @h2 (@h3))))) ?_|refine kp (And.intro @dO (And.intro @d1 (And.intro @h1 (And.intro @h2 (@h3))))) ?_
     refine⟨_,(ke @dO),trivial, ?_⟩
     (rw[uA (by rw[h1,h2,h3];rfl)];rfl)
    |false=>
     rw[h1,h2,h3] at bW
     first|with_reducible refine ks [] (And.intro @dO (And.intro @d1 (And.intro @h1 (And.intro @h2 (@h3))))) ?_|refine kp (And.intro @dO (And.intro @d1 (And.intro @h1 (And.intro @h2 (@h3))))) ?_
     exact Again.mk (i+1) (by omega) ⟨aC,bW⟩ rfl rfl
 ·obtain rfl:i=s.length:=by omega
  have d1:decide ((s.length:Int)< (s.length:Int))=false:=decide_eq_false (by omega)
  rw[List.take_length] at oU
  have hf:cI s=(!(s== [])&&decide (s.length≤80)):=by unfold cI;rw[oU];simp
  cases h1:decide ((1:Int)≤ (s.length:Int)) with
  |true=>
   have pp:=of_decide_eq_true h1
   have g1: (s== [])=false:=beq_eq_false_iff_ne.2 (by rintro rfl;simp at pp)
   have g2:decide ((s.length:Int)≤80)=decide (s.length≤80):=by congr 1;rw[eq_iff_iff];omega
   first|with_reducible refine ks [] (And.intro @dO (And.intro @d1 (And.intro @h1 (@g2)))) ?_|refine kp (And.intro @dO (And.intro @d1 (And.intro @h1 (@g2)))) ?_
   refine⟨_,(ke @dO),trivial, ?_⟩
   (rw[hf,g1];rfl)
  |false=>
   have pp:=of_decide_eq_false h1
   have g1:s= []:=List.eq_nil_of_length_eq_zero (by omega)
   first|with_reducible refine ks [] (And.intro @dO (And.intro @d1 (@h1))) ?_|refine kp (And.intro @dO (And.intro @d1 (@h1))) ?_
   refine⟨_,(ke @dO),trivial, ?_⟩
   (rw[hf,g1];rfl)
def js (l:NmL) (s:List UInt8):Int:=match aV l s with|some n=>(n:Int) |none=> -1
theorem LY {l:NmL} {k:Nat} (h:k<l.length) (s:List UInt8):aV (l.drop k) s=if(l.getD k ([],0)).1=s then some (l.getD k ([],0)).2 else aV (l.drop (k+1)) s:=by
 rw[List.drop_eq_getElem_cons h,List.getD_eq_getElem?_getD,List.getElem?_eq_getElem h]
 show(List.find? _ _).map Prod.snd=_
 rw[List.find?_cons]
 by_cases e: (l[k]).1=s
 ·rw[show(s==(l[k]).1)=true from beq_iff_eq.2 e.symm]
  simp[e]
 ·rw[show(s==(l[k]).1)=false from beq_eq_false_iff_ne.2 (Ne.symm e)]
  simp only[Option.getD_some,e, ↓reduceIte]
  rfl
set_option linter.defProp false
def gU:=And.intro (And.intro (@ay) (@ax)) (And.intro (@zM) (@p7))
theorem Ed (v:Value) (l:NmL) (s:List UInt8) (w:World) (hv:NdSl w v l) (hl:l.length<1000000000):Rets Tryz.prog 92 #[v,vs s] w (fun r D=>r=vi (js l s)∧D= []):=by
 have ln:=hv.len
 rw[List.length_map] at ln
 obtain⟨rb,off,arr,E,fz,hr⟩:=hv.row
 refine Rets.enterV Tryz.func92 rfl (rs:= [.tmp 4]) Tryz.results92 Tryz.ntmps92 ?_
 refine kf ?_
 first|with_reducible refine ks [] @gU ?_|refine kp @gU ?_
 refine Cw.loopG (G:=Nat) [6,7,8,9,12,13,14,15,16,17,18,19,20,21,22,23,4,10,11,5] (fun g=> [(5,vi g)]) (fun g=> []) (fun g=>g≤l.length∧aV (l.drop g) s=aV l s) (fun g=>l.length - g) 0 rfl rfl ?_ ?_
 ·exact⟨Nat.zero_le _,rfl⟩
 intro k jk hk
 refine kv ?_
 obtain⟨fR,ex⟩:=hk
 by_cases aC:k<l.length
 ·have d1:decide ((k:Int)< (l.length:Int))=true:=decide_eq_true (by omega)
  have eE:k< (l.map aO).length:=by rw[List.length_map];exact aC
  have ix:=hr.idx true k eE
  have hh:=hr.has (by omega)
  have l0: ∀n,aF (some (false,n)) (some (.cells arr E fz)) (off+k*2)=some (vs ((l.map aO).getD k nd0).s):=fun n=>by have:=Cm hr eE n;rwa [Nat.add_zero] at this
  have l1: ∀n,aF (some (false,n)) (some (.cells arr E fz)) (off+k*2+1)=some (vi ((l.map aO).getD k nd0).n):=fun n=>zE hr eE n
  rw[uf] at l0 l1
  rw[LY aC] at ex
  generalize l.getD k ([],0)=q at*
  obtain⟨qs,qn⟩:=q
  simp only[aO] at l0 l1 ex
  by_cases he:qs=s
  ·have e1: (qs==s)=true:=beq_iff_eq.2 he
   rw[if_pos he] at ex
   first|with_reducible refine ks [] (And.intro @gU (And.intro @ln (And.intro @d1 (And.intro @ix (And.intro @hh (And.intro @l0 (And.intro @l1 (@e1)))))))) ?_|refine kp (And.intro @gU (And.intro @ln (And.intro @d1 (And.intro @ix (And.intro @hh (And.intro @l0 (And.intro @l1 (@e1)))))))) ?_
   refine⟨_,(ke @gU),trivial, ?_⟩
   (unfold js;rw[←ex];rfl)
  ·have e1: (qs==s)=false:=beq_eq_false_iff_ne.2 he
   rw[if_neg he] at ex
   first|with_reducible refine ks [] (And.intro @gU (And.intro @ln (And.intro @d1 (And.intro @ix (And.intro @hh (And.intro @l0 (And.intro @l1 (@e1)))))))) ?_|refine kp (And.intro @gU (And.intro @ln (And.intro @d1 (And.intro @ix (And.intro @hh (And.intro @l0 (And.intro @l1 (@e1)))))))) ?_
   exact Again.mk (k+1) (by omega) ⟨aC,ex⟩ rfl rfl
 ·obtain rfl:k=l.length:=by omega
  have d1:decide ((l.length:Int)< (l.length:Int))=false:=decide_eq_false (by omega)
  rw[List.drop_length] at ex
  first|with_reducible refine ks [] (And.intro @gU (And.intro @ln (@d1))) ?_|refine kp (And.intro @gU (And.intro @ln (@d1))) ?_
  refine⟨_,(ke @gU),trivial, ?_⟩
  (unfold js;rw[←ex];rfl)
structure WoG where
 k:Nat
 o:NmL
 v:Value
 D:aA
 DG:aA
theorem Bx {l:NmL} {k:Nat} (h:k<l.length) (s:List UInt8):ci (l.drop k) s=(if(l.getD k ([],0)).1=s then [] else [l.getD k ([],0)])++ci (l.drop (k+1)) s:=by
 rw[List.drop_eq_getElem_cons h,List.getD_eq_getElem?_getD,List.getElem?_eq_getElem h]
 unfold ci
 rw[List.filter_cons]
 by_cases e: (l[k]).1=s
 ·rw[show(s==(l[k]).1)=true from beq_iff_eq.2 e.symm]
  simp[e]
 ·rw[show(s==(l[k]).1)=false from beq_eq_false_iff_ne.2 (Ne.symm e)]
  simp[e]
theorem Ux (v:Value) (l:NmL) (s:List UInt8) (w:World) (hv:NdSl w v l) (hl:l.length<1000000000):Rets Tryz.prog 128 #[v,vs s] w (XS w [] (fun r D=>NdG D r (ci l s))):=by
 have ln:=hv.len
 rw[List.length_map] at ln
 obtain⟨rb,off,arr,E,fz,hr⟩:=hv.row
 refine Rets.enterX Tryz.func128 rfl (rs:= [.tmp 4]) Tryz.results128 Tryz.ntmps128 (fun p hp=>by cases hp) (by simp[keys]) ?_
 refine kf ?_
 first|with_reducible refine ks [] @gU ?_|refine kp @gU ?_
 refine Cw.permL (M:= []++ []) (List.Perm.refl _) ?_
 refine Cw.loopG (G:=WoG) [7,8,9,10,13,14,15,16,17,18,19,20,21,22,23,24,25,26,5,11,12,6] (fun g=> [(5,g.v),(6,vi g.k)]) (fun g=>g.D++g.DG) (fun g=>g.k≤l.length∧g.o.length≤g.k∧New w.heap.size g.D∧New w.heap.size g.DG∧g.o++ci (l.drop g.k) s=ci l s∧Gr g.D 144 2 g.v (g.o.map aO).length ((g.o.map aO).map ndC).flatten) (fun g=>l.length - g.k) ⟨0,[], .slice none 0 0,[],[]⟩ rfl rfl ?_ ?_
 ·exact⟨Nat.zero_le _,Nat.zero_le _,trivial,trivial,rfl,Gr.nl⟩
 intro g j hg
 refine kv ?_
 obtain⟨k,o,v3,D,DG⟩:=g
 simp only at hg ⊢
 obtain⟨hk,mG,hN,bD,hR,cw⟩:=hg
 have cr:New w.heap.size (D++DG):=hN.app bD
 have TZ: (o.map aO).length≤k:=by rw[List.length_map];exact mG
 by_cases aC:k<l.length
 ·have d1:decide ((k:Int)< (l.length:Int))=true:=decide_eq_true (by omega)
  have eE:k< (l.map aO).length:=by rw[List.length_map];exact aC
  have ix:=hr.idx true k eE
  have rda:aM w (D++DG) rb=some (.cells arr E fz):=by rw[j7 (cr.not (hr.lt (by omega)))];exact hr.has (by omega)
  have l0: ∀n,aF (some (false,n)) (some (.cells arr E fz)) (off+k*2)=some (vs ((l.map aO).getD k nd0).s):=fun n=>by have:=Cm hr eE n;rwa [Nat.add_zero] at this
  have lda:=sq hr eE
  rw[uf] at l0 lda
  rw[Bx aC] at hR
  generalize l.getD k ([],0)=q at*
  by_cases he:q.1=s
  ·have e1: ((aO q).s !=s)=false:=by show(q.1 !=s)=false;rw[he];exact bne_self_eq_false _
   rw[if_pos he,List.nil_append] at hR
   first|with_reducible refine ks [] (And.intro @gU (And.intro @ln (And.intro @d1 (And.intro @ix (And.intro @rda (And.intro @l0 (And.intro @lda (@e1)))))))) ?_|refine kp (And.intro @gU (And.intro @ln (And.intro @d1 (And.intro @ix (And.intro @rda (And.intro @l0 (And.intro @lda (@e1)))))))) ?_
   exact Again.mk ⟨k+1,o,v3,D,DG⟩ (by show l.length - (k+1)<l.length - k;omega) ⟨aC,by show o.length≤k+1;omega,hN,bD,hR,cw⟩ rfl rfl
  ·have e1: ((aO q).s !=s)=true:=bne_iff_ne.2 he
   rw[if_neg he,←List.append_assoc] at hR
   first|with_reducible refine ks [] (And.intro @gU (And.intro @ln (And.intro @d1 (And.intro @ix (And.intro @rda (And.intro @l0 (And.intro @lda (@e1)))))))) ?_|refine kp (And.intro @gU (And.intro @ln (And.intro @d1 (And.intro @ix (And.intro @rda (And.intro @l0 (And.intro @lda (@e1)))))))) ?_
   refine Ow.buildSlice (e:=144) (ndC (aO q)).toArray rfl rfl (j8 Tryz.underlying53 mY zrNd (by decide) (ef _)) fun bc nW ir=> ?_
   refine ko @gU ?_
   refine Ow.permL (M:=D++ (DG++ [(bc, .cells (ndC (aO q)).toArray 144 (0,0))])) (by classical exact List.perm_iff_count.2 fun a=>by simp only[List.count_append,List.count_cons,List.count_nil]<;>omega) ?_
   refine Ow.appendXG (e:=144) (k:=1) (new:=ndC (aO q)) (X:=D) v3 rfl rfl rfl rfl Tryz.underlying53 mY (by kernel_rfl) zrNd (by rw[p7,List.size_toArray,ef]) Tryz.underlying53 (by intro k h;cases h) cw (fun w' aB=>AppX.one1 (aB.has bc (.cells (ndC (aO q)).toArray 144 (0,0)) (by simp)) (ef _) (ub _)) (by omega) (fun B5 v5 D5 oP kh iF ii dF ey=> ?_)
   have fD:New w.heap.size D5:=New.of_le fun q hq=>by
    rcases dF q hq with h|h
    ·exact hN.le q h
    ·omega
   refine ko @gU ?_
   first|with_reducible refine ks [] @gU ?_|refine kp @gU ?_
   exact Again.mk ⟨k+1,o++ [q],v5,D5,DG++ [(bc, .cells (ndC (aO q)).toArray 144 (0,0))]⟩ (by show l.length - (k+1)<l.length - k;omega) ⟨aC,by rw[List.length_append];simp;omega,fD,bD.app ⟨ir,trivial⟩,hR,by simpa using iF⟩ rfl rfl
 ·obtain rfl:k=l.length:=by omega
  have d1:decide ((l.length:Int)< (l.length:Int))=false:=decide_eq_false (by omega)
  rw[List.drop_length,show ci [] s= [] from rfl,List.append_nil] at hR
  first|with_reducible refine ks [] (And.intro @gU (And.intro @ln (@d1))) ?_|refine kp (And.intro @gU (And.intro @ln (@d1))) ?_
  refine⟨_,(ke @gU), ?_⟩
  rw[←hR]
  exact⟨Ext.of_new cr,cw.i fun q hq=>List.mem_append_left _ hq⟩
end Go.Proofs
end
section
open Go Go.Proofs Go.Sx Go.StP
namespace Go.Proofs
set_option maxRecDepth 10000
set_option maxHeartbeats 400000
set_option linter.unusedSimpArgs false
def gj (d:Bool) (r:NmL) (x:List UInt8×Nat):NmL:=if d=true then ci r x.1 else insN (ci r x.1) x
theorem OC {l:NmL} {k:Nat} (h:k<l.length) (d:Bool) (x:List UInt8×Nat) (he: (l.getD k ([],0)).1=x.1):gj d (l.drop k) x=gj d (l.drop (k+1)) x:=by
 unfold gj
 rw[Bx h,if_pos he];rfl
theorem Qh {l:NmL} {k:Nat} (h:k<l.length) (x:List UInt8×Nat) (he: (l.getD k ([],0)).1≠x.1):gj true (l.drop k) x=l.getD k ([],0)::gj true (l.drop (k+1)) x:=by
 unfold gj
 rw[Bx h,if_neg he];rfl
theorem Qe {l:NmL} {k:Nat} (h:k<l.length) (x:List UInt8×Nat) (he: (l.getD k ([],0)).1≠x.1) (hl:ltB x.1 (l.getD k ([],0)).1=true):gj false (l.drop k) x=x::l.getD k ([],0)::gj true (l.drop (k+1)) x:=by
 unfold gj
 rw[Bx h,if_neg he]
 have e:insN (l.getD k ([],0)::ci (l.drop (k+1)) x.1) x=if ltB x.1 (l.getD k ([],0)).1=true then x::l.getD k ([],0)::ci (l.drop (k+1)) x.1 else l.getD k ([],0)::insN (ci (l.drop (k+1)) x.1) x:=rfl
 show insN (l.getD k ([],0)::ci (l.drop (k+1)) x.1) x=_
 rw[e,if_pos hl];rfl
theorem QZ {l:NmL} {k:Nat} (h:k<l.length) (x:List UInt8×Nat) (he: (l.getD k ([],0)).1≠x.1) (hl:ltB x.1 (l.getD k ([],0)).1=false):gj false (l.drop k) x=l.getD k ([],0)::gj false (l.drop (k+1)) x:=by
 unfold gj
 rw[Bx h,if_neg he]
 have e:insN (l.getD k ([],0)::ci (l.drop (k+1)) x.1) x=if ltB x.1 (l.getD k ([],0)).1=true then x::l.getD k ([],0)::ci (l.drop (k+1)) x.1 else l.getD k ([],0)::insN (ci (l.drop (k+1)) x.1) x:=rfl
 show insN (l.getD k ([],0)::ci (l.drop (k+1)) x.1) x=_
 rw[e,if_neg (by rw[hl];simp)];rfl
structure PuG where
 k:Nat
 d:Bool
 o:NmL
 v:Value
 D:aA
 DG:aA
set_option linter.defProp false
def cD:=And.intro (And.intro (@ay) (And.intro (@ax) (@zM))) (And.intro (@xz) (And.intro (@yB) (@p7)))
theorem EH (v:Value) (l:NmL) (x:List UInt8×Nat) (w:World) (hv:NdSl w v l) (hl:l.length<1000000000):Rets Tryz.prog 86 #[v, .agg (ndC (aO x)).toArray] w (XS w [] (fun r D=>NdG D r (gY l x))):=by
 have ln:=hv.len
 rw[List.length_map] at ln
 obtain⟨rb,off,arr,E,fz,hr⟩:=hv.row
 refine Rets.enterX Tryz.func86 rfl (rs:= [.tmp 4]) Tryz.results86 Tryz.ntmps86 (fun p hp=>by cases hp) (by simp[keys]) ?_
 refine kf ?_
 first|with_reducible refine ks [] @cD ?_|refine kp @cD ?_
 refine Ow.box rfl rfl fun b3 gM jK=> ?_
 simp only[eU,eT,ed,bL,List.nil_append,List.cons_append]
 refine ko @cD ?_
 first|with_reducible refine ks [] @cD ?_|refine kp @cD ?_
 refine Cw.permL (M:=(b3, .cells (ndC (aO x)).toArray 144 (0,0)):: ([]++ [])) (List.Perm.refl _) ?_
 refine Cw.loopG (G:=PuG) [8,9,10,11,14,15,16,17,18,19,20,21,22,23,24,25,26,27,28,29,30,31,32,33,34,35,36,37,5,6,38,39,40,41,42,43,44,12,13,7] (fun g=> [(5,g.v),(6, .bool g.d),(7,vi g.k)]) (fun g=>(b3, .cells (ndC (aO x)).toArray 144 (0,0)):: (g.D++g.DG)) (fun g=>g.k≤l.length∧((g.d=false→g.o.length≤g.k)∧g.o.length≤g.k+1)∧New w.heap.size g.D∧New w.heap.size g.DG∧g.o++gj g.d (l.drop g.k) x=gY l x∧Gr g.D 144 2 g.v (g.o.map aO).length ((g.o.map aO).map ndC).flatten) (fun g=>l.length - g.k) ⟨0,false,[], .slice none 0 0,[],[]⟩ rfl rfl ?_ ?_
 ·exact⟨Nat.zero_le _,⟨fun _=>Nat.zero_le _,Nat.zero_le _⟩,trivial,trivial,rfl,Gr.nl⟩
 intro g j hg
 refine kv ?_
 obtain⟨k,d,o,v3,D,DG⟩:=g
 simp only at hg ⊢
 obtain⟨hk,⟨mo,mG⟩,hN,bD,hR,cw⟩:=hg
 have cr:New w.heap.size ((b3,Obj.cells (ndC (aO x)).toArray 144 (0,0)):: (D++DG)):=⟨jK,hN.app bD⟩
 have TZ: (o.map aO).length≤k+1:=by rw[List.length_map];exact mG
 by_cases aC:k<l.length
 ·have d1:decide ((k:Int)< (l.length:Int))=true:=decide_eq_true (by omega)
  have eE:k< (l.map aO).length:=by rw[List.length_map];exact aC
  have ix:=hr.idx true k eE
  have rda: ∀Y,New w.heap.size Y→aM w Y rb=some (.cells arr E fz):=fun Y hY=>by rw[j7 (hY.not (hr.lt (by omega)))];exact hr.has (by omega)
  have rd1:=rda _ cr
  have l0: ∀n,aF (some (false,n)) (some (.cells arr E fz)) (off+k*2)=some (vs ((l.map aO).getD k nd0).s):=fun n=>by have:=Cm hr eE n;rwa [Nat.add_zero] at this
  have lda:=sq hr eE
  rw[uf] at l0 lda
  have i1:=OC aC (x:=x)
  have i2:=Qh aC (x:=x)
  have i3:=Qe aC (x:=x)
  have i4:=QZ aC (x:=x)
  generalize l.getD k ([],0)=q at*
  first|with_reducible refine ks [5] (And.intro @cD (And.intro @ln (@d1))) ?_|refine kp (And.intro @cD (And.intro @ln (@d1))) ?_
  refine Cw.regionS [rb,b3] [0,1,2,3,5,4,6,7] [] (by kernel_rfl) (by kernel_rfl) (by kernel_rfl) ?_
  simp only[ar, ↓ap, ↓ag, ↓an, ↓am,ah]
  refine kq (And.intro @cD (And.intro @ix (And.intro @rd1 (@l0)))) ?_
  by_cases he:q.1=x.1
  ·have e1: ((aO q).s==(aO x).s)=true:=beq_iff_eq.2 he
   rw[i1 d he] at hR
   first|with_reducible refine ks [] (And.intro @cD @e1) ?_|refine kp (And.intro @cD @e1) ?_
   first|with_reducible refine ks [] @cD ?_|refine kp @cD ?_
   exact Again.mk ⟨k+1,d,o,v3,D,DG⟩ (by show l.length - (k+1)<l.length - k;omega) ⟨aC,⟨(fun h=>by have:=mo h;show o.length≤k+1;omega),by show o.length≤k+1+1;omega⟩,hN,bD,hR,cw⟩ rfl rfl
  ·have e1: ((aO q).s==(aO x).s)=false:=beq_eq_false_iff_ne.2 he
   cases d with
   |true=>
    rw[i2 he] at hR
    rw[show o++q::gj true (l.drop (k+1)) x=(o++ [q])++gj true (l.drop (k+1)) x by simp] at hR
    first|with_reducible refine ks [5] (And.intro @cD @e1) ?_|refine kp (And.intro @cD @e1) ?_
    refine Cw.regionS [rb,b3] [0,1,2,3,4,5,6,8,7,9,10,11] [] (by kernel_rfl) (by kernel_rfl) (by kernel_rfl) ?_
    simp only[ar, ↓ap, ↓ag, ↓an, ↓am,ah]
    refine kq @cD ?_
    first|with_reducible refine ks [5] (And.intro @cD (And.intro @ix (And.intro @rd1 (@lda)))) ?_|refine kp (And.intro @cD (And.intro @ix (And.intro @rd1 (@lda)))) ?_
    refine Ow.buildSlice (e:=144) (ndC (aO q)).toArray rfl rfl (j8 Tryz.underlying53 mY zrNd (by decide) (ef _)) fun bc nW ir=> ?_
    refine ko @cD ?_
    refine Ow.permL (M:=D++ ((b3, .cells (ndC (aO x)).toArray 144 (0,0)):: (DG++ [(bc, .cells (ndC (aO q)).toArray 144 (0,0))]))) (by classical exact List.perm_iff_count.2 fun a=>by simp only[List.count_append,List.count_cons,List.count_nil]<;>omega) ?_
    refine Ow.appendXG (e:=144) (k:=1) (new:=ndC (aO q)) (X:=D) v3 rfl rfl rfl rfl Tryz.underlying53 mY (by kernel_rfl) zrNd (by rw[p7,List.size_toArray,ef]) Tryz.underlying53 (by intro k h;cases h) cw (fun w' aB=>AppX.one1 (aB.has bc (.cells (ndC (aO q)).toArray 144 (0,0)) (by simp)) (ef _) (ub _)) (by omega) (fun B5 v5 D5 oP kh iF ii dF ey=> ?_)
    have fD:New w.heap.size D5:=New.of_le fun q hq=>by
     rcases dF q hq with h|h
     ·exact hN.le q h
     ·omega
    refine ko @cD ?_
    refine Cw.permL (M:=(b3, .cells (ndC (aO x)).toArray 144 (0,0)):: (D5++ (DG++ [(bc, .cells (ndC (aO q)).toArray 144 (0,0))]))) (by classical exact List.perm_iff_count.2 fun a=>by simp only[List.count_append,List.count_cons,List.count_nil]<;>omega) ?_
    first|with_reducible refine ks [] @cD ?_|refine kp @cD ?_
    exact Again.mk ⟨k+1,true,o++ [q],v5,D5,DG++ [(bc, .cells (ndC (aO q)).toArray 144 (0,0))]⟩ (by show l.length - (k+1)<l.length - k;omega) ⟨aC,⟨(fun h=>by have:=mo h;rw[List.length_append];simp;omega),by rw[List.length_append];simp;omega⟩,fD,bD.app ⟨ir,trivial⟩,hR,by simpa using iF⟩ rfl rfl
   |false=>
    cases Dg:ltB x.1 q.1 with
    |true=>
     have e2:Op.bytesLess (aO q).s (aO x).s=false:=wa Dg
     rw[i3 he Dg] at hR
     rw[show o++x::q::gj true (l.drop (k+1)) x=((o++ [x])++ [q])++gj true (l.drop (k+1)) x by simp] at hR
     first|with_reducible refine ks [5] (And.intro @cD @e1) ?_|refine kp (And.intro @cD @e1) ?_
     refine Cw.regionS [rb,b3] [0,1,2,3,4,5,6,8,7,9,10,11] [] (by kernel_rfl) (by kernel_rfl) (by kernel_rfl) ?_
     simp only[ar, ↓ap, ↓ag, ↓an, ↓am,ah]
     refine kq (And.intro @cD (And.intro @ix (And.intro @rd1 (And.intro @l0 (And.intro @e2 (@e1)))))) ?_
     first|with_reducible refine ks [5] @cD ?_|refine kp @cD ?_
     refine Ow.buildSlice (e:=144) (ndC (aO x)).toArray rfl rfl (j8 Tryz.underlying53 mY zrNd (by decide) (ef _)) fun bc nW ir=> ?_
     refine ko @cD ?_
     refine Ow.permL (M:=D++ ((b3, .cells (ndC (aO x)).toArray 144 (0,0)):: (DG++ [(bc, .cells (ndC (aO x)).toArray 144 (0,0))]))) (by classical exact List.perm_iff_count.2 fun a=>by simp only[List.count_append,List.count_cons,List.count_nil]<;>omega) ?_
     refine Ow.appendXG (e:=144) (k:=1) (new:=ndC (aO x)) (X:=D) v3 rfl rfl rfl rfl Tryz.underlying53 mY (by kernel_rfl) zrNd (by rw[p7,List.size_toArray,ef]) Tryz.underlying53 (by intro k h;cases h) cw (fun w' aB=>AppX.one1 (aB.has bc (.cells (ndC (aO x)).toArray 144 (0,0)) (by simp)) (ef _) (ub _)) (by omega) (fun B5 v5 D5 oP kh iF ii dF ey=> ?_)
     have fD:New w.heap.size D5:=New.of_le fun q hq=>by
      rcases dF q hq with h|h
      ·exact hN.le q h
      ·omega
     have AD:New w.heap.size (DG++ [(bc,Obj.cells (ndC (aO x)).toArray 144 (0,0))]):=bD.app ⟨ir,trivial⟩
     generalize DG++ [(bc,Obj.cells (ndC (aO x)).toArray 144 (0,0))]=DG2 at*
     have ja:Gr D5 144 2 v5 ((o++ [x]).map aO).length (((o++ [x]).map aO).map ndC).flatten:=by simpa using iF
     have AH:New w.heap.size ((b3,Obj.cells (ndC (aO x)).toArray 144 (0,0)):: (D5++DG2)):=⟨jK,fD.app AD⟩
     have rd2:=rda _ AH
     refine Ow.permL (M:=(b3, .cells (ndC (aO x)).toArray 144 (0,0)):: (D5++DG2)) (by classical exact List.perm_iff_count.2 fun a=>by simp only[List.count_append,List.count_cons,List.count_nil]<;>omega) ?_
     refine ko (And.intro @cD (And.intro @ix (And.intro @rd2 (@lda)))) ?_
     have uE: ((o++ [x]).map aO).length≤k+2:=by rw[List.length_map,List.length_append];simp;omega
     refine Ow.buildSlice (e:=144) (ndC (aO q)).toArray rfl rfl (j8 Tryz.underlying53 mY zrNd (by decide) (ef _)) fun bd bJ rg=> ?_
     refine ko @cD ?_
     refine Ow.permL (M:=D5++ ((b3, .cells (ndC (aO x)).toArray 144 (0,0)):: (DG2++ [(bd, .cells (ndC (aO q)).toArray 144 (0,0))]))) (by classical exact List.perm_iff_count.2 fun a=>by simp only[List.count_append,List.count_cons,List.count_nil]<;>omega) ?_
     refine Ow.appendXG (e:=144) (k:=1) (new:=ndC (aO q)) (X:=D5) v5 rfl rfl rfl rfl Tryz.underlying53 mY (by kernel_rfl) zrNd (by rw[p7,List.size_toArray,ef]) Tryz.underlying53 (by intro k h;cases h) ja (fun w' aB=>AppX.one1 (aB.has bd (.cells (ndC (aO q)).toArray 144 (0,0)) (by simp)) (ef _) (ub _)) (by omega) (fun B6 v6 D6 ZY A7 me hk61 Sw u4=> ?_)
     have jc:New w.heap.size D6:=New.of_le fun q hq=>by
      rcases Sw q hq with h|h
      ·exact fD.le q h
      ·omega
     refine ko @cD ?_
     refine Cw.permL (M:=(b3, .cells (ndC (aO x)).toArray 144 (0,0)):: (D6++ (DG2++ [(bd, .cells (ndC (aO q)).toArray 144 (0,0))]))) (by classical exact List.perm_iff_count.2 fun a=>by simp only[List.count_append,List.count_cons,List.count_nil]<;>omega) ?_
     first|with_reducible refine ks [] @cD ?_|refine kp @cD ?_
     exact Again.mk ⟨k+1,true,(o++ [x])++ [q],v6,D6,DG2++ [(bd, .cells (ndC (aO q)).toArray 144 (0,0))]⟩ (by show l.length - (k+1)<l.length - k;omega) ⟨aC,⟨(fun h=>by cases h),by have:=mo rfl;rw[List.length_append,List.length_append];simp;omega⟩,jc,AD.app ⟨rg,trivial⟩,hR,by simpa using me⟩ rfl rfl
    |false=>
     have e2:Op.bytesLess (aO q).s (aO x).s=true:=DI Dg (Ne.symm he)
     rw[i4 he Dg] at hR
     rw[show o++q::gj false (l.drop (k+1)) x=(o++ [q])++gj false (l.drop (k+1)) x by simp] at hR
     first|with_reducible refine ks [5] (And.intro @cD @e1) ?_|refine kp (And.intro @cD @e1) ?_
     refine Cw.regionS [rb,b3] [0,1,2,3,4,5,6,8,7,9,10,11] [] (by kernel_rfl) (by kernel_rfl) (by kernel_rfl) ?_
     simp only[ar, ↓ap, ↓ag, ↓an, ↓am,ah]
     refine kq (And.intro @cD (And.intro @ix (And.intro @rd1 (And.intro @l0 (And.intro @e2 (@e1)))))) ?_
     first|with_reducible refine ks [5] (And.intro @cD (And.intro @ix (And.intro @rd1 (@lda)))) ?_|refine kp (And.intro @cD (And.intro @ix (And.intro @rd1 (@lda)))) ?_
     refine Ow.buildSlice (e:=144) (ndC (aO q)).toArray rfl rfl (j8 Tryz.underlying53 mY zrNd (by decide) (ef _)) fun bc nW ir=> ?_
     refine ko @cD ?_
     refine Ow.permL (M:=D++ ((b3, .cells (ndC (aO x)).toArray 144 (0,0)):: (DG++ [(bc, .cells (ndC (aO q)).toArray 144 (0,0))]))) (by classical exact List.perm_iff_count.2 fun a=>by simp only[List.count_append,List.count_cons,List.count_nil]<;>omega) ?_
     refine Ow.appendXG (e:=144) (k:=1) (new:=ndC (aO q)) (X:=D) v3 rfl rfl rfl rfl Tryz.underlying53 mY (by kernel_rfl) zrNd (by rw[p7,List.size_toArray,ef]) Tryz.underlying53 (by intro k h;cases h) cw (fun w' aB=>AppX.one1 (aB.has bc (.cells (ndC (aO q)).toArray 144 (0,0)) (by simp)) (ef _) (ub _)) (by omega) (fun B5 v5 D5 oP kh iF ii dF ey=> ?_)
     have fD:New w.heap.size D5:=New.of_le fun q hq=>by
      rcases dF q hq with h|h
      ·exact hN.le q h
      ·omega
     refine ko @cD ?_
     refine Cw.permL (M:=(b3, .cells (ndC (aO x)).toArray 144 (0,0)):: (D5++ (DG++ [(bc, .cells (ndC (aO q)).toArray 144 (0,0))]))) (by classical exact List.perm_iff_count.2 fun a=>by simp only[List.count_append,List.count_cons,List.count_nil]<;>omega) ?_
     first|with_reducible refine ks [] @cD ?_|refine kp @cD ?_
     exact Again.mk ⟨k+1,false,o++ [q],v5,D5,DG++ [(bc, .cells (ndC (aO q)).toArray 144 (0,0))]⟩ (by show l.length - (k+1)<l.length - k;omega) ⟨aC,⟨(fun h=>by have:=mo h;rw[List.length_append];simp;omega),by rw[List.length_append];simp;omega⟩,fD,bD.app ⟨ir,trivial⟩,hR,by simpa using iF⟩ rfl rfl
 ·obtain rfl:k=l.length:=by omega
  have d1:decide ((l.length:Int)< (l.length:Int))=false:=decide_eq_false (by omega)
  rw[List.drop_length] at hR
  cases d with
  |true=>
   rw[show gj true [] x= [] from rfl,List.append_nil] at hR
   first|with_reducible refine ks [] (And.intro @cD (And.intro @ln (@d1))) ?_|refine kp (And.intro @cD (And.intro @ln (@d1))) ?_
   refine⟨_,(ke @cD), ?_⟩
   rw[←hR]
   exact⟨Ext.of_new cr,cw.i fun q hq=>List.mem_cons_of_mem _ (List.mem_append_left _ hq)⟩
  |false=>
   rw[show gj false [] x= [x] from rfl] at hR
   first|with_reducible refine ks [] (And.intro @cD (And.intro @ln (@d1))) ?_|refine kp (And.intro @cD (And.intro @ln (@d1))) ?_
   refine Ow.buildSlice (e:=144) (ndC (aO x)).toArray rfl rfl (j8 Tryz.underlying53 mY zrNd (by decide) (ef _)) fun bc nW ir=> ?_
   refine ko @cD ?_
   refine Ow.permL (M:=D++ ((b3, .cells (ndC (aO x)).toArray 144 (0,0)):: (DG++ [(bc, .cells (ndC (aO x)).toArray 144 (0,0))]))) (by classical exact List.perm_iff_count.2 fun a=>by simp only[List.count_append,List.count_cons,List.count_nil]<;>omega) ?_
   refine Ow.appendXG (e:=144) (k:=1) (new:=ndC (aO x)) (X:=D) v3 rfl rfl rfl rfl Tryz.underlying53 mY (by kernel_rfl) zrNd (by rw[p7,List.size_toArray,ef]) Tryz.underlying53 (by intro k h;cases h) cw (fun w' aB=>AppX.one1 (aB.has bc (.cells (ndC (aO x)).toArray 144 (0,0)) (by simp)) (ef _) (ub _)) (by omega) (fun B5 v5 D5 oP kh iF ii dF ey=> ?_)
   have fD:New w.heap.size D5:=New.of_le fun q hq=>by
    rcases dF q hq with h|h
    ·exact hN.le q h
    ·omega
   refine ko @cD ?_
   first|with_reducible refine ks [] @cD ?_|refine kp @cD ?_
   refine⟨_,(ke @cD), ?_⟩
   rw[←hR]
   have ja:Gr D5 144 2 v5 ((o++ [x]).map aO).length (((o++ [x]).map aO).map ndC).flatten:=by simpa using iF
   exact⟨Ext.of_new (fD.app (show New w.heap.size ((b3,_):: (DG++ [(bc,_)])) from⟨jK,bD.app ⟨ir,trivial⟩⟩)),ja.i fun q hq=>List.mem_append_left _ hq⟩
set_option linter.defProp false
def iN:=And.intro (And.intro (And.intro (@ay) (@ax)) (And.intro (@zD) (@xm))) (And.intro (And.intro (@yJ) (@yV)) (And.intro (@xf) (@El)))
theorem F5 (x:List UInt8×Nat):fU (cX Tryz.prog 144) (al Tryz.prog 144) [(0,vs x.1),(1,vi (x.2:Int))]=some (.agg (ndC (aO x)).toArray):=by
 rw[show cX Tryz.prog 144=some [(0,1),(1,1)] from id (by kernel_rfl),Tryz.zr144];rfl
theorem Jj (v:Value) (l:NmL) (c:CallL) (w:World) (hv:NdSl w v l) (hl:l.length<999999999) (eX:c.kind=1→aV l c.a≠none):Rets Tryz.prog 91 #[v, .agg (kcC (jA c)).toArray] w (XS w [] (fun r D=>NdG D r (cJ l c))):=by
 have jg: (jA c).kind=(c.kind:Int):=rfl
 have qI: (jA c).a=c.a:=rfl
 have hkb: (jA c).b=c.b:=rfl
 have Df: (jA c).n=(c.n:Int):=rfl
 refine Rets.enterX Tryz.func91 rfl (rs:= [.tmp 4]) Tryz.results91 Tryz.ntmps91 (fun p hp=>by cases hp) (by simp[keys]) ?_
 refine kf ?_
 first|with_reducible refine ks [] @iN ?_|refine kp @iN ?_
 refine Ow.box rfl rfl fun b3 gM jK=> ?_
 simp only[eU,eT,ed,bL,List.nil_append,List.cons_append]
 have dY:New w.heap.size [(b3,Obj.cells (kcC (jA c)).toArray 150 (0,0))]:=⟨jK,trivial⟩
 refine ko @iN ?_
 by_cases k0:c.kind=0
 ·have e0: (((c.kind:Nat):Int)==0)=true:=by rw[k0];rfl
  have hd:cJ l c=gY l (c.a,c.n):=by unfold cJ;rw[k0];rfl
  first|with_reducible refine ks [] (And.intro @iN (And.intro @jg (And.intro @e0 (And.intro @qI (@Df))))) ?_|refine kp (And.intro @iN (And.intro @jg (And.intro @e0 (And.intro @qI (@Df))))) ?_
  refine Ow.build (.agg (ndC (aO (c.a,c.n))).toArray) rfl (F5 (c.a,c.n)) ?_
  refine ko @iN ?_
  refine Ow.callC rfl rfl Tryz.call86 (fun w' aB=>EH v l (c.a,c.n) w' (hv.oldN aB dY) (by omega)) (fun B1 v1 D1 bv dh bX cz=> ?_)
  refine ko @iN ?_
  refine⟨_,(ke @iN), ?_⟩
  rw[hd]
  exact⟨Ext.of_new (show New w.heap.size ((b3,_)::D1) from⟨jK,bX.mono dh⟩),cz.mono fun q hq=>List.mem_cons_of_mem _ hq⟩
 ·have e0: (((c.kind:Nat):Int)==0)=false:=beq_eq_false_iff_ne.2 (by omega)
  by_cases k1:c.kind=1
  ·have e1: (((c.kind:Nat):Int)==1)=true:=by rw[k1];rfl
   obtain⟨n,hn⟩: ∃n,aV l c.a=some n:=by
    cases h:aV l c.a with
    |none=>exact absurd h (eX k1)
    |some n=>exact⟨n,rfl⟩
   have hd:cJ l c=gY (ci l c.a) (c.b,n):=by unfold cJ;rw[k1,hn];rfl
   have mC:js l c.a=(n:Int):=by unfold js;rw[hn]
   have hwl:=Cn l c.a
   first|with_reducible refine ks [6] (And.intro @iN (And.intro @jg (And.intro @e0 (And.intro @e1 (@qI))))) ?_|refine kp (And.intro @iN (And.intro @jg (And.intro @e0 (And.intro @e1 (@qI))))) ?_
   refine Ow.callFV rfl Tryz.call92 (fun w' aB=>Ed v l c.a w' (hv.oldN aB dY) (by omega)) ?_
   rw[mC]
   refine ko @iN ?_
   refine Cw.regionS [b3] [0,1,4,6,2,5,7,3,8,9] [] (by kernel_rfl) (by kernel_rfl) (by kernel_rfl) ?_
   simp only[ar, ↓ap, ↓ag, ↓an, ↓am,ah]
   refine kq (And.intro @iN (And.intro @qI (@hkb))) ?_
   refine Ow.build (.agg (ndC (aO (c.b,n))).toArray) rfl (F5 (c.b,n)) ?_
   refine kq @iN ?_
   refine Ow.soft rfl rfl rfl ?_
   refine Ow.callC rfl rfl Tryz.call128 (fun w' aB=>Ux v l c.a w' (hv.oldN aB dY) (by omega)) (fun B1 v1 D1 bv dh bX cz=> ?_)
   have cy:New w.heap.size ([(b3,Obj.cells (kcC (jA c)).toArray 150 (0,0))]++D1):=dY.app (bX.mono dh)
   with_reducible refine Ow.nil ?_
   refine⟨Bj (by simp[keys]), ?_⟩
   refine kq @iN ?_
   refine Ow.soft rfl rfl rfl ?_
   refine Ow.callC rfl rfl Tryz.call86 (fun w' aB=>EH v1 (ci l c.a) (c.b,n) w' ((cz.mono (fun q hq=>by simp[hq])).slV (z:=nd0) aB rfl rfl ef) (by omega)) (fun B2 v2 D2 ai fh bw bl=> ?_)
   with_reducible refine Ow.nil ?_
   refine⟨Bj (by simp[keys]), ?_⟩
   refine kq @iN ?_
   refine⟨_,(ke @iN), ?_⟩
   rw[hd]
   exact⟨Ext.of_new (cy.app (bw.mono fh)),bl.mono fun q hq=>by simp[hq]⟩
  ·have e1: (((c.kind:Nat):Int)==1)=false:=beq_eq_false_iff_ne.2 (by omega)
   have hd:cJ l c=ci l c.a:=by
    unfold cJ
    split
    ·omega
    ·omega
    ·rfl
   first|with_reducible refine ks [] (And.intro @iN (And.intro @jg (And.intro @e0 (And.intro @e1 (@qI))))) ?_|refine kp (And.intro @iN (And.intro @jg (And.intro @e0 (And.intro @e1 (@qI))))) ?_
   refine Ow.callC rfl rfl Tryz.call128 (fun w' aB=>Ux v l c.a w' (hv.oldN aB dY) (by omega)) (fun B1 v1 D1 bv dh bX cz=> ?_)
   refine ko @iN ?_
   refine⟨_,(ke @iN), ?_⟩
   rw[hd]
   exact⟨Ext.of_new (show New w.heap.size ((b3,_)::D1) from⟨jK,bX.mono dh⟩),cz.mono fun q hq=>List.mem_cons_of_mem _ hq⟩
end Go.Proofs
end
section
open Go Go.Proofs Go.Sx Go.StP
namespace Go.Proofs
set_option maxRecDepth 10000
set_option maxHeartbeats 400000
set_option linter.unusedSimpArgs false
structure DcG where
 bd:Nat
 s:Nat→Value
 t:Nat→Value
 p:Nat→Value
 f:Value
def gF (S:DiskL):Int:=if S.fused=true then S.fuse else -1
def dcO (G:DcG) (S:DiskL):Obj:= .cells #[G.s 0,G.t 0,G.p 0,G.s 1,G.t 1,G.p 1,G.s 2,G.t 2,G.p 2,G.f,vi S.max,vi (gF S), .bool S.off] 60 (0,0)
def lI (c:CallL):CallL:=if c.kind=0 then⟨0,c.a,[],c.n⟩ else if c.kind=1 then⟨1,c.a,c.b,0⟩ else⟨2,c.a,[],0⟩
theorem JS (l:NmL) (c:CallL):cJ l (lI c)=cJ l c:=by
 obtain⟨k,a,b,n⟩:=c
 unfold lI
 match k with
 |0=>rfl
 |1=>rfl
 |k+2=>
  rw[if_neg (by simp),if_neg (by simp)];rfl
def NdP (X:aA) (v:Value) (l:NmL):Prop:=Gr X 144 2 v (l.map aO).length ((l.map aO).map ndC).flatten
def KcP (X:aA) (v:Value) (l:List CallL):Prop:=Gr X 150 4 v (l.map jA).length ((l.map jA).map kcC).flatten
def FdP (X:aA) (v:Value) (l:List FileL):Prop:=Gr X 141 2 v (l.map dA).length ((l.map dA).map fdC).flatten
structure DcP (X:aA) (G:DcG) (S:DiskL):Prop where
 disk:Sx.look X G.bd=some (dcO G S)
 seen: ∀k,k<3→NdP X (G.s k) (S.dir k).seen
 stl: ∀k,k<3→NdP X (G.t k) (S.dir k).stl
 pend: ∀k,k<3→ ∃pl:List CallL,pl.map lI=(S.dir k).pend.map lI∧KcP X (G.p k) pl
 files:FdP X G.f S.files
 pdis: ∀i j,i<3→j<3→i≠j→ ∀b,slB (G.p i)=some b→slB (G.p j)≠some b
def DcW (w:World) (G:DcG) (S:DiskL):Prop:= ∃X,(∀b o,Sx.look X b=some o→w.heap[b]? =some o)∧DcP X G S
theorem Gr.keepTy {X L:aA} {E:TypeId} {m n:Nat} {v:Value} {cs:List Value} (h:Gr X E m v n cs) {c:Nat} {oc:Obj} (hc:Sx.look X c=some oc) (ht:tyO oc≠some E) (keep: ∀b o,b≠c→Sx.look X b=some o→Sx.look L b=some o):Gr L E m v n cs:=h.keep fun b o hb ho=>keep b o (by
 rintro rfl
 obtain⟨arr,ha⟩:=gd h hb
 rw[hc] at ha;cases ha;exact ht rfl) ho
theorem DcP.mono {X X':aA} {G:DcG} {S:DiskL} (h:DcP X G S) (hk: ∀b o,Sx.look X b=some o→Sx.look X' b=some o):DcP X' G S where
 disk:=hk _ _ h.disk
 seen k aa:=(h.seen k aa).keep fun b o _ ho=>hk b o ho
 stl k aa:=(h.stl k aa).keep fun b o _ ho=>hk b o ho
 pend k aa:=by
  obtain⟨pl,h1,h2⟩:=h.pend k aa
  exact⟨pl,h1,h2.keep fun b o _ ho=>hk b o ho⟩
 files:=h.files.keep fun b o _ ho=>hk b o ho
 pdis:=h.pdis
theorem DcP.world {X:aA} {G:DcG} {S:DiskL} {w0 w:World} (h:DcP X G S) (hw:Hp w0 X w):DcW w G S:=⟨X,fun _ _ hb=>hw.has _ _ (bh hb),h⟩
theorem DcP.worldX {X:aA} {G:DcG} {S:DiskL} {w:World} (h:DcP X G S) (hX: ∀p,p∈X→w.heap[p.1]? =some p.2):DcW w G S:=⟨X,fun _ _ hb=>hX _ (bh hb),h⟩
theorem DcW.old {w w':World} {L:aA} {G:DcG} {S:DiskL} (h:DcW w G S) (hw:Hp w L w') (hn:New w.heap.size L):DcW w' G S:=by
 obtain⟨X,hX,hP⟩:=h
 refine⟨X,fun b o hb=> ?_,hP⟩
 have aC:=(Array.getElem?_eq_some_iff.1 (hX b o hb)).1
 exact(hw.old b aC (hn.not aC)).trans (hX b o hb)
theorem fV (G:DcG) (S:DiskL):tyO (dcO G S)=some 60:=rfl
theorem oA: (some 60:Option TypeId)≠some 144:=by decide
theorem uo: (some 60:Option TypeId)≠some 150:=by decide
theorem oz: (some 60:Option TypeId)≠some 141:=by decide
theorem DcP.upd {X L:aA} {G G':DcG} {S S':DiskL} (h:DcP X G S) (hb:G'.bd=G.bd) (keep: ∀b o,b≠G.bd→Sx.look X b=some o→Sx.look L b=some o) (hd:Sx.look L G.bd=some (dcO G' S'))
  (hs: ∀k,k<3→(G'.s k=G.s k∧(S'.dir k).seen=(S.dir k).seen)∨NdP L (G'.s k) (S'.dir k).seen)
  (ht: ∀k,k<3→(G'.t k=G.t k∧(S'.dir k).stl=(S.dir k).stl)∨NdP L (G'.t k) (S'.dir k).stl)
  (hp: ∀k,k<3→(G'.p k=G.p k∧(S'.dir k).pend=(S.dir k).pend)∨(G'.p k= .slice none 0 0∧(S'.dir k).pend= []))
  (hf:G'.f=G.f∧S'.files=S.files):DcP L G' S' where
 disk:=by rw[hb];exact hd
 seen k hk:=by
  rcases hs k hk with⟨h1,h2⟩ |h1
  ·rw[h1,h2];exact Gr.keepTy (h.seen k hk) h.disk (by rw[fV];exact oA) keep
  ·exact h1
 stl k hk:=by
  rcases ht k hk with⟨h1,h2⟩ |h1
  ·rw[h1,h2];exact Gr.keepTy (h.stl k hk) h.disk (by rw[fV];exact oA) keep
  ·exact h1
 pend k hk:=by
  rcases hp k hk with⟨h1,h2⟩ | ⟨h1,h2⟩
  ·obtain⟨pl,h3,h4⟩:=h.pend k hk
   exact⟨pl,by rw[h2];exact h3,by rw[h1];exact Gr.keepTy h4 h.disk (by rw[fV];exact uo) keep⟩
  ·exact⟨[],by rw[h2],by rw[h1];exact Gr.nl⟩
 files:=by rw[hf.1,hf.2];exact Gr.keepTy h.files h.disk (by rw[fV];exact oz) keep
 pdis i j hi hj kC b:=by
  rcases hp i hi with⟨h1,-⟩ | ⟨h1,-⟩
  ·rcases hp j hj with⟨h2,-⟩ | ⟨h2,-⟩
   ·rw[h1,h2];exact h.pdis i j hi hj kC b
   ·rw[h2];intro _ h;cases h
  ·rw[h1];intro h;cases h
theorem DcP.setD {X:aA} {G:DcG} {S:DiskL} (h:DcP X G S) (S':DiskL) (hd:S'.dir=S.dir) (hf:S'.files=S.files):DcP (setB X G.bd (dcO G S')) G S':=
 h.upd rfl (fun b o hb ho=>by rw[bH (Ne.symm hb)];exact ho) (ee h.disk) (fun k _=> .inl ⟨rfl,by rw[hd]⟩) (fun k _=> .inl ⟨rfl,by rw[hd]⟩) (fun k _=> .inl ⟨rfl,by rw[hd]⟩) ⟨rfl,hf⟩
theorem qr (G:DcG) (S:DiskL) {k:Nat} (hk:k<3) (n:Nat):aF (some (false,n)) (some (dcO G S)) (k*3)=some (G.s k):=by
 have:k=0∨k=1∨k=2:=by omega
 rcases this with rfl|rfl|rfl<;>rfl
theorem Np (G:DcG) (S:DiskL) {k:Nat} (hk:k<3) (n:Nat):aF (some (false,n)) (some (dcO G S)) (k*3+2)=some (G.p k):=by
 have:k=0∨k=1∨k=2:=by omega
 rcases this with rfl|rfl|rfl<;>rfl
theorem uP (G:DcG) (S:DiskL) (n:Nat):aF (some (false,n)) (some (dcO G S)) 9=some G.f:=(rfl)
theorem uR (G:DcG) (S:DiskL) (n:Nat):aF (some (false,n)) (some (dcO G S)) 10=some (vi S.max):=(rfl)
theorem uT (G:DcG) (S:DiskL) (n:Nat):aF (some (false,n)) (some (dcO G S)) 11=some (vi (gF S)):=(rfl)
theorem uW (G:DcG) (S:DiskL) (n:Nat):aF (some (false,n)) (some (dcO G S)) 12=some (.bool S.off):=(rfl)
def cm (G:DcG) (k:Nat) (v:Value):DcG:={G with s:=fun j=>if j=k then v else G.s j}
def iV (G:DcG) (k:Nat) (v:Value):DcG:={G with t:=fun j=>if j=k then v else G.t j}
def eb (G:DcG) (k:Nat) (v:Value):DcG:={G with p:=fun j=>if j=k then v else G.p j}
theorem x8 (G:DcG) (S:DiskL) {k:Nat} (hk:k<3) (x:Bool) {q:Value} (hq:Value.oneCell' q=true∧q.cells= #[q]):ac (some (x,1)) (some (dcO G S)) (k*3) q=some (dcO (cm G k q) S):=by
 have:k=0∨k=1∨k=2:=by omega
 rcases this with rfl|rfl|rfl
 ·exact d9 [] [G.s 0] [q] [G.t 0,G.p 0,G.s 1,G.t 1,G.p 1,G.s 2,G.t 2,G.p 2,G.f,vi S.max,vi (gF S), .bool S.off] x _ 60 rfl rfl hq.2 rfl (by simp[hq.1])
 ·exact d9 [G.s 0,G.t 0,G.p 0] [G.s 1] [q] [G.t 1,G.p 1,G.s 2,G.t 2,G.p 2,G.f,vi S.max,vi (gF S), .bool S.off] x _ 60 rfl rfl hq.2 rfl (by simp[hq.1])
 ·exact d9 [G.s 0,G.t 0,G.p 0,G.s 1,G.t 1,G.p 1] [G.s 2] [q] [G.t 2,G.p 2,G.f,vi S.max,vi (gF S), .bool S.off] x _ 60 rfl rfl hq.2 rfl (by simp[hq.1])
theorem xM (G:DcG) (S:DiskL) {k:Nat} (hk:k<3) (x:Bool) {q:Value} (hq:Value.oneCell' q=true∧q.cells= #[q]):ac (some (x,1)) (some (dcO G S)) (k*3+1) q=some (dcO (iV G k q) S):=by
 have:k=0∨k=1∨k=2:=by omega
 rcases this with rfl|rfl|rfl
 ·exact d9 [G.s 0] [G.t 0] [q] [G.p 0,G.s 1,G.t 1,G.p 1,G.s 2,G.t 2,G.p 2,G.f,vi S.max,vi (gF S), .bool S.off] x _ 60 rfl rfl hq.2 rfl (by simp[hq.1])
 ·exact d9 [G.s 0,G.t 0,G.p 0,G.s 1] [G.t 1] [q] [G.p 1,G.s 2,G.t 2,G.p 2,G.f,vi S.max,vi (gF S), .bool S.off] x _ 60 rfl rfl hq.2 rfl (by simp[hq.1])
 ·exact d9 [G.s 0,G.t 0,G.p 0,G.s 1,G.t 1,G.p 1,G.s 2] [G.t 2] [q] [G.p 2,G.f,vi S.max,vi (gF S), .bool S.off] x _ 60 rfl rfl hq.2 rfl (by simp[hq.1])
theorem wU (G:DcG) (S:DiskL) {k:Nat} (hk:k<3) (x:Bool) {q:Value} (hq:Value.oneCell' q=true∧q.cells= #[q]):ac (some (x,1)) (some (dcO G S)) (k*3+2) q=some (dcO (eb G k q) S):=by
 have:k=0∨k=1∨k=2:=by omega
 rcases this with rfl|rfl|rfl
 ·exact d9 [G.s 0,G.t 0] [G.p 0] [q] [G.s 1,G.t 1,G.p 1,G.s 2,G.t 2,G.p 2,G.f,vi S.max,vi (gF S), .bool S.off] x _ 60 rfl rfl hq.2 rfl (by simp[hq.1])
 ·exact d9 [G.s 0,G.t 0,G.p 0,G.s 1,G.t 1] [G.p 1] [q] [G.s 2,G.t 2,G.p 2,G.f,vi S.max,vi (gF S), .bool S.off] x _ 60 rfl rfl hq.2 rfl (by simp[hq.1])
 ·exact d9 [G.s 0,G.t 0,G.p 0,G.s 1,G.t 1,G.p 1,G.s 2,G.t 2] [G.p 2] [q] [G.f,vi S.max,vi (gF S), .bool S.off] x _ 60 rfl rfl hq.2 rfl (by simp[hq.1])
theorem wZ (G:DcG) (S:DiskL) (x:Bool) {q:Value} (hq:Value.oneCell' q=true∧q.cells= #[q]):ac (some (x,1)) (some (dcO G S)) 9 q=some (dcO {G with f:=q} S):=
 d9 [G.s 0,G.t 0,G.p 0,G.s 1,G.t 1,G.p 1,G.s 2,G.t 2,G.p 2] [G.f] [q] [vi S.max,vi (gF S), .bool S.off] x _ 60 rfl rfl hq.2 rfl (by simp[hq.1])
def dcL (G:DcG) (S:DiskL) (n:Int) (b:Bool):Obj:= .cells #[G.s 0,G.t 0,G.p 0,G.s 1,G.t 1,G.p 1,G.s 2,G.t 2,G.p 2,G.f,vi S.max,vi n, .bool b] 60 (0,0)
theorem tE (G:DcG) (S S':DiskL) {n:Int} {b:Bool} (hm:S'.max=S.max) (hl:gF S'=n) (ho:S'.off=b):dcL G S n b=dcO G S':=by
 unfold dcL dcO;rw[hm,hl,ho]
theorem ww (G:DcG) (S:DiskL) (n:Int) (a:Bool):ac (some (a,1)) (some (dcO G S)) 11 (vi n)=some (dcL G S n S.off):=d9 [G.s 0,G.t 0,G.p 0,G.s 1,G.t 1,G.p 1,G.s 2,G.t 2,G.p 2,G.f,vi S.max] [vi (gF S)] [vi n] [.bool S.off] a _ 60 rfl rfl rfl rfl rfl
theorem VM (G:DcG) (S:DiskL) (m n:Int) (b a:Bool):ac (some (a,1)) (some (dcL G S m b)) 11 (vi n)=some (dcL G S n b):=d9 [G.s 0,G.t 0,G.p 0,G.s 1,G.t 1,G.p 1,G.s 2,G.t 2,G.p 2,G.f,vi S.max] [vi m] [vi n] [.bool b] a _ 60 rfl rfl rfl rfl rfl
theorem ws (G:DcG) (S:DiskL) (x a:Bool):ac (some (a,1)) (some (dcO G S)) 12 (.bool x)=some (dcO G {S with off:=x}):=d9 [G.s 0,G.t 0,G.p 0,G.s 1,G.t 1,G.p 1,G.s 2,G.t 2,G.p 2,G.f,vi S.max,vi (gF S)] [.bool S.off] [.bool x] [] a _ 60 rfl rfl rfl rfl rfl
theorem x3 (G:DcG) (S:DiskL) (x:Int) (a:Bool):ac (some (a,1)) (some (dcO G S)) 10 (vi x)=some (dcO G {S with max:=x}):=d9 [G.s 0,G.t 0,G.p 0,G.s 1,G.t 1,G.p 1,G.s 2,G.t 2,G.p 2,G.f] [vi S.max] [vi x] [vi (gF S), .bool S.off] a _ 60 rfl rfl rfl rfl rfl
theorem Mh (q:Int):fU (cX Tryz.prog 60) (al Tryz.prog 60) [(2,vi q),(3,vi (-1))]=some (.agg #[.slice none 0 0, .slice none 0 0, .slice none 0 0, .slice none 0 0, .slice none 0 0, .slice none 0 0, .slice none 0 0, .slice none 0 0, .slice none 0 0, .slice none 0 0,vi q,vi (-1), .bool false]):=by
 rw[show cX Tryz.prog 60=some [(0,9),(9,1),(10,1),(11,1),(12,1)] from id (by kernel_rfl),Tryz.zr60];rfl
def dcG0 (b:Nat):DcG:=⟨b,fun _=> .slice none 0 0,fun _=> .slice none 0 0,fun _=> .slice none 0 0, .slice none 0 0⟩
theorem Oi (b:Nat) (q:Int):DcP [(b,dcO (dcG0 b) (eV q))] (dcG0 b) (eV q) where
 disk:=by simp[Sx.look,dcG0]
 seen _ _:=Gr.nl
 stl _ _:=Gr.nl
 pend _ _:=⟨[],rfl,Gr.nl⟩
 files:=Gr.nl
 pdis _ _ _ _ _ _ h:=by cases h
set_option linter.defProp false
def gw:=And.intro (And.intro (And.intro (@ay) (@ax)) (And.intro (@uP) (And.intro (@uR) (@uT)))) (And.intro (And.intro (@uW) (@ww)) (And.intro (@VM) (And.intro (@ws) (@x3))))
theorem LD (q:Int) (w:World):Rets Tryz.prog 29 #[vi q] w (XS w [] (fun v D=> ∃G,v=vp G.bd 0∧DcP D G (eV q))):=by
 refine Rets.enterX Tryz.func29 rfl (rs:= [.tmp 2]) Tryz.results29 Tryz.ntmps29 (fun p hp=>by cases hp) (by simp[keys]) ?_
 refine kf ?_
 first|with_reducible refine ks [] @gw ?_|refine kp @gw ?_
 refine Ow.build _ rfl (Mh q) ?_
 refine Ow.box rfl rfl fun b1 bE aJ=> ?_
 simp only[bL,List.nil_append]
 refine ko @gw ?_
 first|with_reducible refine ks [] @gw ?_|refine kp @gw ?_
 refine⟨_,(ke @gw), ?_⟩
 exact⟨Ext.of_new ⟨aJ,trivial⟩,dcG0 b1,rfl,Oi b1 q⟩
theorem JH (G:DcG) (S:DiskL) (w:World) (hf: -9223372036854775808≤S.fuse∧S.fuse<9223372036854775808∧(S.fused=true→0≤S.fuse)) (ho:w.heap[G.bd]? =some (dcO G S)):
  Rets Tryz.prog 93 #[vp G.bd 0] w (fun v D=> ∃o,D= [(G.bd,o)]∧v=vi (aG S).2∧o=dcO G (aG S).1):=by
 refine Rets.enterM Tryz.func93 rfl (rs:= [.tmp 2]) Tryz.results93 Tryz.ntmps93 ho ?_
 refine kf ?_
 unfold aG
 rcases Bool.eq_false_or_eq_true S.fused with ig|ig
 case inr=>
  have hl:gF S= -1:=by unfold gF;rw[ig];rfl
  have e0: ((-1:Int)==0)=false:=rfl
  have e1:decide ((0:Int)< -1)=false:=rfl
  rw[if_neg (fun h=>by rw[ig] at h;cases h.1),if_neg (fun h=>by rw[ig] at h;cases h)]
  first|with_reducible refine ks [] (And.intro @gw (And.intro @hl (And.intro @e0 (@e1)))) ?_|refine kp (And.intro @gw (And.intro @hl (And.intro @e0 (@e1)))) ?_
  refine⟨_,_,_,(ke @gw),rfl,trivial, ?_⟩
  exact⟨rfl,rfl⟩
 case inl=>
  have hl:gF S=S.fuse:=by unfold gF;rw[ig];rfl
  have h1:=hf.2.2 ig
  by_cases h0:S.fuse=0
  ·have e0: (S.fuse==0)=true:=beq_iff_eq.2 h0
   rw[if_pos ⟨ig,h0⟩]
   first|with_reducible refine ks [] (And.intro @gw (And.intro @hl (@e0))) ?_|refine kp (And.intro @gw (And.intro @hl (@e0))) ?_
   refine⟨_,_,_,(ke @gw),rfl,trivial, ?_⟩
   exact⟨rfl,rfl⟩
  ·have e0: (S.fuse==0)=false:=beq_eq_false_iff_ne.2 h0
   have e1:decide ((0:Int)<S.fuse)=true:=decide_eq_true (by omega)
   have e2:gF {S with fuse:=S.fuse - 1}=S.fuse - 1:=by unfold gF;rw[if_pos ig]
   rw[if_neg (fun h=>h0 h.2),if_pos ig]
   first|with_reducible refine ks [] (And.intro @gw (And.intro @hl (And.intro @e0 (@e1)))) ?_|refine kp (And.intro @gw (And.intro @hl (And.intro @e0 (@e1)))) ?_
   refine⟨_,_,_,(ke @gw),rfl,trivial, ?_⟩
   exact⟨rfl,tE G S {S with fuse:=S.fuse - 1} rfl e2 rfl⟩
theorem Gd (G:DcG) (S:DiskL) (n:Int) (w:World) (hn: -9223372036854775808≤n∧n<9223372036854775808) (ho:w.heap[G.bd]? =some (dcO G S)):
  Rets Tryz.prog 30 #[vp G.bd 0,vi n] w (fun v D=> ∃o,D= [(G.bd,o)]∧v=ck []∧o=dcO G {S with fuse:=n,fused:=decide (0≤n)}):=by
 refine Rets.enterM Tryz.func30 rfl (rs:= []) Tryz.results30 Tryz.ntmps30 ho ?_
 refine kf ?_
 by_cases h0:n<0
 ·have e0:decide (n<0)=true:=decide_eq_true h0
  first|with_reducible refine ks [] (And.intro @gw @e0) ?_|refine kp (And.intro @gw @e0) ?_
  refine⟨_,_,_,(ke @gw),rfl,trivial, ?_⟩
  exact⟨rfl,tE G S {S with fuse:=n,fused:=decide (0≤n)} rfl (by unfold gF;rw[show decide (0≤n)=false from decide_eq_false (by omega)];rfl) rfl⟩
 ·have e0:decide (n<0)=false:=decide_eq_false h0
  first|with_reducible refine ks [] (And.intro @gw @e0) ?_|refine kp (And.intro @gw @e0) ?_
  refine⟨_,_,_,(ke @gw),rfl,trivial, ?_⟩
  exact⟨rfl,tE G S {S with fuse:=n,fused:=decide (0≤n)} rfl (by unfold gF;rw[show decide (0≤n)=true from decide_eq_true (by omega)];rfl) rfl⟩
end Go.Proofs
end
section
open Go Go.Proofs Go.Sx Go.StP
namespace Go.Proofs
set_option maxRecDepth 10000
set_option maxHeartbeats 400000
set_option linter.unusedSimpArgs false
theorem Gr.slW {α:Type} {m:Nat} {enc:α→List Value} {z:α} {X:aA} {E:TypeId} {v:Value} {l:List α} {w:World} (h:Gr X E m v l.length (l.map enc).flatten) (hX: ∀b o,Sx.look X b=some o→w.heap[b]? =some o) (hm: ∀x,(enc x).length=m):SlV m enc z w v l:=by
 cases hs:slB v with
 |none=>exact Gr.slM (h.keep (L':= []) fun b o hb=>by rw[hs] at hb;cases hb) (fun b o hm=>by cases hm) rfl rfl hm
 |some b=>
  obtain⟨arr,ha⟩:=gd h hs
  refine Gr.slM (h.keep (L':= [(b, .cells arr E (0,0))]) fun b' o hb ho=> ?_) (fun b' o uA=> ?_) rfl rfl hm
  ·rw[hs] at hb
   cases hb
   rw[ha] at ho
   cases ho
   simp[Sx.look]
  ·simp only[List.mem_singleton,Prod.mk.injEq] at uA
   obtain⟨rfl,rfl⟩:=uA
   exact hX _ _ ha
theorem VE {S:DiskL} {dir x:List UInt8} (h:bT dir=none∨cI x=false):gG S dir x=([],1):=by
 have h0:dV S dir [x]=1:=by
  unfold dV
  rw[if_pos]
  rcases h with h|h
  ·exact .inl h
  ·right;simp[h]
 unfold gG
 rw[if_pos (by rw[h0];simp),h0]
set_option linter.defProp false
def fX:=And.intro (And.intro (And.intro (@ay) (@ax)) (And.intro (@uP) (@uR))) (And.intro (And.intro (@uT) (@uW)) (And.intro (@Sx.tup2_0) (@Sx.tup2_1)))
theorem Jv (w:World) (G:DcG) (S:DiskL) (dir name:List UInt8) (hD:DcW w G S) (ok:DkOk S) (hB:DkB S) (eF:name.length<1099511627776):
  Rets Tryz.prog 33 #[vp G.bd 0,vs dir,vs name] w (fun v D=>v= .tuple #[vs (gG S dir name).1,vi ((gG S dir name).2:Nat)]∧D= []):=by
 obtain⟨X,hX,hP⟩:=hD
 have hd:=hX _ _ hP.disk
 refine Rets.enterV Tryz.func33 rfl (rs:= [.tmp 6, .tmp 7]) Tryz.results33 Tryz.ntmps33 ?_
 refine kf ?_
 first|with_reducible refine ks [] @fX ?_|refine kp @fX ?_
 refine Ow.callFV rfl Tryz.call84 (fun w' aB=>E8 dir w') ?_
 cases hw:bT dir with
 |none=>
  have gp:iw dir= -1:=by unfold iw;rw[hw]
  have e1:decide ((-1:Int)<0)=true:=rfl
  rw[gp]
  refine ko @fX ?_
  first|with_reducible refine ks [] (And.intro @fX @e1) ?_|refine kp (And.intro @fX @e1) ?_
  refine⟨_,(ke @fX),trivial, ?_⟩
  (rw[VE (.inl hw)];rfl)
 |some k=>
  have hk:=(g5 hw).1
  have gp:iw dir=(k:Int):=by unfold iw;rw[hw]
  have e1:decide ((k:Int)<0)=false:=decide_eq_false (by omega)
  rw[gp]
  refine ko @fX ?_
  first|with_reducible refine ks [] (And.intro @fX @e1) ?_|refine kp (And.intro @fX @e1) ?_
  refine Ow.callFV rfl Tryz.call85 (fun w' aB=>DJ name w' eF) ?_
  cases hf:cI name with
  |false=>
   refine ko @fX ?_
   first|with_reducible refine ks [] @fX ?_|refine kp @fX ?_
   refine⟨_,(ke @fX),trivial, ?_⟩
   (rw[VE (.inr hf)];rfl)
  |true=>
   refine ko @fX ?_
   have dq:dV S dir [name]=if S.off=true then 9 else 0:=by
    unfold dV
    rw[if_neg (by rw[hw];simp[hf])]
   have tX: ((bT dir).bind fun k=>aV (S.dir k).seen name)=aV (S.dir k).seen name:=by rw[hw];rfl
   rcases Bool.eq_false_or_eq_true S.off with ho|ho
   ·first|with_reducible refine ks [] (And.intro @fX (And.intro @hd (@ho))) ?_|refine kp (And.intro @fX (And.intro @hd (@ho))) ?_
    refine⟨_,(ke @fX),trivial, ?_⟩
    (unfold gG;rw[dq,if_pos ho,if_pos (by simp)];rfl)
   ·have cT:=Gr.slW (z:=nd0) (hP.seen k hk) hX ef
    have lds:=fun n=>qr G S hk n
    have eN:=Gr.slW (z:=fd0) hP.files hX jr
    obtain⟨rb,off,arr,E,fz,hr⟩:=eN.row
    rw[if_neg (by rw[ho];simp)] at dq
    have ce:gG S dir name=match aV (S.dir k).seen name with|none=>([],6) |some n=>((aR S n).data,0):=by
     unfold gG
     rw[dq,if_neg (by simp),tX]
     cases aV (S.dir k).seen name<;>rfl
    first|with_reducible refine ks [] (And.intro @fX (And.intro @hd (And.intro @ho (@lds)))) ?_|refine kp (And.intro @fX (And.intro @hd (And.intro @ho (@lds)))) ?_
    refine Ow.callFV rfl Tryz.call92 (fun w' aB=>Ed (G.s k) (S.dir k).seen name w' (cT.oldN aB trivial) (by have:=(hB k hk).1;omega)) ?_
    cases eu:aV (S.dir k).seen name with
    |none=>
     have mC:js (S.dir k).seen name= -1:=by unfold js;rw[eu]
     have e2:decide ((-1:Int)<0)=true:=rfl
     rw[mC]
     refine ko @fX ?_
     first|with_reducible refine ks [] (And.intro @fX @e2) ?_|refine kp (And.intro @fX @e2) ?_
     refine⟨_,(ke @fX),trivial, ?_⟩
     (rw[ce,eu];rfl)
    |some n=>
     have mC:js (S.dir k).seen name=(n:Int):=by unfold js;rw[eu]
     have e2:decide ((n:Int)<0)=false:=decide_eq_false (by omega)
     have cH:=ok.seenN k hk _ (mu eu)
     have dG:n< (S.files.map dA).length:=by rw[List.length_map];exact cH
     have ix:=hr.idx true n dG
     have hh:=hr.has (by omega)
     have l0: ∀x,aF (some (false,x)) (some (.cells arr E fz)) (off+n*2)=some (vs ((S.files.map dA).getD n fd0).data):=fun x=>by have:=sR hr dG x;rwa [Nat.add_zero] at this
     rw[qt] at l0
     rw[mC]
     refine ko @fX ?_
     first|with_reducible refine ks [] (And.intro @fX (And.intro @e2 (And.intro @hd (And.intro @ix (And.intro @hh (@l0)))))) ?_|refine kp (And.intro @fX (And.intro @e2 (And.intro @hd (And.intro @ix (And.intro @hh (@l0)))))) ?_
     refine⟨_,(ke @fX),trivial, ?_⟩
     (rw[ce,eu];rfl)
end Go.Proofs
end
section
open Go Go.Proofs Go.Sx Go.StP
namespace Go.Proofs
set_option maxRecDepth 10000
set_option maxHeartbeats 400000
set_option linter.unusedSimpArgs false
structure LcG where
 k:Nat
 v:Value
 D:aA
 DG:aA
theorem lL {w:World} {b:Nat} {o:Obj} (hb:w.heap[b]? =some o) {Y:aA} (hY:New w.heap.size Y):aM w Y b=some o:=by
 rw[j7 (hY.not (Array.getElem?_eq_some_iff.1 hb).1)];exact hb
set_option linter.defProp false
def dc:=And.intro (And.intro (And.intro (@ay) (@ax)) (And.intro (@uP) (@uR))) (And.intro (And.intro (@uT) (@uW)) (And.intro (@Sx.tup2_0) (@Sx.tup2_1)))
theorem If (w:World) (G:DcG) (S:DiskL) (dir:List UInt8) (hD:DcW w G S) (hB:DkB S):
  Rets Tryz.prog 89 #[vp G.bd 0,vs dir] w (XS w [] (fun v D=>GrI D 9 1 v (dW S dir).length ((dW S dir).map vs))):=by
 obtain⟨X,hX,hP⟩:=hD
 have hd:=hX _ _ hP.disk
 refine Rets.enterX Tryz.func89 rfl (rs:= [.tmp 4]) Tryz.results89 Tryz.ntmps89 (fun p hp=>by cases hp) (by simp[keys]) ?_
 refine kf ?_
 first|with_reducible refine ks [] @dc ?_|refine kp @dc ?_
 refine Ow.callFV rfl Tryz.call84 (fun w' aB=>E8 dir w') ?_
 cases hw:bT dir with
 |none=>
  have gp:iw dir= -1:=by unfold iw;rw[hw]
  have e1:decide ((-1:Int)<0)=true:=rfl
  have hl:dW S dir= []:=by unfold dW dV;rw[if_pos (by rw[hw];simp)]
  rw[gp]
  refine ko @dc ?_
  first|with_reducible refine ks [] (And.intro @dc @e1) ?_|refine kp (And.intro @dc @e1) ?_
  refine⟨_,(ke @dc), ?_⟩
  rw[hl]
  exact⟨Ext.refl w [],Gr.nl.i fun _ h=>h⟩
 |some k=>
  have hk:=(g5 hw).1
  have gp:iw dir=(k:Int):=by unfold iw;rw[hw]
  have e1:decide ((k:Int)<0)=false:=decide_eq_false (by omega)
  rw[gp]
  rcases Bool.eq_false_or_eq_true S.off with ho|ho
  ·have hl:dW S dir= []:=by rw[(g5 hw).2,DD hk,ho];rfl
   refine ko @dc ?_
   first|with_reducible refine ks [] (And.intro @dc (And.intro @e1 (And.intro @hd (@ho)))) ?_|refine kp (And.intro @dc (And.intro @e1 (And.intro @hd (@ho)))) ?_
   refine⟨_,(ke @dc), ?_⟩
   rw[hl]
   exact⟨Ext.refl w [],Gr.nl.i fun _ h=>h⟩
  ·have hl:dW S dir=(S.dir k).seen.map Prod.fst:=by
    rw[(g5 hw).2,DD hk,ho];rfl
   have cT:=Gr.slW (z:=nd0) (hP.seen k hk) hX ef
   have lds:=fun n=>qr G S hk n
   have lns:=cT.len
   rw[List.length_map] at lns
   obtain⟨rb,off,arr,E,fz,hr⟩:=cT.row
   have m9:=(hB k hk).1
   generalize (S.dir k).seen=sn at*
   refine ko @dc ?_
   first|with_reducible refine ks [] (And.intro @dc (And.intro @e1 (And.intro @hd (@ho)))) ?_|refine kp (And.intro @dc (And.intro @e1 (And.intro @hd (@ho)))) ?_
   refine Cw.permL (M:= []++ []) (List.Perm.refl _) ?_
   refine Cw.loopG (G:=LcG) [18,19,20,21,22,23,24,25,26,27,30,31,32,33,34,35,36,37,38,39,40,41,42,43,6,28,29,7] (fun g=> [(6,g.v),(7,vi g.k)]) (fun g=>g.D++g.DG) (fun g=>g.k≤sn.length∧New w.heap.size g.D∧New w.heap.size g.DG∧Gr g.D 9 1 g.v g.k (((sn.map Prod.fst).take g.k).map vs)) (fun g=>sn.length - g.k) ⟨0, .slice none 0 0,[],[]⟩ rfl rfl ?_ ?_
   ·exact⟨Nat.zero_le _,trivial,trivial,Gr.nl⟩
   intro g j hg
   refine kv ?_
   obtain⟨i,v3,D,DG⟩:=g
   simp only at hg ⊢
   obtain⟨hi,hN,bD,cw⟩:=hg
   have cr:New w.heap.size (D++DG):=hN.app bD
   have rdd:=lL hd cr
   by_cases aC:i<sn.length
   ·have d1:decide ((i:Int)< (sn.length:Int))=true:=decide_eq_true (by omega)
    have eE:i< (sn.map aO).length:=by rw[List.length_map];exact aC
    have ix:=hr.idx true i eE
    have rda:=lL (hr.has (by omega)) cr
    have l0: ∀n,aF (some (false,n)) (some (.cells arr E fz)) (off+i*2)=some (vs ((sn.map aO).getD i nd0).s):=fun n=>by have:=Cm hr eE n;rwa [Nat.add_zero] at this
    rw[uf] at l0
    have bW: (((sn.map Prod.fst).take (i+1)).map vs)=((sn.map Prod.fst).take i).map vs++ [vs (aO (sn.getD i ([],0))).s]:=by
     rw[StP.take_snoc (z:= []) (by rw[List.length_map];exact aC),List.map_append]
     rw[List.getD_eq_getElem?_getD,List.getD_eq_getElem?_getD,List.getElem?_map]
     simp[aC,aO]
    generalize (aO (sn.getD i ([],0))).s=x at*
    first|with_reducible refine ks [] (And.intro @dc (And.intro @rdd (And.intro @lds (And.intro @lns (And.intro @d1 (And.intro @ix (And.intro @rda (@l0)))))))) ?_|refine kp (And.intro @dc (And.intro @rdd (And.intro @lds (And.intro @lns (And.intro @d1 (And.intro @ix (And.intro @rda (@l0)))))))) ?_
    refine Ow.buildSlice (e:=9) #[vs x] rfl rfl (by kernel_rfl) fun ba rC lC=> ?_
    refine ko @dc ?_
    refine Ow.permL (M:=D++ (DG++ [(ba, .cells #[vs x] 9 (0,0))])) (by classical exact List.perm_iff_count.2 fun a=>by simp only[List.count_append,List.count_cons,List.count_nil]<;>omega) ?_
    refine Ow.appendXG (e:=9) (k:=1) (new:=strC x) (X:=D) v3 rfl rfl rfl rfl Tryz.underlying72 (id (by kernel_rfl):aK Tryz.prog 9=some (false,1)) (by kernel_rfl) (id (by kernel_rfl):al Tryz.prog 9=some (vs [])) rfl Tryz.underlying72 (by intro k h;cases h) cw (fun w' aB=>AppX.one1 (aB.has ba (.cells #[vs x] 9 (0,0)) (by simp)) rfl rfl) (by omega) (fun B4 v4 D4 jE r7 mc tw l5 u3=> ?_)
    have fi:New w.heap.size D4:=New.of_le fun q hq=>by
     rcases l5 q hq with h|h
     ·exact hN.le q h
     ·omega
    refine ko @dc ?_
    first|with_reducible refine ks [] @dc ?_|refine kp @dc ?_
    exact Again.mk ⟨i+1,v4,D4,DG++ [(ba, .cells #[vs x] 9 (0,0))]⟩ (by show sn.length - (i+1)<sn.length - i;omega) ⟨aC,fi,bD.app ⟨lC,trivial⟩,by rw[bW];exact mc⟩ rfl rfl
   ·obtain rfl:i=sn.length:=by omega
    have d1:decide ((sn.length:Int)< (sn.length:Int))=false:=decide_eq_false (by omega)
    rw[List.take_of_length_le (by rw[List.length_map];exact Nat.le_refl _)] at cw
    first|with_reducible refine ks [] (And.intro @dc (And.intro @rdd (And.intro @lds (And.intro @lns (@d1))))) ?_|refine kp (And.intro @dc (And.intro @rdd (And.intro @lds (And.intro @lns (@d1))))) ?_
    refine⟨_,(ke @dc), ?_⟩
    rw[hl,List.length_map]
    exact⟨Ext.of_new cr,cw.i fun q hq=>List.mem_append_left _ hq⟩
def jZ (S:DiskL):Nat→Nat
 |0=>0
 |k+1=>jZ S k+fW S (S.dir k).seen
theorem OR (S:DiskL) {k:Nat} (hk:k<3):jZ S k+fW S (S.dir k).seen≤gV S:=by
 have:k=0∨k=1∨k=2:=by omega
 rcases this with rfl|rfl|rfl<;>(simp only[jZ,gV];omega)
theorem KZ (S:DiskL) {l:NmL} {i:Nat} (h:i<l.length):fW S (l.take (i+1))=fW S (l.take i)+ (aR S (l.getD i ([],0)).2).data.length:=by
 unfold fW
 rw[StP.take_snoc (z:=([],0)) h,List.map_append,List.sum_append,List.map_singleton,List.sum_singleton];rfl
theorem Fo (S:DiskL) (l:NmL) (i:Nat):fW S (l.take i)≤fW S l:=by
 have:fW S l=fW S (l.take i)+fW S (l.drop i):=by
  unfold fW
  rw[←List.sum_append,←List.map_append,List.take_append_drop]
 omega
structure UkG where
 k:Nat
 n:Nat
theorem VV (w:World) (G:DcG) (S:DiskL) (hD:DcW w G S) (ok:DkOk S) (hB:DkB S) (hb:gV S<4611686018427387904):
  Rets Tryz.prog 90 #[vp G.bd 0] w (fun v D=>v=vi (gV S:Nat)∧D= []):=by
 obtain⟨X,hX,hP⟩:=hD
 have hd:=hX _ _ hP.disk
 have eN:=Gr.slW (z:=fd0) hP.files hX jr
 obtain⟨rf,offf,arrf,Ef,fzf,lA⟩:=eN.row
 refine Rets.enterV Tryz.func90 rfl (rs:= [.tmp 2]) Tryz.results90 Tryz.ntmps90 ?_
 refine kf ?_
 first|with_reducible refine ks [] @dc ?_|refine kp @dc ?_
 refine Cw.loopG (G:=UkG) [6,7,5,10,11,12,13,14,15,16,17,18,19,22,23,24,25,26,27,28,29,30,31,32,33,34,35,36,37,38,39,40,41,42,3,20,21,8,9,4] (fun g=> [(3,vi g.n),(4,vi g.k)]) (fun g=> []) (fun g=>g.k≤3∧g.n=jZ S g.k) (fun g=>3 - g.k) ⟨0,0⟩ rfl rfl ?_ ?_
 ·exact⟨Nat.zero_le _,rfl⟩
 intro g j hg
 refine kv ?_
 obtain⟨k,n⟩:=g
 simp only at hg ⊢
 obtain⟨hk,hn⟩:=hg
 by_cases aC:k<3
 ·have d1:decide ((k:Int)<3)=true:=decide_eq_true (by omega)
  have cT:=Gr.slW (z:=nd0) (hP.seen k aC) hX ef
  have lds:=fun n=>qr G S aC n
  have lns:=cT.len
  rw[List.length_map] at lns
  obtain⟨rb,off,arr,E,fz,hr⟩:=cT.row
  have eW:=OR S aC
  have iq:=ok.seenN k aC
  have m9:=(hB k aC).1
  have hks:jZ S (k+1)=jZ S k+fW S (S.dir k).seen:=rfl
  generalize (S.dir k).seen=sn at*
  first|with_reducible refine ks [] (And.intro @dc @d1) ?_|refine kp (And.intro @dc @d1) ?_
  refine Cw.loopG (G:=UkG) [10,11,12,13,14,15,16,17,18,19,22,23,24,25,26,27,28,29,30,31,32,33,34,35,36,37,38,39,40,41,42,3,20,21,5] (fun g=> [(3,vi g.n),(5,vi g.k)]) (fun g=> []) (fun g=>g.k≤sn.length∧g.n=n+fW S (sn.take g.k)) (fun g=>sn.length - g.k) ⟨0,n⟩ rfl rfl ?_ ?_
  ·exact⟨Nat.zero_le _,rfl⟩
  intro g j hg
  refine kv ?_
  obtain⟨i,m⟩:=g
  simp only at hg ⊢
  obtain⟨hi,hm⟩:=hg
  by_cases cS:i<sn.length
  ·have d2:decide ((i:Int)< (sn.length:Int))=true:=decide_eq_true (by omega)
   have eE:i< (sn.map aO).length:=by rw[List.length_map];exact cS
   have ix:=hr.idx true i eE
   have hh:=hr.has (by omega)
   have l1: ∀n,aF (some (false,n)) (some (.cells arr E fz)) (off+i*2+1)=some (vi ((sn.map aO).getD i nd0).n):=fun n=>zE hr eE n
   rw[uf] at l1
   have oe:=KZ S cS
   have hul:=Fo S sn (i+1)
   have cH:=iq (sn.getD i ([],0)) (mq (z:=([],0)) cS)
   generalize sn.getD i ([],0)=q at*
   obtain⟨qs,qn⟩:=q
   simp only[aO] at l1 cH oe
   have dG:qn< (S.files.map dA).length:=by rw[List.length_map];exact cH
   have ixf:=lA.idx true qn dG
   have hhf:=lA.has (by omega)
   have f0: ∀x,aF (some (false,x)) (some (.cells arrf Ef fzf)) (offf+qn*2)=some (vs ((S.files.map dA).getD qn fd0).data):=fun x=>by have:=sR lA dG x;rwa [Nat.add_zero] at this
   rw[qt] at f0
   have f0': ∀x,aF (some (false,x)) (some (.cells arrf Ef fzf)) (offf+qn*2)=some (vs (aR S qn).data):=f0
   clear f0
   have es: (m:Int)+ ((aR S qn).data.length:Int)=((m+ (aR S qn).data.length:Nat):Int):=by omega
   first|with_reducible refine ks [] (And.intro @dc (And.intro @hd (And.intro @lds (And.intro @lns (@d2))))) ?_|refine kp (And.intro @dc (And.intro @hd (And.intro @lds (And.intro @lns (@d2))))) ?_
   refine Cw.regionS [G.bd,rf,rb] [0,1,2,3,5,6,7,8,9,10,12,4,11,13,14,15,16,17,18,19,20,21] [] (by kernel_rfl) (by kernel_rfl) (by kernel_rfl) ?_
   simp only[ar, ↓ap, ↓ag, ↓an, ↓am,ah]
   refine kq (And.intro @dc (And.intro @hd (And.intro @lds (And.intro @ix (And.intro @hh (And.intro @l1 (And.intro @ixf (And.intro @hhf (And.intro @f0' (@es)))))))))) ?_
   first|with_reducible refine ks [] @dc ?_|refine kp @dc ?_
   exact Again.mk ⟨i+1,m+ (aR S qn).data.length⟩ (by show sn.length - (i+1)<sn.length - i;omega) ⟨cS,by show m+ (aR S qn).data.length=n+fW S (sn.take (i+1));omega⟩ rfl rfl
  ·obtain rfl:i=sn.length:=by omega
   have d2:decide ((sn.length:Int)< (sn.length:Int))=false:=decide_eq_false (by omega)
   rw[List.take_length] at hm
   first|with_reducible refine ks [] (And.intro @dc (And.intro @hd (And.intro @lds (And.intro @lns (@d2))))) ?_|refine kp (And.intro @dc (And.intro @hd (And.intro @lds (And.intro @lns (@d2))))) ?_
   exact Again.mk ⟨k+1,m⟩ (by show 3 - (k+1)<3 - k;omega) ⟨aC,by show m=jZ S (k+1);omega⟩ rfl rfl
 ·obtain rfl:k=3:=by omega
  have d1:decide (((3:Nat):Int)<3)=false:=rfl
  first|with_reducible refine ks [] (And.intro @dc @d1) ?_|refine kp (And.intro @dc @d1) ?_
  refine⟨_,(ke @dc),trivial, ?_⟩
  (rw[hn];show vi _=vi _;congr 2;simp[jZ,gV])
end Go.Proofs
end
section
open Go Go.Proofs Go.Sx Go.StP
namespace Go.Proofs
set_option maxRecDepth 10000
set_option maxHeartbeats 400000
set_option linter.unusedSimpArgs false
theorem LH {S:DiskL} (h:S.off=true):pG S= []:=by
 unfold pG gC gC gC gC gW
 simp[h]
set_option linter.defProp false
def gI:=And.intro (And.intro (And.intro (@ay) (And.intro (@ax) (@uP))) (And.intro (@uR) (And.intro (@uT) (@uW)))) (And.intro (And.intro (@Sx.tup2_0) (And.intro (@Sx.tup2_1) (@xz))) (And.intro (And.intro (@yB) (@MG)) (And.intro (@p7) (@wF))))
theorem M8 (w:World) (G:DcG) (S:DiskL) (hD:DcW w G S) (ok:DkOk S) (hB:DkB S):
  Rets Tryz.prog 71 #[vp G.bd 0] w (XS w [] (fun v D=>GrI D 36 3 v (pG S).length ((pG S).map fiC).flatten)):=by
 obtain⟨X,hX,hP⟩:=hD
 have hd:=hX _ _ hP.disk
 have Sm:=Gr.slW (z:=fd0) hP.files hX jr
 obtain⟨rf,offf,arrf,Ef,fzf,lA⟩:=Sm.row
 refine Rets.enterX Tryz.func71 rfl (rs:= [.tmp 2]) Tryz.results71 Tryz.ntmps71 (fun p hp=>by cases hp) (by simp[keys]) ?_
 refine kf ?_
 rcases Bool.eq_false_or_eq_true S.off with ho|ho
 ·first|with_reducible refine ks [] (And.intro @gI (And.intro @hd (@ho))) ?_|refine kp (And.intro @gI (And.intro @hd (@ho))) ?_
  refine⟨_,(ke @gI), ?_⟩
  rw[LH ho]
  exact⟨Ext.refl w [],Gr.nl.i fun _ h=>h⟩
 ·first|with_reducible refine ks [] (And.intro @gI (And.intro @hd (@ho))) ?_|refine kp (And.intro @gI (And.intro @hd (@ho))) ?_
  refine Ow.callC rfl rfl Tryz.call87 (fun w' aB=>FE w') (fun B1 v1 D1 bv dh bX cz=> ?_)
  obtain⟨b4,rfl,rfl⟩:=cz
  have o0:w.heap.size≤b4:=(bX.mono dh).1
  rw[List.nil_append]
  refine ko @gI ?_
  first|with_reducible refine ks [] @gI ?_|refine kp @gI ?_
  refine Cw.permL (M:=(b4,cV):: ([]++ [])) (List.Perm.refl _) ?_
  refine Cw.loopG (G:=LcG) [13,14,6,17,18,19,20,21,22,23,24,25,26,29,30,31,32,33,34,35,36,37,38,7,39,40,41,42,43,44,45,46,47,48,49,50,51,52,53,54,55,56,57,3,27,28,15,16,5] (fun g=> [(3,g.v),(5,vi g.k)]) (fun g=>(b4,cV):: (g.D++g.DG)) (fun g=>g.k≤3∧New w.heap.size g.D∧New w.heap.size g.DG∧Gr g.D 36 3 g.v (gC S g.k).length ((gC S g.k).map fiC).flatten) (fun g=>3 - g.k) ⟨0, .slice none 0 0,[],[]⟩ rfl rfl ?_ ?_
  ·exact⟨Nat.zero_le _,trivial,trivial,Gr.nl⟩
  intro g j hg
  refine kv ?_
  obtain⟨k,v,D,DG⟩:=g
  simp only at hg ⊢
  obtain⟨hk,hN,bD,cw⟩:=hg
  by_cases aC:k<3
  ·have d1:decide ((k:Int)<3)=true:=decide_eq_true (by omega)
   have eN:=E3 hB k hk
   have gl:=UE hB aC
   have cT:=Gr.slW (z:=nd0) (hP.seen k aC) hX ef
   have lds:=fun n=>qr G S aC n
   have lns:=cT.len
   rw[List.length_map] at lns
   obtain⟨rb,off,arr,E,fz,hr⟩:=cT.row
   have iq:=ok.seenN k aC
   have m9:=(hB k aC).1
   have th:gW S k=(S.dir k).seen.map fun p=>⟨aH k,p.1,(S.files.getD p.2 dC).data⟩:=by unfold gW;rw[ho];rfl
   generalize (S.dir k).seen=sn at*
   rw[th,List.length_map] at gl
   have ixd:=Eh b4 aC true
   have ldd:=fun n=>FB aC n
   first|with_reducible refine ks [10] (And.intro @gI @d1) ?_|refine kp (And.intro @gI @d1) ?_
   refine Cw.loopG (G:=LcG) [17,18,19,20,21,22,23,24,25,26,29,30,31,32,33,34,35,36,37,38,7,39,40,41,42,43,44,45,46,47,48,49,50,51,52,53,54,55,56,57,3,27,28,6] (fun g=> [(3,g.v),(6,vi g.k)]) (fun g=>(b4,cV):: (g.D++g.DG)) (fun g=>g.k≤sn.length∧New w.heap.size g.D∧New w.heap.size g.DG∧Gr g.D 36 3 g.v ((gC S k).length+g.k) ((gC S k++ (gW S k).take g.k).map fiC).flatten) (fun g=>sn.length - g.k) ⟨0,v,D,DG⟩ rfl rfl ?_ ?_
   ·exact⟨Nat.zero_le _,hN,bD,by simpa using cw⟩
   intro g j hg
   refine kv ?_
   clear hN bD cw
   obtain⟨j,v,D,DG⟩:=g
   simp only at hg ⊢
   obtain⟨hj,hN,bD,cw⟩:=hg
   have cr:New w.heap.size ((b4,cV):: (D++DG)):=⟨o0,hN.app bD⟩
   have rdd:=lL hd cr
   by_cases hjt:j<sn.length
   ·have d2:decide ((j:Int)< (sn.length:Int))=true:=decide_eq_true (by omega)
    have eE:j< (sn.map aO).length:=by rw[List.length_map];exact hjt
    have ix:=hr.idx true j eE
    have rda:=lL (hr.has (by omega)) cr
    have lda:=sq hr eE
    rw[uf] at lda
    have jo: (gW S k).take (j+1)=(gW S k).take j++ [⟨aH k,(sn.getD j ([],0)).1,(aR S (sn.getD j ([],0)).2).data⟩]:=by
     rw[th,List.take_add_one]
     simp[hjt,aR]
    have cH:=iq (sn.getD j ([],0)) (mq (z:=([],0)) hjt)
    generalize sn.getD j ([],0)=q at*
    obtain⟨x,n⟩:=q
    simp only at jo cH
    have dG:n< (S.files.map dA).length:=by rw[List.length_map];exact cH
    have ixf:=lA.idx true n dG
    have f0: ∀y,aF (some (false,y)) (some (.cells arrf Ef fzf)) (offf+n*2)=some (vs ((S.files.map dA).getD n fd0).data):=fun y=>by have:=sR lA dG y;rwa [Nat.add_zero] at this
    rw[qt] at f0
    have f0': ∀y,aF (some (false,y)) (some (.cells arrf Ef fzf)) (offf+n*2)=some (vs (aR S n).data):=f0
    clear f0
    have To: (aO (x,n)).s=x:=rfl
    have hq1: (aO (x,n)).n=(n:Int):=rfl
    first|with_reducible refine ks [10] (And.intro @gI (And.intro @rdd (And.intro @lds (And.intro @lns (And.intro @d2 (And.intro @ix (And.intro @rda (@lda)))))))) ?_|refine kp (And.intro @gI (And.intro @rdd (And.intro @lds (And.intro @lns (And.intro @d2 (And.intro @ix (And.intro @rda (@lda)))))))) ?_
    refine Ow.alloc rfl rfl zrNd fun b7 vC o5=> ?_
    simp only[bL,List.nil_append,List.cons_append]
    have h47:b4<b7:=cY vC (by simp[keys])
    refine Ow.permL (M:=(b7, .cells (ndC nd0).toArray 144 (0,0)):: (b4,cV):: (D++DG)) (by classical exact List.perm_iff_count.2 fun a=>by simp only[List.count_append,List.count_cons,List.count_nil]<;>omega) ?_
    refine ko @gI ?_
    have mg:New w.heap.size ((b7,Obj.cells (ndC (aO (x,n))).toArray 144 (0,0)):: (b4,cV):: (D++DG)):=⟨o5,cr⟩
    have rd7:=lL hd mg
    have rf7:=lL (lA.has (by omega)) mg
    refine Cw.regionS [b4,b7,G.bd,rf] [0,1,2,3,5,7,8,9,11,4,6,10,12,13,14,15,16,17,18,19] [] (by kernel_rfl) (by kernel_rfl) (by kernel_rfl) ?_
    simp only[ar, ↓ap, ↓ag, ↓an, ↓am,ah]
    refine kq (And.intro @gI (And.intro @ixd (And.intro @ldd (And.intro @rd7 (And.intro @rf7 (And.intro @ixf (And.intro @f0' (And.intro @To (@hq1))))))))) ?_
    refine Ow.build (.agg (fiC ⟨aH k,x,(aR S n).data⟩).toArray) rfl (xo ⟨aH k,x,(aR S n).data⟩) ?_
    refine kq @gI ?_
    refine Ow.soft rfl rfl rfl ?_
    refine Ow.buildSlice (e:=36) (fiC ⟨aH k,x,(aR S n).data⟩).toArray rfl rfl (j8 Tryz.underlying22 pn zrFi (by decide) (lX _)) fun ba rC lC=> ?_
    have hb4a:b4<ba:=cY rC (by simp[keys])
    have hb7a:b7<ba:=cY rC (by simp[keys])
    have px:New w.heap.size ((b7,Obj.cells (ndC (aO (x,n))).toArray 144 (0,0)):: (b4,cV):: (D++ (DG++ [(ba,Obj.cells (fiC ⟨aH k,x,(aR S n).data⟩).toArray 36 (0,0))]))):=⟨o5,o0,hN.app (bD.app ⟨lC,trivial⟩)⟩
    refine Ow.permL (M:=(b7, .cells (ndC (aO (x,n))).toArray 144 (0,0)):: (b4,cV):: (D++ (DG++ [(ba, .cells (fiC ⟨aH k,x,(aR S n).data⟩).toArray 36 (0,0))]))) (by classical exact List.perm_iff_count.2 fun a=>by simp only[List.count_append,List.count_cons,List.count_nil]<;>omega) ?_
    with_reducible refine Ow.nil ?_
    refine⟨fun r hr=> ?_, ?_⟩
    ·simp only[List.mem_cons,List.not_mem_nil,or_false] at hr
     rcases hr with rfl|rfl|rfl|rfl
     ·simp(disch:=omega) only[qc,Bh]
     ·simp(disch:=omega) only[qc,Bh]
     ·exact(lL hd px).trans rd7.symm
     ·exact(lL (lA.has (by omega)) px).trans rf7.symm
    refine kq @gI ?_
    refine Ow.soft rfl rfl rfl ?_
    refine Ow.permL (M:=D++ ((b7, .cells (ndC (aO (x,n))).toArray 144 (0,0)):: (b4,cV):: (DG++ [(ba, .cells (fiC ⟨aH k,x,(aR S n).data⟩).toArray 36 (0,0))]))) (by classical exact List.perm_iff_count.2 fun a=>by simp only[List.count_append,List.count_cons,List.count_nil]<;>omega) ?_
    refine Ow.appendXG (e:=36) (k:=1) (new:=fiC ⟨aH k,x,(aR S n).data⟩) (X:=D) v rfl rfl rfl rfl Tryz.underlying22 pn (by kernel_rfl) zrFi (by rw[wF,List.size_toArray,lX]) Tryz.underlying22 (by intro k h;cases h) cw (fun w' aB=>AppX.one1 (aB.has ba (.cells (fiC ⟨aH k,x,(aR S n).data⟩).toArray 36 (0,0)) (by simp)) (lX _) (sT _)) (by omega) (fun B4 v4 D4 jE r7 mc tw l5 u3=> ?_)
    have fi:New w.heap.size D4:=New.of_le fun q hq=>by
     rcases l5 q hq with h|h
     ·exact hN.le q h
     ·omega
    have tS:New w.heap.size ((b7,Obj.cells (ndC (aO (x,n))).toArray 144 (0,0)):: (b4,cV):: (D4++ (DG++ [(ba,Obj.cells (fiC ⟨aH k,x,(aR S n).data⟩).toArray 36 (0,0))]))):=⟨o5,o0,fi.app (bD.app ⟨lC,trivial⟩)⟩
    refine Ow.permL (M:=(b7, .cells (ndC (aO (x,n))).toArray 144 (0,0)):: (b4,cV):: (D4++ (DG++ [(ba, .cells (fiC ⟨aH k,x,(aR S n).data⟩).toArray 36 (0,0))]))) (by classical exact List.perm_iff_count.2 fun a=>by simp only[List.count_append,List.count_cons,List.count_nil]<;>omega) ?_
    with_reducible refine Ow.nil ?_
    refine⟨fun r hr=> ?_, ?_⟩
    ·simp only[List.mem_cons,List.not_mem_nil,or_false] at hr
     rcases hr with rfl|rfl|rfl|rfl
     ·simp(disch:=omega) only[qc,Bh]
     ·simp(disch:=omega) only[qc,Bh]
     ·exact(lL hd tS).trans (lL hd px).symm
     ·exact(lL (lA.has (by omega)) tS).trans (lL (lA.has (by omega)) px).symm
    refine kq @gI ?_
    refine Cw.permL (M:=(b4,cV):: (D4++ (DG++ [(ba, .cells (fiC ⟨aH k,x,(aR S n).data⟩).toArray 36 (0,0)),(b7, .cells (ndC (aO (x,n))).toArray 144 (0,0))]))) (by classical exact List.perm_iff_count.2 fun a=>by simp only[List.count_append,List.count_cons,List.count_nil]<;>omega) ?_
    first|with_reducible refine ks [] @gI ?_|refine kp @gI ?_
    refine Again.mk ⟨j+1,v4,D4,DG++ [(ba, .cells (fiC ⟨aH k,x,(aR S n).data⟩).toArray 36 (0,0)),(b7, .cells (ndC (aO (x,n))).toArray 144 (0,0))]⟩ (by show sn.length - (j+1)<sn.length - j;omega) ⟨hjt,fi,bD.app ⟨lC,o5,trivial⟩, ?_⟩ rfl rfl
    show Gr D4 36 3 v4 ((gC S k).length+j+1) ((gC S k++ (gW S k).take (j+1)).map fiC).flatten
    rw[jo]
    simpa only[List.map_append,List.map_cons,List.map_nil,List.flatten_append,List.flatten_cons,List.flatten_nil,List.append_nil,List.append_assoc] using mc
   ·obtain rfl:j=sn.length:=by omega
    have d2:decide ((sn.length:Int)< (sn.length:Int))=false:=decide_eq_false (by omega)
    have fP: (gW S k).length=sn.length:=by rw[th,List.length_map]
    rw[←fP,List.take_length] at cw
    first|with_reducible refine ks [] (And.intro @gI (And.intro @rdd (And.intro @lds (And.intro @lns (@d2))))) ?_|refine kp (And.intro @gI (And.intro @rdd (And.intro @lds (And.intro @lns (@d2))))) ?_
    refine Again.mk ⟨k+1,v,D,DG⟩ (by show 3 - (k+1)<3 - k;omega) ⟨aC,hN,bD, ?_⟩ rfl rfl
    show Gr D 36 3 v (gC S k++gW S k).length ((gC S k++gW S k).map fiC).flatten
    rw[List.length_append];exact cw
  ·obtain rfl:k=3:=by omega
   have d1:decide (((3:Nat):Int)<3)=false:=rfl
   first|with_reducible refine ks [] (And.intro @gI @d1) ?_|refine kp (And.intro @gI @d1) ?_
   refine⟨_,(ke @gI), ?_⟩
   exact⟨Ext.of_new (show New w.heap.size ((b4,cV):: (D++DG)) from⟨o0,hN.app bD⟩),cw.i fun p hp=>List.mem_cons_of_mem _ (List.mem_append_left _ hp)⟩
end Go.Proofs
end
section
open Go Go.Proofs Go.Sx Go.StP
namespace Go.Proofs
set_option maxRecDepth 10000
set_option maxHeartbeats 400000
set_option linter.unusedSimpArgs false
def iD (S:DiskL) (kind:Int) (dir name s:List UInt8):Nat:=
 if bT dir=none∨(kind≠3∧cI name=false)∨(kind=4∧cI s=false) then 1
 else if S.off=true then 9
 else match atD S dir name with
  |some n=>if kind=0 then 7 else if kind=1∧jS S n s=true then 8 else 0
  |none=>if kind≠0∧kind≠3 then 6 else 0
def actV (S:DiskL) (kind:Int) (dir name s:List UInt8):DiskL:=
 if kind=0 then lH (gz (aG S).1 dC) ((bT dir).getD 0) ⟨0,name,[],S.files.length⟩
 else if kind=1 then nA (aG S).1 ((atD S dir name).getD 0) ⟨(aR S ((atD S dir name).getD 0)).data++s,(aR S ((atD S dir name).getD 0)).stl⟩
 else if kind=2 then nA (aG S).1 ((atD S dir name).getD 0) ⟨(aR S ((atD S dir name).getD 0)).data,(aR S ((atD S dir name).getD 0)).data.length⟩
 else if kind=3 then lY (aG S).1 ((bT dir).getD 0)
 else if kind=4 then(if name=s then(aG S).1 else lH (aG S).1 ((bT dir).getD 0) ⟨1,name,s,0⟩)
 else lH (aG S).1 ((bT dir).getD 0) ⟨2,name,[],0⟩
theorem E6 (S:DiskL) (dir name:List UInt8):dV S dir [name]=if bT dir=none∨cI name=false then 1 else if S.off=true then 9 else 0:=by
 unfold dV
 simp
theorem JQ (S:DiskL) (dir name to:List UInt8):dV S dir [name,to]=if bT dir=none∨cI name=false∨cI to=false then 1 else if S.off=true then 9 else 0:=by
 unfold dV
 cases hf:cI name<;>cases ht:cI to<;>simp[hf,ht]
theorem Q8 {S:DiskL} {kind:Int} (hk:0≤kind∧kind<6) (dir name s:List UInt8):
  (iD S kind dir name s≠0→doV S kind dir name s=(S,iD S kind dir name s))∧
  (iD S kind dir name s=0→doV S kind dir name s=if(aG S).2≠0 then aG S else(actV S kind dir name s,0)):=by
 have h6:kind=0∨kind=1∨kind=2∨kind=3∨kind=4∨kind=5:=by omega
 rcases h6 with rfl|rfl|rfl|rfl|rfl|rfl
 ·unfold doV iD actV mU
  rw[E6]
  by_cases h1:bT dir=none∨cI name=false
  ·simp[h1]
  ·by_cases h2:S.off=true
   ·simp[h1,h2]
   ·cases h3:atD S dir name<;>simp[h1,h2]
 ·unfold doV iD actV oI
  rw[E6]
  by_cases h1:bT dir=none∨cI name=false
  ·simp[h1]
  ·by_cases h2:S.off=true
   ·simp[h1,h2]
   ·cases h3:atD S dir name with
    |none=>simp[h1,h2]
    |some n=>
     by_cases h4:jS S n s=true
     ·simp[h1,h2,h4]
     ·simp[h1,h2,h4]
 ·unfold doV iD actV nC
  rw[E6]
  by_cases h1:bT dir=none∨cI name=false
  ·simp[h1]
  ·by_cases h2:S.off=true
   ·simp[h1,h2]
   ·cases h3:atD S dir name<;>simp[h1,h2]
 ·unfold doV iD actV fC dV
  by_cases h1:bT dir=none
  ·simp[h1]
  ·by_cases h2:S.off=true
   ·simp[h1,h2]
   ·cases h3:atD S dir name<;>simp[h1,h2]
 ·unfold doV iD actV mV
  rw[JQ]
  by_cases h1:bT dir=none∨cI name=false∨cI s=false
  ·simp[h1]
  ·by_cases h2:S.off=true
   ·simp[h1,h2]
   ·cases h3:atD S dir name with
    |none=>simp[h1,h2]
    |some n=>
     have WA: ¬bT dir=none:=fun h=>h1 (.inl h)
     have WB: ¬cI name=false:=fun h=>h1 (.inr (.inl h))
     have ZN: ¬cI s=false:=fun h=>h1 (.inr (.inr h))
     by_cases h4:name=s
     ·subst h4
      simp[WA,WB,h2]
      exact fun h=>Prod.ext rfl h
     ·simp[WA,WB,ZN,h2,h4]
 ·unfold doV iD actV dp
  rw[E6]
  by_cases h1:bT dir=none∨cI name=false
  ·simp[h1]
  ·by_cases h2:S.off=true
   ·simp[h1,h2]
   ·cases h3:atD S dir name<;>simp[h1,h2]
theorem Gr.upd {α:Type} {X:aA} {E:TypeId} {m:Nat} {v:Value} {enc:α→List Value} {l:List α} (h:Gr X E m v l.length (l.map enc).flatten) (hm: ∀x,(enc x).length=m) {k:Nat} (hk:k<l.length) (x:α):
  ∃b rest c,v=vsl b 0 l.length c∧Sx.look X b=some (dQ enc E rest l)∧ ∀L,Sx.look L b=some (dQ enc E rest (l.set k x))→Gr L E m v (l.set k x).length ((l.set k x).map enc).flatten:=by
 rcases h with h| ⟨h,-⟩
 ·generalize hn:l.length=n at h
  generalize dL: (l.map enc).flatten=cs at h
  cases h with
  |nl=>omega
  | @at_ b n c cs rest hl h1 h2 h3 h4=>
   subst dL
   refine⟨b,rest,c,rfl,hl,fun L hL=> .inl ?_⟩
   rw[List.length_set,hn]
   exact .at_ hL (by rw[xc hm,List.length_set,hn]) h2 h3 h4
 ·omega
theorem GD {E:TypeId} {rest:List Value} {l:List FdR} (k:Nat) (hk:k<l.length) (y:List UInt8) (a:Bool):ac (some (a,1)) (some (dQ fdC E rest l)) (k*2) (vs y)=some (dQ fdC E rest (l.set k {l.getD k fd0 with data:=y})):=by
 obtain⟨A,C,e,hA,e2⟩:=DC (z:=fd0) (rest:=rest) jr hk
 unfold dQ
 rw[e,e2 {l.getD k fd0 with data:=y}]
 exact d9 A [vs (l.getD k fd0).data] [vs y] ([vi (l.getD k fd0).stl]++C) a _ E hA rfl rfl rfl rfl
theorem YN {E:TypeId} {rest:List Value} {l:List FdR} (k:Nat) (hk:k<l.length) (y:Int) (a:Bool):ac (some (a,1)) (some (dQ fdC E rest l)) (k*2+1) (vi y)=some (dQ fdC E rest (l.set k {l.getD k fd0 with stl:=y})):=by
 obtain⟨A,C,e,hA,e2⟩:=DC (z:=fd0) (rest:=rest) jr hk
 unfold dQ
 rw[e,e2 {l.getD k fd0 with stl:=y}]
 have:=d9 (A++ [vs (l.getD k fd0).data]) [vi (l.getD k fd0).stl] [vi y] C (o:=k*2+1) (n:=1) a (vi y) E (by rw[List.length_append,hA];rfl) rfl rfl rfl rfl
 rw[List.append_assoc,List.append_assoc] at this
 exact this
theorem UL {E:TypeId} {rest:List Value} {l:List FdR} (k:Nat) (hk:k<l.length) (n:Nat):aF (some (false,n)) (some (dQ fdC E rest l)) (k*2)=some (vs (l.getD k fd0).data):=by
 obtain⟨A,C,e,hA,-⟩:=DC (z:=fd0) (rest:=rest) jr hk
 unfold dQ
 rw[e]
 exact jO A ([vi (l.getD k fd0).stl]++C) _ n E (0,0) hA
theorem zV: (some 141:Option TypeId)≠some 144:=by decide
theorem PT: (some 141:Option TypeId)≠some 150:=by decide
theorem se: (some 150:Option TypeId)≠some 144:=by decide
theorem zk: (some 150:Option TypeId)≠some 141:=by decide
theorem Gr.keep2 {X L:aA} {E F:TypeId} {m n m' n':Nat} {v u:Value} {cs cs':List Value} (h:Gr X E m v n cs) (hu:Gr X F m' u n' cs') (ad: (some F:Option TypeId)≠some E) {c:Nat} {oc:Obj} (hc:Sx.look X c=some oc) (ht:tyO oc≠some E) (keep: ∀b o,b≠c→slB u≠some b→Sx.look X b=some o→Sx.look L b=some o):Gr L E m v n cs:=h.keep fun b o hb ho=>by
 obtain⟨arr,ha⟩:=gd h hb
 refine keep b o ?_ ?_ ho
 ·rintro rfl
  rw[hc] at ha;cases ha;exact ht rfl
 ·intro e
  obtain⟨arr',pz⟩:=gd hu e
  rw[ha] at pz;cases pz;exact ad rfl
theorem DcP.updF {X L:aA} {G:DcG} {S:DiskL} (h:DcP X G S) {v:Value} {fl:List FileL} (keep: ∀b o,b≠G.bd→slB G.f≠some b→Sx.look X b=some o→Sx.look L b=some o) (hd:Sx.look L G.bd=some (dcO {G with f:=v} {S with files:=fl})) (hf:FdP L v fl):DcP L {G with f:=v} {S with files:=fl} where
 disk:=hd
 seen k hk:=Gr.keep2 (h.seen k hk) h.files zV h.disk (by rw[fV];exact oA) keep
 stl k hk:=Gr.keep2 (h.stl k hk) h.files zV h.disk (by rw[fV];exact oA) keep
 pend k hk:=by
  obtain⟨pl,h1,h2⟩:=h.pend k hk
  exact⟨pl,h1,Gr.keep2 h2 h.files PT h.disk (by rw[fV];exact uo) keep⟩
 files:=hf
 pdis:=h.pdis
theorem DcP.updP {X L:aA} {G:DcG} {S:DiskL} (h:DcP X G S) {k:Nat} (hk:k<3) {sv pv:Value} {sn:NmL} {pl pl':List CallL} {pd:List CallL} (fT:KcP X (G.p k) pl)
  (keep: ∀b o,b≠G.bd→slB (G.p k)≠some b→Sx.look X b=some o→Sx.look L b=some o)
  (hd:Sx.look L G.bd=some (dcO (eb (cm G k sv) k pv) S)) (hs:NdP L sv sn) (hp:KcP L pv pl') (hn:pl'.map lI=pd.map lI)
  (hb: ∀b,slB pv=some b→slB (G.p k)=some b∨b∉keys X):
  DcP L (eb (cm G k sv) k pv) (dX S k ⟨sn,(S.dir k).stl,pd⟩) where
 disk:=hd
 seen j hj:=by
  by_cases e:j=k
  ·subst e
   rw[kX,show(eb (cm G j sv) j pv).s j=sv by simp[eb,cm]]
   exact hs
  ·rw[lE _ _ e,show(eb (cm G k sv) k pv).s j=G.s j by simp[eb,cm,e]]
   exact Gr.keep2 (h.seen j hj) fT se h.disk (by rw[fV];exact oA) keep
 stl j hj:=by
  have e2: ((dX S k ⟨sn,(S.dir k).stl,pd⟩).dir j).stl=(S.dir j).stl:=by
   by_cases e:j=k
   ·subst e;rw[kX]
   ·rw[lE _ _ e]
  rw[e2]
  exact Gr.keep2 (h.stl j hj) fT se h.disk (by rw[fV];exact oA) keep
 pend j hj:=by
  by_cases e:j=k
  ·subst e
   rw[kX,show(eb (cm G j sv) j pv).p j=pv by simp[eb,cm]]
   exact⟨pl',hn,hp⟩
  ·rw[lE _ _ e,show(eb (cm G k sv) k pv).p j=G.p j by simp[eb,cm,e]]
   obtain⟨ql,h1,h2⟩:=h.pend j hj
   refine⟨ql,h1,h2.keep fun b o dZ ho=> ?_⟩
   obtain⟨arr,ha⟩:=gd h2 dZ
   refine keep b o ?_ (fun e3=>h.pdis k j hk hj (Ne.symm e) b e3 dZ) ho
   rintro rfl
   rw[h.disk] at ha
   have:=congrArg tyO (Option.some.inj ha)
   rw[fV] at this
   exact uo this
 files:=Gr.keep2 h.files fT zk h.disk (by rw[fV];exact oz) keep
 pdis i j hi hj kC b:=by
  have key: ∀ {i},i<3→ ∀ {b},slB ((eb (cm G k sv) k pv).p i)=some b→slB (G.p i)=some b∨(i=k∧b∉keys X):=fun{i} hi {b} dZ=>by
   by_cases e:i=k
   ·subst e
    rw[show(eb (cm G i sv) i pv).p i=pv by simp[eb,cm]] at dZ
    exact(hb b dZ).imp id fun h=>⟨rfl,h⟩
   ·rw[show(eb (cm G k sv) k pv).p i=G.p i by simp[eb,cm,e]] at dZ
    exact .inl dZ
  intro vI ew
  have inX: ∀ {i},i<3→slB (G.p i)=some b→b∈keys X:=fun{i} hi e=>by
   obtain⟨pl,-,h2⟩:=h.pend i hi
   exact h2.key e
  rcases key hi vI with a| ⟨rfl,a⟩
  ·rcases key hj ew with c| ⟨rfl,c⟩
   ·exact h.pdis i j hi hj kC b a c
   ·exact c (inX hi a)
  ·rcases key hj ew with c| ⟨rfl,-⟩
   ·exact a (inX hj c)
   ·exact kC rfl
end Go.Proofs
end
section
open Go Go.Proofs Go.Sx Go.StP
namespace Go.Proofs
set_option maxRecDepth 10000
set_option maxHeartbeats 400000
set_option linter.unusedSimpArgs false
structure PkL where
 v:Value
 l:List UInt16
 h:Value.oneCell' v=true∧v.cells= #[v]
structure ActL where
 kind:Int
 n:Int
 dir:List UInt8
 name:List UInt8
 s:List UInt8
 picks:PkL
structure ActOk (w:World) (a:ActL):Prop where
 pk:PkS w a.picks.v a.picks.l
 n: -9223372036854775808≤a.n∧a.n<9223372036854775808
theorem PkS.blk {w:World} {v:Value} {l:List UInt16} (h:PkS w v l) (hl:l≠ []) {b:Nat} (hb:slB v=some b):b<w.heap.size:=by
 obtain⟨b',off,c,arr,E,fz,hr,hc,⟨rfl,rfl,rfl⟩ | ⟨rfl,hh,-⟩⟩:=h.resolve_right fun e=>hl e.1
 ·exact absurd rfl hl
 ·cases hb
  exact(Array.getElem?_eq_some_iff.1 hh).1
set_option linter.defProp false
structure DkA (X:aA) (G:DkG) (S:DiskL) (N:Nat):Prop where
 P:DkP X G S
 H:gh S
 B:DkN N S
theorem DkA.pend {X:aA} {G:DkG} {S:DiskL} {N:Nat} (h:DkA X G S N) (hN:N<1000000): ∀k,k<3→(S.dir k).pend.length<1000000:=fun k _=>by
 have:=(h.B k).stl
 omega
theorem DkA.used {X:aA} {G:DkG} {S:DiskL} {N:Nat} (h:DkA X G S N) (hN:N<1000000):gV S<4611686018427387904:=by
 have:=y5 h.P.ok h.B
 omega
theorem DkA.mono {X X':aA} {G:DkG} {S:DiskL} {N:Nat} (h:DkA X G S N) (hk: ∀b o,Sx.look X b=some o→Sx.look X' b=some o):DkA X' G S N:=⟨h.P.mono hk,h.H,h.B⟩
theorem DkA.b {X:aA} {G:DkG} {S:DiskL} {N:Nat} (h:DkA X G S N) (hN:N<1000000):DkB S:=h.B.b (by omega)
end Go.Proofs
end
section
open Go Go.Proofs Go.Sx Go.StP
namespace Go.Proofs
set_option maxRecDepth 10000
set_option maxHeartbeats 400000
set_option linter.unusedSimpArgs false
set_option linter.defProp false
theorem OI {w:World} {X D:aA} {b:Nat} {o:Obj} (h:Ext w X D) (hb:w.heap.size≤b):Ext w X ((b,o)::D):=
 ⟨fun c hc=>by
  rcases List.mem_cons.1 hc with rfl|hc
  ·exact .inr hb
  ·exact h.new c hc,fun c hc=>List.mem_cons_of_mem _ (h.all c hc)⟩
end Go.Proofs
end
section
open Go Go.Proofs Go.Sx Go.StP
namespace Go.Proofs
set_option maxRecDepth 10000
set_option maxHeartbeats 1000000
set_option linter.unusedSimpArgs false
theorem Kt (kd:Int) (a b:List UInt8):fU (cX Tryz.prog 150) (al Tryz.prog 150) [(0,vi kd),(1,vs a),(2,vs b)]=some (.agg (kcC ⟨kd,a,b,0⟩).toArray):=by
 rw[show cX Tryz.prog 150=some [(0,1),(1,1),(2,1),(3,1)] from id (by kernel_rfl),Tryz.zr150];rfl
theorem LR:fU (cX Tryz.prog 141) (al Tryz.prog 141) []=some (.agg (fdC fd0).toArray):=by
 rw[show cX Tryz.prog 141=some [(0,1),(1,1)] from id (by kernel_rfl),Tryz.zr141];rfl
structure DoG where
 c:KcR
 S:DiskL
 G:DcG
 X:aA
def DoS (G:DcG) (R:DiskL×Nat) (v:Value) (D:aA):Prop:=v=vi (R.2:Nat)∧ ∃G',G'.bd=G.bd∧DcP D G' R.1
def DoJ (S0 T:DiskL) (k:Nat) (c:KcR) (S:DiskL):Prop:=(c.kind= -1∧S=T)∨S.dir=S0.dir∧ ∃d:CallL,c=jA d∧T=lH S k (lI d)∧d.kind<3∧(d.kind=1→aV (S.dir k).seen d.a≠none)
set_option linter.defProp false
def aI:=And.intro (And.intro (And.intro (And.intro (@ay) (@ax)) (And.intro (@uP) (And.intro (@uR) (@uT)))) (And.intro (And.intro (@uW) (And.intro (@ww) (@VM))) (And.intro (@ws) (And.intro (@x3) (@zD))))) (And.intro (And.intro (And.intro (@xm) (@yJ)) (And.intro (@yV) (And.intro (@xf) (@Lg)))) (And.intro (And.intro (@Kk) (And.intro (@Lc) (@Kz))) (And.intro (@Lv) (And.intro (@El) (@CY)))))
theorem KL (c:CallL):lI (lI c)=lI c:=by
 unfold lI
 by_cases h0:c.kind=0
 ·simp[h0]
 ·by_cases h1:c.kind=1
  ·simp[h1]
  ·simp[h0,h1]
theorem MS (X:aA) (G:DcG) (S:DiskL) (kind:Int) (dir name s:List UInt8) (w:World) (hX: ∀p,p∈X→w.heap[p.1]? =some p.2) (hn: (keys X).Nodup) (hP:DcP X G S) (ok:DkOk S) (hB:DkB S) (hK:0≤kind∧kind<6) (eF:name.length<1099511627776) (cT:s.length<1099511627776) (fT: ∀k,k<3→(S.dir k).pend.length<1000000) (eu:S.files.length<1000000000) (oe:gV S<4611686018427387904):
  Rets Tryz.prog 32 #[vp G.bd 0,vi kind,vs dir,vs name,vs s] w (XS w X (DoS G (doV S kind dir name s))):=by
 obtain⟨mH,gQ⟩:=Q8 (S:=S) hK dir name s
 have hDW:=hP.worldX hX
 have rdd:=aL (w0:=w) hP.disk
 refine Rets.enterX Tryz.func32 rfl (rs:= [.tmp 10]) Tryz.results32 Tryz.ntmps32 hX hn ?_
 refine kf ?_
 first|with_reducible refine ks [1000002,1000008,1000010,1000012,1000018,1000035] @aI ?_|refine kp @aI ?_
 refine Ow.callFV rfl Tryz.call84 (fun w' aB=>E8 dir w') ?_
 cases hw:bT dir with
 |none=>
  have gp:iw dir= -1:=by unfold iw;rw[hw]
  have e1:decide ((-1:Int)<0)=true:=rfl
  have ct:iD S kind dir name s=1:=by unfold iD;rw[if_pos (.inl hw)]
  rw[gp]
  refine ko @aI ?_
  first|with_reducible refine ks [] (And.intro @aI @e1) ?_|refine kp (And.intro @aI @e1) ?_
  refine⟨_,(ke @aI), ?_⟩
  rw[mH (by rw[ct];simp),ct]
  exact⟨Ext.refl w X,rfl,G,rfl,hP⟩
 |some k=>
  have hk:=(g5 hw).1
  have gp:iw dir=(k:Int):=by unfold iw;rw[hw]
  have e1:decide ((k:Int)<0)=false:=decide_eq_false (by omega)
  have tX:atD S dir name=aV (S.dir k).seen name:=by unfold atD;rw[hw];rfl
  rw[gp]
  refine ko @aI ?_
  refine Cw.cutO (G:=Unit) [18,19,20,21,22,23,24,25,26,27,28,29,30,31,32,33,34,35,36,37] (fun g=> []) (fun g=>X) (fun g=>(kind≠3→cI name=true)∧(kind=4→cI s=true)) ?_ ?_
  ·by_cases k3:kind=3
   ·have e3: (kind !=3)=false:=by rw[k3];rfl
    have e4: (kind==4)=false:=by rw[k3];rfl
    first|with_reducible refine ks [] (And.intro @aI (And.intro @e1 (And.intro @e3 (@e4)))) ?_|refine kp (And.intro @aI (And.intro @e1 (And.intro @e3 (@e4)))) ?_
    exact CutO.mk () ⟨fun h=>absurd k3 h,fun h=>by omega⟩ rfl rfl
   ·have e3: (kind !=3)=true:=bne_iff_ne.2 k3
    first|with_reducible refine ks [] (And.intro @aI (And.intro @e1 (@e3))) ?_|refine kp (And.intro @aI (And.intro @e1 (@e3))) ?_
    refine Ow.callFV rfl Tryz.call85 (fun w' aB=>DJ name w' eF) ?_
    cases hf:cI name with
    |false=>
     have ct:iD S kind dir name s=1:=by unfold iD;rw[if_pos (.inr (.inl ⟨k3,hf⟩))]
     refine ko @aI ?_
     first|with_reducible refine ks [] @aI ?_|refine kp @aI ?_
     refine⟨_,(ke @aI), ?_⟩
     rw[mH (by rw[ct];simp),ct]
     exact⟨Ext.refl w X,rfl,G,rfl,hP⟩
    |true=>
     by_cases k4:kind=4
     ·have e4: (kind==4)=true:=beq_iff_eq.2 k4
      refine ko (And.intro @aI @e4) ?_
      refine Ow.callFV rfl Tryz.call85 (fun w' aB=>DJ s w' cT) ?_
      cases Ag:cI s with
      |false=>
       have ct:iD S kind dir name s=1:=by unfold iD;rw[if_pos (.inr (.inr ⟨k4,Ag⟩))]
       refine ko @aI ?_
       first|with_reducible refine ks [] @aI ?_|refine kp @aI ?_
       refine⟨_,(ke @aI), ?_⟩
       rw[mH (by rw[ct];simp),ct]
       exact⟨Ext.refl w X,rfl,G,rfl,hP⟩
      |true=>
       refine ko @aI ?_
       first|with_reducible refine ks [] @aI ?_|refine kp @aI ?_
       exact CutO.mk () ⟨fun _=>rfl,fun _=>rfl⟩ rfl rfl
     ·have e4: (kind==4)=false:=beq_eq_false_iff_ne.2 k4
      refine ko (And.intro @aI @e4) ?_
      first|with_reducible refine ks [] @aI ?_|refine kp @aI ?_
      exact CutO.mk () ⟨fun _=>rfl,fun h=>absurd h k4⟩ rfl rfl
  ·intro gu jgu hgu
   refine kv ?_
   obtain⟨tk,Ag⟩:=hgu
   have ct:iD S kind dir name s=if S.off=true then 9 else match aV (S.dir k).seen name with
     |some n=>if kind=0 then 7 else if kind=1∧jS S n s=true then 8 else 0
     |none=>if kind≠0∧kind≠3 then 6 else 0:=by
    unfold iD
    rw[if_neg (by
     rintro(h| ⟨h,h'⟩ | ⟨h,h'⟩)
     ·rw[hw] at h;cases h
     ·rw[tk h] at h';cases h'
     ·rw[Ag h] at h';cases h'),tX]<;>rfl
   have lds:=fun n=>qr G S hk n
   rcases Bool.eq_false_or_eq_true S.off with ho|ho
   ·rw[if_pos ho] at ct
    first|with_reducible refine ks [] (And.intro @aI (And.intro @rdd (@ho))) ?_|refine kp (And.intro @aI (And.intro @rdd (@ho))) ?_
    refine⟨_,(ke @aI), ?_⟩
    rw[mH (by rw[ct];simp),ct]
    exact⟨Ext.refl w X,rfl,G,rfl,hP⟩
   rw[if_neg (by rw[ho];simp)] at ct
   have m9:=(hB k hk).1
   first|with_reducible refine ks [12,21,22,24,26,29,36,37,1000008,1000010,1000012,1000018,1000035] (And.intro @aI (And.intro @rdd (And.intro @ho (@lds)))) ?_|refine kp (And.intro @aI (And.intro @rdd (And.intro @ho (@lds)))) ?_
   refine Ow.callFV rfl Tryz.call92 (fun w' aB=>Ed (G.s k) (S.dir k).seen name w' (Gr.slW (hP.seen k hk) (fun b o h=>aB.has b o (bh h)) ef) (by omega)) ?_
   refine ko @aI ?_
   have mC: ∀n,aV (S.dir k).seen name=some n→js (S.dir k).seen name=(n:Int):=fun n h=>by unfold js;rw[h]
   have gm:aV (S.dir k).seen name=none→js (S.dir k).seen name= -1:=fun h=>by unfold js;rw[h]
   refine Cw.cutO (G:=Unit) [53,54,55,56,57,58] (fun g=> []) (fun g=>X) (fun g=>kind=0→aV (S.dir k).seen name=none) ?_ ?_
   ·by_cases k0:kind=0
    ·have e0: (kind==0)=true:=beq_iff_eq.2 k0
     cases bY:aV (S.dir k).seen name with
     |some n=>
      have e2:decide ((0:Int)≤js (S.dir k).seen name)=true:=by rw[mC n bY];exact decide_eq_true (by omega)
      rw[bY] at ct
      simp only[k0, ↓reduceIte] at ct
      first|with_reducible refine ks [] (And.intro @aI (And.intro @e0 (@e2))) ?_|refine kp (And.intro @aI (And.intro @e0 (@e2))) ?_
      refine⟨_,(ke @aI), ?_⟩
      rw[mH (by rw[k0,ct];simp),k0,ct]
      exact⟨Ext.refl w X,rfl,G,rfl,hP⟩
     |none=>
      have e2:decide ((0:Int)≤js (S.dir k).seen name)=false:=by rw[gm bY];rfl
      first|with_reducible refine ks [] (And.intro @aI (And.intro @e0 (@e2))) ?_|refine kp (And.intro @aI (And.intro @e0 (@e2))) ?_
      exact CutO.mk () (fun _=>rfl) rfl rfl
    ·have e0: (kind==0)=false:=beq_eq_false_iff_ne.2 k0
     first|with_reducible refine ks [] (And.intro @aI @e0) ?_|refine kp (And.intro @aI @e0) ?_
     exact CutO.mk () (fun h=>absurd h k0) rfl rfl
   ·intro gv jgv hgv
    refine kv ?_
    refine Cw.cutO (G:=Unit) [59,60,61,62,63,64,65,66,67,68] (fun g=> []) (fun g=>X) (fun g=>kind≠0→kind≠3→aV (S.dir k).seen name≠none) ?_ ?_
    ·by_cases k0:kind=0
     ·have e0: (kind !=0)=false:=by rw[k0];rfl
      first|with_reducible refine ks [] (And.intro @aI @e0) ?_|refine kp (And.intro @aI @e0) ?_
      exact CutO.mk () (fun h=>absurd k0 h) rfl rfl
     ·have e0: (kind !=0)=true:=bne_iff_ne.2 k0
      by_cases k3:kind=3
      ·have e3: (kind !=3)=false:=by rw[k3];rfl
       first|with_reducible refine ks [] (And.intro @aI (And.intro @e0 (@e3))) ?_|refine kp (And.intro @aI (And.intro @e0 (@e3))) ?_
       exact CutO.mk () (fun _ h=>absurd k3 h) rfl rfl
      ·have e3: (kind !=3)=true:=bne_iff_ne.2 k3
       cases bY:aV (S.dir k).seen name with
       |none=>
        have e2:decide (js (S.dir k).seen name<0)=true:=by rw[gm bY];rfl
        rw[bY] at ct
        simp only[k0,k3,ne_eq,not_false_eq_true,and_self, ↓reduceIte] at ct
        first|with_reducible refine ks [] (And.intro @aI (And.intro @e0 (And.intro @e3 (@e2)))) ?_|refine kp (And.intro @aI (And.intro @e0 (And.intro @e3 (@e2)))) ?_
        refine⟨_,(ke @aI), ?_⟩
        rw[mH (by rw[ct];simp),ct]
        exact⟨Ext.refl w X,rfl,G,rfl,hP⟩
       |some n=>
        have e2:decide (js (S.dir k).seen name<0)=false:=by rw[mC n bY];exact decide_eq_false (by omega)
        first|with_reducible refine ks [] (And.intro @aI (And.intro @e0 (And.intro @e3 (@e2)))) ?_|refine kp (And.intro @aI (And.intro @e0 (And.intro @e3 (@e2)))) ?_
        exact CutO.mk () (fun _ _=>by simp) rfl rfl
    ·intro gx jgx tu
     refine kv ?_
     refine Cw.cutO (G:=Unit) [69,70,71,72,73,74,75,76,77,78,79,80,81,82,83,84,85,86,87,88,89,90,91,92,93,94,95,96,97] (fun g=> []) (fun g=>X) (fun g=>kind=1→ ∀n,aV (S.dir k).seen name=some n→jS S n s=false) ?_ ?_
     ·by_cases k1:kind=1
      ·subst k1
       have e1k: ((1:Int)==1)=true:=rfl
       obtain⟨n,bY⟩: ∃n,aV (S.dir k).seen name=some n:=by
        cases h:aV (S.dir k).seen name with
        |none=>exact absurd h (tu (by omega) (by omega))
        |some n=>exact⟨n,rfl⟩
       have nc:=mC n bY
       have cH:n<S.files.length:=ok.seenN k hk _ (mu bY)
       have dG:n< (S.files.map dA).length:=by rw[List.length_map];exact cH
       obtain⟨rf,rest,cf,hv,bP,-⟩:=Gr.upd hP.files jr dG fd0
       have rdf:=aL (w0:=w) bP
       have ixf:jX (.sl (true,2)) G.f (some (n:Int))=some (vp rf (n*2)):=by rw[hv,ox _ _ _ _ _ _ (by omega)];simp
       have ld0:=fun y=>UL (E:=141) (rest:=rest) n dG y
       rw[qt] at ld0
       have ld0': ∀y,aF (some (false,y)) (some (dQ fdC 141 rest (S.files.map dA))) (n*2)=some (vs (aR S n).data):=ld0
       clear ld0
       obtain⟨Ah,Ai⟩:=qj ok cH
       have ky:jS S n s=(decide ((1048576:Int)< ((aR S n).data.length:Int)+ (s.length:Int)) ||decide (S.max< (gV S:Int)+ (s.length:Int))):=by
        unfold jS
        rw[Bool.eq_iff_iff]
        simp only[Bool.or_eq_true,decide_eq_true_eq]
        omega
       rw[nc]
       first|with_reducible refine ks [12] @aI ?_|refine kp @aI ?_
       cases ha:decide ((1048576:Int)< ((aR S n).data.length:Int)+ (s.length:Int)) with
       |true=>
        rw[ha,Bool.true_or] at ky
        have ct:iD S 1 dir name s=8:=by rw[ct,bY];simp[ky]
        refine Cw.regionS [G.bd,rf] [0,1,2,3,4,5,7,12,13,6,8,9,10,11,14,15,16,17,19,20,22,23,24,25,18,21,26,27,28] [] (by kernel_rfl) (by kernel_rfl) (by kernel_rfl) ?_
        simp only[ar, ↓ap, ↓ag, ↓an, ↓am,ah]
        refine kq (And.intro @aI (And.intro @e1k (And.intro @rdd (And.intro @rdf (And.intro @ixf (And.intro @ld0' (@ha))))))) ?_
        first|with_reducible refine ks [] @aI ?_|refine kp @aI ?_
        refine⟨_,(ke @aI), ?_⟩
        rw[mH (by rw[ct];simp),ct]
        exact⟨Ext.refl w X,rfl,G,rfl,hP⟩
       |false=>
        rw[ha,Bool.false_or] at ky
        refine Cw.regionS [G.bd,rf] [0,1,2,3,4,5,7,12,13,6,8,9,10,11,14,15,16,17,19,20,22,23,24,25,18,21,26,27,28] [] (by kernel_rfl) (by kernel_rfl) (by kernel_rfl) ?_
        simp only[ar, ↓ap, ↓ag, ↓an, ↓am,ah]
        refine kq (And.intro @aI (And.intro @e1k (And.intro @rdd (And.intro @rdf (And.intro @ixf (And.intro @ld0' (@ha))))))) ?_
        refine Ow.soft rfl rfl rfl ?_
        refine Ow.callFV rfl Tryz.call90 (fun w' aB=>VV w' G S (hP.world aB) ok hB oe) ?_
        with_reducible refine Ow.nil ?_
        refine⟨by intro b hb;simp only[List.mem_cons,List.not_mem_nil,or_false] at hb;(try subst hb);rfl, ?_⟩
        cases hb:decide (S.max< (gV S:Int)+ (s.length:Int)) with
        |true=>
         rw[hb] at ky
         have ct:iD S 1 dir name s=8:=by rw[ct,bY];simp[ky]
         refine kq (And.intro @aI (And.intro @rdd (@hb))) ?_
         first|with_reducible refine ks [] @aI ?_|refine kp @aI ?_
         refine⟨_,(ke @aI), ?_⟩
         rw[mH (by rw[ct];simp),ct]
         exact⟨Ext.refl w X,rfl,G,rfl,hP⟩
        |false=>
         rw[hb] at ky
         refine kq (And.intro @aI (And.intro @rdd (@hb))) ?_
         first|with_reducible refine ks [] @aI ?_|refine kp @aI ?_
         exact CutO.mk () (fun _ m hm=>by rw[bY] at hm;cases hm;exact ky) rfl rfl
      ·have e1k: (kind==1)=false:=beq_eq_false_iff_ne.2 k1
       first|with_reducible refine ks [12] @aI ?_|refine kp @aI ?_
       refine Cw.regionS [G.bd] [0,1,2,3,4,5,7,12,13,6,8,9,10,11,14,15,16,17,19,20,22,23,24,25,18,21,26,27,28] [] (by kernel_rfl) (by kernel_rfl) (by kernel_rfl) ?_
       simp only[ar, ↓ap, ↓ag, ↓an, ↓am,ah]
       refine kq (And.intro @aI @e1k) ?_
       first|with_reducible refine ks [] @aI ?_|refine kp @aI ?_
       exact CutO.mk () (fun h=>absurd h k1) rfl rfl
     ·intro gy jgy hgy
      refine kv ?_
      have Tf:iD S kind dir name s=0:=by
       rw[ct]
       cases bY:aV (S.dir k).seen name with
       |none=>
        have: ¬(kind≠0∧kind≠3):=fun h=>tu h.1 h.2 bY
        simp only[this, ↓reduceIte]
       |some n=>
        have h0: ¬kind=0:=fun h=>by rw[hgv h] at bY;cases bY
        have h1: ¬ (kind=1∧jS S n s=true):=fun h=>by rw[hgy h.1 n bY] at h;cases h.2
        simp only[h0,h1, ↓reduceIte]
      rw[gQ Tf]
      first|with_reducible refine ks [21,22,24,26,29,36,37,1000018,1000035] @aI ?_|refine kp @aI ?_
      refine Ow.callM rfl rfl Tryz.call93 (bV hP.disk) (fun w' aB=>JH G S w' ok.fuse (aB.has _ _ (bh hP.disk))) ?_
      obtain⟨bE,bG,gM⟩:=la S
      have aS:=hP.setD (aG S).1 bE bG
      have bU:=(Ext.refl w X).setB (b:=G.bd) (o:=dcO G (aG S).1)
      have hkX:keys (setB X G.bd (dcO G (aG S).1))=keys X:=j9 _ _ _
      generalize lQ:setB X G.bd (dcO G (aG S).1)=X1 at*
      by_cases eA: (aG S).2=0
      ·have e2: (((aG S).2:Int) !=0)=false:=by rw[eA];rfl
       rw[if_neg (by rw[eA];simp)]
       refine ko (And.intro @aI @e2) ?_
       first|with_reducible refine ks [21,22,24,26,29,36,37,1000018,1000035] (And.intro @aI @e2) ?_|refine kp (And.intro @aI @e2) ?_
       refine Ow.build (.agg (kcC ⟨-1,name,s,0⟩).toArray) rfl (Kt (-1) name s) ?_
       refine ko @aI ?_
       refine Ow.alloc rfl rfl zrKc fun b15 jd uL=> ?_
       simp only[bL,List.nil_append,List.cons_append]
       have iH:b15∉keys X1:=fun hm=>by have:=cY jd hm;omega
       refine Ow.permL (M:=(b15, .cells (kcC kc0).toArray 150 (0,0))::X1) (by classical exact List.perm_iff_count.2 fun a=>by simp only[List.count_append,List.count_cons,List.count_nil]<;>omega) ?_
       refine ko @aI ?_
       have aw:DcP ((b15,Obj.cells (kcC ⟨-1,name,s,0⟩).toArray 150 (0,0))::X1) G (aG S).1:=aS.mono fun b o h=>w3 jd h
       have aj:Ext w X ((b15,Obj.cells (kcC ⟨-1,name,s,0⟩).toArray 150 (0,0))::X1):=OI bU uL
       have fS:Sx.look ((b15,Obj.cells (kcC ⟨-1,name,s,0⟩).toArray 150 (0,0))::X1) b15=some (.cells (kcC ⟨-1,name,s,0⟩).toArray 150 (0,0)):=by simp[Sx.look]
       have tN: ∀ {E m n v cs},Gr X1 E m v n cs→slB v≠some b15:=fun h e=>iH (h.key e)
       have m4:slB (G.p k)≠some b15:=by
        obtain⟨pl,-,h⟩:=aS.pend k hk
        exact tN h
       have m3:G.bd≠b15:=fun e=>iH (e▸bV aS.disk)
       have Al: ∀x b o,Sx.look X1 b=some o→Sx.look (setB ((b15,Obj.cells (kcC ⟨-1,name,s,0⟩).toArray 150 (0,0))::X1) b15 x) b=some o:=fun x b o h=>by
        rw[bH (by rintro rfl;exact iH (bV h))]
        exact w3 jd h
       generalize SI: (b15,Obj.cells (kcC ⟨-1,name,s,0⟩).toArray 150 (0,0))::X1=X2 at*
       have SB: ∀x,DcP (setB X2 b15 x) G (aG S).1:=fun x=>aS.mono (Al x)
       have u7: (aG S).1.dir=S.dir∧(aG S).1.files=S.files:=⟨bE,bG⟩
       have hact: ∀T,actV S kind dir name s=T→DoS G (actV S kind dir name s,0)=DoS G (T,0):=fun T h=>by rw[h]
       refine Cw.cutO (G:=DoG) [106,107,108,109,110,111,112,113,114,115,116,117,118,119,120,121,122,123,124,125,126,127,128,129,130,131,132,133,134,135,136,137,138,139,140,141,142,143,144,145,146,147,148,149,150,151,152,153,154,155,156,157,158,159,160,161,162,163,164,165,166,167,168,169,170,171,172,173,174,175,176,177,178,179,180,181,182,183,184] (fun g=> []) (fun g=>g.X) (fun g=>g.G.bd=G.bd∧DcP g.X g.G g.S∧Sx.look g.X b15=some (.cells (kcC g.c).toArray 150 (0,0))∧DoJ S (actV S kind dir name s) k g.c g.S∧Ext w X g.X∧slB (g.G.p k)≠some b15) ?_ ?_
       ·have h6:kind=0∨kind=1∨kind=2∨kind=3∨kind=4∨kind=5:=by omega
        have rd2:=aL (w0:=w) aw.disk
        have rk15:=aL (w0:=w) fS
        have vU: (bT dir).getD 0=k:=by rw[hw];rfl
        rcases h6 with rfl|rfl|rfl|rfl|rfl|rfl
        ·have z0: ((0:Int)==0)=true:=rfl
         have TS: (S.files.map dA).length=S.files.length:=List.length_map ..
         have uw:Gr X2 141 2 G.f ((aG S).1.files.map dA).length (((aG S).1.files.map dA).map fdC).flatten:=aw.files
         rw[bG,TS] at uw
         have ad:slB G.f≠some G.bd:=fun e=>by
          obtain⟨arr,ha⟩:=gd uw e
          rw[aw.disk] at ha
          have:=congrArg tyO (Option.some.inj ha)
          rw[fV] at this
          exact oz this
         have Ay:slB G.f≠some b15:=tN aS.files
         first|with_reducible refine ks [21,22,36,37] (And.intro @aI (And.intro @z0 (@rd2))) ?_|refine kp (And.intro @aI (And.intro @z0 (@rd2))) ?_
         refine Ow.build (.agg (fdC fd0).toArray) rfl LR ?_
         refine ko @aI ?_
         refine Ow.buildSlice (e:=141) (fdC fd0).toArray rfl rfl (j8 Tryz.underlying58 pV zrFd (by decide) (jr _)) fun ba rC lC=> ?_
         refine ko @aI ?_
         refine Ow.appendG (e:=141) (k:=1) (new:=fdC fd0) G.f rfl rfl rfl Tryz.underlying58 pV (by kernel_rfl) zrFd (by rw[CY,List.size_toArray,jr]) Tryz.underlying58 (by intro k h;cases h) uw.app (fun w' aB=>AppX.one1 (aB.has ba (.cells (fdC fd0).toArray 141 (0,0)) (by simp)) (jr _) (yr _)) (jr _) (by omega) (fun v2 L2 fh _ kz eQ=> ?_)
         have jG:Sx.look L2 G.bd=some (dcO G (aG S).1):=kz.look _ _ ad (aq aw.disk)
         have A4:Sx.look L2 b15=some (.cells (kcC ⟨-1,name,s,0⟩).toArray 150 (0,0)):=kz.look _ _ Ay (aq fS)
         have nt:=aL (w0:=w) jG
         have st:=fun x=>wZ G (aG S).1 x fh.cell
         have iX:=(aj.app (o:= .cells (fdC fd0).toArray 141 (0,0)) lC).grew kz
         refine ko (And.intro @aI (And.intro @jG (And.intro @nt (And.intro @st (@iu))))) ?_
         have Aa:Sx.look (setB L2 G.bd (dcO {G with f:=v2} (aG S).1)) G.bd=some (dcO {G with f:=v2} (aG S).1):=ee jG
         have pq:Sx.look (setB L2 G.bd (dcO {G with f:=v2} (aG S).1)) b15=some (.cells (kcC ⟨-1,name,s,0⟩).toArray 150 (0,0)):=by rw[bH m3];exact A4
         have rS:=aL (w0:=w) pq
         have aa: ∀b o,b≠G.bd→Sx.look L2 b=some o→Sx.look (setB L2 G.bd (dcO {G with f:=v2} (aG S).1)) b=some o:=fun b o hb ho=>by rw[bH (Ne.symm hb)];exact ho
         have dR:=iX.setB (b:=G.bd) (o:=dcO {G with f:=v2} (aG S).1)
         generalize setB L2 G.bd (dcO {G with f:=v2} (aG S).1)=L3 at*
         first|with_reducible refine ks [22,36,37] (And.intro @aI (And.intro @pq (And.intro @rS (@iu)))) ?_|refine kp (And.intro @aI (And.intro @pq (And.intro @rS (@iu)))) ?_
         have Se:Sx.look (setB L3 b15 (.cells (kcC ⟨0,name,s,0⟩).toArray 150 (0,0))) G.bd=some (dcO {G with f:=v2} (aG S).1):=by rw[bH (Ne.symm m3)];exact Aa
         have pr:Sx.look (setB L3 b15 (.cells (kcC ⟨0,name,s,0⟩).toArray 150 (0,0))) b15=some (.cells (kcC ⟨0,name,s,0⟩).toArray 150 (0,0)):=ee pq
         have rU:=aL (w0:=w) Se
         have rT:=aL (w0:=w) pr
         have ln2:=fh.len
         have es: ((S.files.length+1:Nat):Int) - 1=(S.files.length:Int):=by omega
         first|with_reducible refine ks [] (And.intro @aI (And.intro @rU (And.intro @ln2 (And.intro @es (And.intro @pr (And.intro @rT (@iu))))))) ?_|refine kp (And.intro @aI (And.intro @rU (And.intro @ln2 (And.intro @es (And.intro @pr (And.intro @rT (@iu))))))) ?_
         refine CutO.mk ⟨⟨0,name,s,(S.files.length:Int)⟩,gz (aG S).1 dC,{G with f:=v2},setB (setB L3 b15 (.cells (kcC ⟨0,name,s,0⟩).toArray 150 (0,0))) b15 (.cells (kcC ⟨0,name,s,(S.files.length:Int)⟩).toArray 150 (0,0))⟩ ⟨rfl, ?_,ee pr, .inr ⟨bE,⟨0,name,s,S.files.length⟩,rfl,by unfold actV;simp[vU,lI],(by show(0:Nat)<3;decide),fun h=>by cases h⟩,dR.setB.setB,m4⟩ rfl rfl
         have Am: ∀b o,b≠b15→Sx.look L3 b=some o→Sx.look (setB (setB L3 b15 (.cells (kcC ⟨0,name,s,0⟩).toArray 150 (0,0))) b15 (.cells (kcC ⟨0,name,s,(S.files.length:Int)⟩).toArray 150 (0,0))) b=some o:=fun b o hb ho=>by
          rw[bH (Ne.symm hb),bH (Ne.symm hb)];exact ho
         refine DcP.updF (G:=G) aS (v:=v2) (fl:=(aG S).1.files++ [dC]) (fun b o hb hf ho=> ?_) ?_ ?_
         ·exact Am b o (by rintro rfl;exact iH (bV ho)) (aa b o hb (kz.look _ _ hf (aq (by rw[←SI];exact w3 jd ho))))
         ·exact Am _ _ m3 Aa
         ·have me:Gr L2 141 2 v2 (((aG S).1.files++ [dC]).map dA).length ((((aG S).1.files++ [dC]).map dA).map fdC).flatten:=by
           have DZ:dA dC=fd0:=rfl
           rw[bG]
           simpa [DZ] using fh
          refine me.keep fun b o hb ho=> ?_
          obtain⟨arr,ha⟩:=gd me hb
          refine Am b o ?_ (aa b o ?_ ho)
          ·rintro rfl
           rw[A4] at ha
           have:=congrArg tyO (Option.some.inj ha)
           exact zk this
          ·rintro rfl
           rw[jG] at ha
           have:=congrArg tyO (Option.some.inj ha)
           rw[fV] at this
           exact oz this
        ·have z0: ((1:Int)==0)=false:=rfl
         have z1: ((1:Int)==1)=true:=rfl
         obtain⟨n,bY⟩: ∃n,aV (S.dir k).seen name=some n:=by
          cases h:aV (S.dir k).seen name with
          |none=>exact absurd h (tu (by decide) (by decide))
          |some n=>exact⟨n,rfl⟩
         have nc:=mC n bY
         rw[bY] at tX
         have cH:n<S.files.length:=ok.seenN k hk _ (mu bY)
         have dG:n< (S.files.map dA).length:=by rw[List.length_map];exact cH
         obtain⟨Ah,Ai⟩:=qj ok cH
         obtain⟨rf,rest,cf,hv,bP,nz⟩:=Gr.upd hP.files jr dG (dA ⟨(aR S n).data++s,(aR S n).stl⟩)
         have dk:Sx.look X2 rf=some (dQ fdC 141 rest (S.files.map dA)):=by
          have h1:Sx.look X1 rf=some (dQ fdC 141 rest (S.files.map dA)):=by
           rw[←lQ,bH (by rintro rfl;rw[hP.disk] at bP;have:=congrArg tyO (Option.some.inj bP);rw[fV] at this;exact oz this)]
           exact bP
          rw[←SI];exact w3 jd h1
         have rdf:=aL (w0:=w) dk
         have ixf:jX (.sl (true,2)) G.f (some (n:Int))=some (vp rf (n*2)):=by rw[hv,ox _ _ _ _ _ _ (by omega)];simp
         have ld0:=fun y=>UL (E:=141) (rest:=rest) n dG y
         rw[qt] at ld0
         have ld0': ∀y,aF (some (false,y)) (some (dQ fdC 141 rest (S.files.map dA))) (n*2)=some (vs (aR S n).data):=ld0
         clear ld0
         have st:=fun(a:Bool)=>GD (E:=141) (rest:=rest) n dG ((aR S n).data++s) a
         rw[qt] at st
         have st': ∀a,ac (some (a,1)) (some (dQ fdC 141 rest (S.files.map dA))) (n*2) (vs ((aR S n).data++s))=some (dQ fdC 141 rest ((S.files.map dA).set n (dA ⟨(aR S n).data++s,(aR S n).stl⟩))):=st
         clear st
         rw[nc]
         first|with_reducible refine ks [21,22,24,26,29,36,37] (And.intro @aI (And.intro @z0 (@z1))) ?_|refine kp (And.intro @aI (And.intro @z0 (@z1))) ?_
         refine Cw.regionO [0,1,2,4,5,6,7,9,13,3,8,10,11,12,14,15,16,17] [17] rfl (by kernel_rfl) (by kernel_rfl) ?_
         simp only[ar, ↓ap, ↓ag, ↓an, ↓am,ah]
         refine kq (And.intro @aI (And.intro @rd2 (And.intro @rdf (And.intro @ixf (@ld0'))))) ?_
         refine Ow.store rfl rfl rfl (ke (And.intro @aI (And.intro @dk (@st')))) ?_
         refine ko @aI ?_
         first|with_reducible refine ks [] @aI ?_|refine kp @aI ?_
         refine CutO.mk ⟨⟨-1,name,s,0⟩,nA (aG S).1 n ⟨(aR S n).data++s,(aR S n).stl⟩,G,setB X2 rf (dQ fdC 141 rest ((S.files.map dA).set n (dA ⟨(aR S n).data++s,(aR S n).stl⟩)))⟩ ⟨rfl, ?_, ?_, .inl ⟨rfl,by unfold actV;simp[tX]⟩,aj.setB,m4⟩ rfl rfl
         ·have Sm:G.f=G.f:=rfl
          refine DcP.updF (G:=G) aw (v:=G.f) (fun b o hb hf ho=> ?_) ?_ ?_
          ·rw[bH (by rintro rfl;exact hf (by rw[hv];rfl))];exact ho
          ·rw[bH (by rintro e;rw[e,aw.disk] at dk;have:=congrArg tyO (Option.some.inj dk);rw[fV] at this;exact oz this)];exact aw.disk
          ·show Gr _ _ _ _ _ _
           rw[bG,List.map_set]
           exact nz _ (ee dk)
         ·rw[bH (fun e=>iH (by rw[←e,←lQ,j9];exact bV bP))];exact fS
        ·have z0: ((2:Int)==0)=false:=rfl
         have z1: ((2:Int)==1)=false:=rfl
         have z2: ((2:Int)==2)=true:=rfl
         obtain⟨n,bY⟩: ∃n,aV (S.dir k).seen name=some n:=by
          cases h:aV (S.dir k).seen name with
          |none=>exact absurd h (tu (by decide) (by decide))
          |some n=>exact⟨n,rfl⟩
         have nc:=mC n bY
         rw[bY] at tX
         have cH:n<S.files.length:=ok.seenN k hk _ (mu bY)
         have dG:n< (S.files.map dA).length:=by rw[List.length_map];exact cH
         obtain⟨Ah,Ai⟩:=qj ok cH
         obtain⟨rf,rest,cf,hv,bP,nz⟩:=Gr.upd hP.files jr dG (dA ⟨(aR S n).data,(aR S n).data.length⟩)
         have dk:Sx.look X2 rf=some (dQ fdC 141 rest (S.files.map dA)):=by
          have h1:Sx.look X1 rf=some (dQ fdC 141 rest (S.files.map dA)):=by
           rw[←lQ,bH (by rintro rfl;rw[hP.disk] at bP;have:=congrArg tyO (Option.some.inj bP);rw[fV] at this;exact oz this)]
           exact bP
          rw[←SI];exact w3 jd h1
         have rdf:=aL (w0:=w) dk
         have ixf:jX (.sl (true,2)) G.f (some (n:Int))=some (vp rf (n*2)):=by rw[hv,ox _ _ _ _ _ _ (by omega)];simp
         have ld0:=fun y=>UL (E:=141) (rest:=rest) n dG y
         rw[qt] at ld0
         have ld0': ∀y,aF (some (false,y)) (some (dQ fdC 141 rest (S.files.map dA))) (n*2)=some (vs (aR S n).data):=ld0
         clear ld0
         have st:=fun(a:Bool)=>YN (E:=141) (rest:=rest) n dG ((aR S n).data.length:Int) a
         rw[qt] at st
         have st': ∀a,ac (some (a,1)) (some (dQ fdC 141 rest (S.files.map dA))) (n*2+1) (vi ((aR S n).data.length:Int))=some (dQ fdC 141 rest ((S.files.map dA).set n (dA ⟨(aR S n).data,(aR S n).data.length⟩))):=st
         clear st
         rw[nc]
         first|with_reducible refine ks [21,22,24,26,29,36,37] (And.intro @aI (And.intro @z0 (And.intro @z1 (@z2)))) ?_|refine kp (And.intro @aI (And.intro @z0 (And.intro @z1 (@z2)))) ?_
         refine Cw.regionO [0,1,2,4,5,6,7,9,3,8,10,11,12,13,14,15,16] [16] rfl (by kernel_rfl) (by kernel_rfl) ?_
         simp only[ar, ↓ap, ↓ag, ↓an, ↓am,ah]
         refine kq (And.intro @aI (And.intro @rd2 (And.intro @rdf (And.intro @ixf (@ld0'))))) ?_
         refine Ow.store rfl rfl rfl (ke (And.intro @aI (And.intro @dk (@st')))) ?_
         refine ko @aI ?_
         first|with_reducible refine ks [] @aI ?_|refine kp @aI ?_
         refine CutO.mk ⟨⟨-1,name,s,0⟩,nA (aG S).1 n ⟨(aR S n).data,(aR S n).data.length⟩,G,setB X2 rf (dQ fdC 141 rest ((S.files.map dA).set n (dA ⟨(aR S n).data,(aR S n).data.length⟩)))⟩ ⟨rfl, ?_, ?_, .inl ⟨rfl,by unfold actV;simp[tX]⟩,aj.setB,m4⟩ rfl rfl
         ·have Sm:G.f=G.f:=rfl
          refine DcP.updF (G:=G) aw (v:=G.f) (fun b o hb hf ho=> ?_) ?_ ?_
          ·rw[bH (by rintro rfl;exact hf (by rw[hv];rfl))];exact ho
          ·rw[bH (by rintro e;rw[e,aw.disk] at dk;have:=congrArg tyO (Option.some.inj dk);rw[fV] at this;exact oz this)];exact aw.disk
          ·show Gr _ _ _ _ _ _
           rw[bG,List.map_set]
           exact nz _ (ee dk)
         ·rw[bH (fun e=>iH (by rw[←e,←lQ,j9];exact bV bP))];exact fS
        ·have z0: ((3:Int)==0)=false:=rfl
         have z1: ((3:Int)==1)=false:=rfl
         have z2: ((3:Int)==2)=false:=rfl
         have z3: ((3:Int)==3)=true:=rfl
         have ldk:=fun n=>qr G (aG S).1 hk n
         have st1:=fun x=>xM G (aG S).1 hk x (Gr.cell (aw.seen k hk))
         have jH:Sx.look (setB X2 G.bd (dcO (iV G k (G.s k)) (aG S).1)) G.bd=some (dcO (iV G k (G.s k)) (aG S).1):=ee aw.disk
         have rl1:=aL (w0:=w) jH
         have st2:=fun x=>wU (iV G k (G.s k)) (aG S).1 hk x (q:= .slice none 0 0) ⟨rfl,rfl⟩
         ((try with_reducible refine Cw.go [21,22,29,36,37] ?_);(try simp(disch:=(first|assumption|omega| (simp only[fM,fL,UInt64.reduceToNat];try omega))) only[↓Sx.S0,Sx.S1,Tryz.fx,aI,Nat.reduceAdd,Nat.reducePow,Int.reducePow,Nat.reduceBEq, ↓reduceIte,UInt8.reduceToNat,UInt16.reduceToNat,UInt32.reduceToNat,UInt64.reduceToNat,Int.reduceToNat,z0,z1,z2,z3,aw.disk,rd2,ldk,st1,iu]))
         first|with_reducible refine ks [] (And.intro @aI (And.intro @jH (And.intro @rl1 (And.intro @st2 (@iu))))) ?_|refine kp (And.intro @aI (And.intro @jH (And.intro @rl1 (And.intro @st2 (@iu))))) ?_
         refine CutO.mk ⟨⟨-1,name,s,0⟩,lY (aG S).1 k,eb (iV G k (G.s k)) k (.slice none 0 0),setB (setB X2 G.bd (dcO (iV G k (G.s k)) (aG S).1)) G.bd (dcO (eb (iV G k (G.s k)) k (.slice none 0 0)) (aG S).1)⟩ ⟨rfl, ?_, ?_, .inl ⟨rfl,by unfold actV;simp[vU]⟩,aj.setB.setB,(by show slB ((eb (iV G k (G.s k)) k (.slice none 0 0)).p k)≠some b15;simp[eb,slB])⟩ rfl rfl
         ·refine aw.upd rfl (fun b o hb ho=>by rw[bH (Ne.symm hb),bH (Ne.symm hb)];exact ho) (ee jH) (fun j hj=> .inl ⟨rfl,He _ _ _⟩) (fun j hj=> ?_) (fun j hj=> ?_) ⟨rfl,rfl⟩
          ·by_cases e:j=k
           ·subst e
            refine .inr ?_
            rw[show(eb (iV G j (G.s j)) j (.slice none 0 0)).t j=G.s j by simp[eb,iV],show((lY (aG S).1 j).dir j).stl=((aG S).1.dir j).seen by unfold lY;rw[kX]]
            exact Gr.keepTy (aw.seen j hj) aw.disk (by rw[fV];exact oA) fun b o hb ho=>by rw[bH (Ne.symm hb),bH (Ne.symm hb)];exact ho
           ·exact .inl ⟨by simp[eb,iV,e],by unfold lY;rw[lE _ _ e]⟩
          ·by_cases e:j=k
           ·subst e
            exact .inr ⟨by simp[eb],by unfold lY;rw[kX]⟩
           ·exact .inl ⟨by simp[eb,iV,e],by unfold lY;rw[lE _ _ e]⟩
         ·rw[bH m3,bH m3];exact fS
        ·have z0: ((4:Int)==0)=false:=rfl
         have z1: ((4:Int)==1)=false:=rfl
         have z2: ((4:Int)==2)=false:=rfl
         have z3: ((4:Int)==3)=false:=rfl
         have z4: ((4:Int)==4)=true:=rfl
         by_cases dN:name=s
         ·have e5: (name !=s)=false:=by rw[dN];exact bne_self_eq_false _
          first|with_reducible refine ks [] (And.intro @aI (And.intro @z0 (And.intro @z1 (And.intro @z2 (And.intro @z3 (And.intro @z4 (@e5))))))) ?_|refine kp (And.intro @aI (And.intro @z0 (And.intro @z1 (And.intro @z2 (And.intro @z3 (And.intro @z4 (@e5))))))) ?_
          exact CutO.mk ⟨⟨-1,name,s,0⟩,(aG S).1,G,X2⟩ ⟨rfl,aw,fS, .inl ⟨rfl,by unfold actV;simp[dN]⟩,aj,m4⟩ rfl rfl
         ·have e5: (name !=s)=true:=bne_iff_ne.2 dN
          first|with_reducible refine ks [] (And.intro @aI (And.intro @z0 (And.intro @z1 (And.intro @z2 (And.intro @z3 (And.intro @z4 (And.intro @e5 (And.intro @fS (@rk15))))))))) ?_|refine kp (And.intro @aI (And.intro @z0 (And.intro @z1 (And.intro @z2 (And.intro @z3 (And.intro @z4 (And.intro @e5 (And.intro @fS (@rk15))))))))) ?_
          exact CutO.mk ⟨⟨1,name,s,0⟩,(aG S).1,G,setB X2 b15 (.cells (kcC ⟨1,name,s,0⟩).toArray 150 (0,0))⟩ ⟨rfl,SB _,ee fS, .inr ⟨bE,⟨1,name,s,0⟩,rfl,by unfold actV;simp[dN,vU,lI],(by show(1:Nat)<3;decide),fun _=>by show aV ((aG S).1.dir k).seen name≠none;rw[bE];exact tu (by decide) (by decide)⟩,aj.setB,m4⟩ rfl rfl
        ·have z0: ((5:Int)==0)=false:=rfl
         have z1: ((5:Int)==1)=false:=rfl
         have z2: ((5:Int)==2)=false:=rfl
         have z3: ((5:Int)==3)=false:=rfl
         have z4: ((5:Int)==4)=false:=rfl
         have z5: ((5:Int)==5)=true:=rfl
         first|with_reducible refine ks [] (And.intro @aI (And.intro @z0 (And.intro @z1 (And.intro @z2 (And.intro @z3 (And.intro @z4 (And.intro @z5 (And.intro @fS (@rk15))))))))) ?_|refine kp (And.intro @aI (And.intro @z0 (And.intro @z1 (And.intro @z2 (And.intro @z3 (And.intro @z4 (And.intro @z5 (And.intro @fS (@rk15))))))))) ?_
         exact CutO.mk ⟨⟨2,name,s,0⟩,(aG S).1,G,setB X2 b15 (.cells (kcC ⟨2,name,s,0⟩).toArray 150 (0,0))⟩ ⟨rfl,SB _,ee fS, .inr ⟨bE,⟨2,name,s,0⟩,rfl,by unfold actV;simp[vU,lI],(by show(2:Nat)<3;decide),fun h=>by cases h⟩,aj.setB,m4⟩ rfl rfl
       ·intro g j hg
        refine kv ?_
        clear aS bU aw aj fS SB Al tN
        obtain⟨c,S3,G3,X3⟩:=g
        simp only at hg ⊢
        obtain⟨dz,dy,aa,hJ,iX,AN⟩:=hg
        have rk3:=aL (w0:=w) aa
        rcases hJ with⟨hc,hT⟩ | ⟨Ad,d,rfl,hT,Aa,qD⟩
        ·have e5:decide ((0:Int)≤c.kind)=false:=by rw[hc];rfl
         first|with_reducible refine ks [] (And.intro @aI (And.intro @rk3 (@e5))) ?_|refine kp (And.intro @aI (And.intro @rk3 (@e5))) ?_
         refine⟨_,(ke @aI), ?_⟩
         rw[←hT]
         exact⟨iX,rfl,G3,dz,dy⟩
        ·have vJ: (jA d).kind=(d.kind:Int):=rfl
         have e5:decide ((0:Int)≤ (d.kind:Int))=true:=decide_eq_true (by omega)
         have rd3:=aL (w0:=w) dy.disk
         have ls3:=fun n=>qr G3 S3 hk n
         have U0: (S3.dir k).seen.length<999999999:=by rw[Ad];omega
         have hpl3: (S3.dir k).pend.length<1000000:=by rw[Ad];exact fT k hk
         rw[←dz]
         first|with_reducible refine ks [36,37] (And.intro @aI (And.intro @rk3 (And.intro @vJ (@e5)))) ?_|refine kp (And.intro @aI (And.intro @rk3 (And.intro @vJ (@e5)))) ?_
         refine Cw.regionG [G3.bd,b15] [9] 10 (by kernel_rfl) rfl ?_
         simp only[List.replicate_succ,List.replicate_zero]
         refine OwG.run [0,1,2,3,4,5] [true,true,true,true,true,true,false,false,false,false] 4 rfl (by kernel_rfl) (by kernel_rfl) fun k hk=> ?_
         simp only[ar, ↓ap, ↓ag, ↓an, ↓am,ah]
         simp(disch:=(first|assumption|omega| (simp only[fM,fL,UInt64.reduceToNat];try omega))) only[↓Sx.S0,Sx.S1,Tryz.fx,aI,Nat.reduceAdd,Nat.reducePow,Int.reducePow,Nat.reduceBEq, ↓reduceIte,UInt8.reduceToNat,UInt16.reduceToNat,UInt32.reduceToNat,UInt64.reduceToNat,Int.reduceToNat,Md.next_sofnil,rd3,ls3,rk3]
         (with_reducible refine hk _ _ _ ?_);clear hk k
         refine OwG.one 6 _ (by kernel_rfl) rfl ?_
         refine Ow.callC rfl rfl Tryz.call91 (fun w' aB=>Jj (G3.s k) (S3.dir k).seen d w' (Gr.slW (dy.seen k hk) (fun b o h=>aB.has b o (bh h)) ef) U0 qD) (fun B6 v6 D6 ZY A7 jc WV=> ?_)
         have S6:=jc.mono A7
         have oS:Sx.look (X3++D6) G3.bd=some (dcO G3 S3):=aq dy.disk
         have st6:=fun x=>x8 G3 S3 hk x (yM WV)
         with_reducible refine Ow.nil ?_
         refine⟨(Bj (fun r hr=>by simp only[List.mem_cons,List.not_mem_nil,or_false] at hr;rcases hr with rfl|rfl;exact bV dy.disk;exact bV aa)), ?_⟩
         simp only[List.set_cons_zero,List.set_cons_succ,ol,my,mz]
         refine OwG.rest [7,8,9] rfl (by kernel_rfl) (by kernel_rfl) ?_
         simp only[ar, ↓ap, ↓ag, ↓an, ↓am,ah]
         refine kq @aI ?_
         refine Ow.store rfl rfl rfl (ke (And.intro @aI (And.intro @oS (@st6)))) ?_
         refine ko @aI ?_
         refine Cw.world fun wz eR=> ?_
         have av:=eR.nodup
         clear eR wz
         rw[j9] at av
         obtain⟨Xs,DS,DR⟩:=WV
         have nU:NdP (X3++D6) v6 (cJ (S3.dir k).seen d):=DR.keep fun b o _ ho=>w5 av (List.mem_append_right _ (DS _ (bh ho)))
         obtain⟨pl,qU,WN⟩:=dy.pend k hk
         have Tl:pl.length=(S3.dir k).pend.length:=by have:=congrArg List.length qU;simpa using this
         have AB:KcP (X3++D6) (G3.p k) pl:=WN.keep fun b o _ ho=>aq ho
         have mE:Sx.look (X3++D6) b15=some (.cells (kcC (jA d)).toArray 150 (0,0)):=aq aa
         have r8:Ext w X (setB (X3++D6) G3.bd (dcO (cm G3 k v6) S3)):=Ext.setB ⟨fun c hc=>by
          rw[bO] at hc
          rcases List.mem_append.1 hc with hc|hc
          ·exact iX.new c hc
          ·exact .inr (S6.le c hc),fun c hc=>by rw[bO];exact List.mem_append_left _ (iX.all c hc)⟩
         have nY:Sx.look (setB (X3++D6) G3.bd (dcO (cm G3 k v6) S3)) G3.bd=some (dcO (cm G3 k v6) S3):=ee oS
         have De:Sx.look (setB (X3++D6) G3.bd (dcO (cm G3 k v6) S3)) b15=some (.cells (kcC (jA d)).toArray 150 (0,0)):=by rw[bH (fun e=>m3 (dz.symm.trans e))];exact mE
         have SF:NdP (setB (X3++D6) G3.bd (dcO (cm G3 k v6) S3)) v6 (cJ (S3.dir k).seen d):=Gr.keepTy nU oS (by rw[fV];exact oA) fun b o hb ho=>by rw[bH (Ne.symm hb)];exact ho
         have tR:KcP (setB (X3++D6) G3.bd (dcO (cm G3 k v6) S3)) (G3.p k) pl:=Gr.keepTy AB oS (by rw[fV];exact uo) fun b o hb ho=>by rw[bH (Ne.symm hb)];exact ho
         have T6: ∀b o,b≠G3.bd→Sx.look X3 b=some o→Sx.look (setB (X3++D6) G3.bd (dcO (cm G3 k v6) S3)) b=some o:=fun b o hb ho=>by rw[bH (Ne.symm hb)];exact aq ho
         have An: ∀b,b∈keys X3→b∈keys (setB (X3++D6) G3.bd (dcO (cm G3 k v6) S3)):=fun b hb=>by rw[j9,bO];exact List.mem_append_left _ hb
         clear av nU AB mE oS DR DS
         generalize setB (X3++D6) G3.bd (dcO (cm G3 k v6) S3)=L4 at*
         have rd7:=aL (w0:=w) nY
         have rk7:=aL (w0:=w) De
         have lp7: ∀n,aF (some (false,n)) (some (dcO (cm G3 k v6) S3)) (k*3+2)=some (G3.p k):=fun n=>Np (cm G3 k v6) S3 hk n
         first|with_reducible refine ks [37] @aI ?_|refine kp @aI ?_
         refine Cw.regionG [G3.bd,b15] [10] 11 (by kernel_rfl) rfl ?_
         simp only[List.replicate_succ,List.replicate_zero]
         refine OwG.run [0,1,2,3,4,5] [true,true,true,true,true,true,false,false,false,false,false] 5 rfl (by kernel_rfl) (by kernel_rfl) fun k hk=> ?_
         simp only[ar, ↓ap, ↓ag, ↓an, ↓am,ah]
         simp(disch:=(first|assumption|omega| (simp only[fM,fL,UInt64.reduceToNat];try omega))) only[↓Sx.S0,Sx.S1,Tryz.fx,aI,Nat.reduceAdd,Nat.reducePow,Int.reducePow,Nat.reduceBEq, ↓reduceIte,UInt8.reduceToNat,UInt16.reduceToNat,UInt32.reduceToNat,UInt64.reduceToNat,Int.reduceToNat,Md.next_sofnil,rd7,lp7,rk7]
         (with_reducible refine hk _ _ _ ?_);clear hk k
         refine OwG.one 6 _ (by kernel_rfl) rfl ?_
         refine Ow.buildSlice (e:=150) (kcC (jA d)).toArray rfl rfl (j8 Tryz.underlying54 zm zrKc (by decide) (uX _)) fun bp vD Bb=> ?_
         have Zv: ∀r,r∈ [G3.bd,b15]→r∈keys L4:=fun r hr=>by simp only[List.mem_cons,List.not_mem_nil,or_false] at hr;rcases hr with rfl|rfl;exact bV nY;exact bV De
         with_reducible refine Ow.nil ?_
         refine⟨(Bj Zv), ?_⟩
         simp only[List.set_cons_zero,List.set_cons_succ,ol,my,mz]
         refine OwG.one 7 _ (by kernel_rfl) rfl ?_
         refine Ow.appendG (e:=150) (k:=1) (new:=kcC (jA d)) (G3.p k) rfl rfl rfl Tryz.underlying54 zm (by kernel_rfl) zrKc (by rw[El,List.size_toArray,uX]) Tryz.underlying54 (by intro k h;cases h) tR.app (fun w' aB=>AppX.one1 (aB.has bp (.cells (kcC (jA d)).toArray 150 (0,0)) (by simp)) (uX _) (ya _)) (uX _) (by rw[List.length_map,Tl];omega) (fun v7 L5 uv _ Db hs7=> ?_)
         have oX:slB (G3.p k)≠some G3.bd:=fun e=>by
          obtain⟨arr,ha⟩:=gd tR e
          rw[nY] at ha
          have:=congrArg tyO (Option.some.inj ha)
          rw[fV] at this
          exact uo this
         have DW:Sx.look L5 G3.bd=some (dcO (cm G3 k v6) S3):=Db.look _ _ oX (aq nY)
         have rd9:=aL (w0:=w) DW
         have st9:=fun x=>wU (cm G3 k v6) S3 hk x uv.cell
         have Sz:Sx.look L5 b15=some (.cells (kcC (jA d)).toArray 150 (0,0)):=Db.look _ _ (fun e=>by
          exact AN e) (aq De)
         with_reducible refine Ow.nil ?_
         refine⟨(fun r hr=>by simp only[List.mem_cons,List.not_mem_nil,or_false] at hr;rcases hr with rfl|rfl;exact rd9.trans (aL (aq nY)).symm;exact(aL Sz).trans (aL (aq De)).symm), ?_⟩
         simp only[List.set_cons_zero,List.set_cons_succ,ol,my,mz]
         refine OwG.rest [8,9,10] rfl (by kernel_rfl) (by kernel_rfl) ?_
         simp only[ar, ↓ap, ↓ag, ↓an, ↓am,ah]
         refine kq @aI ?_
         refine Ow.store rfl rfl rfl (ke (And.intro @aI (And.intro @DW (@st9)))) ?_
         refine ko @aI ?_
         first|with_reducible refine ks [] @aI ?_|refine kp @aI ?_
         refine⟨_,(ke @aI), ?_⟩
         rw[hT]
         have Zf:=((r8.app (o:= .cells (kcC (jA d)).toArray 150 (0,0)) Bb).grew Db).setB (b:=G3.bd) (o:=dcO (eb (cm G3 k v6) k v7) S3)
         have Wm: ∀b o,b≠G3.bd→slB (G3.p k)≠some b→Sx.look L4 b=some o→Sx.look (setB L5 G3.bd (dcO (eb (cm G3 k v6) k v7) S3)) b=some o:=fun b o hb hf ho=>by
          rw[bH (Ne.symm hb)];exact Db.look _ _ hf (aq ho)
         have Zu:DcP (setB L5 G3.bd (dcO (eb (cm G3 k v6) k v7) S3)) (eb (cm G3 k v6) k v7) (dX S3 k ⟨cJ (S3.dir k).seen d,(S3.dir k).stl,(S3.dir k).pend++ [lI d]⟩):=by
          refine dy.updP hk (pl:=pl) (pl':=pl++ [d]) WN (fun b o hb hf ho=>Wm b o hb hf (T6 b o hb ho)) (ee DW) ?_ ?_ ?_ ?_
          ·exact Gr.keep2 SF tR se nY (by rw[fV];exact oA) Wm
          ·have DQ:KcP L5 v7 (pl++ [d]):=by
            unfold KcP
            simpa using uv
           exact Gr.keepTy DQ DW (by rw[fV];exact uo) fun b o hb ho=>by rw[bH (Ne.symm hb)];exact ho
          ·rw[List.map_append,List.map_append,qU]
           simp[KL]
          ·intro b hb
           rcases hs7 with h| ⟨c,h,jF⟩
           ·exact .inl (by rw[←h];exact hb)
           ·right
            rw[h] at hb
            cases hb
            intro hm
            have:=cY jF (b:=b) (by rw[bO];exact List.mem_append_left _ (An _ hm))
            omega
         refine⟨Zf,rfl,eb (cm G3 k v6) k v7,dz, ?_⟩
         unfold lH
         rw[JS]
         exact Zu
      ·have e2:=jN eA
       rw[if_pos eA]
       refine ko (And.intro @aI @e2) ?_
       first|with_reducible refine ks [] (And.intro @aI @e2) ?_|refine kp (And.intro @aI @e2) ?_
       refine⟨_,(ke @aI), ?_⟩
       exact⟨bU,rfl,G,rfl,aS⟩
end Go.Proofs
end
section
open Go Go.Proofs Go.Sx Go.StP
namespace Go.Proofs
set_option maxRecDepth 10000
set_option maxHeartbeats 1000000
set_option linter.unusedSimpArgs false
structure OcG where
 i:Nat
 S:DiskL
 G:DcG
 X:aA
def ofN (l:List FiL) (q:Int) (i:Nat):DiskL:=(l.take i).foldl co (eV q)
theorem xu (l:List FiL) (q:Int) {i:Nat} (h:i<l.length):ofN l q (i+1)=co (ofN l q i) (l.getD i fi0):=by
 unfold ofN
 rw[StP.take_snoc (z:=fi0) h,List.foldl_append];rfl
theorem VA (S:DiskL) (f:FiL) {n:Nat} (h:S.files.length≤n∧ ∀k,(S.dir k).seen.length≤n): (co S f).files.length≤n+1∧ ∀k,((co S f).dir k).seen.length≤n+1:=by
 unfold co
 split
 ·rename_i k _
  split
  ·refine⟨?_,fun j=> ?_⟩
   ·show(S.files++ [_]).length≤n+1
    rw[List.length_append];simp;exact h.1
   ·by_cases e:j=k
    ·subst e
     rw[kX]
     have:=CW (S.dir j).seen (f.name,S.files.length)
     have:=h.2 j
     show(gY _ _).length≤n+1
     omega
    ·rw[lE _ _ e]
     have:=h.2 j
     show(S.dir j).seen.length≤n+1
     omega
  ·exact⟨Nat.le_succ_of_le h.1,fun k=>Nat.le_succ_of_le (h.2 k)⟩
 ·exact⟨Nat.le_succ_of_le h.1,fun k=>Nat.le_succ_of_le (h.2 k)⟩
def gX (S:DiskL) (k:Nat):DiskL:={S with dir:=fun j=>if j<k then⟨(S.dir j).seen,(S.dir j).seen,[]⟩ else S.dir j}
theorem RW (S:DiskL):gX S 0=S:=by
 unfold gX
 simp
theorem RY {S:DiskL} (_h: ∀k,(S.dir k).pend= []∧(S.dir k).stl= []):gX S 3=setV S [0,1,2]:=by
 unfold gX setV
 congr 1
 funext j
 by_cases e:j<3
 ·rw[if_pos e,if_pos (by
   have:j=0∨j=1∨j=2:=by omega
   rcases this with rfl|rfl|rfl<;>simp)]
 ·rw[if_neg e,if_neg (by simp;omega)]
theorem LG {S:DiskL} (h: ∀k,(S.dir k).pend= []∧(S.dir k).stl= []) (k j:Nat): ((gX S (k+1)).dir j).seen=((gX S k).dir j).seen∧((gX S (k+1)).dir j).pend=((gX S k).dir j).pend∧(j≠k→((gX S (k+1)).dir j).stl=((gX S k).dir j).stl)∧((gX S (k+1)).dir k).stl=((gX S k).dir k).seen:=by
 have hp:=(h j).1
 unfold gX
 simp only
 refine⟨?_, ?_,fun e=> ?_, ?_⟩
 ·split<;>split<;>first|rfl|omega
 ·split<;>split<;>first|rfl|omega| (rw[hp])
 ·split<;>split<;>first|rfl|omega
 ·rw[if_pos (Nat.lt_succ_self k),if_neg (Nat.lt_irrefl k)]
theorem DcP.updS {X L:aA} {G:DcG} {S:DiskL} (h:DcP X G S) {k:Nat} (hk:k<3) {sv:Value} {sn:NmL} (keep: ∀b o,b≠G.bd→Sx.look X b=some o→Sx.look L b=some o) (hd:Sx.look L G.bd=some (dcO (cm G k sv) S)) (hs:NdP L sv sn):DcP L (cm G k sv) (dX S k ⟨sn,(S.dir k).stl,(S.dir k).pend⟩):=
 h.upd rfl keep hd (fun j hj=>by
  by_cases e:j=k
  ·subst e
   right
   rw[kX,show(cm G j sv).s j=sv by simp[cm]]
   exact hs
  ·exact .inl ⟨by simp[cm,e],by rw[lE _ _ e]⟩) (fun j hj=> .inl ⟨rfl,by
   by_cases e:j=k
   ·subst e;rw[kX]
   ·rw[lE _ _ e]⟩) (fun j hj=> .inl ⟨rfl,by
   by_cases e:j=k
   ·subst e;rw[kX]
   ·rw[lE _ _ e]⟩) ⟨rfl,rfl⟩
set_option linter.defProp false
def cj:=And.intro (And.intro (And.intro (@ay) (@ax)) (And.intro (@uP) (@uR))) (And.intro (And.intro (@uT) (@uW)) (And.intro (@CY) (@p7)))
theorem Mg (quota:Int) (v:Value) (l:List FiL) (w:World) (_hq: -9223372036854775808≤quota∧quota<9223372036854775808) (hv:FiSl w v l) (hl:l.length<1000000) (hb:FiB l):
  Rets Tryz.prog 26 #[vi quota,v] w (XS w [] (fun v D=> ∃G,v=vp G.bd 0∧DcP D G (ofD quota l))):=by
 have ln:=hv.len
 obtain⟨rb,off,arr,E,fz,hr⟩:=hv.row
 refine Rets.enterX Tryz.func26 rfl (rs:= [.tmp 4]) Tryz.results26 Tryz.ntmps26 (fun p hp=>by cases hp) (by simp[keys]) ?_
 refine kf ?_
 first|with_reducible refine ks [7,8,12,1000002] @cj ?_|refine kp @cj ?_
 refine Ow.callC rfl rfl Tryz.call29 (fun w' aB=>LD quota w') (fun B1 v1 X0 bv dh bX cz=> ?_)
 obtain⟨G0,rfl,kl⟩:=cz
 have k8:=bX.mono dh
 rw[List.nil_append]
 refine ko @cj ?_
 first|with_reducible refine ks [4,7,8,12] @cj ?_|refine kp @cj ?_
 refine Cw.loopG (G:=OcG) [11,12,13,14,17,18,19,20,21,22,7,23,24,25,26,27,28,29,30,31,32,33,34,35,36,37,38,39,40,41,42,43,44,45,46,47,48,49,50,51,52,53,54,55,56,57,58,59,60,61,62,63,64,65,66,67,68,69,70,71,72,73,74,75,76,77,78,79,80,81,82,83,84,85,86,87,88,89,15,16,6] (fun g=> [(6,vi g.i)]) (fun g=>g.X) (fun g=>g.i≤l.length∧g.S=ofN l quota g.i∧DcP g.X g.G g.S∧g.G.bd=G0.bd∧New w.heap.size g.X∧(g.S.files.length≤g.i∧ ∀k,(g.S.dir k).seen.length≤g.i)) (fun g=>l.length - g.i) ⟨0,eV quota,G0,X0⟩ rfl rfl ?_ ?_
 ·exact⟨Nat.zero_le _,rfl,kl,rfl,k8,Nat.zero_le _,fun _=>Nat.zero_le _⟩
 intro g j hg
 refine kv ?_
 obtain⟨i,S,G,X⟩:=g
 simp only at hg ⊢
 obtain⟨hi,hS,hP,bJ,hN,l9⟩:=hg
 rw[←bJ]
 by_cases aC:i<l.length
 ·have d1:decide ((i:Int)< (l.length:Int))=true:=decide_eq_true (by omega)
  have ix:=hr.idx true i aC
  have rda: ∀Y,New w.heap.size Y→aM w Y rb=some (.cells arr E fz):=fun Y hY=>by rw[j7 (hY.not (hr.lt (by omega)))];exact hr.has (by omega)
  have rd1:=rda X hN
  have l0: ∀n,aF (some (false,n)) (some (.cells arr E fz)) (off+i*3)=some (vs (l.getD i fi0).dir):=fun n=>by have:=Oc hr aC n;rwa [Nat.add_zero] at this
  have l1:=fun n=>yi hr aC n
  have l2:=fun n=>sL hr aC n
  have vG:=hb (l.getD i fi0) (mq aC)
  have bW:=xu l quota aC
  rw[←hS] at bW
  have cT:=VA S (l.getD i fi0) l9
  generalize l.getD i fi0=f at*
  have BN:=aL (w0:=w) hP.disk
  first|with_reducible refine ks [4,7,8] (And.intro @cj (And.intro @ln (And.intro @d1 (And.intro @ix (And.intro @rd1 (@l0)))))) ?_|refine kp (And.intro @cj (And.intro @ln (And.intro @d1 (And.intro @ix (And.intro @rd1 (@l0)))))) ?_
  refine Ow.callFV rfl Tryz.call84 (fun w' aB=>E8 f.dir w') ?_
  cases hw:bT f.dir with
  |none=>
   have gp:iw f.dir= -1:=by unfold iw;rw[hw]
   have e1:decide ((-1:Int)<0)=true:=rfl
   have bQ:co S f=S:=by unfold co;rw[hw]
   rw[gp]
   refine ko (And.intro @cj @e1) ?_
   first|with_reducible refine ks [] @cj ?_|refine kp @cj ?_
   exact Again.mk ⟨i+1,S,G,X⟩ (by show l.length - (i+1)<l.length - i;omega) ⟨aC,by rw[bW,bQ],hP,rfl,hN,Nat.le_succ_of_le l9.1,fun k=>Nat.le_succ_of_le (l9.2 k)⟩ rfl rfl
  |some k=>
   have hk:=(g5 hw).1
   have gp:iw f.dir=(k:Int):=by unfold iw;rw[hw]
   have e1:decide ((k:Int)<0)=false:=decide_eq_false (by omega)
   rw[gp]
   refine ko (And.intro @cj (And.intro @e1 (And.intro @ix (And.intro @rd1 (@l1))))) ?_
   refine Ow.callFV rfl Tryz.call85 (fun w' aB=>DJ f.name w' vG.1) ?_
   cases hf:cI f.name with
   |false=>
    have bQ:co S f=S:=by unfold co;rw[hw];simp only[hf,Bool.false_eq_true,false_and, ↓reduceIte]
    refine ko @cj ?_
    first|with_reducible refine ks [] @cj ?_|refine kp @cj ?_
    exact Again.mk ⟨i+1,S,G,X⟩ (by show l.length - (i+1)<l.length - i;omega) ⟨aC,by rw[bW,bQ],hP,rfl,hN,Nat.le_succ_of_le l9.1,fun k=>Nat.le_succ_of_le (l9.2 k)⟩ rfl rfl
   |true=>
    cases hm:decide ((1048576:Int)< (f.data.length:Int)) with
    |true=>
     have gO:=of_decide_eq_true hm
     have bQ:co S f=S:=by unfold co;rw[hw];simp only[hf,true_and];rw[if_neg (by omega)]
     refine ko (And.intro @cj (And.intro @ix (And.intro @rd1 (And.intro @l2 (@hm))))) ?_
     first|with_reducible refine ks [] @cj ?_|refine kp @cj ?_
     exact Again.mk ⟨i+1,S,G,X⟩ (by show l.length - (i+1)<l.length - i;omega) ⟨aC,by rw[bW,bQ],hP,rfl,hN,Nat.le_succ_of_le l9.1,fun k=>Nat.le_succ_of_le (l9.2 k)⟩ rfl rfl
    |false=>
     have gO:=of_decide_eq_false hm
     have bQ:co S f=dX (gz S ⟨f.data,f.data.length⟩) k ⟨gY (S.dir k).seen (f.name,S.files.length),(S.dir k).stl,(S.dir k).pend⟩:=by unfold co;rw[hw];simp only[hf,true_and];rw[if_pos (by omega)]
     refine ko (And.intro @cj (And.intro @ix (And.intro @rd1 (And.intro @l2 (@hm))))) ?_
     first|with_reducible refine ks [4,7,8] @cj ?_|refine kp @cj ?_
     refine Cw.regionG [G.bd,rb] [21] 22 (by kernel_rfl) rfl ?_
     simp only[List.replicate_succ,List.replicate_zero]
     refine OwG.run [0,1,2,3,4,5,6,7,8,9,10,11,12,13,14,15] [true,true,true,true,true,true,true,true,true,true,true,true,true,true,true,true,false,false,false,false,false,false] 6 rfl (by kernel_rfl) (by kernel_rfl) fun k hk=> ?_
     simp only[ar, ↓ap, ↓ag, ↓an, ↓am,ah]
     simp(disch:=(first|assumption|omega| (simp only[fM,fL,UInt64.reduceToNat];try omega))) only[↓Sx.S0,Sx.S1,Tryz.fx,cj,Nat.reduceAdd,Nat.reducePow,Int.reducePow,Nat.reduceBEq, ↓reduceIte,UInt8.reduceToNat,UInt16.reduceToNat,UInt32.reduceToNat,UInt64.reduceToNat,Int.reduceToNat,Md.next_sofnil,BN,ix,rd1,l2]
     (with_reducible refine hk _ _ _ ?_);clear hk k
     refine OwG.one 16 _ (by kernel_rfl) rfl ?_
     refine Ow.build (.agg (fdC ⟨f.data,(f.data.length:Int)⟩).toArray) rfl (NF ⟨f.data,(f.data.length:Int)⟩) ?_
     with_reducible refine Ow.nil ?_
     refine⟨(fun _ _=>rfl), ?_⟩
     simp only[List.set_cons_zero,List.set_cons_succ,ol,my,mz]
     refine OwG.one 17 _ (by kernel_rfl) rfl ?_
     refine Ow.buildSlice (e:=141) (fdC ⟨f.data,(f.data.length:Int)⟩).toArray rfl rfl (j8 Tryz.underlying58 pV zrFd (by decide) (jr _)) fun bp vD Bb=> ?_
     have uw:Gr X 141 2 G.f S.files.length ((S.files.map dA).map fdC).flatten:=by
      have:=hP.files
      unfold FdP at this
      rwa [List.length_map] at this
     have ad:slB G.f≠some G.bd:=fun e=>by
      obtain⟨arr,ha⟩:=gd uw e
      rw[hP.disk] at ha
      have:=congrArg tyO (Option.some.inj ha)
      rw[fV] at this
      exact oz this
     have bw:New w.heap.size (X++ [(bp,Obj.cells (fdC ⟨f.data,(f.data.length:Int)⟩).toArray 141 (0,0))]):=hN.app ⟨Bb,trivial⟩
     have jG:Sx.look (X++ [(bp,Obj.cells (fdC ⟨f.data,(f.data.length:Int)⟩).toArray 141 (0,0))]) G.bd=some (dcO G S):=aq hP.disk
     with_reducible refine Ow.nil ?_
     refine⟨(fun r hr=>by simp only[List.mem_cons,List.not_mem_nil,or_false] at hr;rcases hr with rfl|rfl;exact(aL jG).trans BN.symm;exact(rda _ bw).trans rd1.symm), ?_⟩
     simp only[List.set_cons_zero,List.set_cons_succ,ol,my,mz]
     refine OwG.one 18 _ (by kernel_rfl) rfl ?_
     refine Ow.appendG (e:=141) (k:=1) (new:=fdC ⟨f.data,(f.data.length:Int)⟩) G.f rfl rfl rfl Tryz.underlying58 pV (by kernel_rfl) zrFd (by rw[CY,List.size_toArray,jr]) Tryz.underlying58 (by intro k h;cases h) uw.app (fun w' aB=>AppX.one1 (aB.has bp (.cells (fdC ⟨f.data,(f.data.length:Int)⟩).toArray 141 (0,0)) (by simp)) (jr _) (yr _)) (jr _) (by omega) (fun v2 L5 kh _ Da hs5=> ?_)
     have Ab:Sx.look L5 G.bd=some (dcO G S):=Da.look _ _ ad jG
     have rd5:=aL (w0:=w) Ab
     have fD:New w.heap.size L5:=New.of_le fun c hc=>by
      rcases Da.new c hc with h| ⟨-,h⟩
      ·exact bw.le c h
      ·exact h
     have st5:=fun x=>wZ G S x kh.cell
     with_reducible refine Ow.nil ?_
     refine⟨(fun r hr=>by simp only[List.mem_cons,List.not_mem_nil,or_false] at hr;rcases hr with rfl|rfl;exact rd5.trans (aL jG).symm;exact(rda _ fD).trans (rda _ bw).symm), ?_⟩
     simp only[List.set_cons_zero,List.set_cons_succ,ol,my,mz]
     refine OwG.rest [19,20,21] rfl (by kernel_rfl) (by kernel_rfl) ?_
     simp only[ar, ↓ap, ↓ag, ↓an, ↓am,ah]
     refine kq @cj ?_
     refine Ow.store rfl rfl rfl (ke (And.intro @cj (And.intro @Ab (@st5)))) ?_
     refine ko @cj ?_
     have m8:DcP (setB L5 G.bd (dcO {G with f:=v2} S)) {G with f:=v2} (gz S ⟨f.data,f.data.length⟩):=by
      refine DcP.updF (G:=G) hP (v:=v2) (fl:=S.files++ [⟨f.data,f.data.length⟩]) (fun b o hb hf ho=>by rw[bH (Ne.symm hb)];exact Da.look _ _ hf (aq ho)) (ee Ab) ?_
      have me:FdP L5 v2 (S.files++ [⟨f.data,f.data.length⟩]):=by
       have DZ:dA ⟨f.data,f.data.length⟩=⟨f.data,(f.data.length:Int)⟩:=rfl
       unfold FdP
       simpa [DZ] using kh
      exact Gr.keepTy me Ab (by rw[fV];exact oz) fun b o hb ho=>by rw[bH (Ne.symm hb)];exact ho
     have jc:New w.heap.size (setB L5 G.bd (dcO {G with f:=v2} S)):=New.of_le fun c hc=>fD.le c (by rwa [j9] at hc)
     generalize setB L5 G.bd (dcO {G with f:=v2} S)=L6 at*
     obtain⟨G2,ux⟩: ∃G2:DcG,G2={G with f:=v2}:=⟨_,rfl⟩
     rw[←ux] at m8
     have aX:G.bd=G2.bd:=by rw[ux]
     rw[aX]
     clear Da hs5 kh st5 Ab rd5 fD jG bw
     have rd6:=aL (w0:=w) m8.disk
     have ls6:=fun n=>qr G2 (gz S ⟨f.data,f.data.length⟩) hk n
     have ln6: ∀m,fe (.sl m) G2.f=some (vi ((S.files.length+1:Nat):Int)):=fun m=>by
      have:=(m8.files).len m
      rw[List.length_map] at this
      rw[this]
      show some (vi (((S.files++ [_]).length:Nat):Int))=_
      rw[List.length_append];rfl
     have es: ((S.files.length+1:Nat):Int) - 1=(S.files.length:Int):=by omega
     have rdb6:=rda _ jc
     have BV:=l9.2 k
     first|with_reducible refine ks [4,8] @cj ?_|refine kp @cj ?_
     refine Cw.regionG [G2.bd,rb] [26] 27 (by kernel_rfl) rfl ?_
     simp only[List.replicate_succ,List.replicate_zero]
     refine OwG.run [0,1,2,3,4,5,6,7,8,9,10,11,12,13,14,15,16,17,18,19,22,23] [true,true,true,true,true,true,true,true,true,true,true,true,true,true,true,true,true,true,true,true,false,false,true,true,false,false,false] 5 rfl (by kernel_rfl) (by kernel_rfl) fun k hk=> ?_
     simp only[ar, ↓ap, ↓ag, ↓an, ↓am,ah]
     simp(disch:=(first|assumption|omega| (simp only[fM,fL,UInt64.reduceToNat];try omega))) only[↓Sx.S0,Sx.S1,Tryz.fx,cj,Nat.reduceAdd,Nat.reducePow,Int.reducePow,Nat.reduceBEq, ↓reduceIte,UInt8.reduceToNat,UInt16.reduceToNat,UInt32.reduceToNat,UInt64.reduceToNat,Int.reduceToNat,Md.next_sofnil,rd6,ls6,ix,rdb6,l1,ln6,es]
     (with_reducible refine hk _ _ _ ?_);clear hk k
     refine OwG.one 20 _ (by kernel_rfl) rfl ?_
     refine Ow.build (.agg (ndC (aO (f.name,S.files.length))).toArray) rfl (F5 (f.name,S.files.length)) ?_
     with_reducible refine Ow.nil ?_
     refine⟨(fun _ _=>rfl), ?_⟩
     simp only[List.set_cons_zero,List.set_cons_succ,ol,my,mz]
     refine OwG.one 21 _ (by kernel_rfl) rfl ?_
     refine Ow.callC rfl rfl Tryz.call86 (fun w' aB=>EH (G2.s k) (S.dir k).seen (f.name,S.files.length) w' (Gr.slW (m8.seen k hk) (fun b o h=>aB.has b o (bh h)) ef) (by omega)) (fun B7 v7 D7 WG uv mg nU=> ?_)
     have S7:=mg.mono uv
     have px:=jc.app S7
     have nY:Sx.look (L6++D7) G2.bd=some (dcO G2 (gz S ⟨f.data,f.data.length⟩)):=aq m8.disk
     have st7:=fun x=>x8 G2 (gz S ⟨f.data,f.data.length⟩) hk x (yM nU)
     with_reducible refine Ow.nil ?_
     refine⟨(fun r hr=>by simp only[List.mem_cons,List.not_mem_nil,or_false] at hr;rcases hr with rfl|rfl;exact(aL nY).trans rd6.symm;exact(rda _ px).trans rdb6.symm), ?_⟩
     simp only[List.set_cons_zero,List.set_cons_succ,ol,my,mz]
     refine OwG.rest [24,25,26] rfl (by kernel_rfl) (by kernel_rfl) ?_
     simp only[ar, ↓ap, ↓ag, ↓an, ↓am,ah]
     refine kq @cj ?_
     refine Ow.store rfl rfl rfl (ke (And.intro @cj (And.intro @nY (@st7)))) ?_
     refine ko @cj ?_
     refine Cw.world fun wz eR=> ?_
     have av:=eR.nodup
     clear eR wz
     rw[j9] at av
     obtain⟨Xs,DS,DR⟩:=nU
     have SF:NdP (L6++D7) v7 (gY (S.dir k).seen (f.name,S.files.length)):=DR.keep fun b o _ ho=>w5 av (List.mem_append_right _ (DS _ (bh ho)))
     have km:DcP (setB (L6++D7) G2.bd (dcO (cm G2 k v7) (gz S ⟨f.data,f.data.length⟩))) (cm G2 k v7) (co S f):=by
      rw[bQ]
      exact m8.updS hk (fun b o hb ho=>by rw[bH (Ne.symm hb)];exact aq ho) (ee nY) (Gr.keepTy SF nY (by rw[fV];exact oA) fun b o hb ho=>by rw[bH (Ne.symm hb)];exact ho)
     first|with_reducible refine ks [] @cj ?_|refine kp @cj ?_
     exact Again.mk ⟨i+1,co S f,cm G2 k v7,setB (L6++D7) G2.bd (dcO (cm G2 k v7) (gz S ⟨f.data,f.data.length⟩))⟩ (by show l.length - (i+1)<l.length - i;omega) ⟨aC,bW.symm,km,rfl,New.of_le (fun c hc=>px.le c (by rwa [j9] at hc)),cT⟩ rfl rfl
 ·obtain rfl:i=l.length:=by omega
  have d1:decide ((l.length:Int)< (l.length:Int))=false:=decide_eq_false (by omega)
  have hT:S=l.foldl co (eV quota):=by rw[hS];unfold ofN;rw[List.take_length]
  have ct:=Vm l (eV quota) (fun _=>⟨rfl,rfl⟩)
  rw[←hT] at ct
  have mo:ofD quota l=setV S [0,1,2]:=by rw[hT];rfl
  rw[mo]
  clear hS hT mo
  rw[←RY ct]
  first|with_reducible refine ks [12] (And.intro @cj (And.intro @ln (@d1))) ?_|refine kp (And.intro @cj (And.intro @ln (@d1))) ?_
  refine Cw.loopG (G:=OcG) [90,91,94,95,96,97,98,99,100,101,102,103,104,105,106,92,93,8] (fun g=> [(8,vi g.i)]) (fun g=>g.X) (fun g=>g.i≤3∧g.S=gX S g.i∧DcP g.X g.G g.S∧g.G.bd=G.bd∧New w.heap.size g.X) (fun g=>3 - g.i) ⟨0,S,G,X⟩ rfl rfl ?_ ?_
  ·exact⟨Nat.zero_le _,(RW S).symm,hP,rfl,hN⟩
  intro g j hg
  refine kv ?_
  clear hP hN bJ
  obtain⟨k,S2,G2,X2⟩:=g
  simp only at hg ⊢
  obtain⟨hk,bl,hP,bJ,hN⟩:=hg
  rw[←bJ]
  by_cases aC:k<3
  ·have d2:decide ((k:Int)<3)=true:=decide_eq_true (by omega)
   have rdd:=aL (w0:=w) hP.disk
   have lds:=fun n=>qr G2 S2 aC n
   have st:=fun x=>xM G2 S2 aC x (Gr.cell (hP.seen k aC))
   have fR: ∀j,((gX S (k+1)).dir j).seen=(S2.dir j).seen∧((gX S (k+1)).dir j).pend=(S2.dir j).pend∧(j≠k→((gX S (k+1)).dir j).stl=(S2.dir j).stl)∧((gX S (k+1)).dir k).stl=(S2.dir k).seen:=fun j=>by
    rw[bl];exact LG ct k j
   have mC: (gX S (k+1)).files=S2.files:=by rw[bl];rfl
   have hdc:dcO (iV G2 k (G2.s k)) S2=dcO (iV G2 k (G2.s k)) (gX S (k+1)):=by rw[bl];rfl
   first|with_reducible refine ks [] (And.intro @cj @d2) ?_|refine kp (And.intro @cj @d2) ?_
   refine Cw.regionO [0,1,2,3,4,5,6,7,9,10,8,11,12,13] [13] rfl (by kernel_rfl) (by kernel_rfl) ?_
   simp only[ar, ↓ap, ↓ag, ↓an, ↓am,ah]
   refine kq (And.intro @cj (And.intro @rdd (@lds))) ?_
   refine Ow.store rfl rfl rfl (by simp(disch:=(first|assumption|omega| (simp only[fM,fL,UInt64.reduceToNat];try omega))) only[↓Sx.S0,Sx.S1,Tryz.fx,cj,Nat.reduceAdd,Nat.reducePow,Int.reducePow,Nat.reduceBEq, ↓reduceIte,UInt8.reduceToNat,UInt16.reduceToNat,UInt32.reduceToNat,UInt64.reduceToNat,Int.reduceToNat,hP.disk,st];rfl) ?_
   refine ko @cj ?_
   rw[hdc]
   first|with_reducible refine ks [] @cj ?_|refine kp @cj ?_
   refine Again.mk ⟨k+1,gX S (k+1),iV G2 k (G2.s k),setB X2 G2.bd (dcO (iV G2 k (G2.s k)) (gX S (k+1)))⟩ (by show 3 - (k+1)<3 - k;omega) ⟨aC,rfl, ?_,rfl,New.of_le (fun c hc=>hN.le c (by rwa [j9] at hc))⟩ rfl rfl
   refine hP.upd rfl (fun b o hb ho=>by rw[bH (Ne.symm hb)];exact ho) (ee hP.disk) (fun j hj=> .inl ⟨rfl,(fR j).1⟩) (fun j hj=> ?_) (fun j hj=> .inl ⟨rfl,(fR j).2.1⟩) ⟨rfl,mC⟩
   by_cases e:j=k
   ·subst e
    right
    rw[(fR j).2.2.2,show(iV G2 j (G2.s j)).t j=G2.s j by simp[iV]]
    exact Gr.keepTy (hP.seen j hj) hP.disk (by rw[fV];exact oA) fun b o hb ho=>by rw[bH (Ne.symm hb)];exact ho
   ·exact .inl ⟨by simp[iV,e],(fR j).2.2.1 e⟩
  ·obtain rfl:k=3:=by omega
   have d2:decide (((3:Nat):Int)<3)=false:=rfl
   first|with_reducible refine ks [] (And.intro @cj @d2) ?_|refine kp (And.intro @cj @d2) ?_
   refine⟨_,(ke @cj), ?_⟩
   rw[←bl]
   exact⟨Ext.of_new hN,G2,rfl,hP⟩
end Go.Proofs
end
section
open Go Go.Proofs Go.Sx Go.StP
namespace Go.Proofs
set_option maxRecDepth 10000
set_option maxHeartbeats 1000000
set_option linter.unusedSimpArgs false
set_option linter.defProp false
end Go.Proofs
end
section
open Go Go.Proofs Go.Sx Go.StP Go.Flo
namespace Go.Proofs
set_option maxRecDepth 10000
set_option maxHeartbeats 400000
set_option linter.unusedSimpArgs false
set_option linter.defProp false
def gg:=And.intro (@ay) (And.intro (@ax) (@Mw))
theorem wM (x a b:Int) (w:World) (hx:x.natAbs<8192) (ha:a.natAbs<8192) (hb:b.natAbs<8192):
  Rets Tryz.prog 253 #[fl x,vi a,vi b] w (fun v D=>v= .tuple #[vi (if a≤x∧x≤b then x else 0), .bool (decide (a≤x∧x≤b))]∧D= []):=by
 refine Rets.enterV Tryz.func253 rfl (rs:= [.tmp 6, .tmp 7]) Tryz.results253 Tryz.ntmps253 ?_
 refine kf ?_
 first|with_reducible refine ks [] @gg ?_|refine kp @gg ?_
 refine Ow.convIF rfl rfl cvIF Tryz.underlying3 Tryz.underlying312 rfl ?_
 refine Ow.fgeq rfl rfl rfl hx ha ?_
 by_cases h1:a≤x
 ·rw[decide_eq_true h1]
  refine ko @gg ?_
  refine Ow.convIF rfl rfl cvIF Tryz.underlying3 Tryz.underlying312 rfl ?_
  refine Ow.fleq rfl rfl rfl hx hb ?_
  by_cases h2:x≤b
  ·rw[decide_eq_true h2,decide_eq_true (show a≤x∧x≤b from⟨h1,h2⟩),if_pos ⟨h1,h2⟩]
   refine ko @gg ?_
   first|with_reducible refine ks [] @gg ?_|refine kp @gg ?_
   refine Ow.convFI rfl rfl cvFI Tryz.underlying312 Tryz.underlying3 rfl hx ?_
   refine ko @gg ?_
   first|with_reducible refine ks [] @gg ?_|refine kp @gg ?_
   refine Ow.convIF rfl rfl cvIF Tryz.underlying3 Tryz.underlying312 rfl ?_
   refine ko @gg ?_
   refine Ow.feql rfl rfl rfl hx hx ?_
   rw[show(x==x)=true by simp]
   refine ko @gg ?_
   first|with_reducible refine ks [] @gg ?_|refine kp @gg ?_
   refine⟨_,(ke @gg),trivial, ?_⟩
   rfl
  ·rw[decide_eq_false h2,decide_eq_false (show¬ (a≤x∧x≤b) from fun h=>h2 h.2),if_neg (fun h=>h2 h.2)]
   refine ko @gg ?_
   first|with_reducible refine ks [] @gg ?_|refine kp @gg ?_
   refine⟨_,(ke @gg),trivial, ?_⟩
   rfl
 ·rw[decide_eq_false h1,decide_eq_false (show¬ (a≤x∧x≤b) from fun h=>h1 h.1),if_neg (fun h=>h1 h.1)]
  refine ko @gg ?_
  first|with_reducible refine ks [] @gg ?_|refine kp @gg ?_
  refine⟨_,(ke @gg),trivial, ?_⟩
  rfl
def cpR (p:PcL) (b:Int):Value:=match cpV p b with
 |some q=> .tuple #[vi q.1,vi q.2, .bool true]
 |none=>if(1≤p.n∧p.n≤4099)∧p.x= []∧(p.n:Int)≤b then .tuple #[vi 0,vi p.n, .bool false] else .tuple #[vi 0,vi 0, .bool false]
theorem Pk {p:PcL} {b:Int} (h:1≤p.n∧p.n≤4099∧p.x= []∧(p.a:Int)≤b - p.n):cpV p b=some (p.a,p.n):=by unfold cpV;rw[if_pos h]
theorem ur {p:PcL} {b:Int} (h: ¬ (1≤p.n∧p.n≤4099∧p.x= []∧(p.a:Int)≤b - p.n)):cpV p b=none:=by unfold cpV;rw[if_neg h]
set_option linter.defProp false
def f5:=And.intro (And.intro (And.intro (And.intro (@ay) (@ax)) (And.intro (@vr) (@vl))) (And.intro (And.intro (@ug) (@uO)) (And.intro (@wl) (@cxz)))) (And.intro (And.intro (And.intro (@xv) (@xR)) (And.intro (@UJ) (@Sx.tup2_0))) (And.intro (And.intro (@Sx.tup2_1) (@Sx.tup3_0)) (And.intro (@Sx.tup3_1) (@Sx.tup3_2))))
theorem E5 (p:PcL) (b:Int) (w:World) (hp:PcB p) (h0:0≤b) (h1:b≤4099):
  Rets Tryz.prog 247 #[.agg (pcC p).toArray,vi b] w (fun v D=>v=cpR p b∧D= []):=by
 obtain⟨hpa,qU⟩:=hp
 refine Rets.enterV Tryz.func247 rfl (rs:= [.tmp 4, .tmp 5, .tmp 6]) Tryz.results247 Tryz.ntmps247 ?_
 refine kf ?_
 first|with_reducible refine ks [] @f5 ?_|refine kp @f5 ?_
 refine Ow.box rfl rfl fun b2 bG cU=> ?_
 simp only[eU,eT,ed,bL,List.nil_append,List.cons_append]
 refine Ow.go rfl ?_
 simp(disch:=(first|assumption|omega| (simp only[fM,fL,UInt64.reduceToNat];try omega))) only[↓Sx.S0,Sx.S1,Tryz.fx,f5,Nat.reduceAdd,Nat.reducePow,Int.reducePow,Nat.reduceBEq, ↓reduceIte,UInt8.reduceToNat,UInt16.reduceToNat,UInt32.reduceToNat,UInt64.reduceToNat,Int.reduceToNat]
 first|with_reducible refine ks [] @f5 ?_|refine kp @f5 ?_
 refine Ow.imag rfl rfl ?_
 refine Ow.callFV rfl Tryz.call253 (fun w' aB=>wM (p.n:Int) 1 4099 w' (by omega) (by omega) (by omega)) ?_
 unfold cpR
 by_cases c1:1≤p.n
 ·rw[decide_eq_true (show(1:Int)≤ (p.n:Int)∧(p.n:Int)≤4099 by omega),if_pos (show(1:Int)≤ (p.n:Int)∧(p.n:Int)≤4099 by omega)]
  by_cases c2:p.x= []
  ·have d2:decide (0< (p.x.length:Int))=false:=by rw[c2];rfl
   by_cases c4: (p.n:Int)≤b
   ·have d4:decide (b< (p.n:Int))=false:=decide_eq_false (by omega)
    refine ko (And.intro @f5 (And.intro @d2 (@d4))) ?_
    first|with_reducible refine ks [] @f5 ?_|refine kp @f5 ?_
    refine Ow.real rfl rfl ?_
    refine ko @f5 ?_
    refine Ow.callFV rfl Tryz.call253 (fun w' aB=>wM (p.a:Int) 0 (b - p.n) w' (by omega) (by omega) (by omega)) ?_
    by_cases c3: (p.a:Int)≤b - p.n
    ·rw[decide_eq_true (show(0:Int)≤ (p.a:Int)∧(p.a:Int)≤b - p.n by omega),if_pos (show(0:Int)≤ (p.a:Int)∧(p.a:Int)≤b - p.n by omega),Pk ⟨c1,qU,c2,c3⟩]
     refine ko @f5 ?_
     first|with_reducible refine ks [] @f5 ?_|refine kp @f5 ?_
     refine⟨_,(ke @f5),⟨cU,trivial⟩, ?_⟩
     rfl
    ·rw[decide_eq_false (show¬ ((0:Int)≤ (p.a:Int)∧(p.a:Int)≤b - p.n) by omega),if_neg (show¬ ((0:Int)≤ (p.a:Int)∧(p.a:Int)≤b - p.n) by omega),ur (fun h=>c3 h.2.2.2)]
     simp only
     rw[if_pos ⟨⟨c1,qU⟩,c2,c4⟩]
     refine ko @f5 ?_
     first|with_reducible refine ks [] @f5 ?_|refine kp @f5 ?_
     refine⟨_,(ke @f5),⟨cU,trivial⟩, ?_⟩
     rfl
   ·have d4:decide (b< (p.n:Int))=true:=decide_eq_true (by omega)
    rw[ur (fun h=>by have:=h.2.2.2;omega)]
    simp only
    rw[if_neg (fun h=>c4 h.2.2)]
    refine ko (And.intro @f5 (And.intro @d2 (@d4))) ?_
    first|with_reducible refine ks [] @f5 ?_|refine kp @f5 ?_
    refine⟨_,(ke @f5),⟨cU,trivial⟩, ?_⟩
    rfl
  ·have d2:decide (0< (p.x.length:Int))=true:=decide_eq_true (by have:=List.length_pos_iff.2 c2;omega)
   rw[ur (fun h=>c2 h.2.2.1)]
   simp only
   rw[if_neg (fun h=>c2 h.2.1)]
   refine ko (And.intro @f5 @d2) ?_
   first|with_reducible refine ks [] @f5 ?_|refine kp @f5 ?_
   refine⟨_,(ke @f5),⟨cU,trivial⟩, ?_⟩
   rfl
 ·rw[decide_eq_false (show¬ ((1:Int)≤ (p.n:Int)∧(p.n:Int)≤4099) by omega),if_neg (show¬ ((1:Int)≤ (p.n:Int)∧(p.n:Int)≤4099) by omega),ur (fun h=>c1 h.1)]
  simp only
  rw[if_neg (fun h=>c1 h.1.1)]
  refine ko @f5 ?_
  first|with_reducible refine ks [] @f5 ?_|refine kp @f5 ?_
  refine⟨_,(ke @f5),⟨cU,trivial⟩, ?_⟩
  rfl
end Go.Proofs
end
section
open Go Go.Proofs Go.Sx Go.StP Go.Flo
namespace Go.Proofs
set_option maxRecDepth 10000
set_option maxHeartbeats 400000
set_option linter.unusedSimpArgs false
theorem Vh {p:PcL} {b:Int} (h:eY p b≠0):eY p b=(match cpV p b with|some q=>q.2|none=>p.x.length):=by
 unfold eY at h ⊢
 split
 ·rename_i hz
  rw[ur (fun hc=>by omega)]
 ·rename_i hz
  rw[if_neg hz] at h
  cases hc:cpV p b with
  |none=>rw[hc] at h;exact absurd rfl h
  |some q=>rfl
theorem O5 {p:PcL} {b:Int} {q:Nat×Nat} (h:cpV p b=some q):q=(p.a,p.n)∧1≤p.n:=by
 unfold cpV at h
 split at h
 ·rename_i hc;cases h;exact⟨rfl,hc.1⟩
 ·cases h
set_option linter.defProp false
def eH:=And.intro (And.intro (And.intro (And.intro (@ay) (@ax)) (And.intro (@vr) (@vl))) (And.intro (And.intro (@ug) (@uO)) (And.intro (@wl) (@cxz)))) (And.intro (And.intro (And.intro (@xv) (@xR)) (And.intro (@UJ) (@Sx.tup2_0))) (And.intro (And.intro (@Sx.tup2_1) (@Sx.tup3_0)) (And.intro (@Sx.tup3_1) (@Sx.tup3_2))))
theorem HR (p:PcL) (b:Int) (w:World) (hp:PcB p) (h0:0≤b) (h1:b≤4099):
  Rets Tryz.prog 252 #[.agg (pcC p).toArray,vi b] w (fun v D=>v= .bool (decide (eY p b≠0))∧D= []):=by
 have qR:=hp
 obtain⟨hpa,qU⟩:=qR
 have iI: ¬ (p.a=0∧p.n=0)→(cpV p b).isSome=decide (eY p b≠0):=by
  intro hz
  unfold eY
  rw[if_neg (fun h=>hz ⟨h.1,h.2.1⟩)]
  cases hc:cpV p b with
  |none=>rfl
  |some q=>
   obtain⟨rfl,hn⟩:=O5 hc
   rw[decide_eq_true (show p.n≠0 by omega)]
   rfl
 refine Rets.enterV Tryz.func252 rfl (rs:= [.tmp 4]) Tryz.results252 Tryz.ntmps252 ?_
 refine kf ?_
 first|with_reducible refine ks [3] @eH ?_|refine kp @eH ?_
 refine Ow.box rfl rfl fun b2 bG cU=> ?_
 simp only[eU,eT,ed,bL,List.nil_append,List.cons_append]
 refine Ow.go rfl ?_
 simp(disch:=(first|assumption|omega| (simp only[fM,fL,UInt64.reduceToNat];try omega))) only[↓Sx.S0,Sx.S1,Tryz.fx,eH,Nat.reduceAdd,Nat.reducePow,Int.reducePow,Nat.reduceBEq, ↓reduceIte,UInt8.reduceToNat,UInt16.reduceToNat,UInt32.reduceToNat,UInt64.reduceToNat,Int.reduceToNat]
 first|with_reducible refine ks [] @eH ?_|refine kp @eH ?_
 refine Ow.real rfl rfl ?_
 refine Ow.feql (b:=0) rfl rfl rfl (by omega) (by omega) ?_
 have fin: ∀v,v=cpR p b→ ∃x y,v= .tuple #[x,y, .bool (cpV p b).isSome]:=by
  rintro v rfl
  unfold cpR
  cases cpV p b with
  |some q=>exact⟨_,_,rfl⟩
  |none=>
   simp only
   split
   ·exact⟨_,_,rfl⟩
   ·exact⟨_,_,rfl⟩
 obtain⟨x,y,XF⟩:=fin _ rfl
 by_cases ha:p.a=0
 ·have e1: (((p.a:Nat):Int)==0)=true:=by rw[ha];rfl
  rw[e1]
  refine ko @eH ?_
  refine Ow.imag rfl rfl ?_
  refine Ow.feql (b:=0) rfl rfl rfl (by omega) (by omega) ?_
  by_cases hn:p.n=0
  ·have e2: (((p.n:Nat):Int)==0)=true:=by rw[hn];rfl
   rw[e2]
   have hc:cpV p b=none:=ur (fun h=>by omega)
   by_cases hl:1≤p.x.length
   ·have d1:decide ((1:Int)≤ (p.x.length:Int))=true:=decide_eq_true (by omega)
    by_cases hm:p.x.length≤4099
    ·have d2:decide ((p.x.length:Int)≤4099)=true:=decide_eq_true (by omega)
     have hr:decide (eY p b≠0)=true:=decide_eq_true (by unfold eY;rw[if_pos ⟨ha,hn,hm⟩];omega)
     rw[hr]
     refine ko (And.intro @eH (And.intro @d1 (@d2))) ?_
     first|with_reducible refine ks [] (And.intro @eH (And.intro @d1 (@d2))) ?_|refine kp (And.intro @eH (And.intro @d1 (@d2))) ?_
     refine⟨_,(ke @eH),⟨cU,trivial⟩, ?_⟩
     rfl
    ·have d2:decide ((p.x.length:Int)≤4099)=false:=decide_eq_false (by omega)
     have hr:decide (eY p b≠0)=false:=decide_eq_false (by unfold eY;rw[if_neg (fun h=>hm h.2.2),hc];simp)
     rw[hr]
     refine ko (And.intro @eH (And.intro @d1 (@d2))) ?_
     first|with_reducible refine ks [] (And.intro @eH (And.intro @d1 (@d2))) ?_|refine kp (And.intro @eH (And.intro @d1 (@d2))) ?_
     refine⟨_,(ke @eH),⟨cU,trivial⟩, ?_⟩
     rfl
   ·have d1:decide ((1:Int)≤ (p.x.length:Int))=false:=decide_eq_false (by omega)
    have hr:decide (eY p b≠0)=false:=decide_eq_false (by unfold eY;rw[if_pos ⟨ha,hn,by omega⟩];omega)
    rw[hr]
    refine ko (And.intro @eH @d1) ?_
    first|with_reducible refine ks [] (And.intro @eH @d1) ?_|refine kp (And.intro @eH @d1) ?_
    refine⟨_,(ke @eH),⟨cU,trivial⟩, ?_⟩
    rfl
  ·have e2: (((p.n:Nat):Int)==0)=false:=beq_eq_false_iff_ne.2 (by omega)
   rw[e2,←iI (fun h=>hn h.2)]
   refine ko @eH ?_
   first|with_reducible refine ks [] @eH ?_|refine kp @eH ?_
   refine Ow.callFV rfl Tryz.call247 (fun w' aB=>E5 p b w' hp h0 h1) ?_
   rw[XF]
   refine ko @eH ?_
   first|with_reducible refine ks [] @eH ?_|refine kp @eH ?_
   refine⟨_,(ke @eH),⟨cU,trivial⟩, ?_⟩
   rfl
 ·have e1: (((p.a:Nat):Int)==0)=false:=beq_eq_false_iff_ne.2 (by omega)
  rw[e1,←iI (fun h=>ha h.1)]
  refine ko @eH ?_
  first|with_reducible refine ks [] @eH ?_|refine kp @eH ?_
  refine Ow.callFV rfl Tryz.call247 (fun w' aB=>E5 p b w' hp h0 h1) ?_
  rw[XF]
  refine ko @eH ?_
  first|with_reducible refine ks [] @eH ?_|refine kp @eH ?_
  refine⟨_,(ke @eH),⟨cU,trivial⟩, ?_⟩
  rfl
end Go.Proofs
end
section
open Go Go.Proofs Go.Sx Go.StP Go.Flo
namespace Go.Proofs
set_option maxRecDepth 10000
set_option maxHeartbeats 400000
set_option linter.unusedSimpArgs false
theorem yR {p:PcL} {b:Int} {q:Nat×Nat} (h:cpV p b=some q):cpR p b= .tuple #[vi q.1,vi q.2, .bool true]:=by unfold cpR;rw[h]
theorem yW {p:PcL} {b:Int} (h:cpV p b=none): ∃y:Int,cpR p b= .tuple #[vi 0,vi y, .bool false]:=by
 unfold cpR
 rw[h]
 simp only
 split
 ·exact⟨_,rfl⟩
 ·exact⟨_,rfl⟩
set_option linter.defProp false
def dg:=And.intro (And.intro (And.intro (@ay) (@ax)) (And.intro (@vr) (And.intro (@vl) (@ug)))) (And.intro (And.intro (@uO) (And.intro (@Sx.tup2_0) (@Sx.tup2_1))) (And.intro (@Sx.tup3_0) (And.intro (@Sx.tup3_1) (@Sx.tup3_2))))
theorem Vq (b:Int) (v:Value) (l:List PcL) (w:World) (hv:PcSl w v l) (hl:BndP l) (hn:l.length<1000000000):
  Rets Tryz.prog 246 #[vi b,v] w (fun v D=>v= .tuple #[vi (jD b l).1,vi (jD b l).2]∧D= []):=by
 obtain⟨bb,off,arr,E,fz,hr⟩:=hv.row
 have ln:=hv.len
 refine Rets.enterV Tryz.func246 rfl (rs:= [.tmp 4, .tmp 5]) Tryz.results246 Tryz.ntmps246 ?_
 refine kf ?_
 unfold jD
 by_cases k9:b<0
 ·have d1:decide (b<0)=true:=decide_eq_true k9
  rw[if_pos (.inl k9)]
  first|with_reducible refine ks [] (And.intro @dg @d1) ?_|refine kp (And.intro @dg @d1) ?_
  refine⟨_,(ke @dg),trivial, ?_⟩
  rfl
 have d1:decide (b<0)=false:=decide_eq_false k9
 by_cases mi:4099<b
 ·have d2:decide (4099<b)=true:=decide_eq_true mi
  rw[if_pos (.inr mi)]
  first|with_reducible refine ks [] (And.intro @dg (And.intro @d1 (@d2))) ?_|refine kp (And.intro @dg (And.intro @d1 (@d2))) ?_
  refine⟨_,(ke @dg),trivial, ?_⟩
  rfl
 have d2:decide (4099<b)=false:=decide_eq_false mi
 rw[if_neg (by omega)]
 first|with_reducible refine ks [] (And.intro @dg (And.intro @d1 (@d2))) ?_|refine kp (And.intro @dg (And.intro @d1 (@d2))) ?_
 refine Cw.loopG (G:=Nat) [18,19,20,21,24,25,26,27,28,29,30,4,5,22,23,6] (fun g=> [(6,vi g)]) (fun g=> []) (fun g=>g≤l.length∧anyZ b (l.take g)=false) (fun g=>l.length - g) 0 rfl rfl ?_ ?_
 ·exact⟨Nat.zero_le _,rfl⟩
 intro k jk hk
 refine kv ?_
 obtain⟨hk,hz⟩:=hk
 by_cases aC:k<l.length
 ·have d3:decide ((k:Int)< (l.length:Int))=true:=decide_eq_true (by omega)
  have rd:=hr.has (by omega)
  have ix:=hr.idx true k aC
  have ld:=hr.load uY (by omega) aC
  obtain⟨BI,vO⟩:=hl k aC
  have Dp:=KY (b:=b) aC
  have hmz:=Ek (b:=b) aC
  generalize l.getD k pc0=p at*
  first|with_reducible refine ks [] (And.intro @dg (And.intro @ln (And.intro @d3 (And.intro @ix (And.intro @rd (@ld)))))) ?_|refine kp (And.intro @dg (And.intro @ln (And.intro @d3 (And.intro @ix (And.intro @rd (@ld)))))) ?_
  refine Ow.callFV rfl Tryz.call252 (fun w' aB=>HR p b w' BI (by omega) (by omega)) ?_
  by_cases g9:eY p b=0
  ·rw[decide_eq_false (show¬ (eY p b≠0) by omega),if_pos (hmz g9)]
   refine ko @dg ?_
   first|with_reducible refine ks [] @dg ?_|refine kp @dg ?_
   refine⟨_,(ke @dg),trivial, ?_⟩
   rfl
  ·rw[decide_eq_true (show eY p b≠0 from g9)]
   refine ko @dg ?_
   first|with_reducible refine ks [] @dg ?_|refine kp @dg ?_
   refine Again.mk (k+1) (by omega) ⟨aC, ?_⟩ rfl rfl
   rw[Dp,hz,Bool.false_or]
   exact beq_eq_false_iff_ne.2 g9
 ·obtain rfl:k=l.length:=by omega
  have d3:decide ((l.length:Int)< (l.length:Int))=false:=decide_eq_false (by omega)
  rw[List.take_length] at hz
  rw[if_neg (by rw[hz];decide)]
  first|with_reducible refine ks [] (And.intro @dg (And.intro @ln (@d3))) ?_|refine kp (And.intro @dg (And.intro @ln (@d3))) ?_
  refine Cw.loopG (G:=Nat) [31,32,33,34,38,39,40,41,42,43,37,44,45,46,9,10,11,47,48,49,50,51,52,53,54,55,56,57,7,58,59,4,5,35,36,8] (fun g=> [(7,vi (dm b (l.take g):Nat)),(8,vi g)]) (fun g=> []) (fun g=>g≤l.length∧dm b (l.take g)≤4099) (fun g=>l.length - g) 0 rfl rfl ?_ ?_
  ·exact⟨Nat.zero_le _,by simp[dm]⟩
  intro m jm hm
  refine kv ?_
  obtain⟨hm,hs⟩:=hm
  by_cases aC:m<l.length
  ·have d4:decide ((m:Int)< (l.length:Int))=true:=decide_eq_true (by omega)
   have rd:=hr.has (by omega)
   have ix:=hr.idx true m aC
   have ld:=hr.load uY (by omega) aC
   have ld1:aF (some (false,1)) (some (.cells arr E fz)) (off+m*2+1)=some (vs (l.getD m pc0).x):=hr.cell (j:=1) (n:=1) aC (by omega)
   obtain⟨BI,vO⟩:=hl m aC
   have bQ:=Ku (b:=b) aC
   have eW:=V1 (b:=b) (l:=l) (g:=m+1)
   have g9:eY (l.getD m pc0) b≠0:=fun h=>by rw[Ek aC h] at hz;cases hz
   have kE:=Vh g9
   have fT:=xl (l.getD m pc0) b
   generalize l.getD m pc0=p at*
   first|with_reducible refine ks [15] (And.intro @dg (And.intro @ln (And.intro @d4 (And.intro @ix (And.intro @rd (@ld)))))) ?_|refine kp (And.intro @dg (And.intro @ln (And.intro @d4 (And.intro @ix (And.intro @rd (@ld)))))) ?_
   refine Ow.callFV rfl Tryz.call247 (fun w' aB=>E5 p b w' BI (by omega) (by omega)) ?_
   have fin: ∀N:Nat,dm b (l.take (m+1))=dm b (l.take m)+N→((dm b (l.take m):Nat):Int)+ (N:Int)=((dm b (l.take (m+1)):Nat):Int):=fun N h=>by omega
   cases hc:cpV p b with
   |some q=>
    rw[hc] at kE
    simp only at kE
    rw[yR hc,←kE]
    generalize eY p b=N at*
    have hf:=fin N bQ
    refine ko @dg ?_
    by_cases h4:4099<dm b (l.take (m+1))
    ·have d5:decide ((4099:Int)< ((dm b (l.take (m+1)):Nat):Int))=true:=decide_eq_true (by omega)
     rw[if_pos (show 4099<dm b l by omega)]
     first|with_reducible refine ks [] (And.intro @dg (And.intro @hf (@d5))) ?_|refine kp (And.intro @dg (And.intro @hf (@d5))) ?_
     refine⟨_,(ke @dg),trivial, ?_⟩
     rfl
    ·have d5:decide ((4099:Int)< ((dm b (l.take (m+1)):Nat):Int))=false:=decide_eq_false (by omega)
     first|with_reducible refine ks [] (And.intro @dg (And.intro @hf (@d5))) ?_|refine kp (And.intro @dg (And.intro @hf (@d5))) ?_
     exact Again.mk (m+1) (by omega) ⟨aC,by omega⟩ rfl rfl
   |none=>
    rw[hc] at kE
    simp only at kE
    obtain⟨y,hy⟩:=yW hc
    rw[hy]
    have hf:=fin p.x.length (by omega)
    refine ko (And.intro @dg (And.intro @ix (And.intro @rd (@ld1)))) ?_
    by_cases h4:4099<dm b (l.take (m+1))
    ·have d5:decide ((4099:Int)< ((dm b (l.take (m+1)):Nat):Int))=true:=decide_eq_true (by omega)
     rw[if_pos (show 4099<dm b l by omega)]
     first|with_reducible refine ks [] (And.intro @dg (And.intro @hf (@d5))) ?_|refine kp (And.intro @dg (And.intro @hf (@d5))) ?_
     refine⟨_,(ke @dg),trivial, ?_⟩
     rfl
    ·have d5:decide ((4099:Int)< ((dm b (l.take (m+1)):Nat):Int))=false:=decide_eq_false (by omega)
     first|with_reducible refine ks [] (And.intro @dg (And.intro @hf (@d5))) ?_|refine kp (And.intro @dg (And.intro @hf (@d5))) ?_
     exact Again.mk (m+1) (by omega) ⟨aC,by omega⟩ rfl rfl
  ·obtain rfl:m=l.length:=by omega
   have d4:decide ((l.length:Int)< (l.length:Int))=false:=decide_eq_false (by omega)
   rw[List.take_length] at hs
   rw[if_neg (by omega),List.take_length]
   first|with_reducible refine ks [] (And.intro @dg (And.intro @ln (@d4))) ?_|refine kp (And.intro @dg (And.intro @ln (@d4))) ?_
   refine⟨_,(ke @dg),trivial, ?_⟩
   rfl
end Go.Proofs
end
section
open Go Go.Proofs Go.Sx Go.StP Go.Flo
namespace Go.Proofs
set_option maxRecDepth 10000
set_option maxHeartbeats 400000
set_option linter.unusedSimpArgs false
theorem QY {p:PcL} {b:Int} {q:Nat×Nat} (h:cpV p b=some q):q=(p.a,p.n)∧1≤p.n∧p.n≤4099∧p.x= []∧(p.a:Int)≤b - p.n:=by
 unfold cpV at h
 split at h
 ·rename_i hc;cases h;exact⟨rfl,hc⟩
 ·cases h
set_option linter.defProp false
def iO:=And.intro (And.intro (And.intro (@ay) (@ax)) (And.intro (@vr) (And.intro (@vl) (@ug)))) (And.intro (And.intro (@uO) (And.intro (@Sx.tup2_0) (@Sx.tup2_1))) (And.intro (@Sx.tup3_0) (And.intro (@Sx.tup3_1) (@Sx.tup3_2))))
theorem HM (base:List UInt8) (v:Value) (l:List PcL) (w:World) (hv:PcSl w v l) (hl:BndP l) (hn:l.length<1000000000):
  Rets Tryz.prog 235 #[vs base,v] w (fun v' D=>v'= .tuple #[vs (if(jD base.length l).2=0 then txtP base l else []),vi (jD base.length l).2]∧D= []):=by
 obtain⟨bb,off,arr,E,fz,hr⟩:=hv.row
 have ln:=hv.len
 refine Rets.enterV Tryz.func235 rfl (rs:= [.tmp 4, .tmp 5]) Tryz.results235 Tryz.ntmps235 ?_
 refine kf ?_
 first|with_reducible refine ks [] @iO ?_|refine kp @iO ?_
 refine Ow.callFV rfl Tryz.call246 (fun w' aB=>Vq (base.length:Int) v l w' (hv.oldN aB trivial) hl hn) ?_
 by_cases he: (jD base.length l).2=0
 ·obtain⟨m,hm⟩: ∃m,jD base.length l=(m,0):=⟨(jD base.length l).1,by rw[←he]⟩
  obtain⟨-,mi,hz,hs4,-,lU⟩:=sW hm
  rw[if_pos he,hm]
  have e0: ((0:Int) !=0)=false:=rfl
  refine ko @iO ?_
  first|with_reducible refine ks [] (And.intro @iO @e0) ?_|refine kp (And.intro @iO @e0) ?_
  refine Cw.loopG (G:=Nat) [23,24,25,26,30,31,32,33,34,35,36,29,37,38,39,10,11,12,40,41,42,43,44,45,46,47,48,8,49,50,51,52,53,54,55,27,28,9] (fun g=> [(8,vs (txtP base (l.take g))),(9,vi g)]) (fun g=> []) (fun g=>g≤l.length) (fun g=>l.length - g) 0 rfl rfl ?_ ?_
  ·exact Nat.zero_le _
  intro k jk hk
  refine kv ?_
  by_cases aC:k<l.length
  ·have d3:decide ((k:Int)< (l.length:Int))=true:=decide_eq_true (by omega)
   have rd:=hr.has (by omega)
   have ix:=hr.idx true k aC
   have ld:=hr.load uY (by omega) aC
   have ld1:aF (some (false,1)) (some (.cells arr E fz)) (off+k*2+1)=some (vs (l.getD k pc0).x):=hr.cell (j:=1) (n:=1) aC (by omega)
   obtain⟨BI,vO⟩:=hl k aC
   have Dp:=JW (base:=base) aC
   have eP:pcT base (l.getD k pc0)=(match cpV (l.getD k pc0) base.length with|some q=>(base.drop q.1).take q.2++ (l.getD k pc0).x|none=>(l.getD k pc0).x):=rfl
   have od: (txtP base (l.take k)).length≤4099:=by
    rw[Eq (base:=base) (QB (g:=k) hz)]
    have:=V1 (b:=(base.length:Int)) (l:=l) (g:=k)
    omega
   have jL:cpV (l.getD k pc0) base.length=none→(l.getD k pc0).x.length≤4099:=fun hc=>by
    have g9:eY (l.getD k pc0) base.length≠0:=fun h=>by rw[Ek aC h] at hz;cases hz
    have h1:=Vh g9
    have h2:=xl (l.getD k pc0) base.length
    rw[hc] at h1
    simp only at h1
    omega
   generalize l.getD k pc0=p at*
   first|with_reducible refine ks [] (And.intro @iO (And.intro @ln (And.intro @d3 (And.intro @ix (And.intro @rd (@ld)))))) ?_|refine kp (And.intro @iO (And.intro @ln (And.intro @d3 (And.intro @ix (And.intro @rd (@ld)))))) ?_
   refine Ow.callFV rfl Tryz.call247 (fun w' aB=>E5 p (base.length:Int) w' BI (by omega) (by omega)) ?_
   cases hc:cpV p base.length with
   |some q=>
    rw[hc] at eP
    simp only at eP
    obtain⟨rfl,h1,h2,h3,h4⟩:=QY hc
    rw[yR hc]
    rw[h3,List.append_nil] at eP
    simp only at eP ⊢
    refine ko @iO ?_
    first|with_reducible refine ks [] @iO ?_|refine kp @iO ?_
    refine Again.mk (k+1) (by omega) (by omega) rfl ?_
    rw[Dp,eP,←show(base.take (p.a+p.n)).drop p.a=(base.drop p.a).take p.n by rw[List.drop_take,Nat.add_sub_cancel_left]]
    rfl
   |none=>
    rw[hc] at eP
    simp only at eP
    obtain⟨y,hy⟩:=yW hc
    have XE:=jL hc
    rw[hy]
    refine ko @iO ?_
    first|with_reducible refine ks [] (And.intro @iO (And.intro @ix (And.intro @rd (@ld1)))) ?_|refine kp (And.intro @iO (And.intro @ix (And.intro @rd (@ld1)))) ?_
    refine Again.mk (k+1) (by omega) (by omega) rfl ?_
    rw[Dp,eP]
    rfl
  ·obtain rfl:k=l.length:=by omega
   have d3:decide ((l.length:Int)< (l.length:Int))=false:=decide_eq_false (by omega)
   rw[List.take_length]
   first|with_reducible refine ks [] (And.intro @iO (And.intro @ln (@d3))) ?_|refine kp (And.intro @iO (And.intro @ln (@d3))) ?_
   refine⟨_,(ke @iO),trivial, ?_⟩
   rfl
 ·rw[if_neg he]
  have e0: ((jD base.length l).2 !=0)=true:=bne_iff_ne.2 he
  refine ko @iO ?_
  first|with_reducible refine ks [] (And.intro @iO @e0) ?_|refine kp (And.intro @iO @e0) ?_
  refine⟨_,(ke @iO),trivial, ?_⟩
  rfl
end Go.Proofs
end
section
open Go Go.Proofs Go.Sx Go.StP Go.Flo
namespace Go.Proofs
set_option maxRecDepth 10000
set_option maxHeartbeats 400000
set_option linter.unusedSimpArgs false
def rrO (s:List UInt8) (a:Nat) (e:Int):Obj:= .cells #[vs s,vi a,vi e] 217 (0,0)
theorem yD (s:List UInt8) (a:Nat) (e:Int) (n:Nat):aF (some (false,n)) (some (rrO s a e)) 0=some (vs s):=(rfl)
theorem yA (s:List UInt8) (a:Nat) (e:Int) (n:Nat):aF (some (false,n)) (some (rrO s a e)) 1=some (vi a):=(rfl)
theorem xY (s:List UInt8) (a:Nat) (e:Int) (n:Nat):aF (some (false,n)) (some (rrO s a e)) 2=some (vi e):=(rfl)
theorem Fe (b:Nat) (s:List UInt8) (a:Nat) (e n:Int) (w:World) (ha:a≤s.length) (hs:s.length<1099511627776) (ho:w.heap[b]? =some (rrO s a e)):
  Rets Tryz.prog 182 #[vp b 0,vi n] w (fun v D=> ∃o,D= [(b,o)]∧v=vs (bK s a e n).1∧o=rrO s (bK s a e n).2.1 (bK s a e n).2.2):=UO b s a e n w ha hs ho
theorem vf (b:Nat) (s:List UInt8) (a:Nat) (e most:Int) (w:World) (ha:a≤s.length) (hs:s.length<1099511627776) (ho:w.heap[b]? =some (rrO s a e)):
  Rets Tryz.prog 146 #[vp b 0,vi most] w (fun v D=> ∃o,D= [(b,o)]∧v=vi (aE s a e most).1∧o=rrO s (aE s a e most).2.1 (aE s a e most).2.2):=EC b s a e most w ha hs ho
theorem V4 (b:Nat) (s:List UInt8) (a:Nat) (e:Int) (w:World) (ho:w.heap[b]? =some (rrO s a e)):
  Rets Tryz.prog 145 #[vp b 0] w (fun v D=>v=vi (du s a e)∧D= []):=E1 b s a e w ho
theorem zrRR:al Tryz.prog 217=some (.agg #[vs [],vi 0,vi 0]):=id (by kernel_rfl)
theorem Mk (s:List UInt8):fU (cX Tryz.prog 217) (al Tryz.prog 217) [(0,vs s)]=some (.agg #[vs s,vi 0,vi 0]):=by
 rw[show cX Tryz.prog 217=some [(0,1),(1,1),(2,1)] from id (by kernel_rfl),zrRR];rfl
theorem Ld:fU (cX Tryz.prog 311) (al Tryz.prog 311) []=some (.agg (pcC pc0).toArray):=by
 rw[show cX Tryz.prog 311=some [(0,1),(1,1)] from id (by kernel_rfl),zrPc];rfl
theorem Ka (x n:Nat) (E:TypeId) (a:Bool):ac (some (a,1)) (some (.cells (pcC pc0).toArray E (0,0))) 0 (cx x n)=some (.cells (pcC ⟨x,n,[]⟩).toArray E (0,0)):=(rfl)
theorem LF (x:List UInt8) (E:TypeId) (a:Bool):ac (some (a,1)) (some (.cells (pcC pc0).toArray E (0,0))) 1 (vs x)=some (.cells (pcC ⟨0,0,x⟩).toArray E (0,0)):=(rfl)
structure RrG where
 a:Nat
 e:Int
 out:List PcL
 v:Value
 D:aA
 DG:aA
def RrJ (d:List UInt8) (a0:Nat) (e0:Int) (sz:Nat) (g:RrG):Prop:=
 New sz g.D∧New sz g.DG∧Gr g.D 311 2 g.v g.out.length (g.out.map pcC).flatten∧g.a≤d.length∧BndP g.out∧g.out.length≤g.a+1∧(g.e=0→g.out.length≤g.a)∧
  ((e0≠0∧g.e≠0)∨(e0=0∧((g.e=0∧pcs d a0=(g.out++ (pcs d g.a).1,(pcs d g.a).2))∨(g.e≠0∧pcs d a0=(g.out,g.a,g.e)))))
def pQ (d:List UInt8) (v:Value) (D:aA):Prop:=match um d with
 |some p=> ∃x,v= .tuple #[vi p.1,x, .bool true]∧BndP p.2∧p.2.length≤4099∧p.1≤4099∧GrI D 311 2 x p.2.length (p.2.map pcC).flatten
 |none=>v= .tuple #[vi 0, .slice none 0 0, .bool false]
theorem Lo {out:List PcL} {p:PcL} (h:BndP out) (hp:PcB p∧p.x.length<9223372036854775808):BndP (out++ [p]):=by
 intro g hg
 by_cases aC:g<out.length
 ·rw[VB aC];exact h g aC
 ·rw[List.length_append] at hg
  rw[VT (by omega),show g - out.length=0 by simp at hg;omega]
  exact hp
set_option linter.defProp false
def bZ:=And.intro (And.intro (And.intro (@ay) (And.intro (@ax) (@yD))) (And.intro (And.intro (@yA) (@xY)) (And.intro (@vr) (@vl)))) (And.intro (And.intro (And.intro (@ug) (@uO)) (And.intro (@Sx.tup2_0) (@Sx.tup2_1))) (And.intro (And.intro (@Sx.tup3_0) (@Sx.tup3_1)) (And.intro (@Sx.tup3_2) (@UJ))))
theorem HU (d:List UInt8) (w:World) (hd:d.length<100000000):Rets Tryz.prog 234 #[vs d] w (XS w [] (pQ d)):=by
 refine Rets.enterX Tryz.func234 rfl (rs:= [.tmp 2, .tmp 3, .tmp 4]) Tryz.results234 Tryz.ntmps234 (fun p hp=>by cases hp) (by simp[keys]) ?_
 refine kf ?_
 first|with_reducible refine ks [] @bZ ?_|refine kp @bZ ?_
 refine Ow.build (.agg #[vs d,vi 0,vi 0]) rfl (Mk d) ?_
 refine ko @bZ ?_
 refine Ow.box rfl rfl fun br lR kH=> ?_
 simp only[eU,eT,ed,bL,List.nil_append]
 refine Ow.permL (M:= [(br,rrO d 0 0)]) (List.Perm.refl _) ?_
 refine ko @bZ ?_
 first|with_reducible refine ks [] @bZ ?_|refine kp @bZ ?_
 have l1:=jM (s:=d) (a:=0) (e:=0) (most:=4099) (Nat.zero_le _)
 have m1:=qe (s:=d) (a:=0) (e:=0) (most:=4099) (by omega)
 refine Ow.callM rfl rfl Tryz.call146 (by simp[keys]) (fun w' aB=>vf br d 0 0 4099 w' (Nat.zero_le _) (by omega) (aB.has _ _ List.mem_cons_self)) ?_
 refine kn ?_
 refine ko @bZ ?_
 first|with_reducible refine ks [] @bZ ?_|refine kp @bZ ?_
 have l2:=jM (s:=d) (a:=(aE d 0 0 4099).2.1) (e:=(aE d 0 0 4099).2.2) (most:=4099) l1.2
 refine Ow.callM rfl rfl Tryz.call146 (by simp[keys]) (fun w' aB=>vf br d (aE d 0 0 4099).2.1 (aE d 0 0 4099).2.2 4099 w' l1.2 (by omega) (aB.has _ _ List.mem_cons_self)) ?_
 have rH:=wk d
 rw[show aE d 0 0 4099=dB d from rfl] at l2 m1 ⊢
 rw[show aE d (dB d).2.1 (dB d).2.2 4099=dM d from rfl] at l2 ⊢
 refine kn ?_
 refine ko @bZ ?_
 first|with_reducible refine ks [] @bZ ?_|refine kp @bZ ?_
 refine Cw.permL (M:=(br,rrO d (dM d).2.1 (dM d).2.2):: ([]++ [])) (List.Perm.refl _) ?_
 refine Cw.loopG (G:=RrG) [20,21,22,23,24,25,26,27,28,29,30,31,32,33,34,35,9,36,10,37,38,39,40,41,42,43,44,45,46,47,48,49,50,51,52,53,54,55,56,8] (fun g=> [(8,g.v)]) (fun g=>(br,rrO d g.a g.e):: (g.D++g.DG)) (fun g=>RrJ d (dM d).2.1 (dM d).2.2 w.heap.size g) (fun g=>(if g.e=0 then d.length - g.a+1 else 0)) ⟨(dM d).2.1,(dM d).2.2,[], .slice none 0 0,[],[]⟩ rfl rfl ?_ ?_
 ·refine⟨trivial,trivial,Gr.nl,l2.2,fun g hg=>by simp at hg,by simp,fun _=>Nat.zero_le _, ?_⟩
  by_cases he: (dM d).2.2=0
  ·exact .inr ⟨he, .inl ⟨he,rfl⟩⟩
  ·exact .inl ⟨he,he⟩
 intro g j hg
 refine kv ?_
 obtain⟨a,e,out,v,D,DG⟩:=g
 obtain⟨hN,bD,hG,iG,hB,mG,uD,cL⟩:=hg
 simp only at hN bD hG iG hB mG uD cL ⊢
 by_cases hc:e=0∧a<d.length
 ·obtain⟨rfl,aC⟩:=hc
  have e0: ((0:Int)==0)=true:=rfl
  have d1:decide ((a:Int)< (d.length:Int))=true:=decide_eq_true (by omega)
  have l7:=jM (s:=d) (a:=a) (e:=0) (most:=8199) iG
  have eO:=qe (s:=d) (a:=a) (e:=0) (most:=8199) (by omega)
  have qS:pcR d a=pcR d a:=rfl
  conv at qS=>rhs;unfold pcR
  first|with_reducible refine ks [1000008] (And.intro @bZ (And.intro @e0 (@d1))) ?_|refine kp (And.intro @bZ (And.intro @e0 (@d1))) ?_
  refine Ow.callM rfl rfl Tryz.call146 (by simp[keys]) (fun w' aB=>vf br d a 0 8199 w' iG (by omega) (aB.has _ _ List.mem_cons_self)) ?_
  generalize aE d a 0 8199=q at*
  obtain⟨q1,a1,e1⟩:=q
  simp only at l7 eO qS ⊢
  obtain⟨Q,rfl⟩: ∃Q:Nat,q1=(Q:Int):=⟨q1.toNat,by omega⟩
  have hQ:Q≤8199:=by omega
  refine kn ?_
  refine ko @bZ ?_
  first|with_reducible refine ks [] @bZ ?_|refine kp @bZ ?_
  refine Ow.build (.agg (pcC pc0).toArray) rfl Ld ?_
  refine ko @bZ ?_
  refine Ow.alloc rfl rfl zrPc fun b10 AL mO=> ?_
  simp only[bL,List.nil_append,List.cons_append]
  have W8:br<b10:=cY AL (by simp[keys])
  have bQ:=Mq pc0 pc0 311
  refine Ow.permL (M:=(b10, .cells (pcC pc0).toArray 311 (0,0)):: (br,rrO d a1 e1):: (D++DG)) (by classical exact List.perm_iff_count.2 fun a=>by simp only[List.count_append,List.count_cons,List.count_nil]<;>omega) ?_
  refine ko (And.intro @bZ @bQ) ?_
  refine Cw.cutO (G:=(PcL×Nat×Int)) [37,38,39,40,41,42,43,44,45,46,47,48,49,50,51,52] (fun g=> []) (fun g=>(b10, .cells (pcC g.1).toArray 311 (0,0)):: (br,rrO d g.2.1 g.2.2):: (D++DG)) (fun g=>pcR d a=g∧(PcB g.1∧g.1.x.length<9223372036854775808)) ?_ ?_
  ·by_cases qN: (Q:Int)%2=1
   ·have d2: (((Q:Nat):Int)%2==1)=true:=by rw[beq_iff_eq];exact qN
    rw[if_pos qN] at qS
    have lV:=qe (s:=d) (a:=a1) (e:=e1) (most:=4099) (by omega)
    first|with_reducible refine ks [] (And.intro @bZ @d2) ?_|refine kp (And.intro @bZ @d2) ?_
    refine Ow.callM rfl rfl Tryz.call146 (by simp[keys]) (fun w' aB=>vf br d a1 e1 4099 w' l7.2 (by omega) (aB.has _ _ (List.mem_cons_of_mem _ List.mem_cons_self))) ?_
    generalize aE d a1 e1 4099=x at*
    obtain⟨x1,a2,e2⟩:=x
    simp only at lV qS ⊢
    obtain⟨X,rfl⟩: ∃X:Nat,x1=(X:Int):=⟨x1.toNat,by omega⟩
    rw[Int.toNat_natCast,show((Q:Int) / 2).toNat=Q / 2 by omega] at qS
    refine kn ?_
    refine Ow.convIF rfl rfl cvIF Tryz.underlying3 Tryz.underlying312 rfl ?_
    refine ko @bZ ?_
    rw[show(Q:Int) / 2=((Q / 2:Nat):Int) by omega]
    refine Ow.convIF rfl rfl cvIF Tryz.underlying3 Tryz.underlying312 rfl ?_
    refine Ow.complexB (a:=(X:Nat)) (b:=(Q / 2:Nat)) rfl rfl rfl ?_
    have eQ:=fun a=>Ka X (Q / 2) 311 a
    refine ko (And.intro @bZ @eQ) ?_
    refine CutO.mk (⟨X,Q / 2,[]⟩,a2,e2) ⟨qS,⟨by show X≤4099;omega,by show Q / 2≤4099;omega⟩,by show 0<9223372036854775808;omega⟩ rfl rfl
   ·have d2: (((Q:Nat):Int)%2==1)=false:=by rw[beq_eq_false_iff_ne];exact qN
    rw[if_neg qN] at qS
    first|with_reducible refine ks [] (And.intro @bZ @d2) ?_|refine kp (And.intro @bZ @d2) ?_
    refine Ow.callM rfl rfl Tryz.call182 (by simp[keys]) (fun w' aB=>Fe br d a1 e1 ((Q:Int) / 2) w' l7.2 (by omega) (aB.has _ _ (List.mem_cons_of_mem _ List.mem_cons_self))) ?_
    have jL: (bK d a1 e1 ((Q:Int) / 2)).1.length≤d.length:=by
     unfold bK
     split
     ·simp
     ·split
      ·simp
      ·split
       ·simp
       ·simp only[List.length_take,List.length_drop];omega
    generalize bK d a1 e1 ((Q:Int) / 2)=x at*
    obtain⟨x1,a2,e2⟩:=x
    simp only at jL qS ⊢
    refine kn ?_
    have eQ:=fun a=>LF x1 311 a
    refine ko (And.intro @bZ @eQ) ?_
    refine CutO.mk (⟨0,0,x1⟩,a2,e2) ⟨qS,⟨Nat.zero_le _,Nat.zero_le _⟩,by show x1.length<9223372036854775808;omega⟩ rfl rfl
  ·intro g j hg
   refine kv ?_
   obtain⟨p,a2,e2⟩:=g
   obtain⟨hpq,Wu⟩:=hg
   simp only at Wu ⊢
   have eW:=sr iG
   have nz:=sd iG
   have eX:=QT aC
   have Sj:=PM aC
   rw[hpq] at eW nz eX Sj
   simp only at eW nz eX Sj
   first|with_reducible refine ks [] @bZ ?_|refine kp @bZ ?_
   refine Ow.buildSlice (e:=311) (pcC p).toArray rfl rfl (PO p) fun b11 tY qY=> ?_
   refine ko @bZ ?_
   refine Ow.permL (M:=D++ ((b10, .cells (pcC p).toArray 311 (0,0)):: (br,rrO d a2 e2):: (DG++ [(b11, .cells (pcC p).toArray 311 (0,0))]))) (by classical exact List.perm_iff_count.2 fun a=>by simp only[List.count_append,List.count_cons,List.count_nil]<;>omega) ?_
   refine Ow.appendXG (e:=311) (k:=1) (new:=pcC p) (X:=D) v rfl rfl rfl rfl Tryz.underlying297 (id (by kernel_rfl):aK Tryz.prog 311=some (true,2)) (by kernel_rfl) zrPc (by rw[uO];rfl) Tryz.underlying297 (by intro k h;cases h) hG (fun w' aB=>AppX.one1 (aB.has b11 (.cells (pcC p).toArray 311 (0,0)) (by simp)) (uY p) (zF p)) (by omega) (fun B3 v3 D3 cv kg Rx Sv tv TB=> ?_)
   have dY:New w.heap.size D3:=New.of_le fun q hq=>by
    rcases tv q hq with h|h
    ·exact hN.le q h
    ·omega
   refine Ow.permL (M:=(br,rrO d a2 e2):: (D3++ ((b10, .cells (pcC p).toArray 311 (0,0)):: (DG++ [(b11, .cells (pcC p).toArray 311 (0,0))])))) (by classical exact List.perm_iff_count.2 fun a=>by simp only[List.count_append,List.count_cons,List.count_nil]<;>omega) ?_
   refine ko @bZ ?_
   refine Again.mk ⟨a2,e2,out++ [p],v3,D3,(b10, .cells (pcC p).toArray 311 (0,0)):: (DG++ [(b11, .cells (pcC p).toArray 311 (0,0))])⟩ ?_ ⟨dY,⟨mO,bD.app ⟨qY,trivial⟩⟩,by simpa using Rx,eW.2,Lo hB Wu, ?_, ?_, ?_⟩ rfl rfl
   ·show(if e2=0 then d.length - a2+1 else 0)< (if(0:Int)=0 then d.length - a+1 else 0)
    rw[if_pos rfl]
    split
    ·rename_i he;have:=nz he;omega
    ·omega
   ·show(out++ [p]).length≤a2+1
    have:=uD rfl
    rw[List.length_append];simp;omega
   ·intro he
    show(out++ [p]).length≤a2
    have:=uD rfl
    have:=nz he
    rw[List.length_append];simp;omega
   ·rcases cL with⟨h1,h2⟩ | ⟨h1,h2|h2⟩
    ·exact absurd rfl h2
    ·refine .inr ⟨h1, ?_⟩
     by_cases he:e2=0
     ·refine .inl ⟨he, ?_⟩
      rw[h2.2,eX he]
      simp
     ·refine .inr ⟨he, ?_⟩
      rw[h2.2,Sj he]
    ·exact absurd rfl h2.1
 ·have Wb: (e==0&&decide ((a:Int)< (d.length:Int)))=false:=by
   rw[Bool.and_eq_false_iff]
   by_cases he:e=0
   ·right;exact decide_eq_false (fun h=>hc ⟨he,by omega⟩)
   ·left;exact beq_eq_false_iff_ne.2 he
  have cr:New w.heap.size ((br,rrO d a e):: (D++DG)):=⟨kH,hN.app bD⟩
  by_cases he:e=0
  ·subst he
   have SN: ¬a<d.length:=fun h=>hc ⟨rfl,h⟩
   have e0: ((0:Int)==0)=true:=rfl
   have d1:decide ((a:Int)< (d.length:Int))=false:=decide_eq_false (by omega)
   have hE:du d a 0=0:=by unfold du;rw[if_neg (by simp),if_neg (by omega)]
   have n0: ((0:Int) !=0)=false:=rfl
   obtain⟨h1,h2⟩: (dM d).2.2=0∧pcs d (dM d).2.1=(out,a,0):=by
    rcases cL with⟨h1,h2⟩ | ⟨h1,h2|h2⟩
    ·exact absurd rfl h2
    ·rw[Pt SN] at h2
     exact⟨h1,by rw[h2.2,List.append_nil]⟩
    ·exact absurd rfl h2.1
   rw[h2] at rH
   rw[if_neg (by rw[h1];simp),if_neg (by simp)] at rH
   simp only at rH
   first|with_reducible refine ks [] (And.intro @bZ (And.intro @e0 (@d1))) ?_|refine kp (And.intro @bZ (And.intro @e0 (@d1))) ?_
   refine Ow.callFV rfl Tryz.call145 (fun w' aB=>V4 br d a 0 w' (aB.has _ _ List.mem_cons_self)) ?_
   rw[hE]
   refine ko (And.intro @bZ @n0) ?_
   first|with_reducible refine ks [] (And.intro @bZ @n0) ?_|refine kp (And.intro @bZ @n0) ?_
   refine Ow.callFV rfl Tryz.call246 (fun w' aB=>Vq (dB d).1 v out w' (hG.slM (fun b o hm=>aB.has b o (by simp[hm])) rfl rfl uY) hB (by omega)) ?_
   unfold pQ
   by_cases hk:jD (dB d).1 out=((dM d).1,0)
   ·rw[if_pos hk] at rH
    rw[rH,hk]
    obtain⟨-,-,-,-,-,ic⟩:=sW hk
    have n1: ((dM d).1 !=(dM d).1)=false:=bne_self_eq_false _
    refine ko @bZ ?_
    first|with_reducible refine ks [] (And.intro @bZ (And.intro @n0 (@n1))) ?_|refine kp (And.intro @bZ (And.intro @n0 (@n1))) ?_
    refine⟨_,(ke @bZ), ?_⟩
    refine⟨Ext.of_new cr,v, ?_,hB,ic,by show(dB d).1.toNat≤4099;omega,Gr.i hG fun q hq=>by simp[hq]⟩
    show Value.tuple #[vi (dB d).1,v, .bool true]= .tuple #[vi ((dB d).1.toNat:Nat),v, .bool true]
    rw[show(((dB d).1.toNat:Nat):Int)=(dB d).1 by omega]
   ·rw[if_neg hk] at rH
    rw[rH]
    obtain⟨N,E,Zq⟩: ∃N E,jD (dB d).1 out=(N,E):=⟨_,_,rfl⟩
    rw[Zq] at hk ⊢
    by_cases k7:E=0
    ·subst k7
     have n1: (N !=(dM d).1)=true:=bne_iff_ne.2 (fun h=>hk (by rw[h]))
     refine ko @bZ ?_
     first|with_reducible refine ks [] (And.intro @bZ (And.intro @n0 (@n1))) ?_|refine kp (And.intro @bZ (And.intro @n0 (@n1))) ?_
     refine⟨_,(ke @bZ), ?_⟩
     exact⟨Ext.of_new cr,rfl⟩
    ·have n1: (E !=0)=true:=bne_iff_ne.2 k7
     refine ko @bZ ?_
     first|with_reducible refine ks [] (And.intro @bZ @n1) ?_|refine kp (And.intro @bZ @n1) ?_
     refine⟨_,(ke @bZ), ?_⟩
     exact⟨Ext.of_new cr,rfl⟩
  ·have e0: (e==0)=false:=beq_eq_false_iff_ne.2 he
   have hE:du d a e=e:=by unfold du;rw[if_pos he]
   have n0: (e !=0)=true:=bne_iff_ne.2 he
   have mn:um d=none:=by
    rw[rH]
    rcases cL with⟨h1,h2⟩ | ⟨h1,h2|h2⟩
    ·rw[if_pos h1]
    ·exact absurd h2.1 he
    ·rw[h2.2,if_neg (by rw[h1];simp),if_pos he]
   first|with_reducible refine ks [] (And.intro @bZ @e0) ?_|refine kp (And.intro @bZ @e0) ?_
   refine Ow.callFV rfl Tryz.call145 (fun w' aB=>V4 br d a e w' (aB.has _ _ List.mem_cons_self)) ?_
   rw[hE]
   refine ko (And.intro @bZ @n0) ?_
   first|with_reducible refine ks [] (And.intro @bZ @n0) ?_|refine kp (And.intro @bZ @n0) ?_
   refine⟨_,(ke @bZ), ?_⟩
   refine⟨Ext.of_new cr, ?_⟩
   unfold pQ
   rw[mn]
   rfl
end Go.Proofs
end
section
open Go Go.Proofs Go.Sx Go.StP Go.Flo
namespace Go.Proofs
set_option maxRecDepth 10000
set_option maxHeartbeats 400000
set_option linter.unusedSimpArgs false
set_option linter.defProp false
def jy:=And.intro (And.intro (And.intro (@ay) (@ax)) (And.intro (@vr) (And.intro (@vl) (@ug)))) (And.intro (And.intro (@uO) (And.intro (@Sx.tup2_0) (@Sx.tup2_1))) (And.intro (@Sx.tup3_0) (And.intro (@Sx.tup3_1) (@Sx.tup3_2))))
theorem I9 (base d:List UInt8) (w:World) (hd:d.length<100000000):
  Rets Tryz.prog 215 #[vs base,vs d] w (fun v D=>v= .tuple #[vs (k6 base d).1,vi (k6 base d).2]∧D= []):=by
 refine Rets.enterV Tryz.func215 rfl (rs:= [.tmp 4, .tmp 5]) Tryz.results215 Tryz.ntmps215 ?_
 refine kf ?_
 first|with_reducible refine ks [] @jy ?_|refine kp @jy ?_
 refine Ow.callC rfl rfl Tryz.call234 (fun w' aB=>HU d w' hd) (fun B1 v1 D1 bv dh bX cz=> ?_)
 have cy:=bX.mono dh
 unfold pQ at cz
 cases hr:um d with
 |none=>
  rw[hr] at cz
  have tT:v1= .tuple #[vi 0, .slice none 0 0, .bool false]:=cz
  subst tT
  have oQ:k6 base d=([],2):=by unfold k6;rw[hr]
  refine ko @jy ?_
  first|with_reducible refine ks [] @jy ?_|refine kp @jy ?_
  refine⟨_,(ke @jy),cy, ?_⟩
  rw[oQ];rfl
 |some p=>
  rw[hr] at cz
  obtain⟨x,rfl,hB,lU,hp4,hg⟩:=cz
  by_cases hb:p.1=base.length
  ·have e1: (((p.1:Nat):Int) !=((base.length:Nat):Int))=false:=by rw[hb];exact bne_self_eq_false _
   obtain⟨m,hm⟩:=VC hr
   rw[hb] at hm
   have oQ:k6 base d=(txtP base p.2,0):=by unfold k6;rw[hr];simp only;rw[if_neg (by simp[hb])]
   refine ko @jy ?_
   first|with_reducible refine ks [] (And.intro @jy @e1) ?_|refine kp (And.intro @jy @e1) ?_
   refine Ow.callFV rfl Tryz.call235 (fun w' aB=>HM base x p.2 w' (GrI.slV (hg.mono fun q hq=>by simp[hq]) aB rfl rfl uY) hB (by omega)) ?_
   rw[hm,if_pos rfl]
   refine ko @jy ?_
   first|with_reducible refine ks [] @jy ?_|refine kp @jy ?_
   refine⟨_,(ke @jy),cy, ?_⟩
   rw[oQ];rfl
  ·have e1: (((p.1:Nat):Int) !=((base.length:Nat):Int))=true:=by rw[bne_iff_ne];omega
   have oQ:k6 base d=([],19):=by unfold k6;rw[hr];simp only;rw[if_pos hb]
   refine ko @jy ?_
   first|with_reducible refine ks [] (And.intro @jy @e1) ?_|refine kp (And.intro @jy @e1) ?_
   refine⟨_,(ke @jy),cy, ?_⟩
   rw[oQ];rfl
structure PrG where
 at_:Nat
 out:List Nat
 v:Value
 D:aA
 DG:aA
set_option linter.defProp false
def df:=And.intro (And.intro (And.intro (@ay) (@ax)) (And.intro (@VP) (@Un))) (And.intro (And.intro (@VG) (@E4)) (And.intro (@Sx.tup2_0) (@Sx.tup2_1)))
theorem K7 (v0:Value) (l:List PartL) (a0:Int) (w:World) (hv:zg w v0 l):
  Rets Tryz.prog 214 #[v0,vi a0] w (XS w [] (jY l a0)):=by
 obtain⟨bb,off,arr,E,fz,hr⟩:=hv.row
 have ln:=hv.len
 refine Rets.enterX Tryz.func214 rfl (rs:= [.tmp 4, .tmp 5]) Tryz.results214 Tryz.ntmps214 (fun p hp=>by cases hp) (by simp[keys]) ?_
 refine kf ?_
 by_cases hc:200<l.length∨a0<0∨(l.length:Int)≤a0
 ·have Tn:j6 l a0= .error 1:=by unfold j6;rw[if_pos hc]
  unfold jY
  rw[Tn]
  by_cases h1:200<l.length
  ·have d1:decide ((200:Int)< (l.length:Int))=true:=decide_eq_true (by omega)
   first|with_reducible refine ks [] (And.intro @df (And.intro @ln (@d1))) ?_|refine kp (And.intro @df (And.intro @ln (@d1))) ?_
   refine⟨_,(ke @df), ?_⟩
   exact⟨Ext.refl _ _,rfl⟩
  ·have d1:decide ((200:Int)< (l.length:Int))=false:=decide_eq_false (by omega)
   by_cases h2:a0<0
   ·have d2:decide (a0<0)=true:=decide_eq_true h2
    first|with_reducible refine ks [] (And.intro @df (And.intro @ln (And.intro @d1 (@d2)))) ?_|refine kp (And.intro @df (And.intro @ln (And.intro @d1 (@d2)))) ?_
    refine⟨_,(ke @df), ?_⟩
    exact⟨Ext.refl _ _,rfl⟩
   ·have d2:decide (a0<0)=false:=decide_eq_false h2
    have d3:decide ((l.length:Int)≤a0)=true:=decide_eq_true (by omega)
    first|with_reducible refine ks [] (And.intro @df (And.intro @ln (And.intro @d1 (And.intro @d2 (@d3))))) ?_|refine kp (And.intro @df (And.intro @ln (And.intro @d1 (And.intro @d2 (@d3))))) ?_
    refine⟨_,(ke @df), ?_⟩
    exact⟨Ext.refl _ _,rfl⟩
 ·have d1:decide ((200:Int)< (l.length:Int))=false:=decide_eq_false (by omega)
  have d2:decide (a0<0)=false:=decide_eq_false (by omega)
  have d3:decide ((l.length:Int)≤a0)=false:=decide_eq_false (by omega)
  obtain⟨A,rfl⟩: ∃A:Nat,a0=(A:Int):=⟨a0.toNat,by omega⟩
  have Tn:j6 l (A:Int)=(kV l 5 A).map ([]++ ·):=by
   unfold j6
   rw[if_neg hc,Int.toNat_natCast]
   cases kV l 5 A<;>rfl
  first|with_reducible refine ks [] (And.intro @df (And.intro @ln (And.intro @d1 (And.intro @d2 (@d3))))) ?_|refine kp (And.intro @df (And.intro @ln (And.intro @d1 (And.intro @d2 (@d3))))) ?_
  refine Cw.loopG (G:=PrG) [21,22,25,26,4,5,27,28,29,30,6,31,32,33,34,35,36,37,38,39,40,41,42,43,44,45,46,47,48,49,50,51,52,53,54,55,56,57,58,59,60,61,62,63,1,23,24,7] (fun g=> [(1,vi g.at_),(6,g.v),(7,vi g.out.length)]) (fun g=>g.D++g.DG) (fun g=>New w.heap.size g.D∧New w.heap.size g.DG∧Gr g.D 3 1 g.v g.out.length (g.out.map natC).flatten∧g.at_<l.length∧g.out.length≤5∧j6 l (A:Int)=(kV l (5 - g.out.length) g.at_).map (g.out++ ·)) (fun g=>6 - g.out.length) ⟨A,[], .slice none 0 0,[],[]⟩ rfl rfl ?_ ?_
  ·exact⟨trivial,trivial,Gr.nl,by show A<l.length;omega,by simp,Tn⟩
  intro g j hg
  refine kv ?_
  obtain⟨a,out,v,D,DG⟩:=g
  obtain⟨hN,bD,hG,iG,mG,cL⟩:=hg
  simp only at hN bD hG iG mG cL ⊢
  have d4:decide ((out.length:Int)<6)=true:=decide_eq_true (by omega)
  by_cases h5:out.length=5
  ·have d5: ((out.length:Int)==5)=true:=by rw[h5];rfl
   rw[h5] at cL
   have ct:j6 l (A:Int)= .error 11:=cL
   first|with_reducible refine ks [] (And.intro @df (And.intro @d4 (@d5))) ?_|refine kp (And.intro @df (And.intro @d4 (@d5))) ?_
   refine⟨_,(ke @df), ?_⟩
   refine⟨Ext.of_new (hN.app bD), ?_⟩
   unfold jY
   rw[ct]
   rfl
  ·have d5: ((out.length:Int)==5)=false:=beq_eq_false_iff_ne.2 (by omega)
   have Am:kV l (5 - out.length) a=kV l (4 - out.length+1) a:=by congr 1;omega
   rw[Am,kV] at cL
   first|with_reducible refine ks [] (And.intro @df (And.intro @d4 (@d5))) ?_|refine kp (And.intro @df (And.intro @d4 (@d5))) ?_
   refine Ow.buildSlice (e:=3) #[vi a] rfl rfl (by kernel_rfl) fun b9 ST qa=> ?_
   refine ko @df ?_
   refine Ow.permL (M:=D++ (DG++ [(b9, .cells #[vi a] 3 (0,0))])) (by classical exact List.perm_iff_count.2 fun a=>by simp only[List.count_append,List.count_cons,List.count_nil]<;>omega) ?_
   refine Ow.appendXG (e:=3) (k:=1) (new:=natC a) (X:=D) v rfl rfl rfl rfl Tryz.underlying196 (id (by kernel_rfl):aK Tryz.prog 3=some (false,1)) (by kernel_rfl) (id (by kernel_rfl):al Tryz.prog 3=some (vi 0)) rfl Tryz.underlying196 (by intro k h;cases h) hG (fun w' aB=>AppX.one1 (aB.has b9 (.cells #[vi a] 3 (0,0)) (by simp)) (y9 a) rfl) (by omega) (fun B3 v3 D3 cv kg Rx Sv tv TB=> ?_)
   have dY:New w.heap.size D3:=New.of_le fun c hc=>by
    rcases tv c hc with h|h
    ·exact hN.le c h
    ·omega
   have mc:Gr D3 3 1 v3 (out++ [a]).length ((out++ [a]).map natC).flatten:=by simpa using Rx
   have uE: (out++ [a]).length=out.length+1:=by simp
   have AF:New w.heap.size (DG++ [(b9, .cells #[vi a] 3 (0,0))]):=bD.app ⟨qa,trivial⟩
   generalize DG++ [(b9,Obj.cells #[vi a] 3 (0,0))]=DG' at*
   have cr:New w.heap.size (D3++DG'):=dY.app AF
   have k9:0<l.length:=by omega
   have m9:=hr.lt k9
   have rd:aM w (D3++DG') bb=some (.cells arr E fz):=by rw[j7 (cr.not m9)];exact hr.has k9
   have i2:=hr.idx true a iG
   have ld0:aF (some (false,1)) (some (.cells arr E fz)) (off+a*3)=some (.bool (l.getD a fJ).d):=hr.cell (j:=0) (n:=1) iG (by omega)
   have ld1:aF (some (false,1)) (some (.cells arr E fz)) (off+a*3+1)=some (vi (l.getD a fJ).b):=hr.cell (j:=1) (n:=1) iG (by omega)
   generalize l.getD a fJ=p at*
   cases hd:p.d with
   |false=>
    rw[hd,if_neg (by simp)] at cL
    rw[hd] at ld0
    by_cases hb:p.b=0
    ·have e1: (p.b !=0)=false:=by rw[hb];rfl
     rw[if_neg (by simp[hb])] at cL
     refine ko (And.intro @df (And.intro @i2 (And.intro @rd (And.intro @ld0 (And.intro @ld1 (@e1)))))) ?_
     first|with_reducible refine ks [] (And.intro @df (And.intro @i2 (And.intro @rd (And.intro @ld0 (And.intro @ld1 (@e1)))))) ?_|refine kp (And.intro @df (And.intro @i2 (And.intro @rd (And.intro @ld0 (And.intro @ld1 (@e1)))))) ?_
     refine⟨_,(ke @df), ?_⟩
     refine⟨Ext.of_new cr, ?_⟩
     unfold jY
     rw[cL]
     exact⟨v3,rfl,by show(out++ [a]).length≤5;omega,Gr.i mc fun c hc=>by simp[hc]⟩
    ·have e1: (p.b !=0)=true:=by rw[bne_iff_ne];exact hb
     rw[if_pos hb] at cL
     have ct:j6 l (A:Int)= .error 2:=cL
     refine ko (And.intro @df (And.intro @i2 (And.intro @rd (And.intro @ld0 (And.intro @ld1 (@e1)))))) ?_
     first|with_reducible refine ks [] (And.intro @df (And.intro @i2 (And.intro @rd (And.intro @ld0 (And.intro @ld1 (@e1)))))) ?_|refine kp (And.intro @df (And.intro @i2 (And.intro @rd (And.intro @ld0 (And.intro @ld1 (@e1)))))) ?_
     refine⟨_,(ke @df), ?_⟩
     refine⟨Ext.of_new cr, ?_⟩
     unfold jY
     rw[ct];rfl
   |true=>
    rw[hd,if_pos rfl] at cL
    rw[hd] at ld0
    by_cases hb:p.b<0
    ·have e1:decide (p.b<0)=true:=decide_eq_true hb
     rw[if_pos (.inl hb)] at cL
     have ct:j6 l (A:Int)= .error 2:=cL
     refine ko (And.intro @df (And.intro @i2 (And.intro @rd (And.intro @ld0 (And.intro @ld1 (@e1)))))) ?_
     first|with_reducible refine ks [] (And.intro @df (And.intro @i2 (And.intro @rd (And.intro @ld0 (And.intro @ld1 (@e1)))))) ?_|refine kp (And.intro @df (And.intro @i2 (And.intro @rd (And.intro @ld0 (And.intro @ld1 (@e1)))))) ?_
     refine⟨_,(ke @df), ?_⟩
     refine⟨Ext.of_new cr, ?_⟩
     unfold jY
     rw[ct];rfl
    ·have e1:decide (p.b<0)=false:=decide_eq_false hb
     by_cases bG: (a:Int)≤p.b
     ·have e2:decide ((a:Int)≤p.b)=true:=decide_eq_true bG
      rw[if_pos (.inr bG)] at cL
      have ct:j6 l (A:Int)= .error 2:=cL
      refine ko (And.intro @df (And.intro @i2 (And.intro @rd (And.intro @ld0 (And.intro @ld1 (And.intro @e1 (@e2))))))) ?_
      first|with_reducible refine ks [] (And.intro @df (And.intro @i2 (And.intro @rd (And.intro @ld0 (And.intro @ld1 (And.intro @e1 (@e2))))))) ?_|refine kp (And.intro @df (And.intro @i2 (And.intro @rd (And.intro @ld0 (And.intro @ld1 (And.intro @e1 (@e2))))))) ?_
      refine⟨_,(ke @df), ?_⟩
      refine⟨Ext.of_new cr, ?_⟩
      unfold jY
      rw[ct];rfl
     ·have e2:decide ((a:Int)≤p.b)=false:=decide_eq_false bG
      rw[if_neg (by omega)] at cL
      obtain⟨Bn,Rs⟩: ∃Bn:Nat,p.b=(Bn:Int):=⟨p.b.toNat,by omega⟩
      rw[Rs] at ld1 e1 e2 cL
      rw[Int.toNat_natCast] at cL
      refine ko (And.intro @df (And.intro @i2 (And.intro @rd (And.intro @ld0 (And.intro @ld1 (And.intro @e1 (@e2))))))) ?_
      first|with_reducible refine ks [] (And.intro @df (And.intro @i2 (And.intro @rd (And.intro @ld0 (And.intro @ld1 (And.intro @e1 (@e2))))))) ?_|refine kp (And.intro @df (And.intro @i2 (And.intro @rd (And.intro @ld0 (And.intro @ld1 (And.intro @e1 (@e2))))))) ?_
      refine Again.mk ⟨Bn,out++ [a],v3,D3,DG'⟩ (by show 6 - (out++ [a]).length<6 - out.length;omega) ⟨dY,AF,mc,by show Bn<l.length;omega,by show(out++ [a]).length≤5;omega, ?_⟩ rfl (by simp only[uE];rfl)
      show j6 l (A:Int)=(kV l (5 - (out++ [a]).length) Bn).map ((out++ [a])++ ·)
      rw[cL,show 5 - (out++ [a]).length=4 - out.length by omega]
      split
      ·rename_i h4
       rw[h4];rfl
      ·cases kV l (4 - out.length) Bn with
       |error x=>rfl
       |ok x=>show Except.ok _=Except.ok _;simp
end Go.Proofs
end
