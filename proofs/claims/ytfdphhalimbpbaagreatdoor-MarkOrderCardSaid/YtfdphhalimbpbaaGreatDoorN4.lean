/-
  Part 4 of the walk: contracts of the functions that the law reaches, and the calculus they stand on.
  No conditions.
-/
import Derived.Test.YtfdphhalimbpbaaGreatDoorN3
import Derived.ProofKit
import Derived.OpenShut
import Derived.WideKeyArgs
import Derived.ChangeSame
import Derived.ChangeMaps5
import Derived.Lib.LaidTab
import Derived.SliceStrings
import Derived.DataReads
import Derived.Deep.Strs
section
open Go Go.Proofs Go.Sx Go.StP Go.RooP
namespace Go.Proofs
set_option maxRecDepth 10000
set_option maxHeartbeats 400000
set_option linter.unusedSimpArgs false
structure MkClG where
 W:WkS
 X:ze_
structure WkN (s:xp_) (ids r:List IdL) (n:Nat) (W:WkS):Prop where
 I:WkI s r W
 B:WkB n W
 ids: ∀i,(s i).2=true→i∈ids
theorem WkN.ms {s:xp_} {ids r:List IdL} {n:Nat} {W:WkS} (h:WkN s ids r n W):W.ms.length≤ids.length:=h.I.msLe h.ids
theorem WkN.vis {s:xp_} {ids r:List IdL} {n:Nat} {W:WkS} (h:WkN s ids r n W):W.vis.length≤r.length+40*ids.length:=Nat.le_trans (h.I.le h.ids) (ae8_ s ids r)
theorem WkN.q {s:xp_} {ids r:List IdL} {n:Nat} {W:WkS} (h:WkN s ids r n W):W.q.length≤n+40*ids.length:=Nat.le_trans h.B.q (by have:=h.ms;omega)
theorem WkN.lk {s:xp_} {ids r:List IdL} {n:Nat} {W:WkS} (h:WkN s ids r n W):W.lk.length≤r.length+40*ids.length:=Nat.le_trans h.B.lk h.vis
theorem WkN.step {s:xp_} {ids r:List IdL} {n:Nat} {W:WkS} (h:WkN s ids r n W):WkN s ids r n (xj_ s W).2:=⟨h.I.step,h.B.step s,h.ids⟩
theorem WkN.new {s:xp_} {ids:List IdL} (r:List IdL) (h: ∀i,(s i).2=true→i∈ids):WkN s ids r r.length (newK r):=⟨WkI.new s r,WkB.new r,h⟩
theorem WkN.add {s:xp_} {ids r:List IdL} {n:Nat} {W:WkS} (h:WkN s ids r n W) (r':List IdL):WkN s ids (r++r') (n+r'.length) (JR_ W r'):=⟨h.I.add r',h.B.add r',h.ids⟩
theorem acZ_ {s:xp_} {W:WkS} (h: (xj_ s W).1=true): (xj_ s W).2.q= []:=by
 have:=XP_ s W W.q h
 unfold xj_;rw[this]
theorem qY_ (sv:Value) (m:List (IdL×ObK)) (v:Value) (l:List IdL) (w:World) (hS:SrcW w sv m []) (hR:RowX 32 z5_ id0 w v l []) (hl:l.length≤1000) (hm:m.length≤1000):
  Rets Tryz.prog 29 #[sv,v] w (XS w [] (fun v' D=> ∃W v1 v2,WkI (zY_ m) l W∧W.q= []∧W.ms.length≤m.length∧W.lk.length≤41000∧v'= .tuple #[v1,v2]∧GrI D 24 32 v1 (vh_ W.ms).length ((vh_ W.ms).map z5_).flatten∧GrI D 24 32 v2 (vW_ W.lk).length ((vW_ W.lk).map z5_).flatten)):=by
 have hids: ∀i,(zY_ m i).2=true→i∈m.map Prod.fst:=fun i h=>acY_ h
 have hidl: (m.map Prod.fst).length=m.length:=List.length_map _
 refine Rets.enterX Tryz.func29 rfl (rs:= [.tmp 4, .tmp 5]) Tryz.results29 Tryz.ntmps29 (fun p hp=>by cases hp) (by simp[keys]) ?_
 refine kf ?_
 first|with_reducible refine ks [] @Nat.add_zero ?_|refine kp @Nat.add_zero ?_
 refine Ow.callC rfl rfl Tryz.call21 (fun w' hw'=>Vw_ sv m v l w' (hS.old hw' (fun _ h=>h)) (hR.old hw' (fun _ h=>h)) (by omega)) (fun B1 v1 D1 hA1 hB1 hN1 hS1=> ?_)
 obtain⟨bw,rfl,hP1⟩:=hS1
 rw[List.nil_append]
 refine ko @Nat.add_zero ?_
 refine Cw.loopG (G:=MkClG) [10,11,12] (fun g=> []) (fun g=>g.X) (fun g=>WkP bw sv g.W g.X∧Ext w [] g.X∧WkN (zY_ m) (m.map Prod.fst) l l.length g.W) (fun g=>50000 - g.W.vis.length) ⟨newK l,D1⟩ rfl rfl ?_ ?_
 ·exact⟨hP1,Ext.of_new (hN1.mono hB1),WkN.new l hids⟩
 intro g j hg
 refine kv ?_
 clear hP1 hN1 hA1
 obtain⟨W,X⟩:=g
 simp only at hg ⊢
 obtain⟨hP,hE,hN⟩:=hg
 have b1:=hN.q
 have b2:=hN.lk
 have b3:=hN.vis
 have hN':=hN.step
 have b4:=hN'.vis
 have b5:=hN'.ms
 have b6:=hN'.lk
 first|with_reducible refine ks [] @Nat.add_zero ?_|refine kp @Nat.add_zero ?_
 refine Ow.callX (X:=X) (Y:= []) (List.append_nil _).symm rfl rfl Tryz.call24 (fun w' hw' hX' hn'=>Zm_ bw sv W m X w' hX' hn' hP ((hS.ext hE.new).old hw' fun _ h=>h) (by omega) (by omega)) (fun v2 D2 hC2 hS2=> ?_)
 rw[List.append_nil]
 obtain⟨rfl,hP2⟩:=hS2
 have hE2:=hE.came0 hC2
 cases hst: (xj_ (zY_ m) W).1 with
 |false=>
  have hv:=KM_ hst
  generalize (xj_ (zY_ m) W).2=W2 at*
  refine ko @Nat.add_zero ?_
  first|with_reducible refine ks [] @Nat.add_zero ?_|refine kp @Nat.add_zero ?_
  exact Again.mk ⟨W2,D2⟩ (by show 50000 - W2.vis.length<50000 - W.vis.length;omega) ⟨hP2,hE2,hN'⟩ rfl rfl
 |true=>
  have hq:=acZ_ hst
  generalize (xj_ (zY_ m) W).2=W2 at*
  refine ko @Nat.add_zero ?_
  first|with_reducible refine ks [] @Nat.add_zero ?_|refine kp @Nat.add_zero ?_
  refine Ow.callC rfl rfl Tryz.call27 (fun w' hw'=>ZY_ bw sv W2 w' ⟨D2,fun p hp=>hw'.has _ _ hp,hP2⟩ hN'.I.nm (by omega)) (fun B3 v3 D3 hA3 hB3 hN3 hS3=> ?_)
  refine ko @Nat.add_zero ?_
  refine Ow.callC rfl rfl Tryz.call28 (fun w' hw'=>wz_ bw sv W2 w' ⟨D2,fun p hp=>hw'.has _ _ (List.mem_append_left _ hp),hP2⟩ (by omega)) (fun B4 v4 D4 hA4 hB4 hN4 hS4=> ?_)
  refine ko @Nat.add_zero ?_
  refine⟨_,(ke @Nat.add_zero), ?_⟩
  exact⟨ac0_ (ac0_ hE2 (hN3.mono hB3)) (hN4.mono hB4),W2,v3,v4,hN'.I,hq,by omega,by omega,rfl,hS3.mono fun p hp=>List.mem_append_left _ (List.mem_append_right _ hp),hS4.mono fun p hp=>List.mem_append_right _ hp⟩
def SrcK (D:ze_) (v:Value) (m:List (IdL×ObK)):Prop:= ∃bx bm om,v= .iface 118 (vp bx 0)∧(bx,Obj.cells #[vm bm] 121 (0,0))∈D∧(bm,om)∈D∧Vt_ Qc_ obKV om m
theorem SrcK.mono {D D':ze_} {v:Value} {m:List (IdL×ObK)} (h:SrcK D v m) (hD: ∀p,p∈D→p∈D'):SrcK D' v m:=by
 obtain⟨bx,bm,om,h1,h2,h3,h4⟩:=h
 exact⟨bx,bm,om,h1,hD _ h2,hD _ h3,h4⟩
theorem SrcK.W {w0 w:World} {D:ze_} {v:Value} {m:List (IdL×ObK)} (h:SrcK D v m) (hw:Hp w0 D w):SrcW w v m []:=by
 obtain⟨bx,bm,om,h1,h2,h3,h4⟩:=h
 exact⟨bx,bm,om,⟨h1,hw.has _ _ h2,hw.has _ _ h3,h4⟩,(fun h=>by cases h),(fun h=>by cases h)⟩
section
variable {P:Program} {w0:World} {f:Fr} {L:ze_} {N:Fr→ze_→Prop} {ops:Array Oper} {rest:List Oper} {md:Md}
 {d:Option Tmp} {ty:TypeId} {ps:String} {af:Array Edge} {g:Option (Nat×Bool)}
theorem _root_.Go.Sx.Ow.ifacePtr {t e:TypeId} {x:Operand} {v:Value} (hs:zn_ ops f ⟨d, .makeInterface t x,ty,ps,af,g⟩=false) (hu:P.underlying t=some (.pointer e)) (hx:ev f x=v)
  (hn:Ow P w0 ops md.next rest (qm_ f d (.iface t v)) L N):Ow P w0 ops md (⟨d, .makeInterface t x,ty,ps,af,g⟩::rest) f L N:=by
 refine Ow.calm rfl rfl hs (fun w hw=> .inl ⟨.iface t v,w,L, ?_,hw,rfl,rfl⟩) hn
 simp only[execOp,Instr.makeInterface,Sem.run_bind,run_underlying hu w,Result.andThen_ok,hx]
 rfl
end
structure MkOfG where
 k:Nat
 o:Obj
 DG:ze_
theorem afn_ (b:Nat):jh_ (wq_ Tryz.prog 121) (zX_ Tryz.prog 121) [(0,vm b)]=some (.agg #[vm b]):=by
 rw[show wq_ Tryz.prog 121=some [(0,1)] from id (by kernel_rfl),show zX_ Tryz.prog 121=some (.agg #[.map none]) from id (by kernel_rfl)];rfl
set_option linter.defProp false
def jU_:=And.intro (And.intro (And.intro (@q4_) (@qU_)) (And.intro (@qR_) (And.intro (@qQ_) (@vo_)))) (And.intro (And.intro (@Sx.tup2_0) (And.intro (@Sx.tup2_1) (@zK_))) (And.intro (@zJ_) (And.intro (@wJ_) (@ago_))))
theorem xV_ (v:Value) (l:List ObK) (w:World) (hG:GlobE w) (hv:RowX 2 x4_ jD_ w v l []) (hl:l.length<100000):
  Rets Tryz.prog 16 #[v] w (XS w [] (fun v' D=>SrcK D v' (qg_ l))):=by
 obtain⟨rb,off,arr,E,fz,hr,-⟩:=hv
 have ln:=fun x=>hr.len x
 refine Rets.enterX Tryz.func16 rfl (rs:= [.tmp 2]) Tryz.results16 Tryz.ntmps16 (fun p hp=>by cases hp) (by simp[keys]) ?_
 refine kf ?_
 first|with_reducible refine ks [] @jU_ ?_|refine kp @jU_ ?_
 refine Ow.makeMapG (encK:=Qc_) (encV:=obKV) rfl rfl fun b1 o1 hb1 hw1 hM1=> ?_
 rw[List.nil_append]
 refine ko @jU_ ?_
 refine Ow.build (.agg #[vm b1]) rfl (afn_ b1) ?_
 refine ko @jU_ ?_
 refine Ow.box rfl rfl fun b2 hb2 hw2=> ?_
 simp only[zT_,zO_,z1_,zd_,List.cons_append,List.nil_append]
 have h12:b1<b2:=zf_ hb2 (by simp[keys])
 refine ko @jU_ ?_
 first|with_reducible refine ks [] (And.intro @jU_ @ln) ?_|refine kp (And.intro @jU_ @ln) ?_
 refine Cw.loopG (G:=MkOfG) [14,15,16,5,18,19,17,20,21,6,7,22,23,24,25,26,27,28,29,13] (fun g=> [(13,vi g.k)]) (fun g=>(b1,g.o):: (b2, .cells #[vm b1] 121 (0,0))::g.DG) (fun g=>g.k≤l.length∧Vt_ Qc_ obKV g.o (qg_ (l.take g.k))∧New w.heap.size g.DG) (fun g=>l.length - g.k) ⟨0,o1,[]⟩ rfl rfl ?_ ?_
 ·exact⟨Nat.zero_le _,hM1,trivial⟩
 intro g j hg
 refine kv ?_
 obtain⟨k,o,DG⟩:=g
 simp only at hg ⊢
 obtain⟨hk,hM,hN⟩:=hg
 have hNN:New w.heap.size ((b1,o):: (b2, .cells #[vm b1] 121 (0,0))::DG):=⟨hw1,hw2,hN⟩
 by_cases hlt:k<l.length
 ·have hrl:=hr.lt (by omega)
  have ix:=hr.idx true k hlt
  have ld:=Zw_ hr hlt
  have rd:zq_ w ((b1,o):: (b2, .cells #[vm b1] 121 (0,0))::DG) rb=some (.cells arr E fz):=by rw[qz_ (hNN.not hrl)];exact hr.has (by omega)
  have hts:=StP.take_snoc (z:=jD_) hlt
  have hd0:decide ((k:Int)< (l.length:Int))=true:=decide_eq_true (by omega)
  generalize l.getD k jD_=x at*
  have hxi:=(idK x).h
  have hi0:=id0.h
  first|with_reducible refine ks [8] (And.intro @jU_ (And.intro @hd0 (And.intro @ix (And.intro @rd (@ld))))) ?_|refine kp (And.intro @jU_ (And.intro @hd0 (And.intro @ix (And.intro @rd (@ld))))) ?_
  refine Ow.alloc rfl rfl Kg_ fun b5 hb5 hw5=> ?_
  simp only[zd_,List.nil_append,List.cons_append]
  have h15:b1<b5:=zf_ hb5 (by simp[keys])
  have h25:b2<b5:=zf_ hb5 (by simp[keys])
  refine Ow.permL (M:=(b5, .cells #[vi 0,vs []] 35 (0,0)):: (b1,o):: (b2, .cells #[vm b1] 121 (0,0))::DG) (by classical exact List.perm_iff_count.2 fun a=>by simp only[List.count_append,List.count_cons,List.count_nil]<;>omega) ?_
  refine ko @jU_ ?_
  first|with_reducible refine ks [] @jU_ ?_|refine kp @jU_ ?_
  refine Ow.callFV rfl Tryz.call66 (fun w' hw'=>K4_ x.k x.t w' (hG.new hw' ⟨hw5,hNN⟩)) ?_
  have e1: (idV x.k x.t).l=(idK x).l:=rfl
  have e2:xE_ x.k x.t=rdK x:=rfl
  rw[e1,e2]
  refine ko @jU_ ?_
  refine Ow.alloc rfl rfl Z5_ fun b6 hb6 hw6=> ?_
  simp only[zd_,List.nil_append,List.cons_append]
  have h16:b1<b6:=zf_ hb6 (by simp[keys])
  have h26:b2<b6:=zf_ hb6 (by simp[keys])
  have h56:b5<b6:=zf_ hb6 (by simp[keys])
  refine Ow.permL (M:=(b6, .cells (a8 id0.l) 24 (0,0)):: (b5, .cells #[vi x.k,vs x.t] 35 (0,0)):: (b1,o):: (b2, .cells #[vm b1] 121 (0,0))::DG) (by classical exact List.perm_iff_count.2 fun a=>by simp only[List.count_append,List.count_cons,List.count_nil]<;>omega) ?_
  cases hrd:rdK x with
  |false=>
   have hob:qg_ (l.take (k+1))=qg_ (l.take k):=by rw[hts,Zy_];unfold addO;rw[hrd];rfl
   refine ko @jU_ ?_
   refine Cw.permL (M:=(b1,o):: (b2, .cells #[vm b1] 121 (0,0)):: ((b6, .cells (a8 (idK x).l) 24 (0,0)):: (b5, .cells #[vi x.k,vs x.t] 35 (0,0))::DG)) (by classical exact List.perm_iff_count.2 fun a=>by simp only[List.count_append,List.count_cons,List.count_nil]<;>omega) ?_
   first|with_reducible refine ks [] @jU_ ?_|refine kp @jU_ ?_
   exact Again.mk ⟨k+1,o,(b6, .cells (a8 (idK x).l) 24 (0,0)):: (b5, .cells #[vi x.k,vs x.t] 35 (0,0))::DG⟩ (by show l.length - (k+1)<l.length - k;omega) ⟨hlt,by show Vt_ _ _ o (qg_ (l.take (k+1)));rw[hob];exact hM,⟨hw6,hw5,hN⟩⟩ rfl rfl
  |true=>
   have hob:qg_ (l.take (k+1))=J6_ (idK x) x (qg_ (l.take k)):=by rw[hts,Zy_];unfold addO;rw[hrd];rfl
   refine ko @jU_ ?_
   first|with_reducible refine ks [] @jU_ ?_|refine kp @jU_ ?_
   refine Cw.regionS [b2,b5,b6] [0,1,2,3,4,5,6] [6] (by kernel_rfl) (by kernel_rfl) (by kernel_rfl) ?_
   simp only[zh_, ↓zc_, ↓za_, ↓zk_, ↓zj_,zb_]
   refine kq @jU_ ?_
   refine Ow.mapUpdateG (encK:=Qc_) (encV:=obKV) (k:=idK x) (v:=x) rfl rfl Tryz.underlying119 W2_ rfl rfl rfl (by rw[z6_ _ _ _ _ (by omega),z6_ _ _ _ _ (by omega)];exact zz_ _ _ _) hM (fun o2 ho2=> ?_)
   rw[qi_ _ _ _ _ _ (by omega),qi_ _ _ _ _ _ (by omega),qn_]
   refine ko @jU_ ?_
   refine Cw.permL (M:=(b1,o2):: (b2, .cells #[vm b1] 121 (0,0)):: ((b6, .cells (a8 (idK x).l) 24 (0,0)):: (b5, .cells #[vi x.k,vs x.t] 35 (0,0))::DG)) (by classical exact List.perm_iff_count.2 fun a=>by simp only[List.count_append,List.count_cons,List.count_nil]<;>omega) ?_
   first|with_reducible refine ks [] @jU_ ?_|refine kp @jU_ ?_
   exact Again.mk ⟨k+1,o2,(b6, .cells (a8 (idK x).l) 24 (0,0)):: (b5, .cells #[vi x.k,vs x.t] 35 (0,0))::DG⟩ (by show l.length - (k+1)<l.length - k;omega) ⟨hlt,by show Vt_ _ _ o2 (qg_ (l.take (k+1)));rw[hob];exact ho2,⟨hw6,hw5,hN⟩⟩ rfl rfl
 ·obtain rfl:k=l.length:=by omega
  rw[List.take_length] at hM
  have hd0:decide ((l.length:Int)< (l.length:Int))=false:=by simp
  first|with_reducible refine ks [] (And.intro @jU_ @hd0) ?_|refine kp (And.intro @jU_ @hd0) ?_
  refine Ow.ifacePtr rfl Tryz.underlying118 rfl ?_
  refine ko @jU_ ?_
  refine⟨_,(ke @jU_), ?_⟩
  exact⟨Ext.of_new hNN,b2,b1,o,rfl,by simp,by simp,hM⟩
end Go.Proofs
end
section
open Go Go.Proofs Go.Sx Go.StP Go.RooP
namespace Go.Proofs
set_option maxRecDepth 10000
set_option maxHeartbeats 400000
set_option linter.unusedSimpArgs false
structure DwA (bd:Nat) (vL vI:Value) (W:WkS) (vq vv vl vm vn:Value) (Q V M K X:ze_):Prop where
 perm:X.Perm ((bd, .cells #[vL,vI,vq,vv,vl,vm,vn] 46 (0,0)):: (Q++ (V++ (M++K))))
 q:Qu Q 59 33 vq W.q.length (W.q.map zP_).flatten
 v:Gr V 59 33 vv W.vis.length (W.vis.map zP_).flatten
 l:Gr M 59 33 vl W.lk.length (W.lk.map zP_).flatten
 m:GrI K 24 32 vm (vh_ W.ms).length ((vh_ W.ms).map z5_).flatten
 n:GrI K 24 32 vn (vW_ W.lk).length ((vW_ W.lk).map z5_).flatten
theorem DwA.ne {bd:Nat} {vL vI:Value} {W:WkS} {vq vv vl vm vn:Value} {Q V M K X:ze_} (h:DwA bd vL vI W vq vv vl vm vn Q V M K X) (hn: (keys X).Nodup):bd∉keys Q∧bd∉keys V∧bd∉keys M∧bd∉keys K:=by
 have:=(h.perm.map Prod.fst).nodup_iff.1 hn
 simp only[List.map_cons,List.map_append,List.nodup_cons,List.mem_append,not_or] at this
 exact⟨this.1.1,this.1.2.1,this.1.2.2.1,this.1.2.2.2⟩
theorem DwA.keysX {bd:Nat} {vL vI:Value} {W:WkS} {vq vv vl vm vn:Value} {Q V M K X:ze_} (h:DwA bd vL vI W vq vv vl vm vn Q V M K X) (x:Nat):x∈keys X↔x=bd∨x∈keys Q∨x∈keys V∨x∈keys M∨x∈keys K:=by
 have:=(h.perm.map Prod.fst).mem_iff (a:=x)
 simp only[List.map_cons,List.map_append,List.mem_cons,List.mem_append] at this
 exact this
theorem DwA.ext2 {bd:Nat} {vL vI:Value} {W:WkS} {vq vv vl vm vn:Value} {Q V M K X Q' V' M' K':ze_} {a:Obj} {w:World} (h:DwA bd vL vI W vq vv vl vm vn Q V M K X)
  (h1: ∀x,x∈keys Q→x∈keys Q') (h2: ∀x,x∈keys Q'→x∈keys Q∨w.heap.size≤x) (h3: ∀x,x∈keys V→x∈keys V') (h4: ∀x,x∈keys V'→x∈keys V∨w.heap.size≤x)
  (h5: ∀x,x∈keys M→x∈keys M') (h6: ∀x,x∈keys M'→x∈keys M∨w.heap.size≤x) (h7: ∀x,x∈keys K→x∈keys K') (h8: ∀x,x∈keys K'→x∈keys K∨w.heap.size≤x):
  Ext w X ((bd,a):: (Q'++ (V'++ (M'++K')))):=by
 have hk:=h.keysX
 refine⟨fun x hx=> ?_,fun x hx=> ?_⟩
 ·simp only[keys,List.map_cons,List.map_append,List.mem_cons,List.mem_append] at hx
  rcases hx with hx|hx|hx|hx|hx
  ·exact .inl ((hk x).2 (.inl hx))
  ·exact(h2 x hx).imp (fun h=>(hk x).2 (.inr (.inl h))) id
  ·exact(h4 x hx).imp (fun h=>(hk x).2 (.inr (.inr (.inl h)))) id
  ·exact(h6 x hx).imp (fun h=>(hk x).2 (.inr (.inr (.inr (.inl h))))) id
  ·exact(h8 x hx).imp (fun h=>(hk x).2 (.inr (.inr (.inr (.inr h))))) id
 ·simp only[keys,List.map_cons,List.map_append,List.mem_cons,List.mem_append]
  rcases(hk x).1 hx with hx|hx|hx|hx|hx
  ·exact .inl hx
  ·exact .inr (.inl (h1 x hx))
  ·exact .inr (.inr (.inl (h3 x hx)))
  ·exact .inr (.inr (.inr (.inl (h5 x hx))))
  ·exact .inr (.inr (.inr (.inr (h7 x hx))))
theorem Wm_ {L:ze_} {b:Nat} {o:Obj} (hn: (keys L).Nodup) (h: (b,o)∈L) {w:World}:zq_ w L b=some o:=zl_ (wl_ hn h)
theorem WM_ {D:ze_} {E:TypeId} {m n:Nat} {v:Value} {cs:List Value} (h:GrI D E m v n cs):Value.oneCell' v=true∧v.cells= #[v]:=by
 obtain⟨X,-,h⟩:=h;exact h.cell
set_option linter.defProp false
end Go.Proofs
end
section
open Go Go.Proofs Go.Sx Go.StP Go.RooP
namespace Go.Proofs
set_option maxRecDepth 10000
set_option maxHeartbeats 400000
set_option linter.unusedSimpArgs false
set_option linter.defProp false
end Go.Proofs
end
section
open Go Go.Proofs Go.Sx Go.StP Go.RooP
namespace Go.Proofs
set_option maxRecDepth 10000
set_option maxHeartbeats 400000
set_option linter.unusedSimpArgs false
theorem alG_ (a b:ObK):eqD Tryz.prog 8 35 (obV a.k a.t) (obV b.k b.t)=some (decide (a=b)):=by
 have p0: ∀o:ObK,Sx.partV (false,1) #[vi o.k,vs o.t] 0=some (vi o.k):=fun _=>rfl
 have p1: ∀o:ObK,Sx.partV (false,1) #[vi o.k,vs o.t] 1=some (vs o.t):=fun _=>rfl
 have e1: ∀a b:Int,eqD Tryz.prog 7 3 (vi a) (vi b)=some (a==b):=fun a b=>by unfold eqD;rw[Tryz.underlying3];rfl
 have e2: ∀a b:List UInt8,eqD Tryz.prog 7 9 (vs a) (vs b)=some (a==b):=fun a b=>by
  unfold eqD;rw[Tryz.underlying9];simp only[vs,WR_]
 have a1:zH_ Tryz.prog 3=some (false,1):=id (by kernel_rfl)
 have a2:zH_ Tryz.prog 9=some (false,1):=id (by kernel_rfl)
 unfold eqD obV
 rw[Tryz.underlying35]
 simp only
 rw[show Tryz.prog.stoodInHeld 35=false by kernel_rfl]
 simp only[Bool.false_eq_true, ↓reduceIte,kk_,kH_,a1,a2,p0,p1,e1,e2]
 obtain⟨k,t⟩:=a
 obtain⟨k',t'⟩:=b
 have e:decide ((⟨k,t⟩:ObK)=⟨k',t'⟩)=((k==k')&& (t==t')):=by rw[Bool.eq_iff_iff];simp
 rw[e]
 cases(k==k')<;>cases(t==t')<;>rfl
theorem alz_ (a b:ObK):q7_ Tryz.prog .neq 35 (obV a.k a.t) (obV b.k b.t)=some (.bool (!decide (a=b))):=by
 have h:=alG_ a b
 unfold q7_ eqX obV at*;rw[show Tryz.prog.eqGuardType Tryz.prog.depth 35=false by kernel_rfl];simp[qZ_,h]
def XH_ (l:List ObK):Bool:=decide (40<l.length) ||l.any fun o=>decide (2500<o.t.length)
theorem Wp_ {l:List ObK} (h:XH_ l=false):l.length≤40∧ ∀o,o∈l→o.t.length≤2500:=by
 unfold XH_ at h
 rw[Bool.or_eq_false_iff,decide_eq_false_iff_not,List.any_eq_false] at h
 exact⟨by omega,fun o ho=>by have:=h.2 o ho;simpa using this⟩
theorem ai5_ {w:World} {v:Value} {l:List ObK} {b off:Nat} {arr:Array Value} {E:TypeId} {fz:Nat×Nat} (h:RowS 2 x4_ jD_ w v l b off arr E fz) {k n:Nat} (hk:k<l.length):
  zv_ (some (false,n)) (some (.cells arr E fz)) (off+k*2+1)=some (vs (l.getD k jD_).t):=h.cell hk (by omega)
set_option linter.defProp false
def ZE_:=And.intro (@zK_) (@zJ_)
theorem Z3_ (v:Value) (l:List ObK) (w:World) (hv:RowX 2 x4_ jD_ w v l []):
  Rets Tryz.prog 14 #[v] w (fun v' D=>v'= .bool (XH_ l)∧D= []):=by
 obtain⟨rb,off,arr,E,fz,hr,-⟩:=hv
 have ln:=fun x=>hr.len x
 refine Rets.enterV Tryz.func14 rfl (rs:= [.tmp 2]) Tryz.results14 Tryz.ntmps14 ?_
 refine kf ?_
 unfold XH_
 by_cases h40:40<l.length
 ·have d1:decide ((40:Int)< (l.length:Int))=true:=decide_eq_true (by omega)
  rw[decide_eq_true h40]
  first|with_reducible refine ks [] (And.intro @ZE_ (And.intro @ln (@d1))) ?_|refine kp (And.intro @ZE_ (And.intro @ln (@d1))) ?_
  refine⟨_,(ke @ZE_),trivial, ?_⟩
  rfl
 ·have d1:decide ((40:Int)< (l.length:Int))=false:=decide_eq_false (by omega)
  rw[decide_eq_false h40,Bool.false_or]
  first|with_reducible refine ks [] (And.intro @ZE_ (And.intro @ln (@d1))) ?_|refine kp (And.intro @ZE_ (And.intro @ln (@d1))) ?_
  refine Cw.loopG (G:=Nat) [7,8,9,10,13,14,15,16,17,18,19,2,11,12,3] (fun g=> [(3,vi g)]) (fun g=> []) (fun g=>g≤l.length∧(l.take g).any (fun o=>decide (2500<o.t.length))=false) (fun g=>l.length - g) 0 rfl rfl ?_ ?_
  ·exact⟨Nat.zero_le _,rfl⟩
  intro k jk hk
  refine kv ?_
  obtain⟨h1,h2⟩:=hk
  by_cases hk:k<l.length
  ·have hd0:decide ((k:Int)< (l.length:Int))=true:=decide_eq_true (by omega)
   have ix:=hr.idx true k hk
   have ld:=fun n=>ai5_ (n:=n) hr hk
   have rd:=hr.has (by omega)
   have hts:=StP.take_snoc (z:=jD_) hk
   have hm:l.getD k jD_∈l:=by rw[List.getD_eq_getElem?_getD,List.getElem?_eq_getElem hk];exact List.getElem_mem _
   generalize l.getD k jD_=o at*
   by_cases h25:2500<o.t.length
   ·have d2:decide ((2500:Int)< (o.t.length:Int))=true:=decide_eq_true (by omega)
    have e:l.any (fun o=>decide (2500<o.t.length))=true:=List.any_eq_true.2 ⟨o,hm,decide_eq_true h25⟩
    rw[e]
    first|with_reducible refine ks [] (And.intro @ZE_ (And.intro @ln (And.intro @hd0 (And.intro @ix (And.intro @rd (And.intro @ld (@d2))))))) ?_|refine kp (And.intro @ZE_ (And.intro @ln (And.intro @hd0 (And.intro @ix (And.intro @rd (And.intro @ld (@d2))))))) ?_
    refine⟨_,(ke @ZE_),trivial, ?_⟩
    rfl
   ·have d2:decide ((2500:Int)< (o.t.length:Int))=false:=decide_eq_false (by omega)
    first|with_reducible refine ks [] (And.intro @ZE_ (And.intro @ln (And.intro @hd0 (And.intro @ix (And.intro @rd (And.intro @ld (@d2))))))) ?_|refine kp (And.intro @ZE_ (And.intro @ln (And.intro @hd0 (And.intro @ix (And.intro @rd (And.intro @ld (@d2))))))) ?_
    refine Again.mk (k+1) (by omega) ⟨hk, ?_⟩ rfl rfl
    rw[hts,List.any_append,h2]
    simp[h25]
  ·obtain rfl:k=l.length:=by omega
   rw[List.take_length] at h2
   have hd0:decide ((l.length:Int)< (l.length:Int))=false:=by simp
   rw[h2]
   first|with_reducible refine ks [] (And.intro @ZE_ (And.intro @ln (@hd0))) ?_|refine kp (And.intro @ZE_ (And.intro @ln (@hd0))) ?_
   refine⟨_,(ke @ZE_),trivial, ?_⟩
   rfl
def ClK (a b:ObK):Prop:=a≠b∧rdK a=true∧rdK b=true∧idK a=idK b
theorem all_ {l:List ObK} (h: ∀p,p<l.length→ ∀q,q<p→ ¬ClK (l.getD p jD_) (l.getD q jD_)):NoCl l:=by
 intro a ha b hb hra hrb he
 obtain⟨i,hi,rfl⟩:=List.getElem_of_mem ha
 obtain⟨j,hj,rfl⟩:=List.getElem_of_mem hb
 have gd: ∀k (hk:k<l.length),l.getD k jD_=l[k]:=fun k hk=>by rw[List.getD_eq_getElem?_getD,List.getElem?_eq_getElem hk];rfl
 refine Classical.byContradiction fun hne=> ?_
 rcases Nat.lt_trichotomy i j with hij|hij|hij
 ·exact h j hj i hij ⟨by rw[gd _ hj,gd _ hi];exact Ne.symm hne,by rw[gd _ hj];exact hrb,by rw[gd _ hi];exact hra,by rw[gd _ hj,gd _ hi];exact he.symm⟩
 ·subst hij;exact hne rfl
 ·exact h i hi j hij ⟨by rw[gd _ hj,gd _ hi];exact hne,by rw[gd _ hi];exact hra,by rw[gd _ hj];exact hrb,by rw[gd _ hj,gd _ hi];exact he⟩
set_option linter.defProp false
def jP_:=And.intro (And.intro (@zK_) (@zJ_)) (And.intro (@alz_) (@akI_))
theorem ZT_ (v:Value) (l:List ObK) (w:World) (hv:RowX 2 x4_ jD_ w v l []) (hl:l.length<1000000) (ht: ∀o,o∈l→o.t.length<100000):
  Rets Tryz.prog 15 #[v] w (fun v' D=>(∃b,v'= .bool b∧(b=false→NoCl l))∧D= []):=by
 obtain⟨rb,off,arr,E,fz,hr,-⟩:=hv
 have ln:=fun x=>hr.len x
 have gm: ∀k,k<l.length→l.getD k jD_∈l:=fun k hk=>by rw[List.getD_eq_getElem?_getD,List.getElem?_eq_getElem hk];exact List.getElem_mem _
 refine Rets.enterV Tryz.func15 rfl (rs:= [.tmp 2]) Tryz.results15 Tryz.ntmps15 ?_
 refine kf ?_
 first|with_reducible refine ks [] @jP_ ?_|refine kp @jP_ ?_
 refine Cw.loopG (G:=Nat) [5,6,7,8,4,11,12,13,16,17,18,19,20,21,22,23,24,25,26,27,28,29,30,31,32,33,34,35,36,37,38,39,40,41,42,43,44,45,46,47,48,49,50,51,2,14,15,9,10,3] (fun g=> [(3,vi g)]) (fun g=> []) (fun g=>g≤l.length∧(∀p,p<g→ ∀q,q<p→ ¬ClK (l.getD p jD_) (l.getD q jD_))) (fun g=>l.length - g) 0 rfl rfl ?_ ?_
 ·exact⟨Nat.zero_le _,fun p hp=>absurd hp (Nat.not_lt_zero _)⟩
 intro i ji hi
 refine kv ?_
 obtain⟨hi,hpi⟩:=hi
 by_cases hlt:i<l.length
 ·have hd0:decide ((i:Int)< (l.length:Int))=true:=decide_eq_true (by omega)
  have ixi:=hr.idx true i hlt
  have ldi:=Zw_ hr hlt
  have rd:=hr.has (by omega)
  have hti:=ht _ (gm i hlt)
  first|with_reducible refine ks [] (And.intro @jP_ (And.intro @ln (@hd0))) ?_|refine kp (And.intro @jP_ (And.intro @ln (@hd0))) ?_
  refine Cw.loopG (G:=Nat) [11,12,13,16,17,18,19,20,21,22,23,24,25,26,27,28,29,30,31,32,33,34,35,36,37,38,39,40,41,42,43,44,45,46,47,48,49,50,51,2,14,15,4] (fun g=> [(4,vi g)]) (fun g=> []) (fun g=>g≤i∧(∀q,q<g→ ¬ClK (l.getD i jD_) (l.getD q jD_))) (fun g=>i - g) 0 rfl rfl ?_ ?_
  ·exact⟨Nat.zero_le _,fun p hp=>absurd hp (Nat.not_lt_zero _)⟩
  intro k jk hk
  refine kv ?_
  obtain⟨hk,hpk⟩:=hk
  by_cases hkt:k<i
  ·have hd1:decide ((k:Int)< (i:Int))=true:=decide_eq_true (by omega)
   have ixk:=hr.idx true k (show k<l.length by omega)
   have ldk:=Zw_ hr (show k<l.length by omega)
   have htk:=ht _ (gm k (by omega))
   have next: ¬ClK (l.getD i jD_) (l.getD k jD_)→ ∀q,q<k+1→ ¬ClK (l.getD i jD_) (l.getD q jD_):=fun h q hq=>by
    by_cases e:q=k
    ·subst e;exact h
    ·exact hpk q (by omega)
   generalize l.getD i jD_=a at*
   generalize hb:l.getD k jD_=b at*
   first|with_reducible refine ks [] (And.intro @jP_ @hd1) ?_|refine kp (And.intro @jP_ @hd1) ?_
   by_cases hab:a=b
   ·have eab:decide (a=b)=true:=decide_eq_true hab
    refine Cw.regionS [rb] [0,1,2,4,5,6,3,7,8,9,10,11,12,13,14,15,16,17,18,19,20,21,22,23,24,25,26,29,30,31,27,32,28,33,34,35] [] (by kernel_rfl) (by kernel_rfl) (by kernel_rfl) ?_
    simp only[zh_, ↓zc_, ↓za_, ↓zk_, ↓zj_,zb_]
    refine Ow.goQ ?_
    simp(disch:=(first|assumption|omega| (simp only[qV_,qS_,UInt64.reduceToNat];try omega))) only[↓Sx.S0,Sx.S1,Tryz.fx,jP_,Nat.reduceAdd,Nat.reducePow,Int.reducePow,Nat.reduceBEq, ↓reduceIte,UInt8.reduceToNat,UInt16.reduceToNat,UInt32.reduceToNat,UInt64.reduceToNat,Int.reduceToNat,ixi,rd,ldi,ixk,ldk,eab,Bool.not_true]
    exact Again.mk (k+1) (by omega) ⟨hkt,next fun h=>h.1 hab⟩ rfl rfl
   ·have eab:decide (a=b)=false:=decide_eq_false hab
    refine Cw.regionS [rb] [0,1,2,4,5,6,3,7,8,9,10,11,12,13,14,15,16,17,18,19,20,21,22,23,24,25,26,29,30,31,27,32,28,33,34,35] [] (by kernel_rfl) (by kernel_rfl) (by kernel_rfl) ?_
    simp only[zh_, ↓zc_, ↓za_, ↓zk_, ↓zj_,zb_]
    refine Ow.goQ ?_
    simp(disch:=(first|assumption|omega| (simp only[qV_,qS_,UInt64.reduceToNat];try omega))) only[↓Sx.S0,Sx.S1,Tryz.fx,jP_,Nat.reduceAdd,Nat.reducePow,Int.reducePow,Nat.reduceBEq, ↓reduceIte,UInt8.reduceToNat,UInt16.reduceToNat,UInt32.reduceToNat,UInt64.reduceToNat,Int.reduceToNat,ixi,rd,ldi,ixk,ldk,eab,Bool.not_false]
    refine Ow.soft rfl rfl rfl ?_
    refine Ow.callFV rfl Tryz.call19 (fun w' hw'=>ky_ a.k a.t w') ?_
    rw[←vE_,show xE_ a.k a.t=rdK a from rfl]
    with_reducible refine Ow.nil ?_
    refine⟨by intro b hb;simp only[List.mem_cons,List.not_mem_nil,or_false] at hb;(try subst hb);rfl, ?_⟩
    cases hra:rdK a with
    |false=>
     refine kq @jP_ ?_
     try with_reducible refine Ow.nil ?_
     first|with_reducible refine ks [] @jP_ ?_|refine kp @jP_ ?_
     exact Again.mk (k+1) (by omega) ⟨hkt,next fun h=>by have:=h.2.1;rw[hra] at this;cases this⟩ rfl rfl
    |true=>
     refine kq (And.intro @jP_ (And.intro @ixi (And.intro @rd (And.intro @ldi (And.intro @ixk (@ldk)))))) ?_
     refine Ow.soft rfl rfl rfl ?_
     refine Ow.callFV rfl Tryz.call19 (fun w' hw'=>ky_ b.k b.t w') ?_
     rw[←vE_,show xE_ b.k b.t=rdK b from rfl]
     with_reducible refine Ow.nil ?_
     refine⟨by intro b hb;simp only[List.mem_cons,List.not_mem_nil,or_false] at hb;(try subst hb);rfl, ?_⟩
     cases hrb:rdK b with
     |false=>
      refine kq @jP_ ?_
      try with_reducible refine Ow.nil ?_
      first|with_reducible refine ks [] @jP_ ?_|refine kp @jP_ ?_
      exact Again.mk (k+1) (by omega) ⟨hkt,next fun h=>by have:=h.2.2.1;rw[hrb] at this;cases this⟩ rfl rfl
     |true=>
      refine kq (And.intro @jP_ (And.intro @ixi (And.intro @rd (And.intro @ldi (And.intro @ixk (@ldk)))))) ?_
      refine Ow.soft rfl rfl rfl ?_
      refine Ow.callFV rfl Tryz.call20 (fun w' hw'=>w8_ a.k a.t w' (by omega)) ?_
      rw[agR_ hra]
      with_reducible refine Ow.nil ?_
      refine⟨by intro b hb;simp only[List.mem_cons,List.not_mem_nil,or_false] at hb;(try subst hb);rfl, ?_⟩
      refine kq (And.intro @jP_ (And.intro @ixi (And.intro @rd (And.intro @ldi (And.intro @ixk (@ldk)))))) ?_
      refine Ow.soft rfl rfl rfl ?_
      refine Ow.callFV rfl Tryz.call20 (fun w' hw'=>w8_ b.k b.t w' (by omega)) ?_
      rw[agR_ hrb]
      with_reducible refine Ow.nil ?_
      refine⟨by intro b hb;simp only[List.mem_cons,List.not_mem_nil,or_false] at hb;(try subst hb);rfl, ?_⟩
      refine kq @jP_ ?_
      cases hq: ((idK a).l==(idK b).l) with
      |false=>
       try with_reducible refine Ow.nil ?_
       first|with_reducible refine ks [] @jP_ ?_|refine kp @jP_ ?_
       exact Again.mk (k+1) (by omega) ⟨hkt,next fun h=>by rw[h.2.2.2] at hq;simp at hq⟩ rfl rfl
      |true=>
       try with_reducible refine Ow.nil ?_
       first|with_reducible refine ks [] @jP_ ?_|refine kp @jP_ ?_
       refine⟨_,(ke @jP_),trivial, ?_⟩
       exact⟨true,rfl,fun h=>by cases h⟩
  ·obtain rfl:k=i:=by omega
   have hd1:decide ((k:Int)< (k:Int))=false:=by simp
   first|with_reducible refine ks [] (And.intro @jP_ @hd1) ?_|refine kp (And.intro @jP_ @hd1) ?_
   refine Again.mk (k+1) (by omega) ⟨hlt,fun p hp q hq=> ?_⟩ rfl rfl
   by_cases e:p=k
   ·subst e;exact hpk q hq
   ·exact hpi p (by omega) q hq
 ·obtain rfl:i=l.length:=by omega
  have hd0:decide ((l.length:Int)< (l.length:Int))=false:=by simp
  first|with_reducible refine ks [] (And.intro @jP_ (And.intro @ln (@hd0))) ?_|refine kp (And.intro @jP_ (And.intro @ln (@hd0))) ?_
  refine⟨_,(ke @jP_),trivial, ?_⟩
  exact⟨false,rfl,fun _=>all_ hpi⟩
end Go.Proofs
end
section
open Go Go.Proofs Go.Sx Go.StP Go.RooP
namespace Go.Proofs
set_option maxRecDepth 10000
set_option maxHeartbeats 400000
set_option linter.unusedSimpArgs false
def bO:ObK:=⟨1,[97,98]⟩
def xO:IdL:=idK bO
def tE:EntL:=⟨[102],1,xO⟩
def tO:ObK:=⟨2,qa_ [tE]⟩
def yO:IdL:=idK tO
theorem aj8_:rdK bO=true:=by decide
theorem afP_:qx_ [tE]=true:=by decide+kernel
theorem ajX_:rdK tO=true:=VJ_ afP_
theorem aiJ_:xO≠yO:=by decide+kernel
theorem ajU_:xy_ 2 (qa_ [tE])= [⟨xO,1⟩]:=by
 unfold xy_
 rw[VJ_ afP_,if_pos rfl,if_pos rfl,Jk_ fun x hx=>by
  rw[List.mem_singleton.1 hx];decide]
 rfl
theorem alN_:xy_ 1 [97,98]= []:=by
 unfold xy_
 rw[show xE_ 1 [97,98]=true from aj8_];rfl
theorem ak6_ {Z:List EntL} (h:SortOf [tE] Z):Z= [tE]:=h.eq ⟨rfl,List.pairwise_singleton _ _,StP.St.refl _ _⟩
theorem alg_ {x y:IdL} (h:x≠y): (vh_ [y,x]).length=2:=by
 show(putL x [y]).length=2
 unfold putL
 split
 ·rfl
 ·rw[if_neg (by simp only[beq_iff_eq];exact fun e=>h (IdL.ext2 e.symm))];rfl
theorem afK_ {s:xp_} {x y:IdL} (hxy:x≠y) (hy: (s y).2=true) (hx: (s x).2=true) (hk: (s x).1.k=1) (ky:xg_ s y= [⟨x,1⟩]) (kx:xg_ s x= []) {W:WkS} (h:WkI s [y] W) (hq:W.q= []): (vh_ W.ms).length=2∧vW_ W.lk= []:=by
 have fy:xL_ s ⟨y,0⟩=true:=by unfold xL_;rw[hy];rfl
 have fx:xL_ s ⟨x,1⟩=true:=by unfold xL_;rw[hx,hk];rfl
 have ry:ReachK s [y] ⟨y,0⟩:= .root (List.mem_singleton.2 rfl)
 have rx:ReachK s [y] ⟨x,1⟩:= .kid ry fy (by show _∈xg_ s y;rw[ky];exact List.mem_singleton.2 rfl)
 have hr: ∀c,ReachK s [y] c→c=⟨y,0⟩∨c=⟨x,1⟩:=by
  intro c hc
  induction hc with
  |root hi=>rw[List.mem_singleton] at hi;subst hi;exact .inl rfl
  |kid _ hf hd ih=>
   rcases ih with rfl|rfl
   ·have hd':_∈xg_ s y:=hd
    rw[ky,List.mem_singleton] at hd';exact .inr hd'
   ·have hd':_∈xg_ s x:=hd
    rw[kx] at hd';cases hd'
 constructor
 ·rw[vS_ (b:= [y,x]) fun i=> ?_]
  ·exact alg_ hxy
  ·rw[h.marked hq]
   simp only[List.mem_cons,List.not_mem_nil,or_false]
   constructor
   ·rintro⟨c,h1,h2,rfl⟩
    rcases hr c h1 with rfl|rfl
    ·exact .inl rfl
    ·exact .inr rfl
   ·rintro(rfl|rfl)
    ·exact⟨_,ry,fy,rfl⟩
    ·exact⟨_,rx,fx,rfl⟩
 ·have:W.lk= []:=List.eq_nil_iff_forall_not_mem.2 fun c hc=>by
   obtain⟨h1,h2⟩:=(h.missing hq c).1 hc
   rcases hr c h1 with rfl|rfl
   ·rw[fy] at h2;cases h2
   ·rw[fx] at h2;cases h2
  rw[this];rfl
theorem ag2_ {s:xp_} {x y:IdL} (hy: (s y).2=true) (hx: (s x).2=false) (ky:xg_ s y= [⟨x,1⟩]) {W:WkS} (h:WkI s [y] W) (hq:W.q= []): (vh_ W.ms).length=1∧vW_ W.lk= [x]:=by
 have fy:xL_ s ⟨y,0⟩=true:=by unfold xL_;rw[hy];rfl
 have fx:xL_ s ⟨x,1⟩=false:=by unfold xL_;rw[hx];rfl
 have ry:ReachK s [y] ⟨y,0⟩:= .root (List.mem_singleton.2 rfl)
 have rx:ReachK s [y] ⟨x,1⟩:= .kid ry fy (by show _∈xg_ s y;rw[ky];exact List.mem_singleton.2 rfl)
 have hr: ∀c,ReachK s [y] c→c=⟨y,0⟩∨c=⟨x,1⟩:=by
  intro c hc
  induction hc with
  |root hi=>rw[List.mem_singleton] at hi;subst hi;exact .inl rfl
  |kid _ hf hd ih=>
   rcases ih with rfl|rfl
   ·have hd':_∈xg_ s y:=hd
    rw[ky,List.mem_singleton] at hd';exact .inr hd'
   ·rw[fx] at hf;cases hf
 constructor
 ·rw[vS_ (b:= [y]) fun i=> ?_]
  ·rfl
  ·rw[h.marked hq,List.mem_singleton]
   constructor
   ·rintro⟨c,h1,h2,rfl⟩
    rcases hr c h1 with rfl|rfl
    ·rfl
    ·rw[fx] at h2;cases h2
   ·rintro rfl
    exact⟨_,ry,fy,rfl⟩
 ·unfold vW_
  rw[vS_ (b:= [x]) fun i=> ?_]
  ·rfl
  ·rw[List.mem_map,List.mem_singleton]
   constructor
   ·rintro⟨c,h1,rfl⟩
    obtain⟨h2,h3⟩:=(h.missing hq c).1 h1
    rcases hr c h2 with rfl|rfl
    ·rw[fy] at h3;cases h3
    ·rfl
   ·rintro rfl
    exact⟨_,(h.missing hq _).2 ⟨rx,fx⟩,rfl⟩
theorem Vi_:NoCl [bO,tO]:=by
 intro a ha b hb _ _ he
 simp only[List.mem_cons,List.not_mem_nil,or_false] at ha hb
 rcases ha with rfl|rfl<;>rcases hb with rfl|rfl
 ·rfl
 ·exact absurd he aiJ_
 ·exact absurd he.symm aiJ_
 ·rfl
theorem adj_:NoCl [tO]:=by
 intro a ha b hb _ _ _
 rw[List.mem_singleton] at ha hb
 rw[ha,hb]
theorem akt_:zY_ (qg_ [bO,tO]) xO=(bO,true)∧zY_ (qg_ [bO,tO]) yO=(tO,true):=by
 rw[Zc_ Vi_]
 exact⟨Vo_ Vi_ (by simp) aj8_,Vo_ Vi_ (by simp) ajX_⟩
theorem aj9_: (zY_ (qg_ [tO]) xO).2=false∧zY_ (qg_ [tO]) yO=(tO,true):=by
 rw[Zc_ adj_]
 refine⟨?_,Vo_ adj_ (by simp) ajX_⟩
 cases h: (srcD [tO] xO).2 with
 |false=>rfl
 |true=>
  obtain⟨o,h1,-,h3,-⟩:=afu_ h
  rw[List.mem_singleton] at h1
  subst h1
  exact absurd h3.symm aiJ_
theorem Zr_ {W:WkS} (h:WkI (zY_ (qg_ [bO,tO])) [yO] W) (hq:W.q= []): (vh_ W.ms).length=2∧vW_ W.lk= []:=by
 obtain⟨h1,h2⟩:=akt_
 refine afK_ aiJ_ (by rw[h2]) (by rw[h1]) (by rw[h1];rfl) ?_ ?_ h hq
 ·unfold xg_;rw[h2];exact ajU_
 ·unfold xg_;rw[h1];exact alN_
theorem Zq_ {W:WkS} (h:WkI (zY_ (qg_ [tO])) [yO] W) (hq:W.q= []): (vh_ W.ms).length=1∧vW_ W.lk= [xO]:=by
 obtain⟨h1,h2⟩:=aj9_
 refine ag2_ (by rw[h2]) h1 ?_ h hq
 unfold xg_;rw[h2];exact ajU_
theorem X8_ (k k':Int) (t t':List UInt8):ki_ Tryz.prog 22 2 [(0,obV k t),(1,obV k' t')]=some (35, #[vi k,vs t,vi k',vs t']):=id (by kernel_rfl)
theorem Kj_ {w:World} {b:Nat} {k k':Int} {t t':List UInt8} (h:w.heap[b]? =some (.cells #[vi k,vs t,vi k',vs t'] 35 (0,0))):RowX 2 x4_ jD_ w (vsl b 0 2 2) [⟨k,t⟩,⟨k',t'⟩] []:=by
 have hs:SlV 2 x4_ jD_ w (vsl b 0 2 2) [⟨k,t⟩,⟨k',t'⟩]:=SlV.sl (l:=([⟨k,t⟩,⟨k',t'⟩]:List ObK)) h (fun i hi j hj=>by
  have h2:i=0∨i=1:=by simp at hi;omega
  have h3:j=0∨j=1:=by omega
  rcases h2 with rfl|rfl<;>rcases h3 with rfl|rfl<;>rfl) (by simp) (by simp)
 exact SlV.rowX hs
theorem Kr_ {w:World} {b:Nat} {k:Int} {t:List UInt8} (h:w.heap[b]? =some (.cells #[vi k,vs t] 35 (0,0))):RowX 2 x4_ jD_ w (vsl b 0 1 1) [⟨k,t⟩] []:=by
 have hs:SlV 2 x4_ jD_ w (vsl b 0 1 1) [⟨k,t⟩]:=SlV.sl (l:=([⟨k,t⟩]:List ObK)) h (fun i hi j hj=>by
  obtain rfl:i=0:=by simp at hi;omega
  have h3:j=0∨j=1:=by omega
  rcases h3 with rfl|rfl<;>rfl) (by simp) (by simp)
 exact SlV.rowX hs
theorem Zl_ {w:World} {b:Nat} {x:IdL} (h:w.heap[b]? =some (.cells (z5_ x).toArray 24 (0,0))):RowX 32 z5_ id0 w (vsl b 0 1 1) [x] []:=
 SlV.rowX (SlV.sl (l:= [x]) h (fun i hi j hj=>by
  obtain rfl:i=0:=by simp at hi;omega
  simp) (by simp) (by simp[js_]))
theorem ahS_ {w:World} {b:Nat} {x:EntL} (h:w.heap[b]? =some (.cells (zI_ x).toArray 117 (0,0))):EntS w (vsl b 0 1 1) [x]:=
 SlV.sl (l:= [x]) h (fun i hi j hj=>by
  obtain rfl:i=0:=by simp at hi;omega
  simp) (by simp) (by simp[zU_])
theorem aeB_ (x:EntL):ki_ Tryz.prog 122 1 [(0, .agg (zI_ x).toArray)]=some (117,(zI_ x).toArray):=qw_ Tryz.underlying122 QU_ k9_ (by decide) (zU_ x)
theorem WK_ (k:Int) (t:List UInt8):ki_ Tryz.prog 22 1 [(0,obV k t)]=some (35, #[vi k,vs t]):=WD_ ⟨k,t⟩
set_option linter.defProp false
def jA_:=And.intro (And.intro (And.intro (@q4_) (@qU_)) (And.intro (@qR_) (And.intro (@qQ_) (@vo_)))) (And.intro (And.intro (@Sx.tup2_0) (And.intro (@Sx.tup2_1) (@zK_))) (And.intro (@zJ_) (And.intro (@jt_) (@akI_))))
theorem jv_ {D:ze_} {E:TypeId} {m n:Nat} {v:Value} {cs:List Value} (h:GrI D E m v n cs) (x:Bool×Nat):Jj_ (.sl x) v=some (vi n):=by
 obtain⟨X,-,h⟩:=h;exact h.len x
def RowOne (G:ze_) (v:Value) (x:IdL):Prop:= ∃bb off arr E,(bb,Obj.cells arr E (0,0))∈G∧(∀a,z0_ (.sl (a,32)) v (some 0)=some (vp bb off))∧zv_ (some (true,32)) (some (.cells arr E (0,0))) off=some (.agg (a8 x.l))
theorem RowOne.mono {G G':ze_} {v:Value} {x:IdL} (h:RowOne G v x) (hG: ∀p,p∈G→p∈G'):RowOne G' v x:=by
 obtain⟨bb,off,arr,E,h1,h2⟩:=h
 exact⟨bb,off,arr,E,hG _ h1,h2⟩
theorem abb_ {D:ze_} {v:Value} {x:IdL} {n:Nat} {cs:List Value} (h:GrI D 24 32 v n cs) (hn:n=1) (hc:cs=z5_ x):RowOne D v x:=by
 subst hn hc
 obtain⟨X,hX,h⟩:=h
 rcases h with h| ⟨h,-⟩
 ·rcases h.inv with⟨-,h,-⟩ | ⟨b,c,rest,rfl,hl,-⟩
  ·omega
  ·refine⟨b,0,_,_,hX _ (zB_ hl),fun a=> ?_, ?_⟩
   ·have:=q0_ (a,32) b 0 1 c 0 ⟨by omega,by omega⟩
    simpa using this
   ·have:=xX_ [] (z5_ x) rest 24 (0,0) rfl (js_ x)
    rw[Zi_] at this
    simpa using this
 ·omega
structure AlG where
 a:Value
 b:Value
 G:ze_
theorem qo_ (w:World) (hG:GlobE w):Rets Tryz.prog 13 #[] w (fun v D=>v= .bool true∧D= []):=by
 refine Rets.enterV Tryz.func13 rfl (rs:= [.tmp 0]) Tryz.results13 Tryz.ntmps13 ?_
 refine kf ?_
 first|with_reducible refine ks [1000005,1000006] @jA_ ?_|refine kp @jA_ ?_
 refine Ow.callFV rfl Tryz.call65 (fun w' hw'=>ag0_ [97,98] w') ?_
 rw[show abr_ 1 [97,98] true=1 from rfl,show abA_ 1 [97,98] true= [97,98] from rfl,show abj_ 1 [97,98] true=0 from rfl]
 refine ko @jA_ ?_
 refine Ow.alloc rfl rfl Kg_ fun b1 hb1 hw1=> ?_
 simp only[zd_,List.nil_append,List.cons_append]
 refine ko @jA_ ?_
 first|with_reducible refine ks [] @jA_ ?_|refine kp @jA_ ?_
 refine Ow.callFV rfl Tryz.call66 (fun w' hw'=>K4_ 1 [97,98] w' (hG.new hw' ⟨hw1,trivial⟩)) ?_
 rw[show idV 1 [97,98]=xO from rfl,show xE_ 1 [97,98]=true from aj8_]
 have hxh:=xO.h
 have hyh:=yO.h
 have hi0:=id0.h
 generalize hx:xO=x at*
 refine ko @jA_ ?_
 refine Ow.alloc rfl rfl Z5_ fun b3 hb3 hw3=> ?_
 simp only[zd_,List.nil_append,List.cons_append]
 have h13:b1<b3:=zf_ hb3 (by simp[keys])
 refine Ow.permL (M:= [(b3, .cells (a8 id0.l) 24 (0,0)),(b1, .cells #[vi 1,vs [97,98]] 35 (0,0))]) (by classical exact List.perm_iff_count.2 fun a=>by simp only[List.count_append,List.count_cons,List.count_nil]<;>omega) ?_
 refine ko @jA_ ?_
 have htE:tE=⟨[102],1,x⟩:=by rw[←hx];rfl
 first|with_reducible refine ks [] @jA_ ?_|refine kp @jA_ ?_
 refine Ow.build (.agg (zI_ tE).toArray) rfl (by rw[htE];exact ahv_ ⟨[102],1,x⟩) ?_
 refine ko @jA_ ?_
 refine Ow.buildSlice (e:=117) (zI_ tE).toArray rfl rfl (aeB_ tE) fun be hbe hwe=> ?_
 refine ko @jA_ ?_
 refine Ow.callC rfl rfl Tryz.call67 (fun w' hw'=>aez_ _ [tE] w' (ahS_ (hw'.has be (.cells (zI_ tE).toArray 117 (0,0)) (by simp))) (by simp) (by rw[htE];intro e he;obtain rfl:=List.mem_singleton.1 he;show 1<10000;omega)) (fun B2 v2 D2 hA2 hB2 hN2 hS2=> ?_)
 obtain⟨Z,hZ,rfl⟩:=hS2
 rw[ak6_ hZ]
 obtain⟨T,hT⟩: ∃T,T=qa_ [tE]:=⟨_,rfl⟩
 rw[←hT]
 have hTr:xE_ 2 T=true:=by rw[hT];exact ajX_
 rw[show abr_ 2 T (qx_ [tE])=2 by unfold abr_;rw[afP_,hTr];rfl,show abA_ 2 T (qx_ [tE])=T by unfold abA_;rw[afP_,hTr];rfl,show abj_ 2 T (qx_ [tE])=0 by unfold abj_;rw[afP_,hTr];rfl]
 have htO:tO=⟨2,T⟩:=by rw[hT];rfl
 have hyT:idV 2 T=yO:=by rw[hT];rfl
 refine ko @jA_ ?_
 refine Ow.alloc rfl rfl Kg_ fun b5 hb5 hw5=> ?_
 simp only[zd_,List.nil_append,List.cons_append]
 have h15:b1<b5:=zf_ hb5 (by simp[keys])
 have h35:b3<b5:=zf_ hb5 (by simp[keys])
 have hNg:New w.heap.size ((be,Obj.cells (zI_ tE).toArray 117 (0,0))::D2):=⟨hwe,hN2.mono hB2⟩
 refine Ow.permL (M:=(b5, .cells #[vi 0,vs []] 35 (0,0)):: (b3, .cells (a8 x.l) 24 (0,0)):: (b1, .cells #[vi 1,vs [97,98]] 35 (0,0)):: ((be,Obj.cells (zI_ tE).toArray 117 (0,0))::D2)) (by classical exact List.perm_iff_count.2 fun a=>by simp only[List.count_append,List.count_cons,List.count_nil]<;>omega) ?_
 generalize (be,Obj.cells (zI_ tE).toArray 117 (0,0))::D2=G at*
 refine ko @jA_ ?_
 first|with_reducible refine ks [] @jA_ ?_|refine kp @jA_ ?_
 refine Ow.callFV rfl Tryz.call66 (fun w' hw'=>K4_ 2 T w' (hG.new hw' ⟨hw5,hw3,hw1,hNg⟩)) ?_
 rw[hyT,hTr]
 generalize hy:yO=y at*
 refine ko @jA_ ?_
 refine Ow.alloc rfl rfl Z5_ fun b7 hb7 hw7=> ?_
 simp only[zd_,List.nil_append,List.cons_append]
 have h17:b1<b7:=zf_ hb7 (by simp[keys])
 have h37:b3<b7:=zf_ hb7 (by simp[keys])
 have h57:b5<b7:=zf_ hb7 (by simp[keys])
 refine Ow.permL (M:=(b7, .cells (a8 id0.l) 24 (0,0)):: (b5, .cells #[vi 2,vs T] 35 (0,0)):: (b3, .cells (a8 x.l) 24 (0,0)):: (b1, .cells #[vi 1,vs [97,98]] 35 (0,0))::G) (by classical exact List.perm_iff_count.2 fun a=>by simp only[List.count_append,List.count_cons,List.count_nil]<;>omega) ?_
 refine ko @jA_ ?_
 refine Cw.cutO (G:=AlG) [34,35,36,37,38,39,40,41,42,43,9,10] (fun g=> [(9,g.a),(10,g.b)]) (fun g=>(b7, .cells (a8 y.l) 24 (0,0)):: (b5, .cells #[vi 2,vs T] 35 (0,0)):: (b3, .cells (a8 x.l) 24 (0,0)):: (b1, .cells #[vi 1,vs [97,98]] 35 (0,0))::g.G) (fun g=>New w.heap.size g.G∧(∀x,Jj_ (.sl x) g.a=some (vi 2))∧(∀x,Jj_ (.sl x) g.b=some (vi 0))) ?_ ?_
 ·have hN7:New w.heap.size ((b7, .cells (a8 y.l) 24 (0,0)):: (b5, .cells #[vi 2,vs T] 35 (0,0)):: (b3, .cells (a8 x.l) 24 (0,0)):: (b1, .cells #[vi 1,vs [97,98]] 35 (0,0))::G):=⟨hw7,hw5,hw3,hw1,hNg⟩
  have m7: ∀r,r∈ [b1,b5,b7]→r∈keys ((b7, .cells (a8 y.l) 24 (0,0)):: (b5, .cells #[vi 2,vs T] 35 (0,0)):: (b3, .cells (a8 x.l) 24 (0,0)):: (b1, .cells #[vi 1,vs [97,98]] 35 (0,0))::G):=fun r hr=>by
   simp only[List.mem_cons,List.not_mem_nil,or_false] at hr
   rcases hr with rfl|rfl|rfl<;>simp[keys]
  have r1:zq_ w ((b7, .cells (a8 y.l) 24 (0,0)):: (b5, .cells #[vi 2,vs T] 35 (0,0)):: (b3, .cells (a8 x.l) 24 (0,0)):: (b1, .cells #[vi 1,vs [97,98]] 35 (0,0))::G) b1=some (.cells #[vi 1,vs [97,98]] 35 (0,0)):=by rw[zp_ _ _ _ _ _ (by omega),zp_ _ _ _ _ _ (by omega),zp_ _ _ _ _ _ (by omega)];exact zS_ _ _ _ _
  have r5:zq_ w ((b7, .cells (a8 y.l) 24 (0,0)):: (b5, .cells #[vi 2,vs T] 35 (0,0)):: (b3, .cells (a8 x.l) 24 (0,0)):: (b1, .cells #[vi 1,vs [97,98]] 35 (0,0))::G) b5=some (.cells #[vi 2,vs T] 35 (0,0)):=by rw[zp_ _ _ _ _ _ (by omega)];exact zS_ _ _ _ _
  have r7:zq_ w ((b7, .cells (a8 y.l) 24 (0,0)):: (b5, .cells #[vi 2,vs T] 35 (0,0)):: (b3, .cells (a8 x.l) 24 (0,0)):: (b1, .cells #[vi 1,vs [97,98]] 35 (0,0))::G) b7=some (.cells (a8 y.l) 24 (0,0)):=zS_ _ _ _ _
  have hp7: ∀D Z:ze_,D.Perm (((b7, .cells (a8 y.l) 24 (0,0)):: (b5, .cells #[vi 2,vs T] 35 (0,0)):: (b3, .cells (a8 x.l) 24 (0,0)):: (b1, .cells #[vi 1,vs [97,98]] 35 (0,0))::G)++Z)→(D.Perm ((b7, .cells (a8 y.l) 24 (0,0)):: (b5, .cells #[vi 2,vs T] 35 (0,0)):: (b3, .cells (a8 x.l) 24 (0,0)):: (b1, .cells #[vi 1,vs [97,98]] 35 (0,0)):: (G++Z))):=fun D Z h=>h.trans (by simp)
  obtain⟨L7,hL7⟩: ∃L7,L7=(b7, .cells (a8 y.l) 24 (0,0)):: (b5, .cells #[vi 2,vs T] 35 (0,0)):: (b3, .cells (a8 x.l) 24 (0,0)):: (b1, .cells #[vi 1,vs [97,98]] 35 (0,0))::G:=⟨_,rfl⟩
  rw[←hL7] at hN7 m7 r1 r5 r7 hp7 ⊢
  refine Cw.regionG [b1,b5,b7] [] 12 (by kernel_rfl) rfl ?_
  simp only[List.replicate_succ,List.replicate_zero]
  refine OwG.run [0,1,4] [true,true,false,false,true,false,false,false,false,false,false,false] 9 rfl (by kernel_rfl) (by kernel_rfl) fun k hk=> ?_
  simp only[zh_, ↓zc_, ↓za_, ↓zk_, ↓zj_,zb_]
  simp(disch:=(first|assumption|omega| (simp only[qV_,qS_,UInt64.reduceToNat];try omega))) only[↓Sx.S0,Sx.S1,Tryz.fx,jA_,Nat.reduceAdd,Nat.reducePow,Int.reducePow,Nat.reduceBEq, ↓reduceIte,UInt8.reduceToNat,UInt16.reduceToNat,UInt32.reduceToNat,UInt64.reduceToNat,Int.reduceToNat,Md.next_sofnil,r1,r5,r7]
  (with_reducible refine hk _ _ _ ?_);clear hk k
  refine OwG.two 2 5 _ _ (by kernel_rfl) rfl rfl ?_ ?_
  ·refine Ow.buildSlice (e:=35) #[vi 1,vs [97,98],vi 2,vs T] rfl rfl (X8_ 1 2 [97,98] T) fun bo hbo hwo=> ?_
   with_reducible refine Ow.nil ?_
   refine⟨(zu_ (fun r hr=>by(try simp only[zg_,List.mem_append]);(first|exact m7 r hr|simp only[m7 r hr,true_or]))), ?_⟩
   simp only[List.set_cons_zero,List.set_cons_succ,zm_,zx_,zy_]
   have hNo:New w.heap.size [(bo,Obj.cells #[vi 1,vs [97,98],vi 2,vs T] 35 (0,0))]:=⟨hwo,trivial⟩
   refine OwG.two 3 5 _ _ (by kernel_rfl) rfl rfl ?_ ?_
   ·refine Ow.callC rfl rfl Tryz.call16 (fun w' hw'=>xV_ _ [⟨1,[97,98]⟩,⟨2,T⟩] w' (hG.new hw' (hN7.app hNo)) (Kj_ (hw'.has bo (.cells #[vi 1,vs [97,98],vi 2,vs T] 35 (0,0)) (by simp))) (by simp)) (fun B8 v8 D8 hA8 hB8 hN8 hS8=> ?_)
    have hN8':=hN8.mono hB8
    with_reducible refine Ow.nil ?_
    refine⟨(zu_ (fun r hr=>by(try simp only[zg_,List.mem_append]);(first|exact m7 r hr|simp only[m7 r hr,true_or]))), ?_⟩
    simp only[List.set_cons_zero,List.set_cons_succ,zm_,zx_,zy_]
    refine OwG.one 5 _ (by kernel_rfl) rfl ?_
    refine Ow.buildSlice (e:=24) (z5_ y).toArray rfl rfl (xf_ y) fun bi hbi hwi=> ?_
    with_reducible refine Ow.nil ?_
    refine⟨(zu_ (fun r hr=>by(try simp only[zg_,List.mem_append]);(first|exact m7 r hr|simp only[m7 r hr,true_or]))), ?_⟩
    simp only[List.set_cons_zero,List.set_cons_succ,zm_,zx_,zy_]
    have hNi:New w.heap.size [(bi,Obj.cells (z5_ y).toArray 24 (0,0))]:=⟨hwi,trivial⟩
    refine OwG.one 6 _ (by kernel_rfl) rfl ?_
    refine Ow.callC rfl rfl Tryz.call29 (fun w' hw'=>qY_ v8 (qg_ [⟨1,[97,98]⟩,⟨2,T⟩]) _ [y] w' ((hS8.mono (fun p hp=>by simp[hp])).W hw') (Zl_ (hw'.has bi (.cells (z5_ y).toArray 24 (0,0)) (by simp))) (by simp) (Nat.le_trans (xD_ _) (by simp))) (fun B9 v9 D9 hA9 hB9 hN9 hS9=> ?_)
    have hN9':=hN9.mono hB9
    obtain⟨Wf,va,vb,hWf,hqf,-,-,rfl,hga,hgb⟩:=hS9
    obtain⟨hla,hlb⟩:=Zr_ (by rw[hy,htO];exact hWf) hqf
    rw[hla] at hga
    rw[hlb] at hgb
    with_reducible refine Ow.nil ?_
    refine⟨(zu_ (fun r hr=>by(try simp only[zg_,List.mem_append]);(first|exact m7 r hr|simp only[m7 r hr,true_or]))), ?_⟩
    simp only[List.set_cons_zero,List.set_cons_succ,zm_,zx_,zy_]
    refine OwG.rest [7,8,9,10,11] rfl (by kernel_rfl) (by kernel_rfl) ?_
    simp only[zh_, ↓zc_, ↓za_, ↓zk_, ↓zj_,zb_]
    refine kq @jA_ ?_
    subst hL7
    exact CutO.mk ⟨va,vb,G++ [(bo,Obj.cells #[vi 1,vs [97,98],vi 2,vs T] 35 (0,0))]++D8++ [(bi,Obj.cells (z5_ y).toArray 24 (0,0))]++D9⟩ ⟨(((hNg.app hNo).app hN8').app hNi).app hN9',jv_ hga,jv_ hgb⟩ rfl rfl
   ·refine Ow.buildSlice (e:=24) (z5_ y).toArray rfl rfl (xf_ y) fun bi hbi hwi=> ?_
    with_reducible refine Ow.nil ?_
    refine⟨(zu_ (fun r hr=>by(try simp only[zg_,List.mem_append]);(first|exact m7 r hr|simp only[m7 r hr,true_or]))), ?_⟩
    simp only[List.set_cons_zero,List.set_cons_succ,zm_,zx_,zy_]
    have hNi:New w.heap.size [(bi,Obj.cells (z5_ y).toArray 24 (0,0))]:=⟨hwi,trivial⟩
    refine OwG.one 3 _ (by kernel_rfl) rfl ?_
    refine Ow.callC rfl rfl Tryz.call16 (fun w' hw'=>xV_ _ [⟨1,[97,98]⟩,⟨2,T⟩] w' (hG.new hw' ((hN7.app hNo).app hNi)) (Kj_ (hw'.has bo (.cells #[vi 1,vs [97,98],vi 2,vs T] 35 (0,0)) (by simp))) (by simp)) (fun B8 v8 D8 hA8 hB8 hN8 hS8=> ?_)
    have hN8':=hN8.mono hB8
    with_reducible refine Ow.nil ?_
    refine⟨(zu_ (fun r hr=>by(try simp only[zg_,List.mem_append]);(first|exact m7 r hr|simp only[m7 r hr,true_or]))), ?_⟩
    simp only[List.set_cons_zero,List.set_cons_succ,zm_,zx_,zy_]
    refine OwG.one 6 _ (by kernel_rfl) rfl ?_
    refine Ow.callC rfl rfl Tryz.call29 (fun w' hw'=>qY_ v8 (qg_ [⟨1,[97,98]⟩,⟨2,T⟩]) _ [y] w' ((hS8.mono (fun p hp=>by simp[hp])).W hw') (Zl_ (hw'.has bi (.cells (z5_ y).toArray 24 (0,0)) (by simp))) (by simp) (Nat.le_trans (xD_ _) (by simp))) (fun B9 v9 D9 hA9 hB9 hN9 hS9=> ?_)
    have hN9':=hN9.mono hB9
    obtain⟨Wf,va,vb,hWf,hqf,-,-,rfl,hga,hgb⟩:=hS9
    obtain⟨hla,hlb⟩:=Zr_ (by rw[hy,htO];exact hWf) hqf
    rw[hla] at hga
    rw[hlb] at hgb
    with_reducible refine Ow.nil ?_
    refine⟨(zu_ (fun r hr=>by(try simp only[zg_,List.mem_append]);(first|exact m7 r hr|simp only[m7 r hr,true_or]))), ?_⟩
    simp only[List.set_cons_zero,List.set_cons_succ,zm_,zx_,zy_]
    refine OwG.rest [7,8,9,10,11] rfl (by kernel_rfl) (by kernel_rfl) ?_
    simp only[zh_, ↓zc_, ↓za_, ↓zk_, ↓zj_,zb_]
    refine kq @jA_ ?_
    subst hL7
    exact CutO.mk ⟨va,vb,G++ [(bo,Obj.cells #[vi 1,vs [97,98],vi 2,vs T] 35 (0,0))]++ [(bi,Obj.cells (z5_ y).toArray 24 (0,0))]++D8++D9⟩ ⟨(((hNg.app hNo).app hNi).app hN8').app hN9',jv_ hga,jv_ hgb⟩ rfl rfl
  ·refine Ow.buildSlice (e:=24) (z5_ y).toArray rfl rfl (xf_ y) fun bi hbi hwi=> ?_
   with_reducible refine Ow.nil ?_
   refine⟨(zu_ (fun r hr=>by(try simp only[zg_,List.mem_append]);(first|exact m7 r hr|simp only[m7 r hr,true_or]))), ?_⟩
   simp only[List.set_cons_zero,List.set_cons_succ,zm_,zx_,zy_]
   have hNi:New w.heap.size [(bi,Obj.cells (z5_ y).toArray 24 (0,0))]:=⟨hwi,trivial⟩
   refine OwG.one 2 _ (by kernel_rfl) rfl ?_
   refine Ow.buildSlice (e:=35) #[vi 1,vs [97,98],vi 2,vs T] rfl rfl (X8_ 1 2 [97,98] T) fun bo hbo hwo=> ?_
   with_reducible refine Ow.nil ?_
   refine⟨(zu_ (fun r hr=>by(try simp only[zg_,List.mem_append]);(first|exact m7 r hr|simp only[m7 r hr,true_or]))), ?_⟩
   simp only[List.set_cons_zero,List.set_cons_succ,zm_,zx_,zy_]
   have hNo:New w.heap.size [(bo,Obj.cells #[vi 1,vs [97,98],vi 2,vs T] 35 (0,0))]:=⟨hwo,trivial⟩
   refine OwG.one 3 _ (by kernel_rfl) rfl ?_
   refine Ow.callC rfl rfl Tryz.call16 (fun w' hw'=>xV_ _ [⟨1,[97,98]⟩,⟨2,T⟩] w' (hG.new hw' ((hN7.app hNi).app hNo)) (Kj_ (hw'.has bo (.cells #[vi 1,vs [97,98],vi 2,vs T] 35 (0,0)) (by simp))) (by simp)) (fun B8 v8 D8 hA8 hB8 hN8 hS8=> ?_)
   have hN8':=hN8.mono hB8
   with_reducible refine Ow.nil ?_
   refine⟨(zu_ (fun r hr=>by(try simp only[zg_,List.mem_append]);(first|exact m7 r hr|simp only[m7 r hr,true_or]))), ?_⟩
   simp only[List.set_cons_zero,List.set_cons_succ,zm_,zx_,zy_]
   refine OwG.one 6 _ (by kernel_rfl) rfl ?_
   refine Ow.callC rfl rfl Tryz.call29 (fun w' hw'=>qY_ v8 (qg_ [⟨1,[97,98]⟩,⟨2,T⟩]) _ [y] w' ((hS8.mono (fun p hp=>by simp[hp])).W hw') (Zl_ (hw'.has bi (.cells (z5_ y).toArray 24 (0,0)) (by simp))) (by simp) (Nat.le_trans (xD_ _) (by simp))) (fun B9 v9 D9 hA9 hB9 hN9 hS9=> ?_)
   have hN9':=hN9.mono hB9
   obtain⟨Wf,va,vb,hWf,hqf,-,-,rfl,hga,hgb⟩:=hS9
   obtain⟨hla,hlb⟩:=Zr_ (by rw[hy,htO];exact hWf) hqf
   rw[hla] at hga
   rw[hlb] at hgb
   with_reducible refine Ow.nil ?_
   refine⟨(zu_ (fun r hr=>by(try simp only[zg_,List.mem_append]);(first|exact m7 r hr|simp only[m7 r hr,true_or]))), ?_⟩
   simp only[List.set_cons_zero,List.set_cons_succ,zm_,zx_,zy_]
   refine OwG.rest [7,8,9,10,11] rfl (by kernel_rfl) (by kernel_rfl) ?_
   simp only[zh_, ↓zc_, ↓za_, ↓zk_, ↓zj_,zb_]
   refine kq @jA_ ?_
   subst hL7
   exact CutO.mk ⟨va,vb,G++ [(bi,Obj.cells (z5_ y).toArray 24 (0,0))]++ [(bo,Obj.cells #[vi 1,vs [97,98],vi 2,vs T] 35 (0,0))]++D8++D9⟩ ⟨(((hNg.app hNi).app hNo).app hN8').app hN9',jv_ hga,jv_ hgb⟩ rfl rfl
 intro g j hg
 refine kv ?_
 obtain⟨va1,vb1,G1⟩:=g
 simp only at hg ⊢
 obtain⟨hNg1,hl1,hl2⟩:=hg
 refine Cw.cutO (G:=AlG) [44,45,46,47,48,49,50,51,52,11,12] (fun g=> [(11,g.a),(12,g.b)]) (fun g=>(b7, .cells (a8 y.l) 24 (0,0)):: (b5, .cells #[vi 2,vs T] 35 (0,0)):: (b3, .cells (a8 x.l) 24 (0,0)):: (b1, .cells #[vi 1,vs [97,98]] 35 (0,0))::g.G) (fun g=>New w.heap.size g.G∧(∀x,Jj_ (.sl x) g.a=some (vi 1))∧(∀x,Jj_ (.sl x) g.b=some (vi 1))∧RowOne g.G g.b x) ?_ ?_
 ·have hN7:New w.heap.size ((b7, .cells (a8 y.l) 24 (0,0)):: (b5, .cells #[vi 2,vs T] 35 (0,0)):: (b3, .cells (a8 x.l) 24 (0,0)):: (b1, .cells #[vi 1,vs [97,98]] 35 (0,0))::G1):=⟨hw7,hw5,hw3,hw1,hNg1⟩
  have m7: ∀r,r∈ [b5,b7]→r∈keys ((b7, .cells (a8 y.l) 24 (0,0)):: (b5, .cells #[vi 2,vs T] 35 (0,0)):: (b3, .cells (a8 x.l) 24 (0,0)):: (b1, .cells #[vi 1,vs [97,98]] 35 (0,0))::G1):=fun r hr=>by
   simp only[List.mem_cons,List.not_mem_nil,or_false] at hr
   rcases hr with rfl|rfl<;>simp[keys]
  have r5:zq_ w ((b7, .cells (a8 y.l) 24 (0,0)):: (b5, .cells #[vi 2,vs T] 35 (0,0)):: (b3, .cells (a8 x.l) 24 (0,0)):: (b1, .cells #[vi 1,vs [97,98]] 35 (0,0))::G1) b5=some (.cells #[vi 2,vs T] 35 (0,0)):=by rw[zp_ _ _ _ _ _ (by omega)];exact zS_ _ _ _ _
  have r7:zq_ w ((b7, .cells (a8 y.l) 24 (0,0)):: (b5, .cells #[vi 2,vs T] 35 (0,0)):: (b3, .cells (a8 x.l) 24 (0,0)):: (b1, .cells #[vi 1,vs [97,98]] 35 (0,0))::G1) b7=some (.cells (a8 y.l) 24 (0,0)):=zS_ _ _ _ _
  obtain⟨L7,hL7⟩: ∃L7,L7=(b7, .cells (a8 y.l) 24 (0,0)):: (b5, .cells #[vi 2,vs T] 35 (0,0)):: (b3, .cells (a8 x.l) 24 (0,0)):: (b1, .cells #[vi 1,vs [97,98]] 35 (0,0))::G1:=⟨_,rfl⟩
  rw[←hL7] at hN7 m7 r5 r7 ⊢
  refine Cw.regionG [b5,b7] [] 11 (by kernel_rfl) rfl ?_
  simp only[List.replicate_succ,List.replicate_zero]
  refine OwG.run [0,3] [true,false,false,true,false,false,false,false,false,false,false] 9 rfl (by kernel_rfl) (by kernel_rfl) fun k hk=> ?_
  simp only[zh_, ↓zc_, ↓za_, ↓zk_, ↓zj_,zb_]
  simp(disch:=(first|assumption|omega| (simp only[qV_,qS_,UInt64.reduceToNat];try omega))) only[↓Sx.S0,Sx.S1,Tryz.fx,jA_,Nat.reduceAdd,Nat.reducePow,Int.reducePow,Nat.reduceBEq, ↓reduceIte,UInt8.reduceToNat,UInt16.reduceToNat,UInt32.reduceToNat,UInt64.reduceToNat,Int.reduceToNat,Md.next_sofnil,r5,r7]
  (with_reducible refine hk _ _ _ ?_);clear hk k
  refine OwG.two 1 4 _ _ (by kernel_rfl) rfl rfl ?_ ?_
  ·refine Ow.buildSlice (e:=35) #[vi 2,vs T] rfl rfl (WK_ 2 T) fun bo hbo hwo=> ?_
   with_reducible refine Ow.nil ?_
   refine⟨(zu_ (fun r hr=>by(try simp only[zg_,List.mem_append]);(first|exact m7 r hr|simp only[m7 r hr,true_or]))), ?_⟩
   simp only[List.set_cons_zero,List.set_cons_succ,zm_,zx_,zy_]
   have hNo:New w.heap.size [(bo,Obj.cells #[vi 2,vs T] 35 (0,0))]:=⟨hwo,trivial⟩
   refine OwG.two 2 4 _ _ (by kernel_rfl) rfl rfl ?_ ?_
   ·refine Ow.callC rfl rfl Tryz.call16 (fun w' hw'=>xV_ _ [⟨2,T⟩] w' (hG.new hw' (hN7.app hNo)) (Kr_ (hw'.has bo (.cells #[vi 2,vs T] 35 (0,0)) (by simp))) (by simp)) (fun B8 v8 D8 hA8 hB8 hN8 hS8=> ?_)
    have hN8':=hN8.mono hB8
    with_reducible refine Ow.nil ?_
    refine⟨(zu_ (fun r hr=>by(try simp only[zg_,List.mem_append]);(first|exact m7 r hr|simp only[m7 r hr,true_or]))), ?_⟩
    simp only[List.set_cons_zero,List.set_cons_succ,zm_,zx_,zy_]
    refine OwG.one 4 _ (by kernel_rfl) rfl ?_
    refine Ow.buildSlice (e:=24) (z5_ y).toArray rfl rfl (xf_ y) fun bi hbi hwi=> ?_
    with_reducible refine Ow.nil ?_
    refine⟨(zu_ (fun r hr=>by(try simp only[zg_,List.mem_append]);(first|exact m7 r hr|simp only[m7 r hr,true_or]))), ?_⟩
    simp only[List.set_cons_zero,List.set_cons_succ,zm_,zx_,zy_]
    have hNi:New w.heap.size [(bi,Obj.cells (z5_ y).toArray 24 (0,0))]:=⟨hwi,trivial⟩
    refine OwG.one 5 _ (by kernel_rfl) rfl ?_
    refine Ow.callC rfl rfl Tryz.call29 (fun w' hw'=>qY_ v8 (qg_ [⟨2,T⟩]) _ [y] w' ((hS8.mono (fun p hp=>by simp[hp])).W hw') (Zl_ (hw'.has bi (.cells (z5_ y).toArray 24 (0,0)) (by simp))) (by simp) (Nat.le_trans (xD_ _) (by simp))) (fun B9 v9 D9 hA9 hB9 hN9 hS9=> ?_)
    have hN9':=hN9.mono hB9
    obtain⟨Wf,va,vb,hWf,hqf,-,-,rfl,hga,hgb⟩:=hS9
    obtain⟨hla,hlb⟩:=Zq_ (by rw[hy,htO];exact hWf) hqf
    rw[hla] at hga
    rw[hlb] at hgb
    with_reducible refine Ow.nil ?_
    refine⟨(zu_ (fun r hr=>by(try simp only[zg_,List.mem_append]);(first|exact m7 r hr|simp only[m7 r hr,true_or]))), ?_⟩
    simp only[List.set_cons_zero,List.set_cons_succ,zm_,zx_,zy_]
    refine OwG.rest [6,7,8,9,10] rfl (by kernel_rfl) (by kernel_rfl) ?_
    simp only[zh_, ↓zc_, ↓za_, ↓zk_, ↓zj_,zb_]
    refine kq @jA_ ?_
    subst hL7
    exact CutO.mk ⟨va,vb,G1++ [(bo,Obj.cells #[vi 2,vs T] 35 (0,0))]++D8++ [(bi,Obj.cells (z5_ y).toArray 24 (0,0))]++D9⟩ ⟨(((hNg1.app hNo).app hN8').app hNi).app hN9',jv_ hga,jv_ hgb,(abb_ hgb rfl (by simp[hx])).mono (fun p hp=>by simp[hp])⟩ rfl rfl
   ·refine Ow.buildSlice (e:=24) (z5_ y).toArray rfl rfl (xf_ y) fun bi hbi hwi=> ?_
    with_reducible refine Ow.nil ?_
    refine⟨(zu_ (fun r hr=>by(try simp only[zg_,List.mem_append]);(first|exact m7 r hr|simp only[m7 r hr,true_or]))), ?_⟩
    simp only[List.set_cons_zero,List.set_cons_succ,zm_,zx_,zy_]
    have hNi:New w.heap.size [(bi,Obj.cells (z5_ y).toArray 24 (0,0))]:=⟨hwi,trivial⟩
    refine OwG.one 2 _ (by kernel_rfl) rfl ?_
    refine Ow.callC rfl rfl Tryz.call16 (fun w' hw'=>xV_ _ [⟨2,T⟩] w' (hG.new hw' ((hN7.app hNo).app hNi)) (Kr_ (hw'.has bo (.cells #[vi 2,vs T] 35 (0,0)) (by simp))) (by simp)) (fun B8 v8 D8 hA8 hB8 hN8 hS8=> ?_)
    have hN8':=hN8.mono hB8
    with_reducible refine Ow.nil ?_
    refine⟨(zu_ (fun r hr=>by(try simp only[zg_,List.mem_append]);(first|exact m7 r hr|simp only[m7 r hr,true_or]))), ?_⟩
    simp only[List.set_cons_zero,List.set_cons_succ,zm_,zx_,zy_]
    refine OwG.one 5 _ (by kernel_rfl) rfl ?_
    refine Ow.callC rfl rfl Tryz.call29 (fun w' hw'=>qY_ v8 (qg_ [⟨2,T⟩]) _ [y] w' ((hS8.mono (fun p hp=>by simp[hp])).W hw') (Zl_ (hw'.has bi (.cells (z5_ y).toArray 24 (0,0)) (by simp))) (by simp) (Nat.le_trans (xD_ _) (by simp))) (fun B9 v9 D9 hA9 hB9 hN9 hS9=> ?_)
    have hN9':=hN9.mono hB9
    obtain⟨Wf,va,vb,hWf,hqf,-,-,rfl,hga,hgb⟩:=hS9
    obtain⟨hla,hlb⟩:=Zq_ (by rw[hy,htO];exact hWf) hqf
    rw[hla] at hga
    rw[hlb] at hgb
    with_reducible refine Ow.nil ?_
    refine⟨(zu_ (fun r hr=>by(try simp only[zg_,List.mem_append]);(first|exact m7 r hr|simp only[m7 r hr,true_or]))), ?_⟩
    simp only[List.set_cons_zero,List.set_cons_succ,zm_,zx_,zy_]
    refine OwG.rest [6,7,8,9,10] rfl (by kernel_rfl) (by kernel_rfl) ?_
    simp only[zh_, ↓zc_, ↓za_, ↓zk_, ↓zj_,zb_]
    refine kq @jA_ ?_
    subst hL7
    exact CutO.mk ⟨va,vb,G1++ [(bo,Obj.cells #[vi 2,vs T] 35 (0,0))]++ [(bi,Obj.cells (z5_ y).toArray 24 (0,0))]++D8++D9⟩ ⟨(((hNg1.app hNo).app hNi).app hN8').app hN9',jv_ hga,jv_ hgb,(abb_ hgb rfl (by simp[hx])).mono (fun p hp=>by simp[hp])⟩ rfl rfl
  ·refine Ow.buildSlice (e:=24) (z5_ y).toArray rfl rfl (xf_ y) fun bi hbi hwi=> ?_
   with_reducible refine Ow.nil ?_
   refine⟨(zu_ (fun r hr=>by(try simp only[zg_,List.mem_append]);(first|exact m7 r hr|simp only[m7 r hr,true_or]))), ?_⟩
   simp only[List.set_cons_zero,List.set_cons_succ,zm_,zx_,zy_]
   have hNi:New w.heap.size [(bi,Obj.cells (z5_ y).toArray 24 (0,0))]:=⟨hwi,trivial⟩
   refine OwG.one 1 _ (by kernel_rfl) rfl ?_
   refine Ow.buildSlice (e:=35) #[vi 2,vs T] rfl rfl (WK_ 2 T) fun bo hbo hwo=> ?_
   with_reducible refine Ow.nil ?_
   refine⟨(zu_ (fun r hr=>by(try simp only[zg_,List.mem_append]);(first|exact m7 r hr|simp only[m7 r hr,true_or]))), ?_⟩
   simp only[List.set_cons_zero,List.set_cons_succ,zm_,zx_,zy_]
   have hNo:New w.heap.size [(bo,Obj.cells #[vi 2,vs T] 35 (0,0))]:=⟨hwo,trivial⟩
   refine OwG.one 2 _ (by kernel_rfl) rfl ?_
   refine Ow.callC rfl rfl Tryz.call16 (fun w' hw'=>xV_ _ [⟨2,T⟩] w' (hG.new hw' ((hN7.app hNi).app hNo)) (Kr_ (hw'.has bo (.cells #[vi 2,vs T] 35 (0,0)) (by simp))) (by simp)) (fun B8 v8 D8 hA8 hB8 hN8 hS8=> ?_)
   have hN8':=hN8.mono hB8
   with_reducible refine Ow.nil ?_
   refine⟨(zu_ (fun r hr=>by(try simp only[zg_,List.mem_append]);(first|exact m7 r hr|simp only[m7 r hr,true_or]))), ?_⟩
   simp only[List.set_cons_zero,List.set_cons_succ,zm_,zx_,zy_]
   refine OwG.one 5 _ (by kernel_rfl) rfl ?_
   refine Ow.callC rfl rfl Tryz.call29 (fun w' hw'=>qY_ v8 (qg_ [⟨2,T⟩]) _ [y] w' ((hS8.mono (fun p hp=>by simp[hp])).W hw') (Zl_ (hw'.has bi (.cells (z5_ y).toArray 24 (0,0)) (by simp))) (by simp) (Nat.le_trans (xD_ _) (by simp))) (fun B9 v9 D9 hA9 hB9 hN9 hS9=> ?_)
   have hN9':=hN9.mono hB9
   obtain⟨Wf,va,vb,hWf,hqf,-,-,rfl,hga,hgb⟩:=hS9
   obtain⟨hla,hlb⟩:=Zq_ (by rw[hy,htO];exact hWf) hqf
   rw[hla] at hga
   rw[hlb] at hgb
   with_reducible refine Ow.nil ?_
   refine⟨(zu_ (fun r hr=>by(try simp only[zg_,List.mem_append]);(first|exact m7 r hr|simp only[m7 r hr,true_or]))), ?_⟩
   simp only[List.set_cons_zero,List.set_cons_succ,zm_,zx_,zy_]
   refine OwG.rest [6,7,8,9,10] rfl (by kernel_rfl) (by kernel_rfl) ?_
   simp only[zh_, ↓zc_, ↓za_, ↓zk_, ↓zj_,zb_]
   refine kq @jA_ ?_
   subst hL7
   exact CutO.mk ⟨va,vb,G1++ [(bi,Obj.cells (z5_ y).toArray 24 (0,0))]++ [(bo,Obj.cells #[vi 2,vs T] 35 (0,0))]++D8++D9⟩ ⟨(((hNg1.app hNi).app hNo).app hN8').app hN9',jv_ hga,jv_ hgb,(abb_ hgb rfl (by simp[hx])).mono (fun p hp=>by simp[hp])⟩ rfl rfl
 intro g j hg
 refine kv ?_
 obtain⟨va2,vb2,G2⟩:=g
 simp only at hg ⊢
 obtain⟨hNg2,hl3,hl4,bb,off,arr,E,hbm,hbi,hbl⟩:=hg
 refine Cw.world fun wz hwz=> ?_
 have hnd:=hwz.nodup
 clear hwz wz
 have rbb:zq_ w ((b7, .cells (a8 y.l) 24 (0,0)):: (b5, .cells #[vi 2,vs T] 35 (0,0)):: (b3, .cells (a8 x.l) 24 (0,0)):: (b1, .cells #[vi 1,vs [97,98]] 35 (0,0))::G2) bb=some (.cells arr E (0,0)):=Wm_ hnd (by simp[hbm])
 have r3:zq_ w ((b7, .cells (a8 y.l) 24 (0,0)):: (b5, .cells #[vi 2,vs T] 35 (0,0)):: (b3, .cells (a8 x.l) 24 (0,0)):: (b1, .cells #[vi 1,vs [97,98]] 35 (0,0))::G2) b3=some (.cells (a8 x.l) 24 (0,0)):=Wm_ hnd (by simp)
 first|with_reducible refine ks [] @jA_ ?_|refine kp @jA_ ?_
 refine Cw.regionS [b3,bb] [0,1,2,3,4,5,6,7,8,9,10,11,12,13,14,15,16,17,18,19,20,21,22,23,24,25] [] (by kernel_rfl) (by kernel_rfl) (by kernel_rfl) ?_
 simp only[zh_, ↓zc_, ↓za_, ↓zk_, ↓zj_,zb_]
 refine kq (And.intro @jA_ (And.intro @hl1 (And.intro @hl2 (And.intro @hl3 (And.intro @hl4 (And.intro @hbi (And.intro @hbl (And.intro @rbb (@r3))))))))) ?_
 refine⟨_,(ke @jA_),⟨hw7,hw5,hw3,hw1,hNg2⟩, ?_⟩
 rfl
end Go.Proofs
end
section
open Go Go.Proofs Go.Sx Go.StP Go.RooP
namespace Go.Proofs
set_option maxRecDepth 10000
set_option maxHeartbeats 400000
set_option linter.unusedSimpArgs false
theorem x7_ {D:ze_} {v:Value} {l:List IdL} {w:World} (h:GrI D 24 32 v l.length (l.map z5_).flatten) (hD: ∀b o,(b,o)∈D→w.heap[b]? =some o):SlV 32 z5_ id0 w v l:=by
 obtain⟨X,hX,h⟩:=h
 exact h.slM (fun b o hm=>hD b o (hX _ hm)) rfl rfl js_
theorem air_ {D:ze_} {v:Value} {l:List ObK} {w:World} (h:GrI D 35 2 v l.length (l.map x4_).flatten) (hD: ∀b o,(b,o)∈D→w.heap[b]? =some o):SlV 2 x4_ jD_ w v l:=by
 obtain⟨X,hX,h⟩:=h
 exact h.slM (fun b o hm=>hD b o (hX _ hm)) rfl rfl wB_
set_option linter.defProp false
end Go.Proofs
end
namespace Go.Sx
open Go Go.ChangeShapes Go.WideShapes Go.RowKit
theorem Hp.same0 {W W':World} (h:Hp W [] W') {b:Nat} (hb:b<W.heap.size):W'.heap[b]? =W.heap[b]? :=h.old b hb (fun hm=>by cases hm)
theorem Hp.kept {W W':World} (h:Hp W [] W') (may:MemPlace→Prop):W.keptBut W' may:=by
 refine⟨h.os,h.output,fun i hi=> ?_⟩
 rw[h.same0 hi]
 cases ho:W.heap[i]? with
 |none=>rfl
 |some o=>
  cases o<;>first
   |exact⟨rfl,rfl,rfl,fun _ _=>rfl⟩
   |exact .inr ⟨rfl,rfl⟩
   |rfl
theorem Hp.sameAt {W W':World} (h:Hp W [] W') {p:MemPlace} (hp:p.block<W.heap.size):W.sameAt W' p:=by
 cases p with
 |cell b off=>
  have:=h.same0 (b:=b) hp
  simp only[World.sameAt,World.cell?,this]
 |map b=>exact h.same0 hp
theorem Hp.frozen {W W':World} (h:Hp W [] W') {a:Addr} (ha:a.block<W.heap.size):W'.frozen? a=W.frozen? a:=by
 simp only[World.frozen?,h.same0 ha]
section
variable {H:Type} {enc:TypeId×Value→H} {P:Program}
theorem w9_ (hl:laidOutB P=true) {W W':World} {sp:Nat→Bool} (hp:Hp W [] W'): ∀ {ts:List TypeId} {vs:List Value} {ds:List (DataW H)} {ps:List MemPlace},
  (∀t∈ts,P.readableRec t=true∧t<P.types.size)→(∀p∈ps,p.block<W.heap.size)→(∀p∈ps,sp p.block=true)→
  DataW.TrodAll enc P W 0 (fun _=>true) true ts vs ds ps→DataW.TrodAll enc P W' 0 sp true ts vs ds ps
 | [],_,_,_,_,_,_,h=>by
  obtain⟨rfl,rfl,rfl⟩:=trodAll_nil h
  exact trodAll_mk0
 |t::ts,_,_,_,ht,hlt,hs,h=>by
  obtain⟨v,vs,d,ds,p,q,rfl,rfl,rfl,h1,h2⟩:=trodAll_cons h
  have hlt1: ∀x∈p,x.block<W.heap.size:=fun x hx=>hlt x (List.mem_append_left _ hx)
  exact trodAll_cons_mk (WideElems.Trod_stays hl (ht t List.mem_cons_self).1 (ht t List.mem_cons_self).2 h1 (fun x hx=>hp.sameAt (hlt1 x hx)) (fun x hx=>hs x (List.mem_append_left _ hx)))
   (w9_ hl hp (fun u hu=>ht u (List.mem_cons_of_mem _ hu)) (fun x hx=>hlt x (List.mem_append_right _ hx)) (fun x hx=>hs x (List.mem_append_right _ hx)) h2)
theorem Wu_ {f:Func} {s:ChangeSpec} {W W':World} {args:Array Value} {ds gs:List (DataW H)} {before:List MemPlace} {tb:TypeId} (hl:laidOutB P=true)
  (hW:DataW.Whole enc P f.params.toList s.vars false W args.toList ds gs before) (hv:s.vars= []) (hpar: ∀t∈f.params.toList,P.readableRec t=true∧t<P.types.size)
  (hr:f.resultTypes= #[tb]) (htb:P.underlying tb=some .bool) (hfn:s.fn H ds={results:= [.lit (.bool true)],args:=ds}) (hp:Hp W [] W'):
  s.post enc P f false true false false W args (.bool true) W':=by
 have hlt:=hW.lt
 have hW0:=hW
 obtain⟨p,q,hA,hV,rfl,hz,hn⟩:=hW
 rw[hv] at hV
 obtain⟨rfl,rfl⟩:=trodVars_none hV
 rw[List.append_nil] at hW0 hlt hz
 have hargs: ∀sp:Nat→Bool,(∀x∈p,sp x.block=true)→DataW.TrodAll enc P W' 0 sp true f.params.toList args.toList (s.fn H (ds++ [])).args p:=fun sp hs=>by
  rw[List.append_nil,hfn]
  exact w9_ hl hp hpar hlt hs hA
 have hvars: ∀sp:Nat→Bool,DataW.TrodVars enc P W' sp s.vars (s.fn H (ds++ [])).vars []:=fun sp=>by
  rw[List.append_nil,hfn,hv];rfl
 have hres: ∀ (b:Nat) (sp:Nat→Bool) (hd:Bool),DataW.TrodAll enc P W' b sp hd f.resultTypes.toList ((Value.bool true).resultList f.resultTypes.size) (s.fn H (ds++ [])).results []:=fun b sp hd=>by
  rw[List.append_nil,hfn,hr]
  exact trodAll_cons_mk (shut_bool htb true) trodAll_mk0
 have hold: ∀x∈p,(fun b=>decide (b<W.heap.size)) x.block=true:=fun x hx=>by simpa using hlt x hx
 refine⟨ds,[],p,[],p,[],hW0,hres _ _ _,hargs _ hold,hvars _,hp.kept _,fun _=> ?_⟩
 refine⟨ok_one hr rfl (okWide_bool_mk htb true),_,_,([]++p)++ [],⟨[]++p,[],trodAll_append (hargs _ (fun _ _=>rfl)) (hres _ _ _),hvars _,rfl, ?_,fun h=>by cases h⟩, ?_⟩
 ·intro b off hx
  have hx':MemPlace.cell b off∈p:=by simpa using hx
  rw[hp.frozen (hlt _ hx')]
  exact hz b off hx'
 ·intro x hx _
  simpa using hx
end
section
variable {P:Program} {W:World} {name:String} {k:IntKind} {zs:List Int}
theorem xH_ {t e:TypeId} {g n:Nat} (hg:P.globalNamed name=some g) (hty: (P.globals[g]?).map (·.type)=some t) (ht:P.underlying t=some (.array n e)) (he:P.underlying e=some (.int k)) (hce:P.cellsOf e=1) (hct:P.cellsOf t=n):
  ∀ {laid:List (String×DataW Unit)} {ps:List MemPlace},DataW.LaidVars P W laid ps→(name,Lib.tabData k zs)∈laid→Lib.TabIs P W name k zs
 | [],_,_,hm=>by cases hm
 | (n',d')::rest,ps,h,hm=>by
  obtain⟨g',t',cs,fuel,p,q,hg',ht',hvar,hd,hr,-⟩:=h
  rcases List.mem_cons.1 hm with hm|hm
  ·cases hm
   obtain rfl:=Option.some.inj (hg.symm.trans hg')
   obtain rfl:=Option.some.inj (hty.symm.trans ht')
   unfold Lib.TabIs
   rw[hvar,←Lib.cells_of_tab ht he hce hct hd]
  ·exact xH_ hg hty ht he hce hct hr hm
theorem ku_ {g:Nat} (hg:P.globalNamed name=some g) (h:Lib.TabIs P W name k zs): ∃e f,W.heap[g]? =some (.cells (zs.map fun z=>Value.int k z).toArray e f):=by
 unfold Lib.TabIs at h
 simp only[World.var?,hg,Option.bind_some] at h
 split at h
 ·rename_i cs e f hb
  cases h
  exact⟨e,f,hb⟩
 ·cases h
end
section
variable {H:Type} {enc:TypeId×Value→H} {P:Program}
end
end Go.Sx
namespace Go.Sx
open Go
section
variable {P:Program}
theorem ah1_ {fits:TypeId→Bool} {d:Nat} {e:TypeId} {count off n:Nat} (h:rowAt P fits d e count off n=true):off≤count*P.cellsOf e:=by
 cases d with
 |zero=>simp[rowAt] at h
 |succ d=>
  unfold rowAt at h
  simp only at h
  split at h
  ·cases h
  ·rename_i hs
   have hs':0<P.cellsOf e:=Nat.pos_of_ne_zero hs
   have hd:=Nat.div_add_mod off (P.cellsOf e)
   have hm:=Nat.mod_lt off hs'
   rw[Bool.or_eq_true] at h
   rcases h with h|h
   ·simp only[Bool.and_eq_true,beq_iff_eq,decide_eq_true_eq] at h
    have:off / P.cellsOf e*P.cellsOf e≤count*P.cellsOf e:=Nat.mul_le_mul_right _ (by omega)
    rw[Nat.mul_comm (P.cellsOf e)] at hd
    omega
   ·simp only[Bool.and_eq_true,decide_eq_true_eq] at h
    have: (off / P.cellsOf e+1)*P.cellsOf e≤count*P.cellsOf e:=Nat.mul_le_mul_right _ (by omega)
    rw[Nat.add_mul,Nat.one_mul] at this
    rw[Nat.mul_comm (P.cellsOf e)] at hd
    omega
theorem WP_ {e:TypeId} {count off:Nat}: ∀ {d:Nat} {u:TypeId} {n:Nat},liesAt P d e count off u n=true→off≤count*P.cellsOf e
 |0,u,n,h=>by simp[liesAt] at h
 |d+1,u,n,h=>by
  unfold liesAt at h
  rw[Bool.or_eq_true] at h
  rcases h with h|h
  ·exact ah1_ h
  ·split at h
   ·exact WP_ h
   ·cases h
theorem alT_ {W:World} {r:Reach} {base:Nat} {a:Addr} {e:TypeId} {n:Nat} (h:W.has P r base a e n):a.spot=none∧ ∃arr E fz,W.heap[a.block]? =some (.cells arr E fz)∧a.off≤arr.size:=by
 obtain⟨-,hs,row,cells,hsh,hl⟩:=h
 refine⟨hs, ?_⟩
 unfold World.shape? at hsh
 split at hsh
 ·rename_i c el fz hh
  cases hsh
  refine⟨c,_,fz,hh,Nat.le_trans (WP_ hl) ?_⟩
  exact Nat.div_mul_le_self _ _
 ·cases hsh
theorem aga_ {W:World} {r:Reach} {base:Nat} {t e:TypeId} {v:Value} (ht:P.underlying t=some (.slice e)) (h:Value.okWide P W r base t v):
  v= .slice none 0 0∨ ∃b off len cap arr E fz,v=vsl b off len cap∧len≤cap∧W.heap[b]? =some (.cells arr E fz)∧off≤arr.size:=by
 obtain⟨a,len,cap,rfl⟩:=Go.WideShapes.okWide_slice ht h
 unfold Value.okWide at h
 rw[ht] at h
 unfold Cell.okWide at h
 rw[ht] at h
 simp only at h
 unfold Cell.ok at h
 rw[ht] at h
 cases a with
 |none=>
  left
  simp only at h
  split at h
  all_goals first| (cases h;done) |simp_all
 |some a=>
  right
  simp only at h
  obtain⟨hle,-,hh⟩:=h
  obtain⟨hs,arr,E,fz,hb,ho⟩:=alT_ hh
  obtain⟨b,off,sp⟩:=a
  simp only at hs
  subst hs
  exact⟨b,off,len,cap,arr,E,fz,rfl,hle,hb,ho⟩
theorem ami_ {α:Type} {enc:α→List Value} {z:α} {m:Nat} {W:World} {base b off c:Nat} {l:List α} {arr:Array Value} {E:TypeId} {fz:Nat×Nat} (hm0:0<m) (hm: ∀x,(enc x).length=m)
  (hcells: ∀i,i<l.length→W.cells? base ((Addr.mk b off none).add (i*m)) m=some (enc (l.getD i z))) (hheap:W.heap[b]? =some (.cells arr E fz)) (hoff:off≤arr.size) (hc:l.length≤c):SlV m enc z W (vsl b off l.length c) l:=by
 have get: ∀k,k<l.length→ ∀j,j<m→arr[off+k*m+j]? =(enc (l.getD k z))[j]? :=by
  intro k hk j hj
  obtain⟨-,hl,hg⟩:=World.cells?_some (hcells k hk)
  have:=hg j (by omega)
  rw[qs_,qs_] at this
  simp only[World.cell?,hheap,Option.isSome_none,Bool.false_eq_true,if_false] at this
  exact this
 refine SlV.sl hheap get hc ?_
 by_cases h0:l.length=0
 ·rw[h0];omega
 ·have h1:=get (l.length - 1) (by omega) (m - 1) (by omega)
  rw[List.getElem?_eq_getElem (by rw[hm];omega)] at h1
  have h2:=(Array.getElem?_eq_some_iff.1 h1).1
  have h3: (l.length - 1)*m+m=l.length*m:=by
   rw[←Nat.succ_mul];congr 1;omega
  omega
theorem adr_ {H:Type} {tell:TypeId×Value→H} {α:Type} {enc:α→List Value} {z:α} {m:Nat} {W:World} {r:Reach} {base b0:Nat} {sp:Nat→Bool} {held:Bool} {fuel:Nat} {t e:TypeId} {v:Value} {x:DataW H×List MemPlace}
  (ht:P.underlying t=some (.slice e)) (he:P.cellsOf e=m) (hm0:0<m) (hm: ∀x,(enc x).length=m) (hval:Value.okWide P W r b0 t v)
  (hdec: ∀n cs y,DataW.trod tell P W base sp held n e cs=some y→ ∃a,cs=enc a) (hd:DataW.trod tell P W base sp held fuel t [v]=some x): ∃l,SlV m enc z W v l:=by
 rcases DataW.trod_slice ht hd with⟨hcs,-⟩ | ⟨a,len,cap,elems,rest,n,-,hcs,-,-,hl,-,hlen,hel,-,-⟩
 ·simp only[List.cons.injEq,and_true] at hcs
  subst hcs
  exact⟨[],SlV.nil W⟩
 ·simp only[List.cons.injEq,and_true] at hcs
  subst hcs
  rcases aga_ ht hval with h0| ⟨b,off,len',cap',arr,E,fz,h1,-,hb,ho⟩
  ·cases h0
  ·unfold vsl at h1
   cases h1
   rw[he] at hel
   have hex: ∀i,i<len→ ∃q,W.cells? base ((Addr.mk b off none).add (i*m)) m=some (enc q):=by
    intro i hi
    have h2:=hel i hi
    rw[List.getElem?_eq_getElem (by omega)] at h2
    cases hc:W.cells? base ((Addr.mk b off none).add (i*m)) m with
    |none=>rw[hc] at h2;cases h2
    |some cs=>
     rw[hc] at h2
     obtain⟨q,rfl⟩:=hdec _ _ _ h2
     exact⟨q,rfl⟩
   obtain⟨f,hf⟩: ∃f:Nat→α,∀i,i<len→W.cells? base ((Addr.mk b off none).add (i*m)) m=some (enc (f i)):=by
    classical
    refine⟨fun i=>if h:i<len then Classical.choose (hex i h) else z,fun i hi=> ?_⟩
    simp only[dif_pos hi]
    exact Classical.choose_spec (hex i hi)
   have hll: ((List.range len).map f).length=len:=by simp
   refine⟨(List.range len).map f, ?_⟩
   have:=ami_ (W:=W) (base:=base) (b:=b) (off:=off) (c:=cap) (l:=(List.range len).map f) (z:=z) hm0 hm (fun i hi=>by
    rw[hll] at hi
    rw[hf i hi]
    congr 2
    rw[List.getD_eq_getElem?_getD,List.getElem?_map,List.getElem?_range hi];rfl) hb ho (by rw[hll];exact hl)
   rw[hll] at this
   exact this
end
end Go.Sx
section
open Go Go.Proofs Go.Sx Go.StP Go.ChangeShapes
namespace Go.Proofs
set_option maxRecDepth 10000
set_option maxHeartbeats 1000000
set_option linter.unusedSimpArgs false
theorem acQ_ {H:Type} {tell:TypeId×Value→H} {W:World} {base:Nat} {sp:Nat→Bool} {held:Bool} {n:Nat} {cs:List Value} {y:DataW H×List MemPlace}
  (h:DataW.trod tell Tryz.prog W base sp held n 24 cs=some y): ∃i:IdL,cs=i.l.map v8:=by
 obtain⟨xs,m,-,-,hlen,hxl,hel⟩:=DataW.trod_array Tryz.underlying24 h
 have hc: (Tryz.prog).cellsOf 24=32:=by kernel_rfl
 have h1: (Tryz.prog).cellsOf 5=1:=by kernel_rfl
 rw[hc] at hlen
 rw[h1] at hel
 have hex: ∀i (hi:i<cs.length),∃x:UInt8,cs[i]=v8 x:=by
  intro i hi
  have h2:=hel i (by omega)
  rw[List.getElem?_eq_getElem (by omega),Nat.mul_one,List.drop_eq_getElem_cons hi,List.take_succ_cons,List.take_zero] at h2
  obtain⟨z,hz,-,hw⟩:=DataW.trod_int Tryz.underlying5 h2
  simp only[List.cons.injEq,and_true] at hz
  rw[hz]
  simp only[Lit.wf,Bool.and_eq_true,decide_eq_true_eq] at hw
  have hw1:0≤z:=by simpa [IntKind.min,IntKind.bits,IntKind.signed] using hw.1
  have hw2:z≤255:=by simpa [IntKind.max,IntKind.bits,IntKind.signed] using hw.2
  refine⟨UInt8.ofNat z.toNat, ?_⟩
  unfold v8
  rw[UInt8.toNat_ofNat',Nat.mod_eq_of_lt (by omega)]
  congr 1;omega
 have hl: ∃l:List UInt8,cs=l.map v8:=by
  clear hel hlen hxl h
  induction cs with
  |nil=>exact⟨[],rfl⟩
  |cons c r ih=>
   obtain⟨x,hx⟩:=hex 0 (by simp)
   obtain⟨l,hl⟩:=ih (fun i hi=>by have:=hex (i+1) (by simpa using hi);simpa using this)
   exact⟨x::l,by rw[hl];simp at hx;simp[hx]⟩
 obtain⟨l,rfl⟩:=hl
 exact⟨⟨l,by simpa using hlen⟩,rfl⟩
theorem aix_ {H:Type} {tell:TypeId×Value→H} {W:World} {r:Reach} {base b0:Nat} {sp:Nat→Bool} {held:Bool} {fuel:Nat} {v:Value} {x:DataW H×List MemPlace}
  (hval:Value.okWide Tryz.prog W r b0 24 v) (hd:DataW.trod tell Tryz.prog W base sp held fuel 24 v.cells.toList=some x): ∃i:IdL,v= .agg (a8 i.l):=by
 unfold Value.okWide at hval
 rw[Tryz.underlying24] at hval
 obtain⟨cs,rfl,-⟩:=hval
 rw[zd_] at hd
 obtain⟨i,hi⟩:=acQ_ hd
 refine⟨i, ?_⟩
 congr 1
 exact Array.toList_inj.1 (by rw[hi];rfl)
theorem akc_ {H:Type} {tell:TypeId×Value→H} {W:World} {base:Nat} {sp:Nat→Bool} {held:Bool} (n:Nat) (cs:List Value) (y:DataW H×List MemPlace)
  (h:DataW.trod tell Tryz.prog W base sp held n 35 cs=some y): ∃o:ObK,cs=x4_ o:=by
 have hc: (Tryz.prog).cellsOf 35=2:=by kernel_rfl
 have hc3: (Tryz.prog).cellsOf 3=1:=by kernel_rfl
 have hcT: (Tryz.prog).cellsOf 9=1:=by kernel_rfl
 obtain⟨y0,y1,n',-,hlen,h0,h1⟩:=ChangeShapes.trod_struct2 Tryz.underlying35 h
 simp only at h0 h1 hlen
 rw[hc3,List.drop_zero] at h0
 rw[hcT] at h1
 rw[hc] at hlen
 obtain⟨z,hz,-,-⟩:=DataW.trod_int Tryz.underlying3 h0
 obtain⟨s,hs2,-,-⟩:=DataW.trod_string Tryz.underlying9 h1
 have hd:cs=cs.take 1++ (cs.drop 1).take 1:=by
  rw[show(cs.drop 1).take 1=cs.drop 1 from List.take_of_length_le (by rw[List.length_drop];omega),List.take_append_drop]
 rw[hz,hs2] at hd
 exact⟨⟨z,s.data.toList⟩,by rw[hd];rfl⟩
theorem Wb_ {H:Type} {enc:TypeId×Value→H} {W:World} {r:Reach} {b0 base:Nat} {sp:Nat→Bool} {held:Bool} {v:Value} {d:DataW H} {p:List MemPlace}
  (hval:Value.okWide Tryz.prog W r b0 22 v) (hd:DataW.Trod enc Tryz.prog W base sp held 22 v d p): ∃l,SlV 2 x4_ jD_ W v l:=by
 obtain⟨a0,len,cap,rfl⟩:=WideShapes.okWide_slice Tryz.underlying22 hval
 obtain⟨fu,hf⟩:=hd
 exact adr_ (z:=jD_) Tryz.underlying22 (by kernel_rfl) (by decide) wB_ hval akc_ hf
theorem ahY_ {H:Type} {enc:TypeId×Value→H} {W:World} {r:Reach} {b0 base:Nat} {sp:Nat→Bool} {held:Bool} {v:Value} {d:DataW H} {p:List MemPlace}
  (hval:Value.okWide Tryz.prog W r b0 30 v) (hd:DataW.Trod enc Tryz.prog W base sp held 30 v d p): ∃l,SlV 32 z5_ id0 W v l:=by
 obtain⟨a0,len,cap,rfl⟩:=WideShapes.okWide_slice Tryz.underlying30 hval
 obtain⟨fu,hf⟩:=hd
 exact adr_ (z:=id0) Tryz.underlying30 (by kernel_rfl) (by decide) xK_ hval (fun n cs y h=>by obtain⟨i,hi⟩:=acQ_ h;exact⟨i,hi⟩) hf
end Go.Proofs
end
section
open Go Go.Proofs Go.Sx Go.StP Go.RooP
namespace Go.Proofs
set_option maxRecDepth 10000
set_option maxHeartbeats 400000
set_option linter.unusedSimpArgs false
theorem aer_ (P:Program) (w0:World) (f:Fr) (L:ze_) (st:Bool) (md:Md) (d:Option Tmp) (ty:TypeId) (ps:String) (af:Array Edge) (g:Option (Nat×Bool)) (go:Fr→ze_→Prop) (stop:Prop) (x:Operand) (n:String) (a:Array Operand) (t:Array TypeId):vcB P w0 st md ⟨d, .call ⟨.invoke x n,a,t⟩,ty,ps,af,g⟩ f L go stop=stop:=(rfl)
theorem amO_ (a b:Bool):q7_ Tryz.prog .neq 4 (.bool a) (.bool b)=some (.bool (a !=b)):=by
 cases a<;>cases b<;>simp[q7_,eqX,qZ_,jf_,Tryz.underlying4]
section
variable {P:Program} {w0:World} {f:Fr} {L:ze_} {N:Fr→ze_→Prop} {ops:Array Oper} {rest:List Oper}
 {d:Option Tmp} {ty:TypeId} {ps:String} {af:Array Edge} {g:Option (Nat×Bool)}
theorem _root_.Go.Sx.Ow.nilMeth {x:Operand} {name:String} {t:TypeId} {u:Value} {cap:Array Value} (hs:zn_ ops f ⟨d, .nilCheck x,ty,ps,af,g⟩=false) (hx:ev f x= .func (.method name) #[.iface t u] cap)
  (hm: ∀w,(nilAhead (P.types.size+Made.depth) t u name).run P w= .ok (some false) w) (hn:Ow P w0 ops .seq rest (qm_ f d (.func (.method name) #[.iface t u] cap)) L N):Ow P w0 ops .seq (⟨d, .nilCheck x,ty,ps,af,g⟩::rest) f L N:=by
 intro w hw
 unfold wpList
 rw[z4_,hs]
 simp only[Bool.not_false, ↓reduceIte]
 have h:OpS P w0 f L ⟨d, .nilCheck x,ty,ps,af,g⟩ (fun v L'=>v= .func (.method name) #[.iface t u] cap∧L'=L):=fun w hw=> .inl ⟨_,w,L,by
  simp only[execOp,hx]
  have e0: (#[Value.iface t u]:Array Value)[0]? =some (.iface t u):=rfl
  simp only[e0,Sem.run_bind,program]
  show Result.andThen (Result.andThen (Result.ok P w) _) _=_
  simp only[Result.andThen_ok,hm]
  rfl,hw,rfl,rfl⟩
 exact .inl (h.wp (fun v L' w' hp hm=>by obtain⟨rfl,rfl⟩:=hm;exact hn w' hp) hw)
end
theorem ads_ (b:Nat) (w:World): (nilAhead (Tryz.prog.types.size+Made.depth) 118 (vp b 0) "Get").run Tryz.prog w= .ok (some false) w:=by kernel_rfl
structure MkOfD where
 k:Nat
 DG:ze_
set_option linter.defProp false
def zN_:=And.intro (And.intro (And.intro (@zK_) (And.intro (@zJ_) (@Sx.tup2_0))) (And.intro (@Sx.tup2_1) (And.intro (@jt_) (@WO_)))) (And.intro (And.intro (@XL_) (And.intro (@alz_) (@q4_))) (And.intro (@vo_) (And.intro (@aer_) (@amO_))))
theorem Jb_ (v:Value) (l:List ObK) (x:IdL) (w:World) (hG:GlobE w) (hv:SlV 2 x4_ jD_ w v l):
  Rets Tryz.prog 3 #[v, .agg (a8 x.l)] w (fun v' D=>v'= .bool true∧D= []):=by
 have hx:=x.h
 refine Rets.enterV Tryz.func3 rfl (rs:= [.tmp 4]) Tryz.results3 Tryz.ntmps3 ?_
 refine kf ?_
 first|with_reducible refine ks [1000006] @zN_ ?_|refine kp @zN_ ?_
 refine Ow.box rfl rfl fun b3 hb3 hw3=> ?_
 simp only[zT_,zO_,z1_,zd_,List.nil_append,List.cons_append]
 refine Ow.go rfl ?_
 simp(disch:=(first|assumption|omega| (simp only[qV_,qS_,UInt64.reduceToNat];try omega))) only[↓Sx.S0,Sx.S1,Tryz.fx,zN_,Nat.reduceAdd,Nat.reducePow,Int.reducePow,Nat.reduceBEq, ↓reduceIte,UInt8.reduceToNat,UInt16.reduceToNat,UInt32.reduceToNat,UInt64.reduceToNat,Int.reduceToNat]
 first|with_reducible refine ks [1000006] @zN_ ?_|refine kp @zN_ ?_
 refine Ow.callFV rfl Tryz.call13 (fun w' hw'=>qo_ w' (hG.new hw' ⟨hw3,trivial⟩)) ?_
 refine ko @zN_ ?_
 first|with_reducible refine ks [] @zN_ ?_|refine kp @zN_ ?_
 refine Ow.callFV rfl Tryz.call14 (fun w' hw'=>Z3_ v l w' (SlV.rowX (hv.oldN hw' ⟨hw3,trivial⟩))) ?_
 cases hgr:XH_ l with
 |true=>
  refine ko @zN_ ?_
  first|with_reducible refine ks [] @zN_ ?_|refine kp @zN_ ?_
  refine Ow.callFV rfl Tryz.call13 (fun w' hw'=>qo_ w' (hG.new hw' ⟨hw3,trivial⟩)) ?_
  refine ko @zN_ ?_
  first|with_reducible refine ks [] @zN_ ?_|refine kp @zN_ ?_
  refine⟨_,(ke @zN_),⟨hw3,trivial⟩, ?_⟩
  rfl
 |false=>
 obtain⟨h40,h25⟩:=Wp_ hgr
 refine ko @zN_ ?_
 refine Ow.callC rfl rfl Tryz.call15 (fun w' hw'=>Rets.toX (ZT_ v l w' (SlV.rowX (hv.oldN hw' ⟨hw3,trivial⟩)) (by omega) (fun o ho=>by have:=h25 o ho;omega))) (fun BC vC DC hAC hBC hNC hSC=> ?_)
 obtain⟨rfl,bc,rfl,hcl⟩:=hSC
 clear hAC hNC
 rw[List.append_nil]
 cases bc with
 |true=>
  refine ko @zN_ ?_
  first|with_reducible refine ks [] @zN_ ?_|refine kp @zN_ ?_
  refine Ow.callFV rfl Tryz.call13 (fun w' hw'=>qo_ w' (hG.new hw' ⟨hw3,trivial⟩)) ?_
  refine ko @zN_ ?_
  first|with_reducible refine ks [] @zN_ ?_|refine kp @zN_ ?_
  refine⟨_,(ke @zN_),⟨hw3,trivial⟩, ?_⟩
  rfl
 |false=>
 replace hcl:=hcl rfl
 refine ko @zN_ ?_
 first|with_reducible refine ks [] @zN_ ?_|refine kp @zN_ ?_
 refine Ow.callC rfl rfl Tryz.call16 (fun w' hw'=>xV_ v l w' (hG.new hw' ⟨hw3,trivial⟩) (SlV.rowX (hv.oldN hw' ⟨hw3,trivial⟩)) (by omega)) (fun B1 v1 D1 hA1 hB1 hN1 hS1=> ?_)
 have hN1':=hN1.mono hB1
 have hNa:New w.heap.size ([(b3,Obj.cells (a8 x.l) 24 (0,0))]++D1):=New.app ⟨hw3,trivial⟩ hN1'
 refine ko @zN_ ?_
 refine Ow.callC rfl rfl Tryz.call17 (fun w' hw'=>aih_ v l w' (SlV.rowX (hv.oldN hw' hNa)) (by omega) (fun o ho=>by have:=h25 o ho;omega)) (fun B2 v2 D2 hA2 hB2 hN2 hS2=> ?_)
 obtain⟨vL,vI,rfl,hgL,hgI⟩:=hS2
 have hN2':=hN2.mono hB2
 refine ko @zN_ ?_
 refine Ow.alloc rfl rfl ajZ_ fun b6 hb6 hw6=> ?_
 simp only[zd_,List.nil_append,List.cons_append]
 have h36:b3<b6:=zf_ hb6 (by simp[keys])
 refine Ow.permL (M:=(b6, .cells #[.slice none 0 0, .slice none 0 0] 32 (0,0)):: (b3, .cells (a8 x.l) 24 (0,0)):: (D1++D2)) (by classical exact List.perm_iff_count.2 fun a=>by simp only[List.count_append,List.count_cons,List.count_nil]<;>omega) ?_
 have stf:=Kc_ (.slice none 0 0) (.slice none 0 0) vL vI 32 (WM_ hgL).1 (WM_ hgI).1
 refine ko (And.intro @zN_ @stf) ?_
 have hNb:New w.heap.size ((b6,Obj.cells #[vL,vI] 32 (0,0)):: (b3, .cells (a8 x.l) 24 (0,0)):: (D1++D2)):=⟨hw6,hw3,hN1'.app hN2'⟩
 refine Cw.rebaseV hNb (by rfl) fun w1 hw1=> ?_
 have hG1:GlobE w1:=hG.new hw1 hNb
 have g3:w1.heap[b3]? =some (.cells (a8 x.l) 24 (0,0)):=hw1.has b3 (.cells (a8 x.l) 24 (0,0)) (by simp)
 have g6:w1.heap[b6]? =some (.cells #[vL,vI] 32 (0,0)):=hw1.has b6 (.cells #[vL,vI] 32 (0,0)) (by simp)
 have hSW:SrcW w1 v1 (qg_ l) []:=(hS1.mono (fun p hp=>by simp[hp])).W hw1
 have hL:SlV 2 x4_ jD_ w1 vL (l.filter rdK):=air_ hgL (fun b o hm=>hw1.has b o (by simp[hm]))
 have hI:SlV 32 z5_ id0 w1 vI ((l.filter rdK).map idK):=x7_ hgI (fun b o hm=>hw1.has b o (by simp[hm]))
 have hv1:SlV 2 x4_ jD_ w1 v l:=hv.oldN hw1 hNb
 clear hv hG hw1 hNb hgL hgI hS1 hN2' hN2 hNa hN1' hN1 hA1 hA2 hb6 hw6 hw3 stf
 obtain⟨bx,bm,om,hA,-,-⟩:=hSW
 have hsv:=hA.sv
 subst hsv
 have hes:=Zc_ hcl
 have hlx:=(Array.getElem?_eq_some_iff.1 hA.bx).1
 have hlm:=(Array.getElem?_eq_some_iff.1 hA.bm).1
 have hl3:=(Array.getElem?_eq_some_iff.1 g3).1
 have hl6:=(Array.getElem?_eq_some_iff.1 g6).1
 have hff:=List.length_filter_le rdK l
 first|with_reducible refine ks [] (And.intro @zN_ @g3) ?_|refine kp (And.intro @zN_ @g3) ?_
 refine Ow.callIV rfl rfl rfl (Vq_ bx) Tryz.call342 (fun w' hw'=>wZ_ bx bm om _ x _ w' (hA.old hw' (fun h=>by cases h) (fun h=>by cases h))) ?_
 rw[hes]
 have hob:=afu_ (l:=l) (i:=x)
 obtain⟨o,ho⟩: ∃o,o=(srcD l x).1:=⟨_,rfl⟩
 obtain⟨is,his⟩: ∃b,b=(srcD l x).2:=⟨_,rfl⟩
 rw[←ho,←his]
 have e0:obKV o=obV o.k o.t:=rfl
 rw[e0]
 refine ko @zN_ ?_
 refine Ow.alloc rfl rfl Kg_ fun b7 hb7 hw7=> ?_
 simp only[zd_,List.nil_append,List.cons_append]
 have r3:zq_ w1 [(b7, .cells #[vi o.k,vs o.t] 35 (0,0))] b3=some (.cells (a8 x.l) 24 (0,0)):=by rw[zp_ _ _ _ _ _ (by omega),vJ_];exact g3
 have r6:zq_ w1 [(b7, .cells #[vi o.k,vs o.t] 35 (0,0))] b6=some (.cells #[vL,vI] 32 (0,0)):=by rw[zp_ _ _ _ _ _ (by omega),vJ_];exact g6
 refine ko (And.intro @zN_ (And.intro @r3 (@r6))) ?_
 first|with_reducible refine ks [] (And.intro @zN_ (And.intro @r3 (@r6))) ?_|refine kp (And.intro @zN_ (And.intro @r3 (@r6))) ?_
 refine Ow.callFV rfl Tryz.call18 (fun w' hw'=>agM_ vL vI (l.filter rdK) x w' (SlV.rowX (hL.oldN hw' ⟨hw7,trivial⟩)) (SlV.rowX (hI.oldN hw' ⟨hw7,trivial⟩)) (by omega)) ?_
 rw[akU_,←ho,←his,e0]
 refine ko @zN_ ?_
 refine Ow.alloc rfl rfl Kg_ fun b9 hb9 hw9=> ?_
 simp only[zd_,List.nil_append,List.cons_append]
 have h79:b7<b9:=zf_ hb9 (by simp[keys])
 have hN9:New w1.heap.size [(b7,Obj.cells #[vi o.k,vs o.t] 35 (0,0)),(b9, .cells #[vi o.k,vs o.t] 35 (0,0))]:=⟨hw7,hw9,trivial⟩
 have hib: (is !=is)=false:=by simp
 refine Ow.go rfl ?_
 simp(disch:=(first|assumption|omega| (simp only[qV_,qS_,UInt64.reduceToNat];try omega))) only[↓Sx.S0,Sx.S1,Tryz.fx,zN_,Nat.reduceAdd,Nat.reducePow,Int.reducePow,Nat.reduceBEq, ↓reduceIte,UInt8.reduceToNat,UInt16.reduceToNat,UInt32.reduceToNat,UInt64.reduceToNat,Int.reduceToNat,decide_true,Bool.not_true,Bool.not_false,hib]
 generalize [(b7,Obj.cells #[vi o.k,vs o.t] 35 (0,0)),(b9,Obj.cells #[vi o.k,vs o.t] 35 (0,0))]=DG0 at*
 obtain⟨rb,off,arr,E,fz,hr⟩:=hv1.row
 have ln:=fun x=>hr.len x
 first|with_reducible refine ks [] @zN_ ?_|refine kp @zN_ ?_
 refine Cw.loopG (G:=MkOfD) [47,48,49,50,53,54,55,56,57,58,60,61,62,63,64,65,66,67,68,69,59,70,71,12,13,72,73,74,75,76,77,78,79,80,81,4,51,52,11] (fun g=> [(11,vi g.k)]) (fun g=>g.DG) (fun g=>g.k≤l.length∧New w1.heap.size g.DG) (fun g=>l.length - g.k) ⟨0,DG0⟩ rfl rfl ?_ ?_
 ·exact⟨Nat.zero_le _,hN9⟩
 intro g j hg
 refine kv ?_
 clear hN9
 obtain⟨k,DG⟩:=g
 simp only at hg ⊢
 obtain⟨hk,hN⟩:=hg
 by_cases hlt:k<l.length
 ·have hrl:=hr.lt (by omega)
  have ix:=hr.idx true k hlt
  have ld:=Zw_ hr hlt
  have rd: ∀L,New w1.heap.size L→zq_ w1 L rb=some (.cells arr E fz):=fun L hL=>by rw[qz_ (hL.not hrl)];exact hr.has (by omega)
  have hm:l.getD k jD_∈l:=by rw[List.getD_eq_getElem?_getD,List.getElem?_eq_getElem hlt];exact List.getElem_mem _
  have hot:=h25 _ hm
  have hd0:decide ((k:Int)< (l.length:Int))=true:=decide_eq_true (by omega)
  have rd0:=rd DG hN
  generalize l.getD k jD_=a at*
  have haid:=(idK a).h
  first|with_reducible refine ks [] (And.intro @zN_ (And.intro @ln (And.intro @hd0 (And.intro @ix (And.intro @ld (@rd0)))))) ?_|refine kp (And.intro @zN_ (And.intro @ln (And.intro @hd0 (And.intro @ix (And.intro @ld (@rd0)))))) ?_
  refine Ow.callFV rfl Tryz.call19 (fun w' hw'=>ky_ a.k a.t w') ?_
  rw[←vE_,show xE_ a.k a.t=rdK a from rfl]
  cases hra:rdK a with
  |false=>
   refine ko @zN_ ?_
   first|with_reducible refine ks [] @zN_ ?_|refine kp @zN_ ?_
   exact Again.mk ⟨k+1,DG⟩ (by show l.length - (k+1)<l.length - k;omega) ⟨hlt,hN⟩ rfl rfl
  |true=>
   have hsa:=Vo_ hcl hm hra
   refine Ow.go rfl ?_
   simp(disch:=(first|assumption|omega| (simp only[qV_,qS_,UInt64.reduceToNat];try omega))) only[↓Sx.S0,Sx.S1,Tryz.fx,zN_,Nat.reduceAdd,Nat.reducePow,Int.reducePow,Nat.reduceBEq, ↓reduceIte,UInt8.reduceToNat,UInt16.reduceToNat,UInt32.reduceToNat,UInt64.reduceToNat,Int.reduceToNat,Bool.not_true]
   first|with_reducible refine ks [] @zN_ ?_|refine kp @zN_ ?_
   refine Cw.regionD [rb] [14] 13 12 35 15 _ rfl (by kernel_rfl) (by kernel_rfl) rfl (by kernel_rfl) Kg_ (fun hD=> ?_)
   simp only[List.replicate_succ,List.replicate_zero]
   refine OwD.run [0,1,2,3,4,6] [true,true,true,true,true,false,true,false,false,false,false,false,false,false,false,false] 9 rfl hD (by kernel_rfl) fun k hk=> ?_
   simp only[zh_, ↓zc_, ↓za_, ↓zk_, ↓zj_,zb_]
   simp(disch:=(first|assumption|omega| (simp only[qV_,qS_,UInt64.reduceToNat];try omega))) only[↓Sx.S0,Sx.S1,Tryz.fx,zN_,Nat.reduceAdd,Nat.reducePow,Int.reducePow,Nat.reduceBEq, ↓reduceIte,UInt8.reduceToNat,UInt16.reduceToNat,UInt32.reduceToNat,UInt64.reduceToNat,Int.reduceToNat,Md.next_sofnil,ix,ld,rd0]
   (with_reducible refine hk _ _ _ ?_);clear hk k
   refine OwD.two 5 7 _ _ hD rfl rfl (by kernel_rfl) (fun E hE=> ?_) (fun E hE=> ?_)
   ·rename_i E1
    refine Ow.callFV rfl Tryz.call20 (fun w' hw'=>w8_ a.k a.t w' (by omega)) ?_
    rw[agR_ hra]
    with_reducible refine Ow.nil ?_
    refine⟨_,List.Perm.refl _,fun _ _=>rfl, ?_⟩
    simp only[List.set_cons_zero,List.set_cons_succ,zm_,zx_,zy_]
    refine OwD.soft 7 _ hD rfl (by kernel_rfl) (fun E2 hE2=> ?_)
    simp only[List.map_toArray,List.map_cons,List.map_nil,zT_,zO_,z1_]
    refine Ow.nilMeth rfl rfl (ads_ bx) ?_
    with_reducible refine Ow.nil ?_
    refine⟨_,List.Perm.refl _,fun _ _=>rfl, ?_⟩
    simp only[List.set_cons_zero,List.set_cons_succ,zm_,zx_,zy_]
    refine OwD.run [8] [true,true,true,true,true,true,true,true,true,false,false,false,false,false,false,false] 6 rfl hD (by kernel_rfl) fun k hk=> ?_
    simp only[zh_, ↓zc_, ↓za_, ↓zk_, ↓zj_,zb_]
    simp(disch:=(first|assumption|omega| (simp only[qV_,qS_,UInt64.reduceToNat];try omega))) only[↓Sx.S0,Sx.S1,Tryz.fx,zN_,Nat.reduceAdd,Nat.reducePow,Int.reducePow,Nat.reduceBEq, ↓reduceIte,UInt8.reduceToNat,UInt16.reduceToNat,UInt32.reduceToNat,UInt64.reduceToNat,Int.reduceToNat,Md.next_sofnil,Md.next_sofnil]
    (with_reducible refine hk _ _ _ ?_);clear hk k
    refine OwD.soft 9 _ hD rfl (by kernel_rfl) (fun E3 hE3=> ?_)
    refine Ow.callIV rfl rfl rfl (Vq_ bx) Tryz.call342 (fun w' hw'=>wZ_ bx bm om _ (idK a) _ w' (hA.old hw' ((hN.app (adV_ hE3)).not hlx) ((hN.app (adV_ hE3)).not hlm))) ?_
    rw[hes,hsa]
    with_reducible refine Ow.nil ?_
    refine⟨_,List.Perm.refl _,fun _ _=>rfl, ?_⟩
    simp only[List.set_cons_zero,List.set_cons_succ,zm_,zx_,zy_]
    refine OwD.run [10,11,12] [true,true,true,true,true,true,true,true,true,true,true,true,true,false,false,false] 2 rfl hD (by kernel_rfl) fun k hk=> ?_
    simp only[zh_, ↓zc_, ↓za_, ↓zk_, ↓zj_,zb_]
    simp(disch:=(first|assumption|omega| (simp only[qV_,qS_,UInt64.reduceToNat];try omega))) only[↓Sx.S0,Sx.S1,Tryz.fx,zN_,Nat.reduceAdd,Nat.reducePow,Int.reducePow,Nat.reduceBEq, ↓reduceIte,UInt8.reduceToNat,UInt16.reduceToNat,UInt32.reduceToNat,UInt64.reduceToNat,Int.reduceToNat,Md.next_sofnil,Sx.tup2_0,Sx.tup2_1]
    (with_reducible refine hk _ _ _ ?_);clear hk k
    refine OwD.real [14,15] rfl hD (by kernel_rfl) (by kernel_rfl) (by kernel_rfl) (by kernel_rfl) (fun r hr=>by simp only[List.mem_cons,List.not_mem_nil,or_false] at hr;subst hr;exact .inr hrl) ?_
    simp only[zh_, ↓zc_, ↓za_, ↓zk_, ↓zj_,zb_]
    intro b12 hw12 hbL
    simp only[zx_,zy_]
    refine Ow.store rfl rfl rfl (L':=DG++ [(b12, .cells #[vi a.k,vs a.t] 35 (0,0))]) ?_ ?_
    ·simp only[zT_,zO_,z1_]
     have hst:zr_ (some (true,2)) (some (Obj.cells (Value.cells (obV 0 [])) 35 (0,0))) 0 (obKV a)=some (.cells #[vi a.k,vs a.t] 35 (0,0)):=rfl
     rw[Tryz.ag35,jL_,xz_ hbL,hst,xi_,jS_ hbL]
     exact []
    have hN12:New w1.heap.size (DG++ [(b12,Obj.cells #[vi a.k,vs a.t] 35 (0,0))]):=hN.app ⟨hw12,trivial⟩
    have r12:zq_ w1 (DG++ [(b12,Obj.cells #[vi a.k,vs a.t] 35 (0,0))]) b12=some (.cells #[vi a.k,vs a.t] 35 (0,0)):=zl_ (by rw[zG_ hbL];exact zz_ _ _ _)
    have rd12:=rd _ hN12
    refine ko @zN_ ?_
    refine Cw.regionS [rb,b12] [0,1,2,4,5,6,3,7,8,9] [] (by kernel_rfl) (by kernel_rfl) (by kernel_rfl) ?_
    simp only[zh_, ↓zc_, ↓za_, ↓zk_, ↓zj_,zb_]
    refine Ow.goQ ?_
    simp(disch:=(first|assumption|omega| (simp only[qV_,qS_,UInt64.reduceToNat];try omega))) only[↓Sx.S0,Sx.S1,Tryz.fx,zN_,Nat.reduceAdd,Nat.reducePow,Int.reducePow,Nat.reduceBEq, ↓reduceIte,UInt8.reduceToNat,UInt16.reduceToNat,UInt32.reduceToNat,UInt64.reduceToNat,Int.reduceToNat,Bool.not_true,Bool.not_false,ix,ld,r12,rd12,decide_true]
    try with_reducible refine Ow.nil ?_
    first|with_reducible refine ks [] @zN_ ?_|refine kp @zN_ ?_
    exact Again.mk ⟨k+1,DG++ [(b12, .cells #[vi a.k,vs a.t] 35 (0,0))]⟩ (by show l.length - (k+1)<l.length - k;omega) ⟨hlt,hN12⟩ rfl rfl
   ·simp only[List.map_toArray,List.map_cons,List.map_nil,zT_,zO_,z1_]
    refine Ow.nilMeth rfl rfl (ads_ bx) ?_
    with_reducible refine Ow.nil ?_
    refine⟨_,List.Perm.refl _,fun _ _=>rfl, ?_⟩
    simp only[List.set_cons_zero,List.set_cons_succ,zm_,zx_,zy_]
    refine OwD.run [8] [true,true,true,true,true,false,true,true,true,false,false,false,false,false,false,false] 7 rfl hD (by kernel_rfl) fun k hk=> ?_
    simp only[zh_, ↓zc_, ↓za_, ↓zk_, ↓zj_,zb_]
    simp(disch:=(first|assumption|omega| (simp only[qV_,qS_,UInt64.reduceToNat];try omega))) only[↓Sx.S0,Sx.S1,Tryz.fx,zN_,Nat.reduceAdd,Nat.reducePow,Int.reducePow,Nat.reduceBEq, ↓reduceIte,UInt8.reduceToNat,UInt16.reduceToNat,UInt32.reduceToNat,UInt64.reduceToNat,Int.reduceToNat,Md.next_sofnil,Md.next_sofnil]
    (with_reducible refine hk _ _ _ ?_);clear hk k
    refine OwD.soft 5 _ hD rfl (by kernel_rfl) (fun E2 hE2=> ?_)
    refine Ow.callFV rfl Tryz.call20 (fun w' hw'=>w8_ a.k a.t w' (by omega)) ?_
    rw[agR_ hra]
    with_reducible refine Ow.nil ?_
    refine⟨_,List.Perm.refl _,fun _ _=>rfl, ?_⟩
    simp only[List.set_cons_zero,List.set_cons_succ,zm_,zx_,zy_]
    refine OwD.soft 9 _ hD rfl (by kernel_rfl) (fun E3 hE3=> ?_)
    refine Ow.callIV rfl rfl rfl (Vq_ bx) Tryz.call342 (fun w' hw'=>wZ_ bx bm om _ (idK a) _ w' (hA.old hw' ((hN.app (adV_ hE3)).not hlx) ((hN.app (adV_ hE3)).not hlm))) ?_
    rw[hes,hsa]
    with_reducible refine Ow.nil ?_
    refine⟨_,List.Perm.refl _,fun _ _=>rfl, ?_⟩
    simp only[List.set_cons_zero,List.set_cons_succ,zm_,zx_,zy_]
    refine OwD.run [10,11,12] [true,true,true,true,true,true,true,true,true,true,true,true,true,false,false,false] 2 rfl hD (by kernel_rfl) fun k hk=> ?_
    simp only[zh_, ↓zc_, ↓za_, ↓zk_, ↓zj_,zb_]
    simp(disch:=(first|assumption|omega| (simp only[qV_,qS_,UInt64.reduceToNat];try omega))) only[↓Sx.S0,Sx.S1,Tryz.fx,zN_,Nat.reduceAdd,Nat.reducePow,Int.reducePow,Nat.reduceBEq, ↓reduceIte,UInt8.reduceToNat,UInt16.reduceToNat,UInt32.reduceToNat,UInt64.reduceToNat,Int.reduceToNat,Md.next_sofnil,Sx.tup2_0,Sx.tup2_1]
    (with_reducible refine hk _ _ _ ?_);clear hk k
    refine OwD.real [14,15] rfl hD (by kernel_rfl) (by kernel_rfl) (by kernel_rfl) (by kernel_rfl) (fun r hr=>by simp only[List.mem_cons,List.not_mem_nil,or_false] at hr;subst hr;exact .inr hrl) ?_
    simp only[zh_, ↓zc_, ↓za_, ↓zk_, ↓zj_,zb_]
    intro b12 hw12 hbL
    simp only[zx_,zy_]
    refine Ow.store rfl rfl rfl (L':=DG++ [(b12, .cells #[vi a.k,vs a.t] 35 (0,0))]) ?_ ?_
    ·simp only[zT_,zO_,z1_]
     have hst:zr_ (some (true,2)) (some (Obj.cells (Value.cells (obV 0 [])) 35 (0,0))) 0 (obKV a)=some (.cells #[vi a.k,vs a.t] 35 (0,0)):=rfl
     rw[Tryz.ag35,jL_,xz_ hbL,hst,xi_,jS_ hbL]
     exact []
    have hN12:New w1.heap.size (DG++ [(b12,Obj.cells #[vi a.k,vs a.t] 35 (0,0))]):=hN.app ⟨hw12,trivial⟩
    have r12:zq_ w1 (DG++ [(b12,Obj.cells #[vi a.k,vs a.t] 35 (0,0))]) b12=some (.cells #[vi a.k,vs a.t] 35 (0,0)):=zl_ (by rw[zG_ hbL];exact zz_ _ _ _)
    have rd12:=rd _ hN12
    refine ko @zN_ ?_
    refine Cw.regionS [rb,b12] [0,1,2,4,5,6,3,7,8,9] [] (by kernel_rfl) (by kernel_rfl) (by kernel_rfl) ?_
    simp only[zh_, ↓zc_, ↓za_, ↓zk_, ↓zj_,zb_]
    refine Ow.goQ ?_
    simp(disch:=(first|assumption|omega| (simp only[qV_,qS_,UInt64.reduceToNat];try omega))) only[↓Sx.S0,Sx.S1,Tryz.fx,zN_,Nat.reduceAdd,Nat.reducePow,Int.reducePow,Nat.reduceBEq, ↓reduceIte,UInt8.reduceToNat,UInt16.reduceToNat,UInt32.reduceToNat,UInt64.reduceToNat,Int.reduceToNat,Bool.not_true,Bool.not_false,ix,ld,r12,rd12,decide_true]
    try with_reducible refine Ow.nil ?_
    first|with_reducible refine ks [] @zN_ ?_|refine kp @zN_ ?_
    exact Again.mk ⟨k+1,DG++ [(b12, .cells #[vi a.k,vs a.t] 35 (0,0))]⟩ (by show l.length - (k+1)<l.length - k;omega) ⟨hlt,hN12⟩ rfl rfl
 ·obtain rfl:k=l.length:=by omega
  have hd0:decide ((l.length:Int)< (l.length:Int))=false:=by simp
  first|with_reducible refine ks [] (And.intro @zN_ (And.intro @ln (@hd0))) ?_|refine kp (And.intro @zN_ (And.intro @ln (@hd0))) ?_
  refine Ow.callFV rfl Tryz.call13 (fun w' hw'=>qo_ w' (hG1.new hw' hN)) ?_
  refine ko @zN_ ?_
  first|with_reducible refine ks [] @zN_ ?_|refine kp @zN_ ?_
  refine⟨_,(ke @zN_),hN, ?_⟩
  rfl
end Go.Proofs
end
section
open Go Go.Proofs Go.Sx Go.StP Go.RooP
namespace Go.Proofs
set_option maxRecDepth 10000
set_option maxHeartbeats 400000
set_option linter.unusedSimpArgs false
structure MkBaG where
 k:Nat
 v:Value
 D:ze_
 DG:ze_
structure MkRuG where
 W:WkS
 X:ze_
set_option linter.defProp false
def zE_:=And.intro (And.intro (@zK_) (@zJ_)) (And.intro (@Sx.tup2_0) (And.intro (@Sx.tup2_1) (@wJ_)))
theorem XF_ (v vr:Value) (l:List ObK) (r:List IdL) (c:UInt8) (w:World) (hG:GlobE w) (hv:SlV 2 x4_ jD_ w v l) (hr:SlV 32 z5_ id0 w vr r):
  Rets Tryz.prog 7 #[v,vr,v8 c] w (fun v' D=>v'= .bool true∧D= []):=by
 have lnr:=hr.len
 refine Rets.enterV Tryz.func7 rfl (rs:= [.tmp 6]) Tryz.results7 Tryz.ntmps7 ?_
 refine kf ?_
 first|with_reducible refine ks [1000006,1000011] @zE_ ?_|refine kp @zE_ ?_
 refine Ow.callFV rfl Tryz.call13 (fun w' hw'=>qo_ w' (hG.new hw' trivial)) ?_
 refine ko @zE_ ?_
 first|with_reducible refine ks [] @zE_ ?_|refine kp @zE_ ?_
 refine Ow.callFV rfl Tryz.call14 (fun w' hw'=>Z3_ v l w' (SlV.rowX (hv.oldN hw' trivial))) ?_
 cases hgr:XH_ l with
 |true=>
  refine ko @zE_ ?_
  first|with_reducible refine ks [] @zE_ ?_|refine kp @zE_ ?_
  refine Ow.callFV rfl Tryz.call13 (fun w' hw'=>qo_ w' (hG.new hw' trivial)) ?_
  refine ko @zE_ ?_
  first|with_reducible refine ks [] @zE_ ?_|refine kp @zE_ ?_
  refine⟨_,(ke @zE_),trivial, ?_⟩
  rfl
 |false=>
 obtain⟨h40,h25⟩:=Wp_ hgr
 refine ko @zE_ ?_
 refine Ow.callC rfl rfl Tryz.call15 (fun w' hw'=>Rets.toX (ZT_ v l w' (SlV.rowX (hv.oldN hw' trivial)) (by omega) (fun o ho=>by have:=h25 o ho;omega))) (fun BC vC DC hAC hBC hNC hSC=> ?_)
 obtain⟨rfl,bc,rfl,hcl⟩:=hSC
 clear hAC hNC
 rw[List.append_nil]
 cases bc with
 |true=>
  refine ko @zE_ ?_
  first|with_reducible refine ks [] @zE_ ?_|refine kp @zE_ ?_
  refine Ow.callFV rfl Tryz.call13 (fun w' hw'=>qo_ w' (hG.new hw' trivial)) ?_
  refine ko @zE_ ?_
  first|with_reducible refine ks [] @zE_ ?_|refine kp @zE_ ?_
  refine⟨_,(ke @zE_),trivial, ?_⟩
  rfl
 |false=>
 replace hcl:=hcl rfl
 by_cases h30:30<r.length
 ·have d1:decide ((30:Int)< (r.length:Int))=true:=decide_eq_true (by omega)
  refine ko (And.intro @zE_ (And.intro @lnr (@d1))) ?_
  first|with_reducible refine ks [] @zE_ ?_|refine kp @zE_ ?_
  refine Ow.callFV rfl Tryz.call13 (fun w' hw'=>qo_ w' (hG.new hw' trivial)) ?_
  refine ko @zE_ ?_
  first|with_reducible refine ks [] @zE_ ?_|refine kp @zE_ ?_
  refine⟨_,(ke @zE_),trivial, ?_⟩
  rfl
 have d1:decide ((30:Int)< (r.length:Int))=false:=decide_eq_false (by omega)
 refine ko (And.intro @zE_ (And.intro @lnr (@d1))) ?_
 first|with_reducible refine ks [] @zE_ ?_|refine kp @zE_ ?_
 refine Ow.callC rfl rfl Tryz.call16 (fun w' hw'=>xV_ v l w' (hG.new hw' trivial) (SlV.rowX (hv.oldN hw' trivial)) (by omega)) (fun B1 v1 D1 hA1 hB1 hN1 hS1=> ?_)
 rw[List.nil_append]
 have hN1':=hN1.mono hB1
 refine ko @zE_ ?_
 refine Cw.rebaseV hN1' (by rfl) fun w1 hw1=> ?_
 have hG1:GlobE w1:=hG.new hw1 hN1'
 have hSW:SrcW w1 v1 (qg_ l) []:=hS1.W hw1
 have hr1:SlV 32 z5_ id0 w1 vr r:=hr.oldN hw1 hN1'
 clear hv hr hG hw1 hS1 hN1' hN1 hA1
 have hes:=Zc_ hcl
 have hml:=xD_ l
 obtain⟨rb,off,arr,E,fz,hrr⟩:=hr1.row
 have lnr:=hr1.len
 first|with_reducible refine ks [1000011] (And.intro @zE_ @lnr) ?_|refine kp (And.intro @zE_ @lnr) ?_
 refine Cw.loopG (G:=MkBaG) [35,36,39,40,41,42,43,44,45,8,37,38,9] (fun g=> [(8,g.v),(9,vi (((r.length - g.k:Nat):Int) - 1))]) (fun g=>g.D++g.DG) (fun g=>g.k≤r.length∧Gr g.D 24 32 g.v (r.reverse.take g.k).length ((r.reverse.take g.k).map z5_).flatten∧New w1.heap.size g.D∧New w1.heap.size g.DG) (fun g=>r.length - g.k) ⟨0, .slice none 0 0,[],[]⟩ rfl rfl ?_ ?_
 ·exact⟨Nat.zero_le _,Gr.nl,trivial,trivial⟩
 intro g j hg
 refine kv ?_
 obtain⟨k,vb,D,DG⟩:=g
 simp only at hg ⊢
 obtain⟨hk,hGr,hND,hNG⟩:=hg
 have hlk: (r.reverse.take k).length=k:=by rw[List.length_take,List.length_reverse];omega
 by_cases hlt:k<r.length
 ·obtain⟨j,hj⟩: ∃j,r.length - k=j+1:=⟨r.length - k - 1,by omega⟩
  have e1: (((r.length - k:Nat):Int) - 1)=(j:Int):=by rw[hj];omega
  rw[e1]
  have d0:decide ((0:Int)≤ (j:Int))=true:=decide_eq_true (by omega)
  have hrl:=hrr.lt (by omega)
  have ix:=hrr.idx true j (by omega)
  have ld:=abN_ hrr (show j<r.length by omega)
  have rd:zq_ w1 (D++DG) rb=some (.cells arr E fz):=by rw[qz_ ((hND.app hNG).not hrl)];exact hrr.has (by omega)
  have hts:r.reverse.take (k+1)=r.reverse.take k++ [r.getD j id0]:=by
   rw[StP.take_snoc (z:=id0) (by rw[List.length_reverse];exact hlt)]
   congr 2
   rw[List.getD_eq_getElem?_getD,List.getD_eq_getElem?_getD,List.getElem?_reverse (by omega)]
   congr 2;omega
  generalize r.getD j id0=x at*
  first|with_reducible refine ks [9] (And.intro @zE_ (And.intro @d0 (And.intro @ix (And.intro @ld (@rd))))) ?_|refine kp (And.intro @zE_ (And.intro @d0 (And.intro @ix (And.intro @ld (@rd))))) ?_
  refine Ow.buildSlice (e:=24) (z5_ x).toArray rfl rfl (xf_ x) fun ba hba hwa=> ?_
  refine ko @zE_ ?_
  refine Ow.appendXG (e:=24) (k:=1) (new:=z5_ x) (X:=D) vb (List.append_assoc _ _ _) rfl rfl rfl Tryz.underlying30 Tryz.ag24 (by kernel_rfl) aea_ (by simp[zd_,a8]) Tryz.underlying30 (by intro k h;cases h) hGr (fun w' hw'=>AppX.one1 (hw'.has ba (.cells (z5_ x).toArray 24 (0,0)) (by simp)) (js_ x) (KG_ x)) (by omega) (fun B5 v5 D5 hA5 hB5 hG5 hk15 hk25 hlk5=> ?_)
  have hN5:New w1.heap.size D5:=New.of_le fun q hq=>by
   rcases hk25 q hq with h|h
   ·exact hND.le q h
   ·omega
  refine ko @zE_ ?_
  first|with_reducible refine ks [] @zE_ ?_|refine kp @zE_ ?_
  refine Again.mk ⟨k+1,v5,D5,DG++ [(ba, .cells (z5_ x).toArray 24 (0,0))]⟩ (by show r.length - (k+1)<r.length - k;omega) ⟨hlt, ?_,hN5,hNG.app ⟨hwa,trivial⟩⟩ rfl ?_
  ·show Gr D5 _ 32 v5 (r.reverse.take (k+1)).length ((r.reverse.take (k+1)).map z5_).flatten
   rw[hts]
   simpa [List.map_append] using hG5
  ·have e2:r.length - (k+1)=j:=by omega
   simp only[e2]
   rfl
 ·obtain rfl:k=r.length:=by omega
  have e1: (((r.length - r.length:Nat):Int) - 1)= -1:=by omega
  rw[e1]
  have hrt:r.reverse.take r.length=r.reverse:=List.take_of_length_le (by rw[List.length_reverse];omega)
  rw[hrt] at hGr
  have d0:decide ((0:Int)≤ -1)=false:=rfl
  first|with_reducible refine ks [1000011] (And.intro @zE_ @d0) ?_|refine kp (And.intro @zE_ @d0) ?_
  refine Cw.rebaseV (hND.app hNG) (by rfl) fun w2 hw2=> ?_
  have hNb:=hND.app hNG
  have hG2:GlobE w2:=hG1.new hw2 hNb
  have hS2:SrcW w2 v1 (qg_ l) []:=(hSW.ext (L:=D++DG) (fun c hc=> .inr (hNb.le c hc))).old hw2 (fun c hc=>by cases hc)
  have hr2:SlV 32 z5_ id0 w2 vr r:=hr1.oldN hw2 hNb
  have hb2:SlV 32 z5_ id0 w2 vb r.reverse:=x7_ (hGr.i fun p hp=>hp) (fun b o hm=>hw2.has b o (List.mem_append_left _ hm))
  clear hG1 hSW hr1 hGr hw2 hNb hND hNG hrr
  have hrl:r.reverse.length=r.length:=List.length_reverse
  have hidl: ((qg_ l).map Prod.fst).length=(qg_ l).length:=List.length_map _
  have hids: ∀i,(zY_ (qg_ l) i).2=true→i∈ (qg_ l).map Prod.fst:=fun i h=>acY_ h
  first|with_reducible refine ks [] @zE_ ?_|refine kp @zE_ ?_
  refine Ow.callC rfl rfl Tryz.call29 (fun w' hw'=>qY_ v1 (qg_ l) vr r w' (hS2.old hw' (fun _ h=>h)) (SlV.rowX (hr2.oldN hw' trivial)) (by omega) (by omega)) (fun B2 v2 D2 hA2 hB2 hN2 hSC2=> ?_)
  obtain⟨Wa,va,vb',hWa,hqa,hma1,hma2,rfl,hga,hgb⟩:=hSC2
  rw[List.nil_append]
  have hN2':=hN2.mono hB2
  refine ko @zE_ ?_
  first|with_reducible refine ks [] @zE_ ?_|refine kp @zE_ ?_
  refine Ow.callC rfl rfl Tryz.call29 (fun w' hw'=>qY_ v1 (qg_ l) vb r.reverse w' ((hS2.ext (L:=D2) (fun c hc=> .inr (hN2'.le c hc))).old hw' (fun _ h=>by cases h)) (SlV.rowX (hb2.oldN hw' hN2')) (by omega) (by omega)) (fun B3 v3 D3 hA3 hB3 hN3 hSC3=> ?_)
  obtain⟨Wc,vc,vd,hWc,hqc,hmc1,hmc2,rfl,hgc,hgd⟩:=hSC3
  have hN3':=hN3.mono hB3
  have hN23:=hN2'.app hN3'
  have hclt:=c.toNat_lt
  have erm: ((c.toNat:Int)% ((r.length:Int)+1))=((c.toNat% (r.length+1):Nat):Int):=by
   rw[show((r.length:Int)+1)=((r.length+1:Nat):Int) by omega];rfl
  have hnr:c.toNat% (r.length+1)≤r.length:=by have:=Nat.mod_lt c.toNat (show 0<r.length+1 by omega);omega
  obtain⟨n,hn⟩: ∃n,n=c.toNat% (r.length+1):=⟨_,rfl⟩
  rw[←hn] at erm hnr
  obtain⟨vt,hvt,hst,-⟩:=hr2.take hnr true
  obtain⟨vdr,hvdr,hsd,-⟩:=hr2.dropE hnr true
  refine ko @zE_ ?_
  first|with_reducible refine ks [] (And.intro @zE_ (And.intro @lnr (And.intro @erm (@hvt)))) ?_|refine kp (And.intro @zE_ (And.intro @lnr (And.intro @erm (@hvt)))) ?_
  have hst': (r.take n).length≤1000:=by rw[List.length_take];omega
  have hsd': (r.drop n).length≤1000:=by rw[List.length_drop];omega
  refine Ow.callC rfl rfl Tryz.call21 (fun w' hw'=>Vw_ v1 (qg_ l) vt (r.take n) w' ((hS2.ext (L:=D2++D3) (fun c hc=> .inr (hN23.le c hc))).old hw' (fun _ h=>by cases h)) (SlV.rowX (hst.oldN hw' hN23)) (by omega)) (fun B4 v4 D4 hA4 hB4 hN4 hS4=> ?_)
  obtain⟨bw,rfl,hP4⟩:=hS4
  have hE4:Ext w2 [] D4:=Ext.of_new (hN4.mono hB4)
  refine Ow.permL (M:=D4++ (D2++D3)) (by classical exact List.perm_iff_count.2 fun a=>by simp only[List.count_append,List.count_cons,List.count_nil]<;>omega) ?_
  refine ko @zE_ ?_
  refine Cw.loopG (G:=MkRuG) [69,70,71] (fun g=> []) (fun g=>g.X++ (D2++D3)) (fun g=>WkP bw v1 g.W g.X∧Ext w2 [] g.X∧WkN (zY_ (qg_ l)) ((qg_ l).map Prod.fst) (r.take n) (r.take n).length g.W) (fun g=>50000 - g.W.vis.length) ⟨newK (r.take n),D4⟩ rfl rfl ?_ ?_
  ·exact⟨hP4,hE4,WkN.new (r.take n) hids⟩
  intro g j hg
  refine kv ?_
  clear hP4 hE4 hN4 hA4
  obtain⟨W,X⟩:=g
  simp only at hg ⊢
  obtain⟨hP,hE,hN⟩:=hg
  have b1:=hN.q
  have b2:=hN.lk
  have b3:=hN.vis
  have hN':=hN.step
  have b4:=hN'.vis
  have b5:=hN'.q
  first|with_reducible refine ks [] @zE_ ?_|refine kp @zE_ ?_
  refine Ow.callX (X:=X) (Y:=D2++D3) rfl rfl rfl Tryz.call24 (fun w' hw' hX' hn'=>Zm_ bw v1 W (qg_ l) X w' hX' hn' hP ((hS2.ext (L:=X++ (D2++D3)) (fun c hc=>by rw[zg_,List.mem_append] at hc;exact hc.elim (hE.new c) fun h=> .inr (hN23.le c h))).old hw' (fun c hc=>by rw[zg_];exact List.mem_append_left _ hc)) (by omega) (by omega)) (fun v5 D5 hC5 hS5=> ?_)
  obtain⟨rfl,hP5⟩:=hS5
  have hE5:=hE.came0 hC5
  cases hst5: (xj_ (zY_ (qg_ l)) W).1 with
  |false=>
   have hvv:=KM_ hst5
   generalize (xj_ (zY_ (qg_ l)) W).2=W2 at*
   refine ko @zE_ ?_
   first|with_reducible refine ks [] @zE_ ?_|refine kp @zE_ ?_
   exact Again.mk ⟨W2,D5⟩ (by show 50000 - W2.vis.length<50000 - W.vis.length;omega) ⟨hP5,hE5,hN'⟩ rfl rfl
  |true=>
   have hN6:=hN'.add (r.drop n)
   rw[List.take_append_drop] at hN6
   have hln: (r.take n).length+ (r.drop n).length=r.length:=by rw[←List.length_append,List.take_append_drop]
   rw[hln] at hN6
   generalize (xj_ (zY_ (qg_ l)) W).2=W2 at*
   clear hN b1 b2 b3 b4
   refine ko @zE_ ?_
   first|with_reducible refine ks [] (And.intro @zE_ (And.intro @lnr (@hvdr))) ?_|refine kp (And.intro @zE_ (And.intro @lnr (@hvdr))) ?_
   refine Ow.callX (X:=D5) (Y:=D2++D3) rfl rfl rfl Tryz.call23 (fun w' hw' hX' hn'=>aac_ bw v1 W2 vdr (r.drop n) D5 w' hX' hn' hP5 (((SlV.rowX hsd).ext (L:=D5++ (D2++D3)) (fun c hc=>by rw[zg_,List.mem_append] at hc;exact hc.elim (hE5.new c) fun h=> .inr (hN23.le c h))).old hw' (fun c hc=>by rw[zg_];exact List.mem_append_left _ hc)) (by omega) (by omega)) (fun v6 D6 hC6 hS6=> ?_)
   obtain⟨rfl,hP6⟩:=hS6
   have hE6:=hE5.came0 hC6
   clear hP5 hE5 hC5 hC6 hN' hP hE
   generalize JR_ W2 (r.drop n)=W3 at*
   refine ko @zE_ ?_
   refine Cw.loopG (G:=MkRuG) [77,78,79] (fun g=> []) (fun g=>g.X++ (D2++D3)) (fun g=>WkP bw v1 g.W g.X∧Ext w2 [] g.X∧WkN (zY_ (qg_ l)) ((qg_ l).map Prod.fst) r r.length g.W) (fun g=>50000 - g.W.vis.length) ⟨W3,D6⟩ rfl rfl ?_ ?_
   ·exact⟨hP6,hE6,hN6⟩
   intro g j hg
   refine kv ?_
   clear hP6 hE6 hN6
   obtain⟨W,X⟩:=g
   simp only at hg ⊢
   obtain⟨hP,hE,hN⟩:=hg
   have b1:=hN.q
   have b2:=hN.lk
   have b3:=hN.vis
   have hN':=hN.step
   have b4:=hN'.vis
   have b5:=hN'.ms
   have b6:=hN'.lk
   first|with_reducible refine ks [] @zE_ ?_|refine kp @zE_ ?_
   refine Ow.callX (X:=X) (Y:=D2++D3) rfl rfl rfl Tryz.call24 (fun w' hw' hX' hn'=>Zm_ bw v1 W (qg_ l) X w' hX' hn' hP ((hS2.ext (L:=X++ (D2++D3)) (fun c hc=>by rw[zg_,List.mem_append] at hc;exact hc.elim (hE.new c) fun h=> .inr (hN23.le c h))).old hw' (fun c hc=>by rw[zg_];exact List.mem_append_left _ hc)) (by omega) (by omega)) (fun v5 D5 hC5 hS5=> ?_)
   obtain⟨rfl,hP5⟩:=hS5
   have hE5:=hE.came0 hC5
   cases hst6: (xj_ (zY_ (qg_ l)) W).1 with
   |false=>
    have hvv:=KM_ hst6
    generalize (xj_ (zY_ (qg_ l)) W).2=W2 at*
    refine ko @zE_ ?_
    first|with_reducible refine ks [] @zE_ ?_|refine kp @zE_ ?_
    exact Again.mk ⟨W2,D5⟩ (by show 50000 - W2.vis.length<50000 - W.vis.length;omega) ⟨hP5,hE5,hN'⟩ rfl rfl
   |true=>
    have hqf:=acZ_ hst6
    generalize (xj_ (zY_ (qg_ l)) W).2=Wf at*
    have hNf:New w2.heap.size (D5++ (D2++D3)):=New.app (New.of_le fun c hc=>(hE5.new c hc).elim (fun h=>by cases h) id) hN23
    have hrv: ∀i,i∈r↔i∈r.reverse:=fun i=>List.mem_reverse.symm
    have q1:=ajI_ hWa hqa hWc hqc hrv
    have q2:=ajT_ hWa hqa hWc hqc hrv
    have q3:=ajI_ hWa hqa hN'.I hqf (fun i=>Iff.rfl)
    have q4:=ajT_ hWa hqa hN'.I hqf (fun i=>Iff.rfl)
    have s1:=vQ_ Wa.ms
    have s2:=vQ_ Wc.ms
    have s3:=vQ_ (Wa.lk.map ChildL.id)
    have s4:=vQ_ (Wc.lk.map ChildL.id)
    have s5:=vQ_ Wf.ms
    have s6:=vQ_ (Wf.lk.map ChildL.id)
    rw[List.length_map] at s3 s4 s6
    refine ko @zE_ ?_
    first|with_reducible refine ks [] @zE_ ?_|refine kp @zE_ ?_
    refine Ow.callFV rfl Tryz.call13 (fun w' hw'=>qo_ w' (hG2.new hw' hNf)) ?_
    refine ko @zE_ ?_
    refine Ow.callFV rfl Tryz.call26 (fun w' hw'=>xQ_ va vc _ _ w' (x7_ hga (fun b o hm=>hw'.has b o (by simp[hm]))) (x7_ hgc (fun b o hm=>hw'.has b o (by simp[hm]))) (by omega) (by omega)) ?_
    rw[decide_eq_true q1]
    refine ko @zE_ ?_
    refine Ow.callFV rfl Tryz.call26 (fun w' hw'=>xQ_ vb' vd _ _ w' (x7_ hgb (fun b o hm=>hw'.has b o (by simp[hm]))) (x7_ hgd (fun b o hm=>hw'.has b o (by simp[hm]))) (by show(vh_ _).length<_;omega) (by show(vh_ _).length<_;omega)) ?_
    rw[decide_eq_true (show vW_ Wa.lk=vW_ Wc.lk from q2)]
    refine ko @zE_ ?_
    refine Ow.callC rfl rfl Tryz.call27 (fun w' hw'=>ZY_ bw v1 Wf w' ⟨D5,fun p hp=>hw'.has _ _ (List.mem_append_left _ hp),hP5⟩ hN'.I.nm (by omega)) (fun B7 v7 D7 hA7 hB7 hN7 hS7=> ?_)
    refine ko @zE_ ?_
    refine Ow.callFV rfl Tryz.call26 (fun w' hw'=>xQ_ va v7 _ _ w' (x7_ hga (fun b o hm=>hw'.has b o (by simp[hm]))) (x7_ hS7 (fun b o hm=>hw'.has b o (by simp[hm]))) (by omega) (by omega)) ?_
    rw[decide_eq_true q3]
    refine ko @zE_ ?_
    refine Ow.callC rfl rfl Tryz.call28 (fun w' hw'=>wz_ bw v1 Wf w' ⟨D5,fun p hp=>hw'.has _ _ (by simp[hp]),hP5⟩ (by omega)) (fun B8 v8 D8 hA8 hB8 hN8 hS8=> ?_)
    refine ko @zE_ ?_
    refine Ow.callFV rfl Tryz.call26 (fun w' hw'=>xQ_ vb' v8 _ _ w' (x7_ hgb (fun b o hm=>hw'.has b o (by simp[hm]))) (x7_ hS8 (fun b o hm=>hw'.has b o (by simp[hm]))) (by show(vh_ _).length<_;omega) (by show(vh_ _).length<_;omega)) ?_
    rw[decide_eq_true (show vW_ Wa.lk=vW_ Wf.lk from q4)]
    refine ko @zE_ ?_
    first|with_reducible refine ks [] @zE_ ?_|refine kp @zE_ ?_
    refine⟨_,(ke @zE_),(hNf.app (hN7.mono hB7)).app (hN8.mono hB8), ?_⟩
    rfl
end Go.Proofs
end
section
open Go Go.Proofs Go.Sx Go.StP
namespace Go.Proofs
set_option linter.unusedSimpArgs false
theorem amh_ {n:Int} (h: (Lit.int .u8 n).wf=true): ∃c:UInt8,Value.int .u8 n=v8 c:=by
 simp only[Lit.wf,Bool.and_eq_true,decide_eq_true_eq] at h
 have h1: (0:Int)≤n:=h.1
 have h2:n≤255:=h.2
 refine⟨UInt8.ofNat n.toNat, ?_⟩
 unfold v8
 rw[UInt8.toNat_ofNat',Nat.mod_eq_of_lt (by omega),Int.toNat_of_nonneg h1]
end Go.Proofs
end
namespace Go.Proofs
end Go.Proofs
namespace Go.Sx
open Go
theorem aag_ {P:Program} {f:FuncId} {fn:Func} {s:ChangeSpec} {c:OpenClaim}
  (h1: (c.wf (OpenSpec.ofChange s))=true)
  (h2: (laidOutB P)=true)
  (h3: (mapsRowed P)=true)
  (h4: (fn.params.all (P.readableRec ·))=true)
  (h5: (namedTie P c.named s.vars)=true)
  (h6: ((c.stops== []))=true)
  (h7: ((P.stops== []))=true)
  (h8: ((c.knobs== []))=true)
  (h9: ((P.stopKnobs== []))=true)
  (h10: ((c.inPlace==P.inPlace f))=true)
  (h11: ((c.unfollowed==P.unfollowed f))=true)
  (h12: ((c.recurses==P.recurses f))=true)
  (h13: ((c.named==P.varsNamed f))=true)
  (h14: ((c.maps==(fn.params.toList++s.plain.varTypes P).any (P.mapsRec ·)))=true)
  (h15: ((c.ifaces==(fn.params.toList++s.plain.varTypes P).any (P.ifacesRec ·)))=true)
  (h16: ((c.mapsOut==P.mapsAmong fn.resultTypes.toList))=true)
  (h17: ((c.loops==(fn.params.toList++s.plain.varTypes P).any (P.loopsFrom ·)))=true)
  (h18: ((c.wideKeys==(fn.params.toList++s.plain.varTypes P++fn.resultTypes.toList).any (P.wideKeysFrom ·)))=true)
  (h19: (s.vars.all (P.varReadable ·))=true)
  (h20: (fn.resultTypes.all (fun t=>P.readableRec t&&decide (t<P.types.size)))=true)
  (h21: ((c.ifacesOut==fn.resultTypes.toList.any (P.ifacesRec ·)))=true)
  (h22: ((c.loopsOut==fn.resultTypes.toList.any (P.loopsFrom ·)))=true)
  (h23: ((c.plainKeys==P.plainKeys))=true)
  (h24: (c.shortTexts.isNone)=true)
  (h25: (P.stopsHeard)=true)
  (h26: (P.mayEnter)=true)
  (h27: ((c.lifted==P.liftsFinal))=true)
  (h28: ((P.make==some c.make))=true)
  (h29: ((c.kinds==(if c.domain.isEmpty then [] else fn.params.toList.map fun t=>match P.underlying t with|some (.int k)=>some k|_=>none)))=true)
  (h30: ((c.pinned==c.pinnedBy))=true)
  (h31: ((c.veiled==(fn.params.toList++s.plain.varTypes P++fn.resultTypes.toList).any (P.veiledRec ·)))=true)
  (h32: (c.veiledFits P fn.params.toList (fn.params.toList++s.plain.varTypes P++fn.resultTypes.toList))=true):
  joinedFacts P f fn s c=true:=by
 unfold joinedFacts
 exact(Bool.and_eq_true_iff.2 ⟨(Bool.and_eq_true_iff.2 ⟨(Bool.and_eq_true_iff.2 ⟨(Bool.and_eq_true_iff.2 ⟨(Bool.and_eq_true_iff.2 ⟨(Bool.and_eq_true_iff.2 ⟨(Bool.and_eq_true_iff.2 ⟨(Bool.and_eq_true_iff.2 ⟨(Bool.and_eq_true_iff.2 ⟨(Bool.and_eq_true_iff.2 ⟨(Bool.and_eq_true_iff.2 ⟨(Bool.and_eq_true_iff.2 ⟨(Bool.and_eq_true_iff.2 ⟨(Bool.and_eq_true_iff.2 ⟨(Bool.and_eq_true_iff.2 ⟨(Bool.and_eq_true_iff.2 ⟨(Bool.and_eq_true_iff.2 ⟨(Bool.and_eq_true_iff.2 ⟨(Bool.and_eq_true_iff.2 ⟨(Bool.and_eq_true_iff.2 ⟨(Bool.and_eq_true_iff.2 ⟨(Bool.and_eq_true_iff.2 ⟨(Bool.and_eq_true_iff.2 ⟨(Bool.and_eq_true_iff.2 ⟨(Bool.and_eq_true_iff.2 ⟨(Bool.and_eq_true_iff.2 ⟨(Bool.and_eq_true_iff.2 ⟨(Bool.and_eq_true_iff.2 ⟨(Bool.and_eq_true_iff.2 ⟨(Bool.and_eq_true_iff.2 ⟨(Bool.and_eq_true_iff.2 ⟨h1,h2⟩),h3⟩),h4⟩),h5⟩),h6⟩),h7⟩),h8⟩),h9⟩),h10⟩),h11⟩),h12⟩),h13⟩),h14⟩),h15⟩),h16⟩),h17⟩),h18⟩),h19⟩),h20⟩),h21⟩),h22⟩),h23⟩),h24⟩),h25⟩),h26⟩),h27⟩),h28⟩),h29⟩),h30⟩),h31⟩),h32⟩)
end Go.Sx
