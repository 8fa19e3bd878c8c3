/-
  Part 4 of the walk: contracts of the functions that the law reaches, and the calculus they stand on.
  No conditions.
-/
import Derived.Test.YtfdphhalimbpbaaGreatDoorA3
section
open Go Go.Proofs Go.Sx Go.StP Go.RooP
namespace Go.Proofs
set_option maxRecDepth 10000
set_option maxHeartbeats 400000
set_option linter.unusedSimpArgs false
def RowX {α:Type} (m:Nat) (enc:α→List Value) (z:α) (w:World) (v:Value) (l:List α) (X:zi_):Prop:= ∃b off arr E fz,RowS m enc z w v l b off arr E fz∧(0<l.length→b∉keys X)
theorem RowX.old {α:Type} {m:Nat} {enc:α→List Value} {z:α} {w w':World} {v:Value} {l:List α} {L X:zi_} (h:RowX m enc z w v l L) (hw:Hp w L w') (hX: ∀c,c∈keys X→c∈keys L):RowX m enc z w' v l X:=by
 obtain⟨b,off,arr,E,fz,hr,hb⟩:=h
 exact⟨b,off,arr,E,fz,hr.old hw hb,fun h0 hm=>hb h0 (hX _ hm)⟩
theorem RowX.ext {α:Type} {m:Nat} {enc:α→List Value} {z:α} {w:World} {v:Value} {l:List α} {L X:zi_} (h:RowX m enc z w v l X) (hL: ∀c,c∈keys L→c∈keys X∨w.heap.size≤c):RowX m enc z w v l L:=by
 obtain⟨b,off,arr,E,fz,hr,hb⟩:=h
 refine⟨b,off,arr,E,fz,hr,fun h0 hm=> ?_⟩
 rcases hL _ hm with h1|h1
 ·exact hb h0 h1
 ·have:=hr.lt h0;omega
theorem SlV.rowX {α:Type} {m:Nat} {enc:α→List Value} {z:α} {w:World} {v:Value} {l:List α} (h:SlV m enc z w v l):RowX m enc z w v l []:=by
 obtain⟨b,off,arr,E,fz,hr⟩:=h.row
 exact⟨b,off,arr,E,fz,hr,fun _ hm=>by cases hm⟩
theorem SrcW.mem {w:World} {L:zi_} {sv:Value} {m:List (IdL×ObK)} (h:SrcW w sv m []) {_bx:Nat} (_:True) (hL:New w.heap.size L):SrcW w sv m L:=h.ext fun c hc=> .inr (hL.le c hc)
theorem _root_.Go.Sx.Ext.trans2 {w:World} {X D E:zi_} (h:Ext w X D) (h2:Ext w D E):Ext w X E:=⟨fun c hc=>(h2.new c hc).elim (h.new c) .inr,fun c hc=>h2.all c (h.all c hc)⟩
theorem adA_ {w:World} {X D E:zi_} (h:Ext w X D) (hN:New w.heap.size E):Ext w X (D++E):=⟨fun c hc=>by
  rw[zd_] at hc
  exact(List.mem_append.1 hc).elim (h.new c) fun hc=> .inr (hN.le c hc),fun c hc=>by rw[zd_];exact List.mem_append_left _ (h.all c hc)⟩
theorem amF_ (b o:Nat):q9_ Tryz.prog .eql 41 (vp b o) (.pointer none)=some (.bool false):=by
 simp[q9_,eqX,qX_,jr_,Tryz.underlying41,vp]
theorem akG_ (b o:Nat):q9_ Tryz.prog .neq 41 (vp b o) (.pointer none)=some (.bool true):=by
 simp[q9_,eqX,qX_,jr_,Tryz.underlying41,vp]
theorem WkA.more {bw:Nat} {sv:Value} {W:WkS} {vq:Value} {bv:Nat} {ov:Obj} {bm:Nat} {om:Obj} {vl:Value} {Q M X G D:zi_} (h:WkA bw sv W vq bv ov bm om vl Q M X) (hD:D.Perm (X++G)):WkA bw sv W vq bv ov bm om vl Q (M++G) D where
 perm:=hD.trans ((h.perm.append_right G).trans (by rw[List.cons_append,List.cons_append,List.cons_append,List.append_assoc]))
 q:=h.q
 l:=h.l.app
 v:=h.v
 m:=h.m
theorem WkP.more {bw:Nat} {sv:Value} {W:WkS} {X G D:zi_} (h:WkP bw sv W X) (hD:D.Perm (X++G)):WkP bw sv W D:=by
 obtain⟨vq,bv,ov,bm,om,vl,Q,M,h⟩:=h
 exact⟨vq,bv,ov,bm,om,vl,Q,M++G,h.more hD⟩
structure MkStG where
 q:List ChildL
 X:zi_
set_option linter.defProp false
def kA_:=And.intro (And.intro (And.intro (And.intro (@qw_) (@qg_)) (And.intro (@qf_) (And.intro (@qd_) (@Sx.tup2_0)))) (And.intro (And.intro (@Sx.tup2_1) (@zJ_)) (And.intro (@zI_) (And.intro (@q4_) (@xM_))))) (And.intro (And.intro (And.intro (@xe_) (@j7_)) (And.intro (@zG_) (And.intro (@jG_) (@l5_0)))) (And.intro (And.intro (@l5_1) (And.intro (@l5_2) (@l5_3))) (And.intro (@l5_4) (And.intro (@amF_) (@akG_)))))
theorem ZQ_ (bw:Nat) (sv:Value) (W:WkS) (m:List (IdL×ObK)) (X:zi_) (w:World) (hX: ∀p,p∈X→w.heap[p.1]? =some p.2) (hn: (keys X).Nodup) (hP:WkP bw sv W X) (hS:SrcW w sv m X)
  (hb1:W.q.length<10000000) (hb2:W.lk.length<10000000):
  Rets Tryz.prog 24 #[vp bw 0] w (XS w X (fun v D=>v= .bool (xy_ (zN_ m) W).1∧WkP bw sv (xy_ (zN_ m) W).2 D)):=by
 refine Rets.enterX Tryz.func24 rfl (rs:= [.tmp 2]) Tryz.results24 Tryz.ntmps24 hX hn ?_
 refine kf ?_
 first|with_reducible refine ks [] @kA_ ?_|refine kp @kA_ ?_
 refine Cw.loopG (G:=MkStG) [4,5,6,7,8,9,10,11,12,13,14,15,16,17,18,19,3,20,21,22,23,24,25,26,27,28,29,30,31,32,33,34,35,36,37,2] (fun g=> []) (fun g=>g.X) (fun g=>WkP bw sv {W with q:=g.q} g.X∧Ext w X g.X∧stepQ (zN_ m) W g.q=xy_ (zN_ m) W∧g.q.length≤W.q.length) (fun g=>g.q.length) ⟨W.q,X⟩ rfl rfl ?_ ?_
 ·exact⟨hP,Ext.refl _ _,rfl,Nat.le_refl _⟩
 intro g j hg
 refine kv ?_
 clear hP hX hn
 obtain⟨q,X'⟩:=g
 simp only at hg ⊢
 obtain⟨hP,hE,hst,hql⟩:=hg
 refine Cw.world fun wz hwz=> ?_
 have hnX:=hwz.nodup
 clear hwz wz
 obtain⟨vq,bv,ov,bm,om,vl,Q,M,hA⟩:=hP
 obtain⟨hn1,hn2,hn3,hn4⟩:=hA.ne hnX
 have hkX:=hA.keysX
 refine Cw.permL hA.perm.symm ?_
 have ln:=fun x=>hA.q.len x
 cases q with
 |nil=>
  have d0:decide ((0:Int)< (([]:List ChildL).length:Int))=false:=rfl
  simp only at ln
  first|with_reducible refine ks [] (And.intro @kA_ (And.intro @ln (@d0))) ?_|refine kp (And.intro @kA_ (And.intro @ln (@d0))) ?_
  refine⟨_,(ke @kA_), ?_⟩
  rw[←hst]
  exact⟨hE.perm hA.perm.symm,rfl,vq,bv,ov,bm,om,vl,Q,M,List.Perm.refl _,hA.q,hA.l,hA.v,hA.m⟩
 |cons c q=>
  have hq1:=hA.q
  simp only at ln hq1
  rw[List.length_cons] at hq1 ln hql
  obtain⟨bq,offq,arrq,hlq,hixq,hldq⟩:=Qu.head hq1 zo_
  obtain⟨vt,hvt,hq2⟩:=Qu.tail hq1 zo_
  have hbq:=hn4 bq (.inl (zn_ hlq))
  have rq:zv_ w ((bw, .cells #[sv,vq,vm bv,vm bm,vl] 133 (0,0)):: (bv,ov):: (bm,om):: (Q++M)) bq=some (.cells arrq 59 (0,0)):=by
   rw[zx_ _ _ _ _ _ (Ne.symm hbq.1),zx_ _ _ _ _ _ (Ne.symm hbq.2.1),zx_ _ _ _ _ _ (Ne.symm hbq.2.2)]
   exact zg_ (zp_ hlq)
  have d0:decide ((0:Int)< ((q.length+1:Nat):Int))=true:=decide_eq_true (by omega)
  first|with_reducible refine ks [] (And.intro @kA_ (And.intro @ln (And.intro @d0 (And.intro @hixq (And.intro @rq (@hldq)))))) ?_|refine kp (And.intro @kA_ (And.intro @ln (And.intro @d0 (And.intro @hixq (And.intro @rq (@hldq)))))) ?_
  refine Ow.alloc rfl rfl jF_ fun b3 hb3 hw3=> ?_
  simp only[ze_,List.nil_append,List.cons_append]
  refine Ow.permL (M:=(b3, .cells (zm_ chd0).toArray 59 (0,0)):: (bw, .cells #[sv,vq,vm bv,vm bm,vl] 133 (0,0)):: (bv,ov):: (bm,om):: (Q++M)) (by classical exact List.perm_iff_count.2 fun a=>by simp only[List.count_append,List.count_cons,List.count_nil]<;>omega) ?_
  have h3w:bw<b3:=zf_ hb3 (by simp[keys])
  have h3v:bv<b3:=zf_ hb3 (by simp[keys])
  have h3m:bm<b3:=zf_ hb3 (by simp[keys])
  have st1:=s5_1 sv vq (vm bv) (vm bm) vl vt 133 hq2.cell
  refine ko @kA_ ?_
  first|with_reducible refine ks [] (And.intro @kA_ (And.intro @hvt (@st1))) ?_|refine kp (And.intro @kA_ (And.intro @hvt (@st1))) ?_
  refine Cw.regionS [bw,b3] [0,1,2,3,4,5,6] [] (by kernel_rfl) (by kernel_rfl) (by kernel_rfl) ?_
  simp only[zh_, ↓zc_, ↓za_, ↓zk_, ↓zj_,zb_]
  refine kq @kA_ ?_
  refine Ow.soft rfl rfl rfl ?_
  refine Ow.mapGetG (encK:=chKV) (encV:=blV) (k:=c) (z:=false) rfl rfl Tryz.underlying130 ahj_ zrBl rfl rfl (by rw[zx_ _ _ _ _ _ (by omega),zx_ _ _ _ _ _ (by omega)];exact zV_ _ _ _ _) hA.v ?_
  with_reducible refine Ow.nil ?_
  refine⟨by intro b hb;simp only[List.mem_cons,List.not_mem_nil,or_false] at hb;(try subst hb);rfl, ?_⟩
  rw[getT]
  have hE3:Ext w X ((b3, .cells (zm_ c).toArray 59 (0,0)):: (bw, .cells #[sv,vt,vm bv,vm bm,vl] 133 (0,0)):: (bv,ov):: (bm,om):: (Q++M)):=by
   refine⟨fun x hx=> ?_,fun x hx=> ?_⟩
   ·simp only[keys,List.map_cons,List.mem_cons] at hx
    rcases hx with rfl|hx
    ·exact .inr hw3
    ·exact hE.new x ((hkX x).2 (by simpa [keys,List.mem_append] using hx))
   ·have:=(hkX x).1 (hE.all x hx)
    simp only[keys,List.map_cons,List.map_append,List.mem_cons,List.mem_append] at this ⊢
    exact .inr this
  have hA3:WkA bw sv {W with q:=q} vt bv ov bm om vl Q (M++ [(b3,Obj.cells (zm_ c).toArray 59 (0,0))]) ((b3, .cells (zm_ c).toArray 59 (0,0)):: (bw, .cells #[sv,vt,vm bv,vm bm,vl] 133 (0,0)):: (bv,ov):: (bm,om):: (Q++M)):=⟨(by classical exact List.perm_iff_count.2 fun a=>by simp only[List.count_append,List.count_cons,List.count_nil]<;>omega),hq2,hA.l.app,hA.v,hA.m⟩
  by_cases hc:c∈W.vis
  ·have ec:blV (decide (c∈W.vis))= .bool true:=by rw[decide_eq_true hc];rfl
   refine kq (And.intro @kA_ @ec) ?_
   try with_reducible refine Ow.nil ?_
   first|with_reducible refine ks [] @kA_ ?_|refine kp @kA_ ?_
   refine Again.mk ⟨q,_⟩ (by show q.length< (c::q).length;simp) ⟨⟨vt,bv,ov,bm,om,vl,Q,_,hA3⟩,hE3, ?_,by show q.length≤_;omega⟩ rfl rfl
   show stepQ (zN_ m) W q=_
   rw[←hst,stepQ,if_pos hc]
  ·have ec:blV (decide (c∈W.vis))= .bool false:=by rw[decide_eq_false hc];rfl
   refine kq (And.intro @kA_ @ec) ?_
   try with_reducible refine Ow.nil ?_
   first|with_reducible refine ks [] @kA_ ?_|refine kp @kA_ ?_
   rw[←hst]
   have hsr:stepQ (zN_ m) W (c::q)=(false,jk_ (zN_ m) {W with q:=q} c):=by rw[stepQ,if_neg hc]
   rw[hsr]
   generalize (b3,Obj.cells (zm_ c).toArray 59 (0,0)):: (bw, .cells #[sv,vt,vm bv,vm bm,vl] 133 (0,0)):: (bv,ov):: (bm,om):: (Q++M)=L3 at*
   refine Ow.callX (X:=L3) (Y:= []) (List.append_nil _).symm rfl rfl Tryz.call72 (fun w' hw' hX' hn'=>aey_ bw sv {W with q:=q} m c L3 w' hX' hn' ⟨vt,bv,ov,bm,om,vl,Q,_,hA3⟩ ((hS.ext hE3.new).old hw' fun _ h=>h) hc (by show q.length<_;omega) hb2) (fun v4 D4 hC4 hS4=> ?_)
   rw[List.append_nil]
   obtain⟨rfl,hP4⟩:=hS4
   refine ko @kA_ ?_
   first|with_reducible refine ks [] @kA_ ?_|refine kp @kA_ ?_
   refine⟨_,(ke @kA_), ?_⟩
   exact⟨hE3.came0 hC4,rfl,hP4⟩
theorem Qt_ (r:ChildL):jn_ (wA_ Tryz.prog 59) (z8_ Tryz.prog 59) [(0,Value.agg (a8 r.id.l))]=some (.agg (zm_ ⟨r.id,0⟩).toArray):=by
 have hp:wA_ Tryz.prog 59=some [(0,32),(32,1)]:=id (by kernel_rfl)
 rw[hp,jF_]
 have e0: (zm_ chd0).toArray=(([]:List Value)++ ((chd0.id.l.map v8)++ ([vi chd0.kind]))).toArray:=by congr 1<;>simp only[zm_,List.append_assoc,List.nil_append,List.append_nil]
 have q0:xA_ (([]:List Value)++ ((chd0.id.l.map v8)++ ([vi chd0.kind]))).toArray 0 (r.id.l.map v8)=(([]:List Value)++ ((r.id.l.map v8)++ ([vi chd0.kind]))).toArray:=ZW_ _ _ _ _ (by simp) (by simp[chd0.id.h,r.id.h])
 have s0: (([]:List Value)++ ((chd0.id.l.map v8)++ ([vi chd0.kind]))).toArray.size=33:=by simp[r.id.h,chd0.id.h]
 have z0: (Value.cells (Value.agg (a8 r.id.l))).toList=r.id.l.map v8:=by rw[ze_];rfl
 have y0: (Value.cells (Value.agg (a8 r.id.l))).size=32:=by rw[←Array.length_toList,z0];simp[r.id.h]
 have eZ: (([]:List Value)++ ((r.id.l.map v8)++ ([vi chd0.kind]))).toArray=(zm_ ⟨r.id,0⟩).toArray:=by congr 1
 simp only[jn_]
 rw[e0]
 unfold Sx.fillV
 simp only[List.getElem?_cons_zero,List.getElem?_cons_succ,z0,y0]
 rw[if_pos ⟨trivial,by rw[s0];decide⟩,q0]
 rw[eZ];rfl
structure MkAdG where
 i:Nat
 X:zi_
set_option linter.defProp false
def qA_:=And.intro (And.intro (And.intro (And.intro (@qw_) (@qg_)) (And.intro (@qf_) (And.intro (@qd_) (@Sx.tup2_0)))) (And.intro (And.intro (@Sx.tup2_1) (@zJ_)) (And.intro (@zI_) (And.intro (@kp_) (@xM_))))) (And.intro (And.intro (And.intro (@xe_) (@j7_)) (And.intro (@zG_) (And.intro (@jG_) (@l5_0)))) (And.intro (And.intro (@l5_1) (And.intro (@l5_2) (@l5_3))) (And.intro (@l5_4) (And.intro (@amF_) (@akG_)))))
theorem ah6_ (bw:Nat) (sv:Value) (W:WkS) (v:Value) (l:List IdL) (X:zi_) (w:World) (hX: ∀p,p∈X→w.heap[p.1]? =some p.2) (hn: (keys X).Nodup) (hP:WkP bw sv W X) (hR:RowX 32 z4_ id0 w v l X)
  (hb1:W.q.length<10000000) (hl:l.length<1000000):
  Rets Tryz.prog 23 #[vp bw 0,v] w (XS w X (fun v D=>v= .tuple #[]∧WkP bw sv (wr_ W l) D)):=by
 obtain⟨rb,off,arr,E,fz,hr,hrb⟩:=hR
 have lnv:=fun x=>hr.len x
 refine Rets.enterX Tryz.func23 rfl (rs:= []) Tryz.results23 Tryz.ntmps23 hX hn ?_
 refine kf ?_
 first|with_reducible refine ks [] (And.intro @qA_ @lnv) ?_|refine kp (And.intro @qA_ @lnv) ?_
 refine Cw.loopG (G:=MkAdG) [11,12,13,5,14,15,16,17,18,19,20,21,22,23,24,25,10] (fun g=> [(10,vi g.i)]) (fun g=>g.X) (fun g=>g.i≤l.length∧WkP bw sv (wr_ W (l.take g.i)) g.X∧Ext w X g.X) (fun g=>l.length - g.i) ⟨0,X⟩ rfl rfl ?_ ?_
 ·refine⟨Nat.zero_le _, ?_,Ext.refl _ _⟩
  have:wr_ W (l.take 0)=W:=by unfold wr_;simp
  rw[this];exact hP
 intro g j hg
 refine kv ?_
 clear hP hX hn
 obtain⟨i,X'⟩:=g
 simp only at hg ⊢
 obtain⟨hi,hP,hE⟩:=hg
 by_cases hlt:i<l.length
 ·refine Cw.world fun wz hwz=> ?_
  have hnX:=hwz.nodup
  clear hwz wz
  obtain⟨vq,bv,ov,bm,om,vl,Q,M,hA⟩:=hP
  obtain⟨hn1,hn2,hn3,hn4⟩:=hA.ne hnX
  have hkX:=hA.keysX
  have hrl:=hr.lt (by omega)
  have hrn:rb∉keys X':=hE.not hrl (hrb (by omega))
  have rd: ∀L:zi_,(∀c,c∈keys L→c∈keys X'∨w.heap.size≤c)→zv_ w L rb=some (.cells arr E fz):=fun L hL=>by
   rw[qD_ (fun hm=>by rcases hL _ hm with h|h;exact hrn h;omega)];exact hr.has (by omega)
  have ix:=hr.idx true i hlt
  have ld:=JU_ hr hlt
  have hts:wr_ W (l.take (i+1))={wr_ W (l.take i) with q:=(wr_ W (l.take i)).q++ [⟨l.getD i id0,0⟩]}:=by
   rw[StP.take_snoc (z:=id0) hlt]
   unfold wr_
   simp
  have hql: (wr_ W (l.take i)).q.length<20000000:=by
   unfold wr_
   simp only[List.length_append,List.length_map,List.length_take]
   omega
  have hd0:decide ((i:Int)< (l.length:Int))=true:=decide_eq_true (by omega)
  generalize hx:l.getD i id0=x at*
  have hxh:=x.h
  have rd0:=rd X' fun c hc=> .inl hc
  first|with_reducible refine ks [] (And.intro @qA_ (And.intro @hd0 (And.intro @ix (And.intro @rd0 (@ld))))) ?_|refine kp (And.intro @qA_ (And.intro @hd0 (And.intro @ix (And.intro @rd0 (@ld))))) ?_
  refine Ow.alloc rfl rfl Qz_ fun b5 hb5 hw5=> ?_
  simp only[ze_,List.nil_append,List.cons_append]
  have hi0:=id0.h
  have hwb5:bw<b5:=zf_ hb5 ((hkX bw).2 (.inl rfl))
  have hQ5: ∀c,c∈keys Q→c<b5:=fun c hc=>zf_ hb5 ((hkX c).2 (.inr (.inr (.inr (.inl hc)))))
  have h5Q:b5∉keys Q:=fun h=>Nat.lt_irrefl _ (hQ5 _ h)
  have hbQ:bw∉keys Q:=fun h=>(hn4 _ (.inl h)).1 rfl
  have h5X: ∀Y,X'.Perm Y→(X'++ [(b5,Obj.cells (a8 id0.l) 24 (0,0))]).Perm ((b5,Obj.cells (a8 id0.l) 24 (0,0))::Y):=fun Y h=>(h.append_right _).trans (by classical exact List.perm_iff_count.2 fun a=>by simp only[List.count_append,List.count_cons,List.count_nil]<;>omega)
  refine Ow.permL (h5X _ hA.perm).symm ?_
  refine ko @qA_ ?_
  refine Cw.permL (M:=Q++ ((bw, .cells #[sv,vq,vm bv,vm bm,vl] 133 (0,0)):: (b5, .cells (a8 x.l) 24 (0,0)):: (bv,ov):: (bm,om)::M)) (by classical exact List.perm_iff_count.2 fun a=>by simp only[List.count_append,List.count_cons,List.count_nil]<;>omega) ?_
  have rbw:=fun Y=>zg_ (w0:=w) (zu_ (D:=Q) (Y:=Y) (o:= .cells #[sv,vq,vm bv,vm bm,vl] 133 (0,0)) hbQ)
  have rb5:=fun Y=>zg_ (w0:=w) (zD_ (D:=Q) (Y:=Y) (o:= .cells #[sv,vq,vm bv,vm bm,vl] 133 (0,0)) (x:= .cells (a8 x.l) 24 (0,0)) h5Q (show bw≠b5 by omega))
  have bd:=Qt_ ⟨x,0⟩
  refine Cw.regionG [bw,b5] [11] 12 (by kernel_rfl) rfl ?_
  simp only[List.replicate_succ,List.replicate_zero]
  refine OwG.run [0,1,2,3,4,5] [true,true,true,true,true,true,false,false,false,false,false,false] 6 rfl (by kernel_rfl) (by kernel_rfl) fun k hk=> ?_
  simp only[zh_, ↓zc_, ↓za_, ↓zk_, ↓zj_,zb_]
  simp(disch:=(first|assumption|omega| (simp only[qF_,qC_,UInt64.reduceToNat];try omega))) only[↓Sx.S0,Sx.S1,Tryz.fx,qA_,Nat.reduceAdd,Nat.reducePow,Int.reducePow,Nat.reduceBEq, ↓reduceIte,UInt8.reduceToNat,UInt16.reduceToNat,UInt32.reduceToNat,UInt64.reduceToNat,Int.reduceToNat,Md.next_sofnil,rbw,rb5]
  (with_reducible refine hk _ _ _ ?_);clear hk k
  refine OwG.one 6 _ (by kernel_rfl) rfl ?_
  refine Ow.build (.agg (zm_ ⟨x,0⟩).toArray) rfl bd ?_
  with_reducible refine Ow.nil ?_
  refine⟨(fun r hr=>rfl), ?_⟩
  simp only[List.set_cons_zero,List.set_cons_succ,zl_,zy_,zz_]
  refine OwG.one 7 _ (by kernel_rfl) rfl ?_
  refine Ow.buildSlice (e:=59) (zm_ ⟨x,0⟩).toArray rfl rfl (jw_ ⟨x,0⟩) fun ba hba hwa=> ?_
  with_reducible refine Ow.nil ?_
  refine⟨(zq_ (fun r hr=>by simp only[List.mem_cons,List.not_mem_nil,or_false] at hr;rcases hr with rfl|rfl<;>simp[keys])), ?_⟩
  simp only[List.set_cons_zero,List.set_cons_succ,zl_,zy_,zz_]
  refine OwG.one 8 _ (by kernel_rfl) rfl ?_
  refine Ow.appendQ (e:=59) (k:=1) (new:=zm_ ⟨x,0⟩) (X:=Q) vq (List.append_assoc _ _ _) rfl rfl rfl Tryz.underlying44 q1_ (by kernel_rfl) jF_ (by rw[zG_,List.size_toArray,zo_]) Tryz.underlying44 (by intro k h;cases h) hA.q (fun w' hw'=>AppX.one1 (hw'.has ba (.cells (zm_ ⟨x,0⟩).toArray 59 (0,0)) (by simp)) (zo_ _) (qe_ _)) (by omega) (fun B7 v7 D7 hA7 hB7 hG7 hk17 hk27 hlk7=> ?_)
  have hbD:bw∉keys D7:=qq_ hA7 (by simp[keys]) hbQ hk27
  have h5D:b5∉keys D7:=qq_ hA7 (by simp[keys]) h5Q hk27
  have c7:=hG7.cell
  have lD7:=fun Y=>zu_ (D:=D7) (Y:=Y) (o:= .cells #[sv,vq,vm bv,vm bm,vl] 133 (0,0)) hbD
  have st7:=s5_1 sv vq (vm bv) (vm bm) vl v7 133 c7
  with_reducible refine Ow.nil ?_
  refine⟨(fun r hr=>by simp only[List.mem_cons,List.not_mem_nil,or_false] at hr;rcases hr with rfl|rfl;exact(zg_ (zu_ hbD)).trans (zg_ (zp_ (zu_ hbQ))).symm;exact(zg_ (zD_ h5D (by omega))).trans (zg_ (zp_ (zD_ h5Q (by omega)))).symm), ?_⟩
  simp only[List.set_cons_zero,List.set_cons_succ,zl_,zy_,zz_]
  refine OwG.rest [9,10,11] rfl (by kernel_rfl) (by kernel_rfl) ?_
  simp only[zh_, ↓zc_, ↓za_, ↓zk_, ↓zj_,zb_]
  refine kq @qA_ ?_
  refine Ow.store rfl rfl rfl (ke (And.intro @qA_ (And.intro @lD7 (@st7)))) ?_
  have es:=fun Y x=>q6_ (D:=D7) (Y:=Y) (o:= .cells #[sv,vq,vm bv,vm bm,vl] 133 (0,0)) (x:=x) hbD
  simp only[List.cons_append] at*
  rw[es]
  refine ko @qA_ ?_
  first|with_reducible refine ks [] @qA_ ?_|refine kp @qA_ ?_
  refine Again.mk ⟨i+1,_⟩ (by show l.length - (i+1)<l.length - i;omega) ⟨hlt, ?_, ?_⟩ rfl rfl
  ·show WkP bw sv (wr_ W (l.take (i+1))) _
   rw[hts]
   refine⟨v7,bv,ov,bm,om,vl,D7,M++ [(b5, .cells (a8 x.l) 24 (0,0)),(ba, .cells (zm_ ⟨x,0⟩).toArray 59 (0,0))],⟨(by classical exact List.perm_iff_count.2 fun a=>by simp only[List.count_append,List.count_cons,List.count_nil]<;>omega), ?_,hA.l.app,hA.v,hA.m⟩⟩
   simpa [List.map_append] using hG7
  ·have hNM: ∀y,y∈keys (M++ [(b5, .cells (a8 x.l) 24 (0,0)),(ba,Obj.cells (zm_ ⟨x,0⟩).toArray 59 (0,0))])→y∈keys M∨w.heap.size≤y:=fun y hy=>by
    rw[zd_,List.mem_append] at hy
    refine hy.imp id fun h=> ?_
    simp only[keys,List.map_cons,List.map_nil,List.mem_cons,List.not_mem_nil,or_false] at h
    omega
   have h1:=(hA.ext2 (w:=w) (a:= .cells #[sv,v7,vm bv,vm bm,vl] 133 (0,0)) (b:=ov) (c:=om) (fun x h=>hk17 x h) (fun x h=>(hk27 x h).imp id fun h=>by omega) (fun x h=>by rw[zd_];exact List.mem_append_left _ h) hNM).perm (D':=D7++ ((bw, .cells #[sv,v7,vm bv,vm bm,vl] 133 (0,0)):: (b5, .cells (a8 x.l) 24 (0,0)):: (bv,ov):: (bm,om):: (M++ [(ba, .cells (zm_ ⟨x,0⟩).toArray 59 (0,0))]))) (by classical exact List.perm_iff_count.2 fun a=>by simp only[List.count_append,List.count_cons,List.count_nil]<;>omega)
   exact hE.trans2 h1
 ·obtain rfl:i=l.length:=by omega
  rw[List.take_length] at hP
  have hd0:decide ((l.length:Int)< (l.length:Int))=false:=by simp
  first|with_reducible refine ks [] (And.intro @qA_ @hd0) ?_|refine kp (And.intro @qA_ @hd0) ?_
  refine⟨_,(ke @qA_), ?_⟩
  exact⟨hE,rfl,hP⟩
theorem ajt_ (sv:Value) (b c:Nat) (t:TypeId) (u:Value) (h:sv= .iface t u):jn_ (wA_ Tryz.prog 133) (z8_ Tryz.prog 133) [(0,sv),(2,vm b),(3,vm c)]=some (.agg #[sv, .slice none 0 0,vm b,vm c, .slice none 0 0]):=by
 subst h
 rw[show wA_ Tryz.prog 133=some [(0,1),(1,1),(2,1),(3,1),(4,1)] from id (by kernel_rfl),show z8_ Tryz.prog 133=some (.agg #[.nilIface, .slice none 0 0, .map none, .map none, .slice none 0 0]) from id (by kernel_rfl)];rfl
theorem VW_ (sv:Value) (m:List (IdL×ObK)) (v:Value) (l:List IdL) (w:World) (hS:SrcW w sv m []) (hR:RowX 32 z4_ id0 w v l []) (hl:l.length<1000000):
  Rets Tryz.prog 21 #[sv,v] w (XS w [] (fun v' D=> ∃bw,v'=vp bw 0∧WkP bw sv (newK l) D)):=by
 obtain⟨bx,bm',om',hSA,-,-⟩:=hS
 refine Rets.enterX Tryz.func21 rfl (rs:= [.tmp 4]) Tryz.results21 Tryz.ntmps21 (fun p hp=>by cases hp) (by simp[keys]) ?_
 refine kf ?_
 first|with_reducible refine ks [] @qA_ ?_|refine kp @qA_ ?_
 refine Ow.makeMapG (encK:=chKV) (encV:=blV) rfl rfl fun b1 o1 hb1 hw1 hM1=> ?_
 rw[List.nil_append]
 refine ko @qA_ ?_
 refine Ow.makeMapG (encK:=Z2_) (encV:=blV) rfl rfl fun b2 o2 hb2 hw2 hM2=> ?_
 refine ko @qA_ ?_
 refine Ow.build (.agg #[sv, .slice none 0 0,vm b1,vm b2, .slice none 0 0]) rfl (ajt_ sv b1 b2 _ _ hSA.sv) ?_
 refine ko @qA_ ?_
 refine Ow.box rfl rfl fun b3 hb3 hw3=> ?_
 simp only[zW_,zT_,z1_,ze_,List.cons_append,List.nil_append]
 refine ko @qA_ ?_
 first|with_reducible refine ks [] @qA_ ?_|refine kp @qA_ ?_
 have h12:b1<b2:=zf_ hb2 (by simp[keys])
 have h13:b1<b3:=zf_ hb3 (by simp[keys])
 have h23:b2<b3:=zf_ hb3 (by simp[keys])
 have hNL:New w.heap.size [(b1,o1),(b2,o2),(b3,Obj.cells #[sv, .slice none 0 0,vm b1,vm b2, .slice none 0 0] 133 (0,0))]:=⟨hw1,hw2,hw3,trivial⟩
 have hP0:WkP b3 sv Zy_ [(b1,o1),(b2,o2),(b3,Obj.cells #[sv, .slice none 0 0,vm b1,vm b2, .slice none 0 0] 133 (0,0))]:=⟨.slice none 0 0,b1,o1,b2,o2, .slice none 0 0,[],[],⟨(by classical exact List.perm_iff_count.2 fun a=>by simp only[List.count_append,List.count_cons,List.count_nil]<;>omega), .nl,Gr.nl,hM1,hM2⟩⟩
 refine Ow.callX (X:= [(b1,o1),(b2,o2),(b3,Obj.cells #[sv, .slice none 0 0,vm b1,vm b2, .slice none 0 0] 133 (0,0))]) (Y:= []) (List.append_nil _).symm rfl rfl Tryz.call23 (fun w' hw' hX' hn'=>ah6_ b3 sv Zy_ v l _ w' hX' hn' hP0 ((hR.ext (L:= [(b1,o1),(b2,o2),(b3,Obj.cells #[sv, .slice none 0 0,vm b1,vm b2, .slice none 0 0] 133 (0,0))]) (fun c hc=> .inr (hNL.le c hc))).old hw' fun _ h=>h) (by decide) hl) (fun v4 D4 hC4 hS4=> ?_)
 obtain⟨rfl,hP4⟩:=hS4
 rw[List.append_nil]
 refine ko @qA_ ?_
 first|with_reducible refine ks [] @qA_ ?_|refine kp @qA_ ?_
 refine⟨_,(ke @qA_), ?_⟩
 exact⟨(Ext.of_new hNL).came0 hC4,b3,rfl,hP4⟩
def WkW (w:World) (bw:Nat) (sv:Value) (W:WkS):Prop:= ∃X,(∀p,p∈X→w.heap[p.1]? =some p.2)∧WkP bw sv W X
theorem WkA.has {w:World} {bw:Nat} {sv:Value} {W:WkS} {vq:Value} {bv:Nat} {ov:Obj} {bm:Nat} {om:Obj} {vl:Value} {Q M X:zi_} (h:WkA bw sv W vq bv ov bm om vl Q M X) (hX: ∀p,p∈X→w.heap[p.1]? =some p.2):
  w.heap[bw]? =some (.cells #[sv,vq,vm bv,vm bm,vl] 133 (0,0))∧w.heap[bm]? =some om∧(∀b o,(b,o)∈M→w.heap[b]? =some o):=by
 have hp: ∀p,p∈ ((bw,Obj.cells #[sv,vq,vm bv,vm bm,vl] 133 (0,0)):: (bv,ov):: (bm,om):: (Q++M))→w.heap[p.1]? =some p.2:=fun p hp=>hX p (h.perm.mem_iff.2 hp)
 exact⟨hp (bw,_) (List.mem_cons_self),hp (bm,om) (by simp),fun b o hm=>hp (b,o) (by simp[hm])⟩
theorem kq_ (bw:Nat) (sv:Value) (W:WkS) (w:World) (hW:WkW w bw sv W) (hn:W.ms.Nodup) (hl:W.ms.length<1000000):
  Rets Tryz.prog 27 #[vp bw 0] w (XS w [] (fun v D=>GrI D 24 32 v (xr_ W.ms).length ((xr_ W.ms).map z4_).flatten)):=by
 obtain⟨X,hX,vq,bv,ov,bm,om,vl,Q,M,hA⟩:=hW
 obtain⟨h1,h2,-⟩:=hA.has hX
 refine Rets.enterX Tryz.func27 rfl (rs:= [.tmp 2]) Tryz.results27 Tryz.ntmps27 (fun p hp=>by cases hp) (by simp[keys]) ?_
 refine kf ?_
 first|with_reducible refine ks [] (And.intro @qA_ @h1) ?_|refine kp (And.intro @qA_ @h1) ?_
 refine Ow.callC rfl rfl Tryz.call75 (fun w' hw'=>Xj_ bm om (w0_ W.ms) w' ((hw'.old bm (Array.getElem?_eq_some_iff.1 h2).1 (by simp[keys])).trans h2) hA.m (by rw[Q1_];exact hn) (by rw[ad0_];exact hl)) (fun B v2 D2 hA2 hB2 hN2 hS2=> ?_)
 rw[Q1_] at hS2
 rw[List.nil_append]
 refine ko @qA_ ?_
 refine⟨_,(ke @qA_), ?_⟩
 exact⟨Ext.of_new (hN2.mono hB2),hS2⟩
structure MkMiG where
 k:Nat
 o:Obj
 DG:zi_
theorem xN_ (bw:Nat) (sv:Value) (W:WkS) (w:World) (hW:WkW w bw sv W) (hl:W.lk.length<1000000):
  Rets Tryz.prog 28 #[vp bw 0] w (XS w [] (fun v D=>GrI D 24 32 v (jL_ W.lk).length ((jL_ W.lk).map z4_).flatten)):=by
 obtain⟨X,hX,vq,bv,ov,bm,om,vl,Q,M,hA⟩:=hW
 obtain⟨h1,-,h3⟩:=hA.has hX
 have hsl:SlV 33 zm_ chd0 w vl W.lk:=hA.l.slM h3 rfl rfl zo_
 obtain⟨rb,off,arr,E,fz,hr⟩:=hsl.row
 have ln:=fun x=>hr.len x
 have hlw:=(Array.getElem?_eq_some_iff.1 h1).1
 refine Rets.enterX Tryz.func28 rfl (rs:= [.tmp 2]) Tryz.results28 Tryz.ntmps28 (fun p hp=>by cases hp) (by simp[keys]) ?_
 refine kf ?_
 first|with_reducible refine ks [] @qA_ ?_|refine kp @qA_ ?_
 refine Ow.makeMapG (encK:=Z2_) (encV:=blV) rfl rfl fun b1 o1 hb1 hw1 hM1=> ?_
 rw[List.nil_append]
 have r1:zv_ w [(b1,o1)] bw=some (.cells #[sv,vq,vm bv,vm bm,vl] 133 (0,0)):=by rw[zx_ _ _ _ _ _ (by omega),QU_];exact h1
 refine ko (And.intro @qA_ (And.intro @h1 (@ln))) ?_
 first|with_reducible refine ks [] (And.intro @qA_ (And.intro @h1 (@ln))) ?_|refine kp (And.intro @qA_ (And.intro @h1 (@ln))) ?_
 refine Cw.loopG (G:=MkMiG) [15,16,17,5,18,19,20,21,14] (fun g=> [(14,vi g.k)]) (fun g=>(b1,g.o)::g.DG) (fun g=>g.k≤W.lk.length∧QP_ Z2_ blV g.o (w0_ (QA_ (W.lk.take g.k)))∧New w.heap.size g.DG) (fun g=>W.lk.length - g.k) ⟨0,o1,[]⟩ rfl rfl ?_ ?_
 ·exact⟨Nat.zero_le _,hM1,trivial⟩
 intro g j hg
 refine kv ?_
 obtain⟨k,o,DG⟩:=g
 simp only at hg ⊢
 obtain⟨hk,hM,hN⟩:=hg
 by_cases hlt:k<W.lk.length
 ·have hrl:=hr.lt (by omega)
  have ix:=hr.idx true k hlt
  have ld:=amk_ hr hlt
  have hNN:New w.heap.size ((b1,o)::DG):=⟨hw1,hN⟩
  have rd:zv_ w ((b1,o)::DG) rb=some (.cells arr E fz):=by rw[qD_ (hNN.not hrl)];exact hr.has (by omega)
  have hts:=StP.take_snoc (z:=chd0) hlt
  have hd0:decide ((k:Int)< (W.lk.length:Int))=true:=decide_eq_true (by omega)
  generalize W.lk.getD k chd0=c at*
  have hci:=c.id.h
  first|with_reducible refine ks [] (And.intro @qA_ (And.intro @hd0 (And.intro @ix (And.intro @rd (@ld))))) ?_|refine kp (And.intro @qA_ (And.intro @hd0 (And.intro @ix (And.intro @rd (@ld))))) ?_
  refine Ow.alloc rfl rfl jF_ fun b5 hb5 hw5=> ?_
  simp only[ze_,List.nil_append,List.cons_append]
  have h15:b1<b5:=zf_ hb5 (by simp[keys])
  refine Ow.permL (M:=(b5, .cells (zm_ chd0).toArray 59 (0,0)):: (b1,o)::DG) (by classical exact List.perm_iff_count.2 fun a=>by simp only[List.count_append,List.count_cons,List.count_nil]<;>omega) ?_
  refine ko @qA_ ?_
  first|with_reducible refine ks [] @qA_ ?_|refine kp @qA_ ?_
  refine Ow.mapUpdateG (encK:=Z2_) (encV:=blV) (k:=c.id) (v:=true) rfl rfl Tryz.underlying131 aaB_ rfl rfl rfl (by rw[zY_ _ _ _ _ (by omega)];exact zH_ _ _ _) hM (fun o2 ho2=> ?_)
  rw[ajy_] at ho2
  rw[z6_ _ _ _ _ _ (by omega),qt_]
  refine Ow.permL (M:=(b1,o2):: (b5, .cells (zm_ c).toArray 59 (0,0))::DG) (by classical exact List.perm_iff_count.2 fun a=>by simp only[List.count_append,List.count_cons,List.count_nil]<;>omega) ?_
  refine ko @qA_ ?_
  first|with_reducible refine ks [] @qA_ ?_|refine kp @qA_ ?_
  refine Again.mk ⟨k+1,o2,(b5, .cells (zm_ c).toArray 59 (0,0))::DG⟩ (by show W.lk.length - (k+1)<W.lk.length - k;omega) ⟨hlt, ?_,⟨hw5,hN⟩⟩ rfl rfl
  show QP_ Z2_ blV o2 (w0_ (QA_ (W.lk.take (k+1))))
  rw[hts,afn_]
  exact ho2
 ·obtain rfl:k=W.lk.length:=by omega
  rw[List.take_length] at hM
  have hd0:decide ((W.lk.length:Int)< (W.lk.length:Int))=false:=by simp
  have hml:=afA_ W.lk
  first|with_reducible refine ks [] (And.intro @qA_ @hd0) ?_|refine kp (And.intro @qA_ @hd0) ?_
  refine Ow.callC rfl rfl Tryz.call75 (fun w' hw'=>Xj_ b1 o (w0_ (QA_ W.lk)) w' (hw'.has _ _ List.mem_cons_self) hM (by rw[Q1_];exact acA_ _) (by rw[ad0_];omega)) (fun B v2 D2 hA2 hB2 hN2 hS2=> ?_)
  rw[Q1_,ag5_] at hS2
  refine ko @qA_ ?_
  refine⟨_,(ke @qA_), ?_⟩
  exact⟨Ext.of_new ⟨hw1,hN.app (hN2.mono hB2)⟩,hS2.mono fun p hp=>List.mem_cons_of_mem _ (List.mem_append_right _ hp)⟩
end Go.Proofs
end
section
open Go Go.Proofs Go.Sx Go.StP Go.RooP
namespace Go.Proofs
set_option maxRecDepth 10000
set_option maxHeartbeats 400000
set_option linter.unusedSimpArgs false
set_option linter.defProp false
def wq_:=And.intro (And.intro (@zJ_) (@zI_)) (And.intro (@aeJ_) (And.intro (@akh_) (@kp_)))
theorem ajT_ (v:Value) (l:List IdL) (x:IdL) (w:World) (hv:RowX 32 z4_ id0 w v l []) (hl:l.length<1000000):
  Rets Tryz.prog 31 #[v, .agg (a8 x.l)] w (fun v' D=>v'= .bool (decide (x∈l))∧D= []):=by
 obtain⟨b,off,arr,E,fz,hr,-⟩:=hv
 have ln:=fun x=>hr.len x
 have hx:=x.h
 refine Rets.enterV Tryz.func31 rfl (rs:= [.tmp 4]) Tryz.results31 Tryz.ntmps31 ?_
 refine kf ?_
 first|with_reducible refine ks [] @wq_ ?_|refine kp @wq_ ?_
 refine Ow.box rfl rfl fun b1 hb1 hw1=> ?_
 simp only[zW_,zT_,z1_,ze_,List.nil_append,List.cons_append]
 refine Ow.go rfl ?_
 simp(disch:=(first|assumption|omega| (simp only[qF_,qC_,UInt64.reduceToNat];try omega))) only[↓Sx.S0,Sx.S1,Tryz.fx,wq_,Nat.reduceAdd,Nat.reducePow,Int.reducePow,Nat.reduceBEq, ↓reduceIte,UInt8.reduceToNat,UInt16.reduceToNat,UInt32.reduceToNat,UInt64.reduceToNat,Int.reduceToNat]
 first|with_reducible refine ks [] @wq_ ?_|refine kp @wq_ ?_
 refine Cw.loopG (G:=Nat) [6,7,8,9,12,13,14,15,16,17,4,10,11,5] (fun g=> [(5,vi g)]) (fun g=> [(b1, .cells (a8 x.l) 24 (0,0))]) (fun g=>g≤l.length∧x∉l.take g) (fun g=>l.length - g) 0 rfl rfl ?_ ?_
 ·exact⟨Nat.zero_le _,by simp⟩
 intro k jk hk
 refine kv ?_
 obtain⟨h1,h2⟩:=hk
 by_cases hk:k<l.length
 ·have hbl:=hr.lt (by omega)
  have hn1:b1≠b:=by omega
  have r2:=hr.has (by omega)
  have i2:=hr.idx true k hk
  have l2:=JU_ hr hk
  have hgm:l.getD k id0∈l:=by
   rw[List.getD_eq_getElem?_getD,List.getElem?_eq_getElem hk];exact List.getElem_mem _
  have hts:=StP.take_snoc (z:=id0) hk
  have d1:decide ((k:Int)< (l.length:Int))=true:=decide_eq_true (by omega)
  generalize l.getD k id0=y at*
  first|with_reducible refine ks [] (And.intro @wq_ (And.intro @ln (@d1))) ?_|refine kp (And.intro @wq_ (And.intro @ln (@d1))) ?_
  refine Cw.regionS [b1,b] [0,1,2,3,4,5] [] (by kernel_rfl) (by kernel_rfl) (by kernel_rfl) ?_
  simp only[zh_, ↓zc_, ↓za_, ↓zk_, ↓zj_,zb_]
  refine kq (And.intro @wq_ (And.intro @i2 (And.intro @r2 (@l2)))) ?_
  cases hq: (y.l==x.l)
  ·first|with_reducible refine ks [] @wq_ ?_|refine kp @wq_ ?_
   refine Again.mk (k+1) (by omega) ⟨hk, ?_⟩ rfl rfl
   rw[hts,List.mem_append,List.mem_singleton]
   rintro(h|h)
   ·exact h2 h
   ·subst h;simp at hq
  ·have e:x∈l:=by rw[←IdL.ext2 (eq_of_beq hq)];exact hgm
   rw[decide_eq_true e]
   first|with_reducible refine ks [] @wq_ ?_|refine kp @wq_ ?_
   refine⟨_,(ke @wq_),⟨hw1,trivial⟩, ?_⟩
   rfl
 ·obtain rfl:k=l.length:=by omega
  rw[List.take_length] at h2
  rw[decide_eq_false h2]
  have d1:decide ((l.length:Int)< (l.length:Int))=false:=by simp
  first|with_reducible refine ks [] (And.intro @wq_ (And.intro @ln (@d1))) ?_|refine kp (And.intro @wq_ (And.intro @ln (@d1))) ?_
  refine⟨_,(ke @wq_),⟨hw1,trivial⟩, ?_⟩
  rfl
def kl_ (o:ObK):List Value:= [vi o.k,vs o.t]
theorem ji_ (o:ObK): (kl_ o).length=2:=rfl
theorem aiL_ (o:ObK): (kl_ o).all Value.oneCell'=true:=rfl
theorem JP_ {w:World} {v:Value} {l:List ObK} {b off:Nat} {arr:Array Value} {E:TypeId} {fz:Nat×Nat} (h:RowS 2 kl_ jU_ w v l b off arr E fz) {k:Nat} (hk:k<l.length):
  zA_ (some (true,2)) (some (.cells arr E fz)) (off+k*2)=some (obV (l.getD k jU_).k (l.getD k jU_).t):=RowS.load h ji_ (by omega) hk
def j5_ (l:List ObK):jg_:=fun i=>match l.find? (fun o=>decide (idK o=i)) with|some o=>(o,true) |none=>(jU_,false)
theorem ab8_ (l:List ObK):j5_ (l.filter rdK)=ZL_ l:=rfl
theorem WG_ (a b:Value) (E:TypeId) (n:Nat) (fz:Nat×Nat):zA_ (some (false,n)) (some (.cells #[a,b] E fz)) 0=some a:=(rfl)
theorem aaJ_ (a b:Value) (E:TypeId) (n:Nat) (fz:Nat×Nat):zA_ (some (false,n)) (some (.cells #[a,b] E fz)) 1=some b:=(rfl)
theorem aak_ (a b:Value) (E:TypeId) (fz:Nat×Nat):zA_ (some (true,2)) (some (.cells #[a,b] E fz)) 0=some (.agg #[a,b]):=(rfl)
theorem ke_ (x y:Int) (s t:List UInt8) (E:TypeId):zs_ (some (true,2)) (some (Obj.cells #[vi x,vs s] E (0,0))) 0 (obV y t)=some (.cells #[vi y,vs t] E (0,0)):=(rfl)
set_option linter.defProp false
def vb_:=And.intro (And.intro (And.intro (@zJ_) (@zI_)) (And.intro (@aeJ_) (@akh_))) (And.intro (And.intro (@kp_) (@WG_)) (And.intro (@aaJ_) (And.intro (@ke_) (@qw_))))
theorem W8_ (vL vI:Value) (l:List ObK) (i:IdL) (w:World) (hL:RowX 2 kl_ jU_ w vL l []) (hI:RowX 32 z4_ id0 w vI (l.map idK) []) (hl:l.length<1000000):
  Rets Tryz.prog 18 #[.agg #[vL,vI], .agg (a8 i.l)] w (fun v D=>v= .tuple #[obKV (j5_ l i).1, .bool (j5_ l i).2]∧D= []):=by
 obtain⟨b1,off1,arr1,E1,fz1,hr1,-⟩:=hL
 obtain⟨b2,off2,arr2,E2,fz2,hr2,-⟩:=hI
 have ln2:=fun x=>hr2.len x
 rw[List.length_map] at ln2
 have hi:=i.h
 refine Rets.enterV Tryz.func18 rfl (rs:= [.cell 4 35, .tmp 5]) Tryz.results18 Tryz.ntmps18 ?_
 refine kf ?_
 first|with_reducible refine ks [] @vb_ ?_|refine kp @vb_ ?_
 refine Ow.box rfl rfl fun b3 hb3 hw3=> ?_
 simp only[zW_,zT_,z1_,ze_,List.nil_append,List.cons_append]
 refine Ow.go rfl ?_
 simp(disch:=(first|assumption|omega| (simp only[qF_,qC_,UInt64.reduceToNat];try omega))) only[↓Sx.S0,Sx.S1,Tryz.fx,vb_,Nat.reduceAdd,Nat.reducePow,Int.reducePow,Nat.reduceBEq, ↓reduceIte,UInt8.reduceToNat,UInt16.reduceToNat,UInt32.reduceToNat,UInt64.reduceToNat,Int.reduceToNat]
 refine Ow.box rfl rfl fun b4 hb4 hw4=> ?_
 simp only[zW_,zT_,z1_,ze_,List.nil_append,List.cons_append]
 refine Ow.go rfl ?_
 simp(disch:=(first|assumption|omega| (simp only[qF_,qC_,UInt64.reduceToNat];try omega))) only[↓Sx.S0,Sx.S1,Tryz.fx,vb_,Nat.reduceAdd,Nat.reducePow,Int.reducePow,Nat.reduceBEq, ↓reduceIte,UInt8.reduceToNat,UInt16.reduceToNat,UInt32.reduceToNat,UInt64.reduceToNat,Int.reduceToNat]
 obtain⟨h34,-⟩:=hb4
 refine Ow.alloc rfl rfl Xl_ fun b5 hb5 hw5=> ?_
 simp only[ze_,List.nil_append,List.cons_append]
 obtain⟨h35,h45,-⟩:=hb5
 refine ko @vb_ ?_
 first|with_reducible refine ks [] @vb_ ?_|refine kp @vb_ ?_
 refine Cw.loopG (G:=Nat) [7,8,9,10,11,14,15,16,17,18,19,20,21,22,23,24,25,5,12,13,6] (fun g=> [(6,vi g)]) (fun g=> [(b3, .cells #[vL,vI] 32 (0,0)),(b4, .cells (a8 i.l) 24 (0,0)),(b5, .cells #[vi 0,vs []] 35 (0,0))]) (fun g=>g≤l.length∧j5_ l i=j5_ (l.drop g) i) (fun g=>l.length - g) 0 rfl rfl ?_ ?_
 ·exact⟨Nat.zero_le _,rfl⟩
 intro k jk hk
 refine kv ?_
 obtain⟨h1,h2⟩:=hk
 rw[h2]
 by_cases hk:k<l.length
 ·have hk2:k< (l.map idK).length:=by rw[List.length_map];exact hk
  have hl2:=hr2.lt (by omega)
  have hl1:=hr1.lt (by omega)
  have r1: ∀x y z,zv_ w [(b3,x),(b4,y),(b5,z)] b1=some (.cells arr1 E1 fz1):=fun x y z=>by rw[zx_ _ _ _ _ _ (by omega),zx_ _ _ _ _ _ (by omega),zx_ _ _ _ _ _ (by omega),QU_];exact hr1.has (by omega)
  have r2: ∀x y z,zv_ w [(b3,x),(b4,y),(b5,z)] b2=some (.cells arr2 E2 fz2):=fun x y z=>by rw[zx_ _ _ _ _ _ (by omega),zx_ _ _ _ _ _ (by omega),zx_ _ _ _ _ _ (by omega),QU_];exact hr2.has (by omega)
  have i1:=hr1.idx true k hk
  have l1:=JP_ hr1 hk
  have i2:=hr2.idx true k hk2
  have l2:=JU_ hr2 hk2
  have eg: (l.map idK).getD k id0=idK (l.getD k jU_):=by
   rw[List.getD_eq_getElem?_getD,List.getD_eq_getElem?_getD,List.getElem?_eq_getElem hk2,List.getElem?_eq_getElem hk];simp
  rw[eg] at l2
  have hdr:=StP.drop_cons (z:=jU_) hk
  have d1:decide ((k:Int)< (l.length:Int))=true:=decide_eq_true (by omega)
  generalize l.getD k jU_=o at*
  have hsp:j5_ (l.drop k) i=if idK o=i then(o,true) else j5_ (l.drop (k+1)) i:=by
   rw[hdr]
   unfold j5_
   rw[List.find?_cons]
   by_cases h:idK o=i<;>simp[h]
  first|with_reducible refine ks [] (And.intro @vb_ (And.intro @ln2 (@d1))) ?_|refine kp (And.intro @vb_ (And.intro @ln2 (@d1))) ?_
  refine Cw.regionS [b3,b4,b2] [0,2,1,3,4,5,6] [] (by kernel_rfl) (by kernel_rfl) (by kernel_rfl) ?_
  simp only[zh_, ↓zc_, ↓za_, ↓zk_, ↓zj_,zb_]
  refine kq (And.intro @vb_ (And.intro @i2 (And.intro @r2 (@l2)))) ?_
  cases hq: ((idK o).l==i.l)
  ·have e: ¬idK o=i:=fun h=>by rw[h] at hq;simp at hq
   rw[if_neg e] at hsp
   first|with_reducible refine ks [] @vb_ ?_|refine kp @vb_ ?_
   exact Again.mk (k+1) (by omega) ⟨hk,hsp⟩ rfl rfl
  ·have e:idK o=i:=IdL.ext2 (eq_of_beq hq)
   rw[if_pos e] at hsp
   rw[hsp]
   first|with_reducible refine ks [] (And.intro @vb_ (And.intro @i1 (And.intro @r1 (@l1)))) ?_|refine kp (And.intro @vb_ (And.intro @i1 (And.intro @r1 (@l1)))) ?_
   refine⟨_,(ke @vb_),⟨hw3,hw4,hw5,trivial⟩, ?_⟩
   rfl
 ·obtain rfl:k=l.length:=by omega
  have d1:decide ((l.length:Int)< (l.length:Int))=false:=by simp
  have hsp:j5_ (l.drop l.length) i=(jU_,false):=by rw[List.drop_length];rfl
  rw[hsp]
  first|with_reducible refine ks [] (And.intro @vb_ (And.intro @ln2 (@d1))) ?_|refine kp (And.intro @vb_ (And.intro @ln2 (@d1))) ?_
  refine Ow.build (obV 0 []) rfl J0_ ?_
  refine ko @vb_ ?_
  refine⟨_,(ke @vb_),⟨hw3,hw4,hw5,trivial⟩, ?_⟩
  rfl
theorem alU_ {o:ObK} (h:rdK o=true):Dig.shaR (Zo_ o.k o.t)=(idK o).l:=by
 have h':xS_ o.k o.t=true:=h
 have e:idK o=⟨Dig.shaR (xx_ o.k o.t),QS_ _⟩:=if_pos h'
 rw[e]
 exact congrArg Dig.shaR (agO_ h')
theorem W9_ (o:ObK):kU_ Tryz.prog 22 1 [(0,obV o.k o.t)]=some (35,(kl_ o).toArray):=
 qu_ Tryz.underlying22 Tryz.ag35 Xl_ (by decide) (ji_ o)
theorem aeA_:jn_ (wA_ Tryz.prog 32) (z8_ Tryz.prog 32) []=some (.agg #[.slice none 0 0, .slice none 0 0]):=id (by kernel_rfl)
theorem amy_:z8_ Tryz.prog 32=some (.agg #[.slice none 0 0, .slice none 0 0]):=id (by kernel_rfl)
theorem aev_ (a b v:Value) (E:TypeId) (h:Value.oneCell' v=true∧v.cells= #[v]):zs_ (some (false,1)) (some (.cells #[a,b] E (0,0))) 0 v=some (.cells #[v,b] E (0,0)):=by
 simp[zs_,h,xA_]
theorem aeN_ (a b v:Value) (E:TypeId) (h:Value.oneCell' v=true∧v.cells= #[v]):zs_ (some (false,1)) (some (.cells #[a,b] E (0,0))) 1 v=some (.cells #[a,v] E (0,0)):=by
 simp[zs_,h,xA_]
theorem aeg_ (E:TypeId):zs_ (some (true,2)) (some (.cells #[.slice none 0 0, .slice none 0 0] E (0,0))) 0 (.agg #[.slice none 0 0, .slice none 0 0])=some (.cells #[.slice none 0 0, .slice none 0 0] E (0,0)):=(rfl)
theorem afg_ (a b x y:Value) (E:TypeId) (hx:Value.oneCell' x=true) (hy:Value.oneCell' y=true):zs_ (some (true,2)) (some (.cells #[a,b] E (0,0))) 0 (.agg #[x,y])=some (.cells #[x,y] E (0,0)):=by
 simp[zs_,hx,hy,xA_,ze_]
structure MkOdG where
 i:Nat
 vL:Value
 vI:Value
 DL:zi_
 DI:zi_
 DG:zi_
def fl (l:List ObK) (i:Nat):List ObK:=(l.take i).filter rdK
theorem amN_ (l:List ObK) (i:Nat): (fl l i).length≤i:=Nat.le_trans (List.length_filter_le _ _) (by rw[List.length_take];omega)
theorem alO_ {l:List ObK} {i:Nat} (h:i<l.length):fl l (i+1)=if rdK (l.getD i jU_)=true then fl l i++ [l.getD i jU_] else fl l i:=by
 unfold fl
 rw[StP.take_snoc (z:=jU_) h,List.filter_append]
 generalize l.getD i jU_=o
 by_cases hr:rdK o=true
 ·rw[if_pos hr,List.filter_cons,if_pos hr];rfl
 ·rw[if_neg hr,List.filter_cons,if_neg hr];simp
set_option linter.defProp false
def j3_:=And.intro (And.intro (And.intro (@zJ_) (@zI_)) (And.intro (@WG_) (@aaJ_))) (And.intro (And.intro (@aak_) (@ke_)) (And.intro (@qw_) (@aeg_)))
theorem adz_ (v:Value) (l:List ObK) (w:World) (hv:RowX 2 kl_ jU_ w v l []) (hl:l.length<100000) (ht: ∀o,o∈l→o.t.length<100000):
  Rets Tryz.prog 17 #[v] w (XS w [] (fun v' D=> ∃vL vI,v'= .agg #[vL,vI]∧GrI D 35 2 vL (l.filter rdK).length ((l.filter rdK).map kl_).flatten∧GrI D 24 32 vI ((l.filter rdK).map idK).length (((l.filter rdK).map idK).map z4_).flatten)):=by
 obtain⟨rb,off,arr,E,fz,hr,-⟩:=hv
 have ln:=fun x=>hr.len x
 refine Rets.enterX Tryz.func17 rfl (rs:= [.cell 2 32]) Tryz.results17 Tryz.ntmps17 (fun p hp=>by cases hp) (by simp[keys]) ?_
 refine kf ?_
 first|with_reducible refine ks [] @j3_ ?_|refine kp @j3_ ?_
 refine Ow.alloc rfl rfl amy_ fun b2 hb2 hw2=> ?_
 simp only[ze_,List.nil_append,List.cons_append]
 refine ko @j3_ ?_
 first|with_reducible refine ks [] @j3_ ?_|refine kp @j3_ ?_
 refine Ow.build (.agg #[.slice none 0 0, .slice none 0 0]) rfl aeA_ ?_
 refine ko @j3_ ?_
 refine Ow.alloc rfl rfl amy_ fun b3 hb3 hw3=> ?_
 simp only[ze_,List.nil_append,List.cons_append]
 have h23:b2<b3:=zf_ hb3 (by simp[keys])
 refine Ow.permL (M:= [(b3, .cells #[.slice none 0 0, .slice none 0 0] 32 (0,0)),(b2, .cells #[.slice none 0 0, .slice none 0 0] 32 (0,0))]) (by classical exact List.perm_iff_count.2 fun a=>by simp only[List.count_append,List.count_cons,List.count_nil]<;>omega) ?_
 refine ko @j3_ ?_
 first|with_reducible refine ks [] @j3_ ?_|refine kp @j3_ ?_
 refine Cw.loopG (G:=MkOdG) [6,7,8,9,12,13,14,15,16,17,18,19,20,21,22,23,24,25,26,27,28,29,30,31,32,33,34,35,10,11,4] (fun g=> [(4,vi g.i)]) (fun g=>g.DL++ ((b3, .cells #[g.vL,g.vI] 32 (0,0)):: (b2, .cells #[.slice none 0 0, .slice none 0 0] 32 (0,0)):: (g.DI++g.DG))) (fun g=>g.i≤l.length∧Gr g.DL 35 2 g.vL (fl l g.i).length ((fl l g.i).map kl_).flatten∧Gr g.DI 24 32 g.vI ((fl l g.i).map idK).length (((fl l g.i).map idK).map z4_).flatten∧New w.heap.size g.DL∧New w.heap.size g.DI∧New w.heap.size g.DG) (fun g=>l.length - g.i) ⟨0, .slice none 0 0, .slice none 0 0,[],[],[]⟩ rfl rfl ?_ ?_
 ·exact⟨Nat.zero_le _,Gr.nl,Gr.nl,trivial,trivial,trivial⟩
 intro g j hg
 refine kv ?_
 obtain⟨i,vL,vI,DL,DI,DG⟩:=g
 simp only at hg ⊢
 obtain⟨hi,hGL,hGI,hNL,hNI,hNG⟩:=hg
 refine Cw.world fun wz hwz=> ?_
 have hnd:=hwz.nodup
 clear hwz wz
 have hnd':=hnd
 rw[zd_,List.nodup_append] at hnd'
 obtain⟨-,hnd2,hnd3⟩:=hnd'
 have h3L:b3∉keys DL:=fun h=>hnd3 b3 h b3 (by simp[keys]) rfl
 have h2L:b2∉keys DL:=fun h=>hnd3 b2 h b2 (by simp[keys]) rfl
 simp only[keys,List.map_cons,List.map_append,List.nodup_cons,List.mem_cons,List.mem_append,not_or] at hnd2
 obtain⟨⟨-,h3I,h3G⟩,⟨h2I,h2G⟩,-⟩:=hnd2
 have hflen:=amN_ l i
 have lb3:=fun Y=>zu_ (D:=DL) (Y:=Y) (o:= .cells #[vL,vI] 32 (0,0)) h3L
 have rb3:=fun Y=>zg_ (w0:=w) (lb3 Y)
 by_cases hlt:i<l.length
 ·have hrl:=hr.lt (by omega)
  have rd: ∀L:zi_,(∀c,c∈keys L→w.heap.size≤c)→zv_ w L rb=some (.cells arr E fz):=fun L hL=>by
   rw[qD_ (fun hm=>by have:=hL _ hm;omega)];exact hr.has (by omega)
  have ix:=hr.idx true i hlt
  have ld:=JP_ hr hlt
  have hts:=alO_ hlt
  have hom:l.getD i jU_∈l:=by
   rw[List.getD_eq_getElem?_getD,List.getElem?_eq_getElem hlt];exact List.getElem_mem _
  have hot:=ht _ hom
  generalize l.getD i jU_=o at*
  have hNN:New w.heap.size (DL++ ((b3, .cells #[vL,vI] 32 (0,0)):: (b2, .cells #[.slice none 0 0, .slice none 0 0] 32 (0,0)):: (DI++DG))):=hNL.app ⟨hw3,hw2,hNI.app hNG⟩
  have d1:decide ((i:Int)< (l.length:Int))=true:=decide_eq_true (by omega)
  have rd0:=rd _ hNN.le
  first|with_reducible refine ks [4] (And.intro @j3_ (And.intro @d1 (And.intro @ln (And.intro @ix (And.intro @rd0 (@ld)))))) ?_|refine kp (And.intro @j3_ (And.intro @d1 (And.intro @ln (And.intro @ix (And.intro @rd0 (@ld)))))) ?_
  refine Ow.callFV rfl Tryz.call19 (fun w' hw'=>wI_ o.k o.t w') ?_
  rw[←kP_,show xS_ o.k o.t=rdK o from rfl]
  cases hrd:rdK o with
  |false=>
   rw[hrd,if_neg (by simp)] at hts
   refine ko @j3_ ?_
   first|with_reducible refine ks [] @j3_ ?_|refine kp @j3_ ?_
   exact Again.mk ⟨i+1,vL,vI,DL,DI,DG⟩ (by show l.length - (i+1)<l.length - i;omega) ⟨hlt,by show Gr DL _ 2 vL (fl l (i+1)).length _;rw[hts];exact hGL,by show Gr DI _ 32 vI ((fl l (i+1)).map idK).length _;rw[hts];exact hGI,hNL,hNI,hNG⟩ rfl rfl
  |true=>
   rw[hrd,if_pos rfl] at hts
   refine ko @j3_ ?_
   first|with_reducible refine ks [] @j3_ ?_|refine kp @j3_ ?_
   refine Cw.regionG [b3,rb] [9] 10 (by kernel_rfl) rfl ?_
   simp only[List.replicate_succ,List.replicate_zero]
   refine OwG.run [0,1,2,3,4,5] [true,true,true,true,true,true,false,false,false,false] 4 rfl (by kernel_rfl) (by kernel_rfl) fun k hk=> ?_
   simp only[zh_, ↓zc_, ↓za_, ↓zk_, ↓zj_,zb_]
   simp(disch:=(first|assumption|omega| (simp only[qF_,qC_,UInt64.reduceToNat];try omega))) only[↓Sx.S0,Sx.S1,Tryz.fx,j3_,Nat.reduceAdd,Nat.reducePow,Int.reducePow,Nat.reduceBEq, ↓reduceIte,UInt8.reduceToNat,UInt16.reduceToNat,UInt32.reduceToNat,UInt64.reduceToNat,Int.reduceToNat,Md.next_sofnil,rb3,ix,rd0,ld]
   (with_reducible refine hk _ _ _ ?_);clear hk k
   refine OwG.one 6 _ (by kernel_rfl) rfl ?_
   refine Ow.buildSlice (e:=35) (kl_ o).toArray rfl rfl (W9_ o) fun ba hba hwa=> ?_
   have hgn: ∀r,r∈ [b3,rb]→zv_ w (DL++ ((b3, .cells #[vL,vI] 32 (0,0)):: (b2, .cells #[.slice none 0 0, .slice none 0 0] 32 (0,0)):: (DI++DG))++ [(ba, .cells (kl_ o).toArray 35 (0,0))]) r=zv_ w (DL++ ((b3, .cells #[vL,vI] 32 (0,0)):: (b2, .cells #[.slice none 0 0, .slice none 0 0] 32 (0,0)):: (DI++DG))) r:=fun r hr=>by
    simp only[List.mem_cons,List.not_mem_nil,or_false] at hr
    rcases hr with rfl|rfl
    ·exact j8_ (by simp[keys])
    ·rw[rd0];exact rd _ (hNN.app (show New w.heap.size [(ba,Obj.cells (kl_ o).toArray 35 (0,0))] from⟨hwa,trivial⟩)).le
   with_reducible refine Ow.nil ?_
   refine⟨hgn, ?_⟩
   simp only[List.set_cons_zero,List.set_cons_succ,zl_,zy_,zz_]
   refine OwG.one 7 _ (by kernel_rfl) rfl ?_
   refine Ow.appendXG (e:=35) (k:=1) (new:=kl_ o) (X:=DL) vL (List.append_assoc _ _ _) rfl rfl rfl Tryz.underlying22 Tryz.ag35 (by kernel_rfl) Xl_ (by simp[ze_]) Tryz.underlying22 (by intro k h;cases h) hGL (fun w' hw'=>AppX.one1 (hw'.has ba (.cells (kl_ o).toArray 35 (0,0)) (by simp)) (ji_ _) (aiL_ _)) (by omega) (fun B5 v5 D5 hA5 hB5 hG5 hk15 hk25 hlk5=> ?_)
   have hN5:New w.heap.size D5:=New.of_le fun q hq=>by
    rcases hk25 q hq with h|h
    ·exact hNL.le q h
    ·omega
   have h3D:b3∉keys D5:=qq_ hA5 (by simp[keys]) h3L hk25
   have lD5:=fun Y=>zu_ (D:=D5) (Y:=Y) (o:= .cells #[vL,vI] 32 (0,0)) h3D
   have st5:=aev_ vL vI v5 32 hG5.cell
   have hN6:New w.heap.size (D5++ ((b3, .cells #[vL,vI] 32 (0,0)):: (b2, .cells #[.slice none 0 0, .slice none 0 0] 32 (0,0)):: (DI++ (DG++ [(ba, .cells (kl_ o).toArray 35 (0,0))])))):=hN5.app ⟨hw3,hw2,hNI.app (hNG.app ⟨hwa,trivial⟩)⟩
   have hgn2: ∀r,r∈ [b3,rb]→zv_ w (D5++ ((b3, .cells #[vL,vI] 32 (0,0)):: (b2, .cells #[.slice none 0 0, .slice none 0 0] 32 (0,0)):: (DI++DG)++ [(ba, .cells (kl_ o).toArray 35 (0,0))])) r=zv_ w (DL++ ((b3, .cells #[vL,vI] 32 (0,0)):: (b2, .cells #[.slice none 0 0, .slice none 0 0] 32 (0,0)):: (DI++DG))++ [(ba, .cells (kl_ o).toArray 35 (0,0))]) r:=fun r hr=>by
    rw[hgn r hr]
    simp only[List.mem_cons,List.not_mem_nil,or_false] at hr
    rcases hr with rfl|rfl
    ·exact(zg_ (lD5 _)).trans (rb3 _).symm
    ·rw[rd0]
     refine rd _ fun c hc=>hN6.le c ?_
     simpa [keys] using hc
   with_reducible refine Ow.nil ?_
   refine⟨hgn2, ?_⟩
   simp only[List.set_cons_zero,List.set_cons_succ,zl_,zy_,zz_]
   refine OwG.rest [8,9] rfl (by kernel_rfl) (by kernel_rfl) ?_
   simp only[zh_, ↓zc_, ↓za_, ↓zk_, ↓zj_,zb_]
   refine kq @j3_ ?_
   refine Ow.store rfl rfl rfl (ke (And.intro @j3_ (And.intro @lD5 (@st5)))) ?_
   have es:=fun Y x=>q6_ (D:=D5) (Y:=Y) (o:= .cells #[vL,vI] 32 (0,0)) (x:=x) h3D
   simp only[List.cons_append,List.append_assoc] at*
   rw[es]
   refine ko @j3_ ?_
   refine Cw.permL (M:=DI++ ((b3, .cells #[v5,vI] 32 (0,0)):: (b2, .cells #[.slice none 0 0, .slice none 0 0] 32 (0,0)):: (D5++ (DG++ [(ba, .cells (kl_ o).toArray 35 (0,0))])))) (by classical exact List.perm_iff_count.2 fun a=>by simp only[List.count_append,List.count_cons,List.count_nil]<;>omega) ?_
   have lb5:=fun Y=>zu_ (D:=DI) (Y:=Y) (o:= .cells #[v5,vI] 32 (0,0)) h3I
   have rb5:=fun Y=>zg_ (w0:=w) (lb5 Y)
   have hN8:New w.heap.size (DI++ ((b3, .cells #[v5,vI] 32 (0,0)):: (b2, .cells #[.slice none 0 0, .slice none 0 0] 32 (0,0)):: (D5++ (DG++ [(ba, .cells (kl_ o).toArray 35 (0,0))])))):=hNI.app ⟨hw3,hw2,hN5.app (hNG.app ⟨hwa,trivial⟩)⟩
   have rd8:=rd _ hN8.le
   refine Cw.regionG [b3,rb] [10] 11 (by kernel_rfl) rfl ?_
   simp only[List.replicate_succ,List.replicate_zero]
   refine OwG.run [0,1,2,3,4,5] [true,true,true,true,true,true,false,false,false,false,false] 5 rfl (by kernel_rfl) (by kernel_rfl) fun k hk=> ?_
   simp only[zh_, ↓zc_, ↓za_, ↓zk_, ↓zj_,zb_]
   simp(disch:=(first|assumption|omega| (simp only[qF_,qC_,UInt64.reduceToNat];try omega))) only[↓Sx.S0,Sx.S1,Tryz.fx,j3_,Nat.reduceAdd,Nat.reducePow,Int.reducePow,Nat.reduceBEq, ↓reduceIte,UInt8.reduceToNat,UInt16.reduceToNat,UInt32.reduceToNat,UInt64.reduceToNat,Int.reduceToNat,Md.next_sofnil,rb5,ix,rd8,ld]
   (with_reducible refine hk _ _ _ ?_);clear hk k
   refine OwG.one 6 _ (by kernel_rfl) rfl ?_
   refine Ow.callFV rfl Tryz.call20 (fun w' hw'=>VE_ o.k o.t w' (by omega)) ?_
   rw[alU_ hrd]
   with_reducible refine Ow.nil ?_
   refine⟨(fun r hr=>rfl), ?_⟩
   simp only[List.set_cons_zero,List.set_cons_succ,zl_,zy_,zz_]
   refine OwG.one 7 _ (by kernel_rfl) rfl ?_
   refine Ow.buildSlice (e:=24) (z4_ (idK o)).toArray rfl rfl (xq_ (idK o)) fun bi hbi hwi=> ?_
   have hgn3: ∀r,r∈ [b3,rb]→zv_ w (DI++ ((b3, .cells #[v5,vI] 32 (0,0)):: (b2, .cells #[.slice none 0 0, .slice none 0 0] 32 (0,0)):: (D5++ (DG++ [(ba, .cells (kl_ o).toArray 35 (0,0))])))++ [(bi, .cells (z4_ (idK o)).toArray 24 (0,0))]) r=zv_ w (DI++ ((b3, .cells #[v5,vI] 32 (0,0)):: (b2, .cells #[.slice none 0 0, .slice none 0 0] 32 (0,0)):: (D5++ (DG++ [(ba, .cells (kl_ o).toArray 35 (0,0))])))) r:=fun r hr=>by
    simp only[List.mem_cons,List.not_mem_nil,or_false] at hr
    rcases hr with rfl|rfl
    ·exact j8_ (by simp[keys])
    ·rw[rd8];exact rd _ (hN8.app (show New w.heap.size [(bi,Obj.cells (z4_ (idK o)).toArray 24 (0,0))] from⟨hwi,trivial⟩)).le
   with_reducible refine Ow.nil ?_
   refine⟨hgn3, ?_⟩
   simp only[List.set_cons_zero,List.set_cons_succ,zl_,zy_,zz_]
   refine OwG.one 8 _ (by kernel_rfl) rfl ?_
   refine Ow.appendXG (e:=24) (k:=1) (new:=z4_ (idK o)) (X:=DI) vI (List.append_assoc _ _ _) rfl rfl rfl Tryz.underlying30 Tryz.ag24 (by kernel_rfl) JL_ (by simp[ze_,a8]) Tryz.underlying30 (by intro k h;cases h) hGI (fun w' hw'=>AppX.one1 (hw'.has bi (.cells (z4_ (idK o)).toArray 24 (0,0)) (by simp)) (z0_ _) (vf_ _)) (by rw[List.length_map];omega) (fun B7 v7 D7 hA7 hB7 hG7 hk17 hk27 hlk7=> ?_)
   have hN7:New w.heap.size D7:=New.of_le fun q hq=>by
    rcases hk27 q hq with h|h
    ·exact hNI.le q h
    ·omega
   have h3D7:b3∉keys D7:=qq_ hA7 (by simp[keys]) h3I hk27
   have lD7:=fun Y=>zu_ (D:=D7) (Y:=Y) (o:= .cells #[v5,vI] 32 (0,0)) h3D7
   have st7:=aeN_ v5 vI v7 32 hG7.cell
   have hN9:New w.heap.size (D7++ (((b3, .cells #[v5,vI] 32 (0,0)):: (b2, .cells #[.slice none 0 0, .slice none 0 0] 32 (0,0)):: (D5++ (DG++ [(ba, .cells (kl_ o).toArray 35 (0,0))])))++ [(bi, .cells (z4_ (idK o)).toArray 24 (0,0))])):=hN7.app (New.app (show New w.heap.size ((b3, .cells #[v5,vI] 32 (0,0)):: (b2, .cells #[.slice none 0 0, .slice none 0 0] 32 (0,0)):: (D5++ (DG++ [(ba, .cells (kl_ o).toArray 35 (0,0))]))) from⟨hw3,hw2,hN5.app (hNG.app ⟨hwa,trivial⟩)⟩) ⟨hwi,trivial⟩)
   have hgn4: ∀r,r∈ [b3,rb]→zv_ w (D7++ (((b3, .cells #[v5,vI] 32 (0,0)):: (b2, .cells #[.slice none 0 0, .slice none 0 0] 32 (0,0)):: (D5++ (DG++ [(ba, .cells (kl_ o).toArray 35 (0,0))])))++ [(bi, .cells (z4_ (idK o)).toArray 24 (0,0))])) r=zv_ w (DI++ ((b3, .cells #[v5,vI] 32 (0,0)):: (b2, .cells #[.slice none 0 0, .slice none 0 0] 32 (0,0)):: (D5++ (DG++ [(ba, .cells (kl_ o).toArray 35 (0,0))])))++ [(bi, .cells (z4_ (idK o)).toArray 24 (0,0))]) r:=fun r hr=>by
    rw[hgn3 r hr]
    simp only[List.mem_cons,List.not_mem_nil,or_false] at hr
    rcases hr with rfl|rfl
    ·exact(zg_ (lD7 _)).trans (rb5 _).symm
    ·rw[rd8]
     exact rd _ hN9.le
   with_reducible refine Ow.nil ?_
   refine⟨hgn4, ?_⟩
   simp only[List.set_cons_zero,List.set_cons_succ,zl_,zy_,zz_]
   refine OwG.rest [9,10] rfl (by kernel_rfl) (by kernel_rfl) ?_
   simp only[zh_, ↓zc_, ↓za_, ↓zk_, ↓zj_,zb_]
   refine kq @j3_ ?_
   refine Ow.store rfl rfl rfl (ke (And.intro @j3_ (And.intro @lD7 (@st7)))) ?_
   have es7:=fun Y x=>q6_ (D:=D7) (Y:=Y) (o:= .cells #[v5,vI] 32 (0,0)) (x:=x) h3D7
   simp only[List.cons_append,List.append_assoc] at*
   rw[es7]
   refine ko @j3_ ?_
   refine Cw.permL (M:=D5++ ((b3, .cells #[v5,v7] 32 (0,0)):: (b2, .cells #[.slice none 0 0, .slice none 0 0] 32 (0,0)):: (D7++ (DG++ [(ba, .cells (kl_ o).toArray 35 (0,0)),(bi, .cells (z4_ (idK o)).toArray 24 (0,0))])))) (by classical exact List.perm_iff_count.2 fun a=>by simp only[List.count_append,List.count_cons,List.count_nil]<;>omega) ?_
   first|with_reducible refine ks [] @j3_ ?_|refine kp @j3_ ?_
   refine Again.mk ⟨i+1,v5,v7,D5,D7,DG++ [(ba, .cells (kl_ o).toArray 35 (0,0)),(bi, .cells (z4_ (idK o)).toArray 24 (0,0))]⟩ (by show l.length - (i+1)<l.length - i;omega) ⟨hlt, ?_, ?_,hN5,hN7,hNG.app ⟨hwa,hwi,trivial⟩⟩ rfl rfl
   ·show Gr D5 _ 2 v5 (fl l (i+1)).length ((fl l (i+1)).map kl_).flatten
    rw[hts]
    simpa [List.map_append] using hG5
   ·show Gr D7 _ 32 v7 ((fl l (i+1)).map idK).length (((fl l (i+1)).map idK).map z4_).flatten
    rw[hts]
    simpa [List.map_append] using hG7
 ·obtain rfl:i=l.length:=by omega
  have hfl:fl l l.length=l.filter rdK:=by unfold fl;rw[List.take_length]
  rw[hfl] at hGL hGI
  have hd0:decide ((l.length:Int)< (l.length:Int))=false:=by simp
  refine Cw.permL (M:=(b2, .cells #[.slice none 0 0, .slice none 0 0] 32 (0,0)):: (b3, .cells #[vL,vI] 32 (0,0)):: (DL++ (DI++DG))) (by classical exact List.perm_iff_count.2 fun a=>by simp only[List.count_append,List.count_cons,List.count_nil]<;>omega) ?_
  have stf:=afg_ (.slice none 0 0) (.slice none 0 0) vL vI 32 hGL.cell.1 hGI.cell.1
  first|with_reducible refine ks [] (And.intro @j3_ (And.intro @hd0 (And.intro @ln (@stf)))) ?_|refine kp (And.intro @j3_ (And.intro @hd0 (And.intro @ln (@stf)))) ?_
  refine⟨_,(ke @j3_), ?_⟩
  exact⟨Ext.of_new ⟨hw2,hw3,hNL.app (hNI.app hNG)⟩,vL,vI,rfl,hGL.i fun p hp=>by simp[hp],hGI.i fun p hp=>by simp[hp]⟩
end Go.Proofs
end
section
open Go Go.Proofs Go.Sx Go.StP Go.RooP
namespace Go.Proofs
set_option maxRecDepth 10000
set_option maxHeartbeats 400000
set_option linter.unusedSimpArgs false
structure MkClG where
 W:WkS
 X:zi_
structure WkN (s:jg_) (ids r:List IdL) (n:Nat) (W:WkS):Prop where
 I:WkI s r W
 B:WkB n W
 ids: ∀i,(s i).2=true→i∈ids
theorem WkN.ms {s:jg_} {ids r:List IdL} {n:Nat} {W:WkS} (h:WkN s ids r n W):W.ms.length≤ids.length:=h.I.msLe h.ids
theorem WkN.vis {s:jg_} {ids r:List IdL} {n:Nat} {W:WkS} (h:WkN s ids r n W):W.vis.length≤r.length+40*ids.length:=Nat.le_trans (h.I.le h.ids) (afK_ s ids r)
theorem WkN.q {s:jg_} {ids r:List IdL} {n:Nat} {W:WkS} (h:WkN s ids r n W):W.q.length≤n+40*ids.length:=Nat.le_trans h.B.q (by have:=h.ms;omega)
theorem WkN.lk {s:jg_} {ids r:List IdL} {n:Nat} {W:WkS} (h:WkN s ids r n W):W.lk.length≤r.length+40*ids.length:=Nat.le_trans h.B.lk h.vis
theorem WkN.step {s:jg_} {ids r:List IdL} {n:Nat} {W:WkS} (h:WkN s ids r n W):WkN s ids r n (xy_ s W).2:=⟨h.I.step,h.B.step s,h.ids⟩
theorem WkN.new {s:jg_} {ids:List IdL} (r:List IdL) (h: ∀i,(s i).2=true→i∈ids):WkN s ids r r.length (newK r):=⟨WkI.new s r,WkB.new r,h⟩
theorem WkN.add {s:jg_} {ids r:List IdL} {n:Nat} {W:WkS} (h:WkN s ids r n W) (r':List IdL):WkN s ids (r++r') (n+r'.length) (wr_ W r'):=⟨h.I.add r',h.B.add r',h.ids⟩
theorem Vd_ {s:jg_} {W:WkS} (h: (xy_ s W).1=true): (xy_ s W).2.q= []:=by
 have:=Ki_ s W W.q h
 unfold xy_;rw[this]
theorem jT_ (sv:Value) (m:List (IdL×ObK)) (v:Value) (l:List IdL) (w:World) (hS:SrcW w sv m []) (hR:RowX 32 z4_ id0 w v l []) (hl:l.length≤1000) (hm:m.length≤1000):
  Rets Tryz.prog 29 #[sv,v] w (XS w [] (fun v' D=> ∃W v1 v2,WkI (zN_ m) l W∧W.q= []∧W.ms.length≤m.length∧W.lk.length≤41000∧v'= .tuple #[v1,v2]∧GrI D 24 32 v1 (xr_ W.ms).length ((xr_ W.ms).map z4_).flatten∧GrI D 24 32 v2 (jL_ W.lk).length ((jL_ W.lk).map z4_).flatten)):=by
 have hids: ∀i,(zN_ m i).2=true→i∈m.map Prod.fst:=fun i h=>Vc_ h
 have hidl: (m.map Prod.fst).length=m.length:=List.length_map _
 refine Rets.enterX Tryz.func29 rfl (rs:= [.tmp 4, .tmp 5]) Tryz.results29 Tryz.ntmps29 (fun p hp=>by cases hp) (by simp[keys]) ?_
 refine kf ?_
 first|with_reducible refine ks [] @Nat.add_zero ?_|refine kp @Nat.add_zero ?_
 refine Ow.callC rfl rfl Tryz.call21 (fun w' hw'=>VW_ sv m v l w' (hS.old hw' (fun _ h=>h)) (hR.old hw' (fun _ h=>h)) (by omega)) (fun B1 v1 D1 hA1 hB1 hN1 hS1=> ?_)
 obtain⟨bw,rfl,hP1⟩:=hS1
 rw[List.nil_append]
 refine ko @Nat.add_zero ?_
 refine Cw.loopG (G:=MkClG) [10,11,12] (fun g=> []) (fun g=>g.X) (fun g=>WkP bw sv g.W g.X∧Ext w [] g.X∧WkN (zN_ m) (m.map Prod.fst) l l.length g.W) (fun g=>50000 - g.W.vis.length) ⟨newK l,D1⟩ rfl rfl ?_ ?_
 ·exact⟨hP1,Ext.of_new (hN1.mono hB1),WkN.new l hids⟩
 intro g j hg
 refine kv ?_
 clear hP1 hN1 hA1
 obtain⟨W,X⟩:=g
 simp only at hg ⊢
 obtain⟨hP,hE,hN⟩:=hg
 have b1:=hN.q
 have b2:=hN.lk
 have b3:=hN.vis
 have hN':=hN.step
 have b4:=hN'.vis
 have b5:=hN'.ms
 have b6:=hN'.lk
 first|with_reducible refine ks [] @Nat.add_zero ?_|refine kp @Nat.add_zero ?_
 refine Ow.callX (X:=X) (Y:= []) (List.append_nil _).symm rfl rfl Tryz.call24 (fun w' hw' hX' hn'=>ZQ_ bw sv W m X w' hX' hn' hP ((hS.ext hE.new).old hw' fun _ h=>h) (by omega) (by omega)) (fun v2 D2 hC2 hS2=> ?_)
 rw[List.append_nil]
 obtain⟨rfl,hP2⟩:=hS2
 have hE2:=hE.came0 hC2
 cases hst: (xy_ (zN_ m) W).1 with
 |false=>
  have hv:=Vi_ hst
  generalize (xy_ (zN_ m) W).2=W2 at*
  refine ko @Nat.add_zero ?_
  first|with_reducible refine ks [] @Nat.add_zero ?_|refine kp @Nat.add_zero ?_
  exact Again.mk ⟨W2,D2⟩ (by show 50000 - W2.vis.length<50000 - W.vis.length;omega) ⟨hP2,hE2,hN'⟩ rfl rfl
 |true=>
  have hq:=Vd_ hst
  generalize (xy_ (zN_ m) W).2=W2 at*
  refine ko @Nat.add_zero ?_
  first|with_reducible refine ks [] @Nat.add_zero ?_|refine kp @Nat.add_zero ?_
  refine Ow.callC rfl rfl Tryz.call27 (fun w' hw'=>kq_ bw sv W2 w' ⟨D2,fun p hp=>hw'.has _ _ hp,hP2⟩ hN'.I.nm (by omega)) (fun B3 v3 D3 hA3 hB3 hN3 hS3=> ?_)
  refine ko @Nat.add_zero ?_
  refine Ow.callC rfl rfl Tryz.call28 (fun w' hw'=>xN_ bw sv W2 w' ⟨D2,fun p hp=>hw'.has _ _ (List.mem_append_left _ hp),hP2⟩ (by omega)) (fun B4 v4 D4 hA4 hB4 hN4 hS4=> ?_)
  refine ko @Nat.add_zero ?_
  refine⟨_,(ke @Nat.add_zero), ?_⟩
  exact⟨adA_ (adA_ hE2 (hN3.mono hB3)) (hN4.mono hB4),W2,v3,v4,hN'.I,hq,by omega,by omega,rfl,hS3.mono fun p hp=>List.mem_append_left _ (List.mem_append_right _ hp),hS4.mono fun p hp=>List.mem_append_right _ hp⟩
def SrcK (D:zi_) (v:Value) (m:List (IdL×ObK)):Prop:= ∃bx bm om,v= .iface 118 (vp bx 0)∧(bx,Obj.cells #[vm bm] 121 (0,0))∈D∧(bm,om)∈D∧QP_ Z2_ obKV om m
theorem SrcK.mono {D D':zi_} {v:Value} {m:List (IdL×ObK)} (h:SrcK D v m) (hD: ∀p,p∈D→p∈D'):SrcK D' v m:=by
 obtain⟨bx,bm,om,h1,h2,h3,h4⟩:=h
 exact⟨bx,bm,om,h1,hD _ h2,hD _ h3,h4⟩
theorem SrcK.W {w0 w:World} {D:zi_} {v:Value} {m:List (IdL×ObK)} (h:SrcK D v m) (hw:Hp w0 D w):SrcW w v m []:=by
 obtain⟨bx,bm,om,h1,h2,h3,h4⟩:=h
 exact⟨bx,bm,om,⟨h1,hw.has _ _ h2,hw.has _ _ h3,h4⟩,(fun h=>by cases h),(fun h=>by cases h)⟩
section
variable {P:Program} {w0:World} {f:Fr} {L:zi_} {N:Fr→zi_→Prop} {ops:Array Oper} {rest:List Oper} {md:Md}
 {d:Option Tmp} {ty:TypeId} {ps:String} {af:Array Edge} {g:Option (Nat×Bool)}
theorem _root_.Go.Sx.Ow.ifacePtr {t e:TypeId} {x:Operand} {v:Value} (hs:zt_ ops f ⟨d, .makeInterface t x,ty,ps,af,g⟩=false) (hu:P.underlying t=some (.pointer e)) (hx:ev f x=v)
  (hn:Ow P w0 ops md.next rest (qz_ f d (.iface t v)) L N):Ow P w0 ops md (⟨d, .makeInterface t x,ty,ps,af,g⟩::rest) f L N:=by
 refine Ow.calm rfl rfl hs (fun w hw=> .inl ⟨.iface t v,w,L, ?_,hw,rfl,rfl⟩) hn
 simp only[execOp,Instr.makeInterface,Sem.run_bind,run_underlying hu w,Result.andThen_ok,hx]
 rfl
end
structure MkOfG where
 k:Nat
 o:Obj
 DG:zi_
theorem afZ_ (b:Nat):jn_ (wA_ Tryz.prog 121) (z8_ Tryz.prog 121) [(0,vm b)]=some (.agg #[vm b]):=by
 rw[show wA_ Tryz.prog 121=some [(0,1)] from id (by kernel_rfl),show z8_ Tryz.prog 121=some (.agg #[.map none]) from id (by kernel_rfl)];rfl
set_option linter.defProp false
def xn_:=And.intro (And.intro (And.intro (@qw_) (@qg_)) (And.intro (@qf_) (And.intro (@qd_) (@ke_)))) (And.intro (And.intro (@Sx.tup2_0) (And.intro (@Sx.tup2_1) (@zJ_))) (And.intro (@zI_) (And.intro (@kp_) (@agZ_))))
theorem xU_ (v:Value) (l:List ObK) (w:World) (hG:GlobE w) (hv:RowX 2 kl_ jU_ w v l []) (hl:l.length<100000):
  Rets Tryz.prog 16 #[v] w (XS w [] (fun v' D=>SrcK D v' (qK_ l))):=by
 obtain⟨rb,off,arr,E,fz,hr,-⟩:=hv
 have ln:=fun x=>hr.len x
 refine Rets.enterX Tryz.func16 rfl (rs:= [.tmp 2]) Tryz.results16 Tryz.ntmps16 (fun p hp=>by cases hp) (by simp[keys]) ?_
 refine kf ?_
 first|with_reducible refine ks [] @xn_ ?_|refine kp @xn_ ?_
 refine Ow.makeMapG (encK:=Z2_) (encV:=obKV) rfl rfl fun b1 o1 hb1 hw1 hM1=> ?_
 rw[List.nil_append]
 refine ko @xn_ ?_
 refine Ow.build (.agg #[vm b1]) rfl (afZ_ b1) ?_
 refine ko @xn_ ?_
 refine Ow.box rfl rfl fun b2 hb2 hw2=> ?_
 simp only[zW_,zT_,z1_,ze_,List.cons_append,List.nil_append]
 have h12:b1<b2:=zf_ hb2 (by simp[keys])
 refine ko @xn_ ?_
 first|with_reducible refine ks [] (And.intro @xn_ @ln) ?_|refine kp (And.intro @xn_ @ln) ?_
 refine Cw.loopG (G:=MkOfG) [14,15,16,5,18,19,17,20,21,6,7,22,23,24,25,26,27,28,29,13] (fun g=> [(13,vi g.k)]) (fun g=>(b1,g.o):: (b2, .cells #[vm b1] 121 (0,0))::g.DG) (fun g=>g.k≤l.length∧QP_ Z2_ obKV g.o (qK_ (l.take g.k))∧New w.heap.size g.DG) (fun g=>l.length - g.k) ⟨0,o1,[]⟩ rfl rfl ?_ ?_
 ·exact⟨Nat.zero_le _,hM1,trivial⟩
 intro g j hg
 refine kv ?_
 obtain⟨k,o,DG⟩:=g
 simp only at hg ⊢
 obtain⟨hk,hM,hN⟩:=hg
 have hNN:New w.heap.size ((b1,o):: (b2, .cells #[vm b1] 121 (0,0))::DG):=⟨hw1,hw2,hN⟩
 by_cases hlt:k<l.length
 ·have hrl:=hr.lt (by omega)
  have ix:=hr.idx true k hlt
  have ld:=JP_ hr hlt
  have rd:zv_ w ((b1,o):: (b2, .cells #[vm b1] 121 (0,0))::DG) rb=some (.cells arr E fz):=by rw[qD_ (hNN.not hrl)];exact hr.has (by omega)
  have hts:=StP.take_snoc (z:=jU_) hlt
  have hd0:decide ((k:Int)< (l.length:Int))=true:=decide_eq_true (by omega)
  generalize l.getD k jU_=x at*
  have hxi:=(idK x).h
  have hi0:=id0.h
  first|with_reducible refine ks [8] (And.intro @xn_ (And.intro @hd0 (And.intro @ix (And.intro @rd (@ld))))) ?_|refine kp (And.intro @xn_ (And.intro @hd0 (And.intro @ix (And.intro @rd (@ld))))) ?_
  refine Ow.alloc rfl rfl Xl_ fun b5 hb5 hw5=> ?_
  simp only[ze_,List.nil_append,List.cons_append]
  have h15:b1<b5:=zf_ hb5 (by simp[keys])
  have h25:b2<b5:=zf_ hb5 (by simp[keys])
  refine Ow.permL (M:=(b5, .cells #[vi 0,vs []] 35 (0,0)):: (b1,o):: (b2, .cells #[vm b1] 121 (0,0))::DG) (by classical exact List.perm_iff_count.2 fun a=>by simp only[List.count_append,List.count_cons,List.count_nil]<;>omega) ?_
  refine ko @xn_ ?_
  first|with_reducible refine ks [] @xn_ ?_|refine kp @xn_ ?_
  refine Ow.callFV rfl Tryz.call66 (fun w' hw'=>Vy_ x.k x.t w' (hG.new hw' ⟨hw5,hNN⟩)) ?_
  have e1: (idV x.k x.t).l=(idK x).l:=rfl
  have e2:xS_ x.k x.t=rdK x:=rfl
  rw[e1,e2]
  refine ko @xn_ ?_
  refine Ow.alloc rfl rfl Qz_ fun b6 hb6 hw6=> ?_
  simp only[ze_,List.nil_append,List.cons_append]
  have h16:b1<b6:=zf_ hb6 (by simp[keys])
  have h26:b2<b6:=zf_ hb6 (by simp[keys])
  have h56:b5<b6:=zf_ hb6 (by simp[keys])
  refine Ow.permL (M:=(b6, .cells (a8 id0.l) 24 (0,0)):: (b5, .cells #[vi x.k,vs x.t] 35 (0,0)):: (b1,o):: (b2, .cells #[vm b1] 121 (0,0))::DG) (by classical exact List.perm_iff_count.2 fun a=>by simp only[List.count_append,List.count_cons,List.count_nil]<;>omega) ?_
  cases hrd:rdK x with
  |false=>
   have hob:qK_ (l.take (k+1))=qK_ (l.take k):=by rw[hts,Z1_];unfold addO;rw[hrd];rfl
   refine ko @xn_ ?_
   refine Cw.permL (M:=(b1,o):: (b2, .cells #[vm b1] 121 (0,0)):: ((b6, .cells (a8 (idK x).l) 24 (0,0)):: (b5, .cells #[vi x.k,vs x.t] 35 (0,0))::DG)) (by classical exact List.perm_iff_count.2 fun a=>by simp only[List.count_append,List.count_cons,List.count_nil]<;>omega) ?_
   first|with_reducible refine ks [] @xn_ ?_|refine kp @xn_ ?_
   exact Again.mk ⟨k+1,o,(b6, .cells (a8 (idK x).l) 24 (0,0)):: (b5, .cells #[vi x.k,vs x.t] 35 (0,0))::DG⟩ (by show l.length - (k+1)<l.length - k;omega) ⟨hlt,by show QP_ _ _ o (qK_ (l.take (k+1)));rw[hob];exact hM,⟨hw6,hw5,hN⟩⟩ rfl rfl
  |true=>
   have hob:qK_ (l.take (k+1))=XB_ (idK x) x (qK_ (l.take k)):=by rw[hts,Z1_];unfold addO;rw[hrd];rfl
   refine ko @xn_ ?_
   first|with_reducible refine ks [] @xn_ ?_|refine kp @xn_ ?_
   refine Cw.regionS [b2,b5,b6] [0,1,2,3,4,5,6] [6] (by kernel_rfl) (by kernel_rfl) (by kernel_rfl) ?_
   simp only[zh_, ↓zc_, ↓za_, ↓zk_, ↓zj_,zb_]
   refine kq @xn_ ?_
   refine Ow.mapUpdateG (encK:=Z2_) (encV:=obKV) (k:=idK x) (v:=x) rfl rfl Tryz.underlying119 aaB_ rfl rfl rfl (by rw[zY_ _ _ _ _ (by omega),zY_ _ _ _ _ (by omega)];exact zH_ _ _ _) hM (fun o2 ho2=> ?_)
   rw[z6_ _ _ _ _ _ (by omega),z6_ _ _ _ _ _ (by omega),qt_]
   refine ko @xn_ ?_
   refine Cw.permL (M:=(b1,o2):: (b2, .cells #[vm b1] 121 (0,0)):: ((b6, .cells (a8 (idK x).l) 24 (0,0)):: (b5, .cells #[vi x.k,vs x.t] 35 (0,0))::DG)) (by classical exact List.perm_iff_count.2 fun a=>by simp only[List.count_append,List.count_cons,List.count_nil]<;>omega) ?_
   first|with_reducible refine ks [] @xn_ ?_|refine kp @xn_ ?_
   exact Again.mk ⟨k+1,o2,(b6, .cells (a8 (idK x).l) 24 (0,0)):: (b5, .cells #[vi x.k,vs x.t] 35 (0,0))::DG⟩ (by show l.length - (k+1)<l.length - k;omega) ⟨hlt,by show QP_ _ _ o2 (qK_ (l.take (k+1)));rw[hob];exact ho2,⟨hw6,hw5,hN⟩⟩ rfl rfl
 ·obtain rfl:k=l.length:=by omega
  rw[List.take_length] at hM
  have hd0:decide ((l.length:Int)< (l.length:Int))=false:=by simp
  first|with_reducible refine ks [] (And.intro @xn_ @hd0) ?_|refine kp (And.intro @xn_ @hd0) ?_
  refine Ow.ifacePtr rfl Tryz.underlying118 rfl ?_
  refine ko @xn_ ?_
  refine⟨_,(ke @xn_), ?_⟩
  exact⟨Ext.of_new hNN,b2,b1,o,rfl,by simp,by simp,hM⟩
end Go.Proofs
end
section
open Go Go.Proofs Go.Sx Go.StP Go.RooP
namespace Go.Proofs
set_option maxRecDepth 10000
set_option maxHeartbeats 400000
set_option linter.unusedSimpArgs false
structure DwA (bd:Nat) (vL vI:Value) (W:WkS) (vq vv vl vm vn:Value) (Q V M K X:zi_):Prop where
 perm:X.Perm ((bd, .cells #[vL,vI,vq,vv,vl,vm,vn] 46 (0,0)):: (Q++ (V++ (M++K))))
 q:Qu Q 59 33 vq W.q.length (W.q.map zm_).flatten
 v:Gr V 59 33 vv W.vis.length (W.vis.map zm_).flatten
 l:Gr M 59 33 vl W.lk.length (W.lk.map zm_).flatten
 m:GrI K 24 32 vm (xr_ W.ms).length ((xr_ W.ms).map z4_).flatten
 n:GrI K 24 32 vn (jL_ W.lk).length ((jL_ W.lk).map z4_).flatten
def DwP (bd:Nat) (vL vI:Value) (W:WkS) (X:zi_):Prop:= ∃vq vv vl vm vn Q V M K,DwA bd vL vI W vq vv vl vm vn Q V M K X
theorem DwA.ne {bd:Nat} {vL vI:Value} {W:WkS} {vq vv vl vm vn:Value} {Q V M K X:zi_} (h:DwA bd vL vI W vq vv vl vm vn Q V M K X) (hn: (keys X).Nodup):bd∉keys Q∧bd∉keys V∧bd∉keys M∧bd∉keys K:=by
 have:=(h.perm.map Prod.fst).nodup_iff.1 hn
 simp only[List.map_cons,List.map_append,List.nodup_cons,List.mem_append,not_or] at this
 exact⟨this.1.1,this.1.2.1,this.1.2.2.1,this.1.2.2.2⟩
theorem DwA.keysX {bd:Nat} {vL vI:Value} {W:WkS} {vq vv vl vm vn:Value} {Q V M K X:zi_} (h:DwA bd vL vI W vq vv vl vm vn Q V M K X) (x:Nat):x∈keys X↔x=bd∨x∈keys Q∨x∈keys V∨x∈keys M∨x∈keys K:=by
 have:=(h.perm.map Prod.fst).mem_iff (a:=x)
 simp only[List.map_cons,List.map_append,List.mem_cons,List.mem_append] at this
 exact this
theorem DwA.ext2 {bd:Nat} {vL vI:Value} {W:WkS} {vq vv vl vm vn:Value} {Q V M K X Q' V' M' K':zi_} {a:Obj} {w:World} (h:DwA bd vL vI W vq vv vl vm vn Q V M K X)
  (h1: ∀x,x∈keys Q→x∈keys Q') (h2: ∀x,x∈keys Q'→x∈keys Q∨w.heap.size≤x) (h3: ∀x,x∈keys V→x∈keys V') (h4: ∀x,x∈keys V'→x∈keys V∨w.heap.size≤x)
  (h5: ∀x,x∈keys M→x∈keys M') (h6: ∀x,x∈keys M'→x∈keys M∨w.heap.size≤x) (h7: ∀x,x∈keys K→x∈keys K') (h8: ∀x,x∈keys K'→x∈keys K∨w.heap.size≤x):
  Ext w X ((bd,a):: (Q'++ (V'++ (M'++K')))):=by
 have hk:=h.keysX
 refine⟨fun x hx=> ?_,fun x hx=> ?_⟩
 ·simp only[keys,List.map_cons,List.map_append,List.mem_cons,List.mem_append] at hx
  rcases hx with hx|hx|hx|hx|hx
  ·exact .inl ((hk x).2 (.inl hx))
  ·exact(h2 x hx).imp (fun h=>(hk x).2 (.inr (.inl h))) id
  ·exact(h4 x hx).imp (fun h=>(hk x).2 (.inr (.inr (.inl h)))) id
  ·exact(h6 x hx).imp (fun h=>(hk x).2 (.inr (.inr (.inr (.inl h))))) id
  ·exact(h8 x hx).imp (fun h=>(hk x).2 (.inr (.inr (.inr (.inr h))))) id
 ·simp only[keys,List.map_cons,List.map_append,List.mem_cons,List.mem_append]
  rcases(hk x).1 hx with hx|hx|hx|hx|hx
  ·exact .inl hx
  ·exact .inr (.inl (h1 x hx))
  ·exact .inr (.inr (.inl (h3 x hx)))
  ·exact .inr (.inr (.inr (.inl (h5 x hx))))
  ·exact .inr (.inr (.inr (.inr (h7 x hx))))
theorem l7_0 (a b c d e f g:Value) (E:TypeId) (fz:Nat×Nat):zA_ (some (true,2)) (some (.cells #[a,b,c,d,e,f,g] E fz)) 0=some (.agg #[a,b]):=(rfl)
theorem l7_2 (a b c d e f g:Value) (n:Nat) (E:TypeId) (fz:Nat×Nat):zA_ (some (false,n)) (some (.cells #[a,b,c,d,e,f,g] E fz)) 2=some c:=(rfl)
theorem l7_3 (a b c d e f g:Value) (n:Nat) (E:TypeId) (fz:Nat×Nat):zA_ (some (false,n)) (some (.cells #[a,b,c,d,e,f,g] E fz)) 3=some d:=(rfl)
theorem l7_4 (a b c d e f g:Value) (n:Nat) (E:TypeId) (fz:Nat×Nat):zA_ (some (false,n)) (some (.cells #[a,b,c,d,e,f,g] E fz)) 4=some e:=(rfl)
theorem l7_5 (a b c d e f g:Value) (n:Nat) (E:TypeId) (fz:Nat×Nat):zA_ (some (false,n)) (some (.cells #[a,b,c,d,e,f,g] E fz)) 5=some f:=(rfl)
theorem l7_6 (a b c d e f g:Value) (n:Nat) (E:TypeId) (fz:Nat×Nat):zA_ (some (false,n)) (some (.cells #[a,b,c,d,e,f,g] E fz)) 6=some g:=(rfl)
theorem s7_2 (a b c d e f g v:Value) (E:TypeId) (h:Value.oneCell' v=true∧v.cells= #[v]):zs_ (some (false,1)) (some (.cells #[a,b,c,d,e,f,g] E (0,0))) 2 v=some (.cells #[a,b,v,d,e,f,g] E (0,0)):=by simp[zs_,h,xA_]
theorem s7_3 (a b c d e f g v:Value) (E:TypeId) (h:Value.oneCell' v=true∧v.cells= #[v]):zs_ (some (false,1)) (some (.cells #[a,b,c,d,e,f,g] E (0,0))) 3 v=some (.cells #[a,b,c,v,e,f,g] E (0,0)):=by simp[zs_,h,xA_]
theorem s7_4 (a b c d e f g v:Value) (E:TypeId) (h:Value.oneCell' v=true∧v.cells= #[v]):zs_ (some (false,1)) (some (.cells #[a,b,c,d,e,f,g] E (0,0))) 4 v=some (.cells #[a,b,c,d,v,f,g] E (0,0)):=by simp[zs_,h,xA_]
theorem s7_5 (a b c d e f g v:Value) (E:TypeId) (h:Value.oneCell' v=true∧v.cells= #[v]):zs_ (some (false,1)) (some (.cells #[a,b,c,d,e,f,g] E (0,0))) 5 v=some (.cells #[a,b,c,d,e,v,g] E (0,0)):=by simp[zs_,h,xA_]
theorem s7_6 (a b c d e f g v:Value) (E:TypeId) (h:Value.oneCell' v=true∧v.cells= #[v]):zs_ (some (false,1)) (some (.cells #[a,b,c,d,e,f,g] E (0,0))) 6 v=some (.cells #[a,b,c,d,e,f,v] E (0,0)):=by simp[zs_,h,xA_]
theorem PutS.gri {K D:zi_} {v v':Value} {l:List IdL} {x:IdL} (h:PutS v l x v' D) (hK:GrI K 24 32 v l.length (l.map z4_).flatten):GrI (K++D) 24 32 v' (Qp_ x l).length ((Qp_ x l).map z4_).flatten:=by
 rcases h with⟨rfl,h⟩ |h
 ·rw[h];exact hK.mono fun p hp=>List.mem_append_left _ hp
 ·exact h.mono fun p hp=>List.mem_append_right _ hp
theorem jb_ {L:zi_} {b:Nat} {o:Obj} (hn: (keys L).Nodup) (h: (b,o)∈L) {w:World}:zv_ w L b=some o:=zg_ (vv_ hn h)
theorem kh_ {D:zi_} {E:TypeId} {m n:Nat} {v:Value} {cs:List Value} (h:GrI D E m v n cs):Value.oneCell' v=true∧v.cells= #[v]:=by
 obtain⟨X,-,h⟩:=h;exact h.cell
structure MkInG where
 k:Nat
 b:Bool
theorem aly_ {l:List ObK} {i:IdL} (h: (j5_ l i).2=true): (j5_ l i).1∈l∧idK (j5_ l i).1=i:=by
 unfold j5_ at h ⊢
 cases hf:l.find? (fun o=>decide (idK o=i)) with
 |none=>rw[hf] at h;cases h
 |some o=>exact⟨List.mem_of_find?_eq_some hf,by simpa using List.find?_some hf⟩
theorem ah4_ (a b:ChildL): ((a.id.l==b.id.l)&& (a.kind==b.kind))=decide (a=b):=by
 rw[Bool.eq_iff_iff,Bool.and_eq_true,beq_iff_eq,beq_iff_eq,decide_eq_true_eq]
 exact⟨fun h=>ChildL.ext' (by simp[h.1,h.2]),fun h=>by rw[h];exact⟨rfl,rfl⟩⟩
theorem am3_ (a b:ChildL):q9_ Tryz.prog .eql 59 (.agg (zm_ a).toArray) (.agg (zm_ b).toArray)=some (.bool (decide (a=b))):=by
 rw[aok_,ah4_]
set_option linter.defProp false
def zL_:=And.intro (And.intro (And.intro (And.intro (@qw_) (@qg_)) (And.intro (@qf_) (And.intro (@qd_) (@ke_)))) (And.intro (And.intro (@Sx.tup2_0) (And.intro (@Sx.tup2_1) (@zJ_))) (And.intro (@zI_) (And.intro (@q4_) (@xM_))))) (And.intro (And.intro (And.intro (@xe_) (@j7_)) (And.intro (@zG_) (And.intro (@jG_) (@l7_0)))) (And.intro (And.intro (@l7_2) (And.intro (@l7_3) (@l7_4))) (And.intro (@l7_5) (And.intro (@l7_6) (@am3_)))))
theorem Kw_ (bd:Nat) (vL vI:Value) (l:List ObK) (W:WkS) (X:zi_) (w:World) (hX: ∀p,p∈X→w.heap[p.1]? =some p.2) (hn: (keys X).Nodup) (hP:DwP bd vL vI W X) (hL:RowX 2 kl_ jU_ w vL l X) (hI:RowX 32 z4_ id0 w vI (l.map idK) X)
  (hr: ∀o,o∈l→rdK o=true) (hl:l.length<1000000) (hb1:W.q.length<10000000) (hb2:W.lk.length<90000) (hb3:W.vis.length<1000000) (hb4:W.ms.length<90000):
  Rets Tryz.prog 25 #[vp bd 0] w (XS w X (fun v D=>v= .bool (xy_ (j5_ l) W).1∧DwP bd vL vI (xy_ (j5_ l) W).2 D)):=by
 refine Rets.enterX Tryz.func25 rfl (rs:= [.tmp 2]) Tryz.results25 Tryz.ntmps25 hX hn ?_
 refine kf ?_
 first|with_reducible refine ks [] @zL_ ?_|refine kp @zL_ ?_
 refine Cw.loopG (G:=MkStG) [8,9,10,11,12,13,14,15,16,17,18,19,3,20,21,22,23,24,25,26,27,4,5,28,29,30,31,32,33,34,37,38,39,40,41,42,43,44,45,46,47,48,35,36,49,50,51,52,53,54,55,56,57,58,59,61,62,63,64,65,66,67,60,68,69,6,7,70,71,72,73,74,75,76,77,78,79,80,81,82,83,84,85,86,87,88,89,90,91,92,93,94,95,96,97,98,99,100,101,102,103,2,104,105,106,107,108,109,110,111,112,113,114,115,116,117,118,119,120,121,122,123,124,125,126,127,128,129,130,131] (fun g=> []) (fun g=>g.X) (fun g=>DwP bd vL vI {W with q:=g.q} g.X∧Ext w X g.X∧stepQ (j5_ l) W g.q=xy_ (j5_ l) W∧g.q.length≤W.q.length) (fun g=>g.q.length) ⟨W.q,X⟩ rfl rfl ?_ ?_
 ·exact⟨hP,Ext.refl _ _,rfl,Nat.le_refl _⟩
 intro g j hg
 refine kv ?_
 clear hP hX hn
 obtain⟨q,X'⟩:=g
 simp only at hg ⊢
 obtain⟨hP,hE,hst,hql⟩:=hg
 refine Cw.world fun wz hwz=> ?_
 have hnX:=hwz.nodup
 clear hwz wz
 obtain⟨vq,vv,vl,vm,vn,Q,V,M,K,hA⟩:=hP
 obtain⟨hn1,hn2,hn3,hn4⟩:=hA.ne hnX
 have hkX:=hA.keysX
 refine Cw.permL hA.perm.symm ?_
 have ln:=fun x=>hA.q.len x
 cases q with
 |nil=>
  have d0:decide ((0:Int)< (([]:List ChildL).length:Int))=false:=rfl
  simp only at ln
  first|with_reducible refine ks [] (And.intro @zL_ (And.intro @ln (@d0))) ?_|refine kp (And.intro @zL_ (And.intro @ln (@d0))) ?_
  refine⟨_,(ke @zL_), ?_⟩
  rw[←hst]
  exact⟨hE.perm hA.perm.symm,rfl,vq,vv,vl,vm,vn,Q,V,M,K,List.Perm.refl _,hA.q,hA.v,hA.l,hA.m,hA.n⟩
 |cons c q=>
  have hq1:=hA.q
  simp only at ln hq1
  rw[List.length_cons] at hq1 ln hql
  obtain⟨bq,offq,arrq,hlq,hixq,hldq⟩:=Qu.head hq1 zo_
  obtain⟨vt,hvt,hq2⟩:=Qu.tail hq1 zo_
  have hnX2: (keys ((bd,Obj.cells #[vL,vI,vq,vv,vl,vm,vn] 46 (0,0)):: (Q++ (V++ (M++K))))).Nodup:=((hA.perm.map Prod.fst).nodup_iff).1 hnX
  have rq:zv_ w ((bd, .cells #[vL,vI,vq,vv,vl,vm,vn] 46 (0,0)):: (Q++ (V++ (M++K)))) bq=some (.cells arrq 59 (0,0)):=jb_ hnX2 (by simp[zF_ hlq])
  have d0:decide ((0:Int)< ((q.length+1:Nat):Int))=true:=decide_eq_true (by omega)
  first|with_reducible refine ks [1000012] (And.intro @zL_ (And.intro @ln (And.intro @d0 (And.intro @hixq (And.intro @rq (@hldq)))))) ?_|refine kp (And.intro @zL_ (And.intro @ln (And.intro @d0 (And.intro @hixq (And.intro @rq (@hldq)))))) ?_
  refine Ow.alloc rfl rfl jF_ fun b3 hb3 hw3=> ?_
  simp only[ze_,List.nil_append,List.cons_append]
  have hcid:=c.id.h
  refine Ow.permL (M:=(b3, .cells (zm_ chd0).toArray 59 (0,0)):: (bd, .cells #[vL,vI,vq,vv,vl,vm,vn] 46 (0,0)):: (Q++ (V++ (M++K)))) (by classical exact List.perm_iff_count.2 fun a=>by simp only[List.count_append,List.count_cons,List.count_nil]<;>omega) ?_
  have h3d:bd<b3:=zf_ hb3 (by simp[keys])
  have st1:=s7_2 vL vI vq vv vl vm vn vt 46 hq2.cell
  refine ko @zL_ ?_
  first|with_reducible refine ks [] (And.intro @zL_ (And.intro @hvt (@st1))) ?_|refine kp (And.intro @zL_ (And.intro @hvt (@st1))) ?_
  refine Cw.world fun wz hwz=> ?_
  have hnd3:=hwz.nodup
  clear hwz wz
  have lnv:=fun x=>hA.v.len x
  simp only at lnv
  obtain⟨was,hwas⟩: ∃b,b=decide (c∈W.vis):=⟨_,rfl⟩
  have hbdQ:bd∉keys Q:=hn1
  refine Cw.loopG (G:=MkInG) [28,29,30,31,32,33,34,37,38,39,40,41,42,43,44,45,46,47,48,4,35,36,5] (fun k=> [(4, .bool k.b),(5,vi k.k)]) (fun k=>(b3, .cells (zm_ c).toArray 59 (0,0)):: (bd, .cells #[vL,vI,vt,vv,vl,vm,vn] 46 (0,0)):: (Q++ (V++ (M++K)))) (fun k=>k.k≤W.vis.length∧k.b=decide (c∈W.vis.take k.k)) (fun k=>W.vis.length - k.k) ⟨0,false⟩ rfl rfl ?_ ?_
  ·exact⟨Nat.zero_le _,by simp⟩
  intro k jk hk
  refine kv ?_
  obtain⟨k,b⟩:=k
  simp only at hk ⊢
  obtain⟨hk1,hk2⟩:=hk
  by_cases hlt:k<W.vis.length
  ·obtain⟨bV,cV,restV,hvv,hlV⟩:=Go.Proofs.Gr.rows hA.v (show 0<W.vis.length by omega)
   have rV:zv_ w ((b3, .cells (zm_ c).toArray 59 (0,0)):: (bd, .cells #[vL,vI,vt,vv,vl,vm,vn] 46 (0,0)):: (Q++ (V++ (M++K)))) bV=some (Qe_ zm_ 59 restV W.vis):=jb_ hnd3 (by simp[zF_ hlV])
   simp only at hvv
   have ixV: ∀a,zK_ (.sl (a,33)) vv (some (k:Int))=some (vp bV (k*33)):=fun a=>by
    rw[hvv,qn_ _ _ _ _ _ _ ⟨by omega,by omega⟩];simp
   have ldV:=vr_ (z:=chd0) (E:=59) (rest:=restV) zo_ k hlt
   have hts:=StP.take_snoc (z:=chd0) hlt
   have d1:decide ((k:Int)< (W.vis.length:Int))=true:=decide_eq_true (by omega)
   generalize W.vis.getD k chd0=y at*
   first|with_reducible refine ks [] (And.intro @zL_ (And.intro @lnv (@d1))) ?_|refine kp (And.intro @zL_ (And.intro @lnv (@d1))) ?_
   cases b with
   |true=>
    refine Cw.regionS [b3,bd,bV] [0,1,2,3,4,6,5,7,8,9,10,11,12] [] (by kernel_rfl) (by kernel_rfl) (by kernel_rfl) ?_
    simp only[zh_, ↓zc_, ↓za_, ↓zk_, ↓zj_,zb_]
    refine kq @zL_ ?_
    first|with_reducible refine ks [] @zL_ ?_|refine kp @zL_ ?_
    refine Again.mk ⟨k+1,true⟩ (by show W.vis.length - (k+1)<W.vis.length - k;omega) ⟨hlt, ?_⟩ rfl rfl
    show true=decide (c∈W.vis.take (k+1))
    rw[hts,eq_comm,decide_eq_true_eq,List.mem_append]
    exact .inl (of_decide_eq_true hk2.symm)
   |false=>
    refine Cw.regionS [b3,bd,bV] [0,1,2,3,4,6,5,7,8,9,10,11,12] [] (by kernel_rfl) (by kernel_rfl) (by kernel_rfl) ?_
    simp only[zh_, ↓zc_, ↓za_, ↓zk_, ↓zj_,zb_]
    refine kq (And.intro @zL_ (And.intro @ixV (And.intro @rV (@ldV)))) ?_
    first|with_reducible refine ks [] @zL_ ?_|refine kp @zL_ ?_
    refine Again.mk ⟨k+1,decide (y=c)⟩ (by show W.vis.length - (k+1)<W.vis.length - k;omega) ⟨hlt, ?_⟩ rfl rfl
    show decide (y=c)=decide (c∈W.vis.take (k+1))
    have hk3:=of_decide_eq_false hk2.symm
    rw[hts,decide_eq_decide,List.mem_append,List.mem_singleton]
    exact⟨fun h=> .inr h.symm,fun h=>h.elim (fun h=>absurd h hk3) Eq.symm⟩
  ·obtain rfl:k=W.vis.length:=by omega
   rw[List.take_length] at hk2
   have d1:decide ((W.vis.length:Int)< (W.vis.length:Int))=false:=by simp
   first|with_reducible refine ks [1000012] (And.intro @zL_ (And.intro @lnv (@d1))) ?_|refine kp (And.intro @zL_ (And.intro @lnv (@d1))) ?_
   cases b with
   |true=>
    have hc:c∈W.vis:=of_decide_eq_true hk2.symm
    first|with_reducible refine ks [] @zL_ ?_|refine kp @zL_ ?_
    refine Again.mk ⟨q,_⟩ (by show q.length< (c::q).length;simp) ⟨⟨vt,vv,vl,vm,vn,Q,V,M,K++ [(b3, .cells (zm_ c).toArray 59 (0,0))],⟨(by classical exact List.perm_iff_count.2 fun a=>by simp only[List.count_append,List.count_cons,List.count_nil]<;>omega),hq2,hA.v,hA.l,hA.m.mono fun p hp=>List.mem_append_left _ hp,hA.n.mono fun p hp=>List.mem_append_left _ hp⟩⟩, ?_, ?_,by show q.length≤_;omega⟩ rfl rfl
    ·exact hE.trans2 ((hA.ext2 (a:= .cells #[vL,vI,vt,vv,vl,vm,vn] 46 (0,0)) (K':=K++ [(b3, .cells (zm_ c).toArray 59 (0,0))]) (fun x h=>h) (fun x h=> .inl h) (fun x h=>h) (fun x h=> .inl h) (fun x h=>h) (fun x h=> .inl h) (fun x h=>by rw[zd_];exact List.mem_append_left _ h) (fun x h=>by rw[zd_,List.mem_append] at h;exact h.imp id fun h=>by simp[keys] at h;omega)).perm (by classical exact List.perm_iff_count.2 fun a=>by simp only[List.count_append,List.count_cons,List.count_nil]<;>omega))
    ·show stepQ (j5_ l) W q=_
     rw[←hst,stepQ,if_pos hc]
   |false=>
    have hc:c∉W.vis:=of_decide_eq_false hk2.symm
    have h3V:b3∉keys V:=fun h=>by
     have:=hE.new b3 ((hkX b3).2 (.inr (.inr (.inl h))))
     have h2:=zf_ hb3 (b:=b3) (by simp only[keys,List.map_cons,List.map_append,List.mem_cons,List.mem_append];exact .inr (.inr (.inl h)))
     omega
    first|with_reducible refine ks [] @zL_ ?_|refine kp @zL_ ?_
    refine Cw.permL (M:=V++ ((bd, .cells #[vL,vI,vt,vv,vl,vm,vn] 46 (0,0)):: (b3, .cells (zm_ c).toArray 59 (0,0)):: (Q++ (M++K)))) (by classical exact List.perm_iff_count.2 fun a=>by simp only[List.count_append,List.count_cons,List.count_nil]<;>omega) ?_
    have rbd:=fun Y=>zg_ (w0:=w) (zu_ (D:=V) (Y:=Y) (o:= .cells #[vL,vI,vt,vv,vl,vm,vn] 46 (0,0)) hn2)
    have rb3:=fun Y=>zg_ (w0:=w) (zD_ (D:=V) (Y:=Y) (o:= .cells #[vL,vI,vt,vv,vl,vm,vn] 46 (0,0)) (x:= .cells (zm_ c).toArray 59 (0,0)) h3V (show bd≠b3 by omega))
    refine Cw.regionG [bd,b3] [10] 11 (by kernel_rfl) rfl ?_
    simp only[List.replicate_succ,List.replicate_zero]
    refine OwG.run [0,1,2,3,4,5] [true,true,true,true,true,true,false,false,false,false,false] 5 rfl (by kernel_rfl) (by kernel_rfl) fun k hk=> ?_
    simp only[zh_, ↓zc_, ↓za_, ↓zk_, ↓zj_,zb_]
    simp(disch:=(first|assumption|omega| (simp only[qF_,qC_,UInt64.reduceToNat];try omega))) only[↓Sx.S0,Sx.S1,Tryz.fx,zL_,Nat.reduceAdd,Nat.reducePow,Int.reducePow,Nat.reduceBEq, ↓reduceIte,UInt8.reduceToNat,UInt16.reduceToNat,UInt32.reduceToNat,UInt64.reduceToNat,Int.reduceToNat,Md.next_sofnil,rbd,rb3]
    (with_reducible refine hk _ _ _ ?_);clear hk k
    refine OwG.one 6 _ (by kernel_rfl) rfl ?_
    refine Ow.buildSlice (e:=59) (zm_ c).toArray rfl rfl (jw_ c) fun ba hba hwa=> ?_
    with_reducible refine Ow.nil ?_
    refine⟨(zq_ (fun r hr=>by simp only[List.mem_cons,List.not_mem_nil,or_false] at hr;rcases hr with rfl|rfl<;>simp[keys])), ?_⟩
    simp only[List.set_cons_zero,List.set_cons_succ,zl_,zy_,zz_]
    refine OwG.one 7 _ (by kernel_rfl) rfl ?_
    refine Ow.appendXG (e:=59) (k:=1) (new:=zm_ c) (X:=V) vv (List.append_assoc _ _ _) rfl rfl rfl Tryz.underlying44 q1_ (by kernel_rfl) jF_ (by rw[zG_,List.size_toArray,zo_]) Tryz.underlying44 (by intro k h;cases h) hA.v (fun w' hw'=>AppX.one1 (hw'.has ba (.cells (zm_ c).toArray 59 (0,0)) (by simp)) (zo_ _) (qe_ _)) (by show 2* (W.vis.length+1)+768≤2^38;omega) (fun B5 v5 D5 hA5 hB5 hG5 hk15 hk25 hlk5=> ?_)
    have hbD:bd∉keys D5:=qq_ hA5 (by simp[keys]) hn2 hk25
    have h3D:b3∉keys D5:=qq_ hA5 (by simp[keys]) h3V hk25
    have c5:=hG5.cell
    have lD5:=fun Y=>zu_ (D:=D5) (Y:=Y) (o:= .cells #[vL,vI,vt,vv,vl,vm,vn] 46 (0,0)) hbD
    have st5:=s7_3 vL vI vt vv vl vm vn v5 46 c5
    with_reducible refine Ow.nil ?_
    refine⟨(fun r hr=>by simp only[List.mem_cons,List.not_mem_nil,or_false] at hr;rcases hr with rfl|rfl;exact(zg_ (zu_ hbD)).trans (zg_ (zp_ (zu_ hn2))).symm;exact(zg_ (zD_ h3D (by omega))).trans (zg_ (zp_ (zD_ h3V (by omega)))).symm), ?_⟩
    simp only[List.set_cons_zero,List.set_cons_succ,zl_,zy_,zz_]
    refine OwG.rest [8,9,10] rfl (by kernel_rfl) (by kernel_rfl) ?_
    simp only[zh_, ↓zc_, ↓za_, ↓zk_, ↓zj_,zb_]
    refine kq @zL_ ?_
    refine Ow.store rfl rfl rfl (ke (And.intro @zL_ (And.intro @lD5 (@st5)))) ?_
    have es:=fun Y x=>q6_ (D:=D5) (Y:=Y) (o:= .cells #[vL,vI,vt,vv,vl,vm,vn] 46 (0,0)) (x:=x) hbD
    simp only[List.cons_append] at*
    rw[es]
    refine ko @zL_ ?_
    refine Cw.permL (M:=(bd, .cells #[vL,vI,vt,v5,vl,vm,vn] 46 (0,0)):: (b3, .cells (zm_ c).toArray 59 (0,0)):: (Q++ (D5++ (M++ (K++ [(ba, .cells (zm_ c).toArray 59 (0,0))]))))) (by classical exact List.perm_iff_count.2 fun a=>by simp only[List.count_append,List.count_cons,List.count_nil]<;>omega) ?_
    have hA5:DwA bd vL vI {W with q:=q,vis:=W.vis++ [c]} vt v5 vl vm vn Q D5 M (K++ [(ba, .cells (zm_ c).toArray 59 (0,0)),(b3, .cells (zm_ c).toArray 59 (0,0))]) ((bd, .cells #[vL,vI,vt,v5,vl,vm,vn] 46 (0,0)):: (b3, .cells (zm_ c).toArray 59 (0,0)):: (Q++ (D5++ (M++ (K++ [(ba, .cells (zm_ c).toArray 59 (0,0))]))))):=⟨(by classical exact List.perm_iff_count.2 fun a=>by simp only[List.count_append,List.count_cons,List.count_nil]<;>omega),hq2,by simpa [List.map_append] using hG5,hA.l,hA.m.mono fun p hp=>List.mem_append_left _ hp,hA.n.mono fun p hp=>List.mem_append_left _ hp⟩
    have hE5:Ext w X ((bd, .cells #[vL,vI,vt,v5,vl,vm,vn] 46 (0,0)):: (b3, .cells (zm_ c).toArray 59 (0,0)):: (Q++ (D5++ (M++ (K++ [(ba, .cells (zm_ c).toArray 59 (0,0))]))))):=hE.trans2 ((hA.ext2 (a:= .cells #[vL,vI,vt,v5,vl,vm,vn] 46 (0,0)) (K':=K++ [(ba, .cells (zm_ c).toArray 59 (0,0)),(b3, .cells (zm_ c).toArray 59 (0,0))]) (fun x h=>h) (fun x h=> .inl h) hk15 (fun x h=>(hk25 x h).imp id fun h=>by omega) (fun x h=>h) (fun x h=> .inl h) (fun x h=>by rw[zd_];exact List.mem_append_left _ h) (fun x h=>by rw[zd_,List.mem_append] at h;exact h.imp id fun h=>by simp[keys] at h;omega)).perm (by classical exact List.perm_iff_count.2 fun a=>by simp only[List.count_append,List.count_cons,List.count_nil]<;>omega))
    refine Cw.world fun wz hwz=> ?_
    have hnd5:=hwz.nodup
    clear hwz wz
    have rbd5:zv_ w ((bd, .cells #[vL,vI,vt,v5,vl,vm,vn] 46 (0,0)):: (b3, .cells (zm_ c).toArray 59 (0,0)):: (Q++ (D5++ (M++ (K++ [(ba, .cells (zm_ c).toArray 59 (0,0))]))))) bd=some (.cells #[vL,vI,vt,v5,vl,vm,vn] 46 (0,0)):=zV_ _ _ _ _
    have rb35:zv_ w ((bd, .cells #[vL,vI,vt,v5,vl,vm,vn] 46 (0,0)):: (b3, .cells (zm_ c).toArray 59 (0,0)):: (Q++ (D5++ (M++ (K++ [(ba, .cells (zm_ c).toArray 59 (0,0))]))))) b3=some (.cells (zm_ c).toArray 59 (0,0)):=jb_ hnd5 (by simp)
    have hbd5:bd∈keys ((bd, .cells #[vL,vI,vt,v5,vl,vm,vn] 46 (0,0)):: (b3, .cells (zm_ c).toArray 59 (0,0)):: (Q++ (D5++ (M++ (K++ [(ba, .cells (zm_ c).toArray 59 (0,0))]))))):=by simp[keys]
    have hb35:b3∈keys ((bd, .cells #[vL,vI,vt,v5,vl,vm,vn] 46 (0,0)):: (b3, .cells (zm_ c).toArray 59 (0,0)):: (Q++ (D5++ (M++ (K++ [(ba, .cells (zm_ c).toArray 59 (0,0))]))))):=by simp[keys]
    obtain⟨L5,hL5⟩: ∃L5,L5=(bd, .cells #[vL,vI,vt,v5,vl,vm,vn] 46 (0,0)):: (b3, .cells (zm_ c).toArray 59 (0,0)):: (Q++ (D5++ (M++ (K++ [(ba, .cells (zm_ c).toArray 59 (0,0))])))):=⟨_,rfl⟩
    rw[←hL5] at hA5 hE5 rbd5 rb35 hbd5 hb35 ⊢
    refine Cw.regionD [bd,b3] [11] 10 6 35 12 _ rfl (by kernel_rfl) (by kernel_rfl) rfl (by kernel_rfl) Xl_ (fun hD=> ?_)
    simp only[List.replicate_succ,List.replicate_zero]
    refine OwD.run [0,1,2,3,4,5] [true,true,true,true,true,true,false,false,false,false,false,false,false] 6 rfl hD (by kernel_rfl) fun k hk=> ?_
    simp only[zh_, ↓zc_, ↓za_, ↓zk_, ↓zj_,zb_]
    simp(disch:=(first|assumption|omega| (simp only[qF_,qC_,UInt64.reduceToNat];try omega))) only[↓Sx.S0,Sx.S1,Tryz.fx,zL_,Nat.reduceAdd,Nat.reducePow,Int.reducePow,Nat.reduceBEq, ↓reduceIte,UInt8.reduceToNat,UInt16.reduceToNat,UInt32.reduceToNat,UInt64.reduceToNat,Int.reduceToNat,Md.next_sofnil,rbd5,rb35]
    (with_reducible refine hk _ _ _ ?_);clear hk k
    refine OwD.soft 6 _ hD rfl (by kernel_rfl) (fun E hE6=> ?_)
    have hkE: ∀x,x∈keys (L5++E)→x∈keys X∨w.heap.size≤x:=fun x hx=>by
     rw[zd_,List.mem_append] at hx
     exact hx.elim (hE5.new x) fun h=> .inr ((alp_ hE6).le x h)
    refine Ow.callFV rfl Tryz.call18 (fun w' hw'=>W8_ vL vI l c.id w' ((hL.ext hkE).old hw' (fun _ h=>by cases h)) ((hI.ext hkE).old hw' (fun _ h=>by cases h)) hl) ?_
    with_reducible refine Ow.nil ?_
    refine⟨_,List.Perm.refl _,fun _ _=>rfl, ?_⟩
    simp only[List.set_cons_zero,List.set_cons_succ,zl_,zy_,zz_]
    refine OwD.run [7,8,9] [true,true,true,true,true,true,true,true,true,true,false,false,false] 2 rfl hD (by kernel_rfl) fun k hk=> ?_
    simp only[zh_, ↓zc_, ↓za_, ↓zk_, ↓zj_,zb_]
    simp(disch:=(first|assumption|omega| (simp only[qF_,qC_,UInt64.reduceToNat];try omega))) only[↓Sx.S0,Sx.S1,Tryz.fx,zL_,Nat.reduceAdd,Nat.reducePow,Int.reducePow,Nat.reduceBEq, ↓reduceIte,UInt8.reduceToNat,UInt16.reduceToNat,UInt32.reduceToNat,UInt64.reduceToNat,Int.reduceToNat,Md.next_sofnil,Sx.tup2_0,Sx.tup2_1]
    (with_reducible refine hk _ _ _ ?_);clear hk k
    refine OwD.real [11,12] rfl hD (by kernel_rfl) (by kernel_rfl) (by kernel_rfl) (by kernel_rfl) (fun r hr=>by simp only[List.mem_cons,List.not_mem_nil,or_false] at hr;rcases hr with rfl|rfl;exact .inl hbd5;exact .inl hb35) ?_
    simp only[zh_, ↓zc_, ↓za_, ↓zk_, ↓zj_,zb_]
    intro b6 hw6 hbL
    simp only[zy_,zz_]
    have hin:=aly_ (l:=l) (i:=c.id)
    have e1:zS_ (j5_ l) c=((j5_ l c.id).2&& (c.kind==0||c.kind==(j5_ l c.id).1.k)):=rfl
    have ek:jX_ (j5_ l) c.id=jj_ (j5_ l c.id).1.k (j5_ l c.id).1.t:=rfl
    obtain⟨is,his⟩: ∃b,b=(j5_ l c.id).2:=⟨_,rfl⟩
    obtain⟨o,ho⟩: ∃o,o=(j5_ l c.id).1:=⟨_,rfl⟩
    rw[←his,←ho] at e1 hin ⊢
    rw[←ho] at ek
    obtain⟨ok,ot⟩:=o
    simp only at e1 ek
    refine Ow.store rfl rfl rfl (L':=L5++ [(b6, .cells #[vi ok,vs ot] 35 (0,0))]) ?_ ?_
    ·simp only[zW_,zT_,z1_]
     have hst:zs_ (some (true,2)) (some (Obj.cells (Value.cells (obV 0 [])) 35 (0,0))) 0 (obKV ⟨ok,ot⟩)=some (.cells #[vi ok,vs ot] 35 (0,0)):=rfl
     rw[Tryz.ag35,xv_,vk_ hbL,hst,kv_,x2_ hbL]
     exact []
    refine ko @zL_ ?_
    have h3b6:b3≠b6:=fun e=>hbL (e▸hb35)
    have hdb6:bd≠b6:=fun e=>hbL (e▸hbd5)
    subst hL5
    refine Cw.permL (M:=(b6, .cells #[vi ok,vs ot] 35 (0,0)):: (b3, .cells (zm_ c).toArray 59 (0,0)):: (bd, .cells #[vL,vI,vt,v5,vl,vm,vn] 46 (0,0)):: (Q++ (D5++ (M++ (K++ [(ba, .cells (zm_ c).toArray 59 (0,0))]))))) (by classical exact List.perm_iff_count.2 fun a=>by simp only[List.count_append,List.count_cons,List.count_nil]<;>omega) ?_
    have h3M:b3∉keys M:=fun h=>by
     have:=hE.new b3 ((hkX b3).2 (.inr (.inr (.inr (.inl h)))))
     have h2:=zf_ hb3 (b:=b3) (by simp only[keys,List.map_cons,List.map_append,List.mem_cons,List.mem_append];exact .inr (.inr (.inr (.inl h))))
     omega
    refine Cw.cutO (G:=Unit) [2,70,71,72,73,74,75,76,77,78,79,80,81,82,83,84,85,86,87,88,89,90,91,92,93,94,95,96,97,98,99,100,101,102,103] (fun g=> []) (fun g=>(b6, .cells #[vi ok,vs ot] 35 (0,0)):: (b3, .cells (zm_ c).toArray 59 (0,0)):: (bd, .cells #[vL,vI,vt,v5,vl,vm,vn] 46 (0,0)):: (Q++ (D5++ (M++ (K++ [(ba, .cells (zm_ c).toArray 59 (0,0))]))))) (fun g=>zS_ (j5_ l) c=true) ?_ ?_
    ·cases is with
     |false=>
      have hfn:zS_ (j5_ l) c=false:=by rw[e1];rfl
      first|with_reducible refine ks [] @zL_ ?_|refine kp @zL_ ?_
      refine Cw.permL (M:=M++ ((bd, .cells #[vL,vI,vt,v5,vl,vm,vn] 46 (0,0)):: (b3, .cells (zm_ c).toArray 59 (0,0)):: (b6, .cells #[vi ok,vs ot] 35 (0,0)):: (Q++ (D5++ (K++ [(ba, .cells (zm_ c).toArray 59 (0,0))]))))) (by classical exact List.perm_iff_count.2 fun a=>by simp only[List.count_append,List.count_cons,List.count_nil]<;>omega) ?_
      have rbd:=fun Y=>zg_ (w0:=w) (zu_ (D:=M) (Y:=Y) (o:= .cells #[vL,vI,vt,v5,vl,vm,vn] 46 (0,0)) hn3)
      have rb3:=fun Y=>zg_ (w0:=w) (zD_ (D:=M) (Y:=Y) (o:= .cells #[vL,vI,vt,v5,vl,vm,vn] 46 (0,0)) (x:= .cells (zm_ c).toArray 59 (0,0)) h3M (show bd≠b3 by omega))
      refine Cw.regionG [bd,b3] [10] 11 (by kernel_rfl) rfl ?_
      simp only[List.replicate_succ,List.replicate_zero]
      refine OwG.run [0,1,2,3,4,5] [true,true,true,true,true,true,false,false,false,false,false] 5 rfl (by kernel_rfl) (by kernel_rfl) fun k hk=> ?_
      simp only[zh_, ↓zc_, ↓za_, ↓zk_, ↓zj_,zb_]
      simp(disch:=(first|assumption|omega| (simp only[qF_,qC_,UInt64.reduceToNat];try omega))) only[↓Sx.S0,Sx.S1,Tryz.fx,zL_,Nat.reduceAdd,Nat.reducePow,Int.reducePow,Nat.reduceBEq, ↓reduceIte,UInt8.reduceToNat,UInt16.reduceToNat,UInt32.reduceToNat,UInt64.reduceToNat,Int.reduceToNat,Md.next_sofnil,rbd,rb3]
      (with_reducible refine hk _ _ _ ?_);clear hk k
      refine OwG.one 6 _ (by kernel_rfl) rfl ?_
      refine Ow.buildSlice (e:=59) (zm_ c).toArray rfl rfl (jw_ c) fun bb hbb hwb=> ?_
      with_reducible refine Ow.nil ?_
      refine⟨(zq_ (fun r hr=>by simp only[List.mem_cons,List.not_mem_nil,or_false] at hr;rcases hr with rfl|rfl<;>simp[keys])), ?_⟩
      simp only[List.set_cons_zero,List.set_cons_succ,zl_,zy_,zz_]
      refine OwG.one 7 _ (by kernel_rfl) rfl ?_
      refine Ow.appendXG (e:=59) (k:=1) (new:=zm_ c) (X:=M) vl (List.append_assoc _ _ _) rfl rfl rfl Tryz.underlying44 q1_ (by kernel_rfl) jF_ (by rw[zG_,List.size_toArray,zo_]) Tryz.underlying44 (by intro k h;cases h) hA.l (fun w' hw'=>AppX.one1 (hw'.has bb (.cells (zm_ c).toArray 59 (0,0)) (by simp)) (zo_ _) (qe_ _)) (by show 2* (W.lk.length+1)+768≤2^38;omega) (fun B7 v7 D7 hA7 hB7 hG7 hk17 hk27 hlk7=> ?_)
      have hbD7:bd∉keys D7:=qq_ hA7 (by simp[keys]) hn3 hk27
      have h3D7:b3∉keys D7:=qq_ hA7 (by simp[keys]) h3M hk27
      have lD7:=fun Y=>zu_ (D:=D7) (Y:=Y) (o:= .cells #[vL,vI,vt,v5,vl,vm,vn] 46 (0,0)) hbD7
      have st7:=s7_4 vL vI vt v5 vl vm vn v7 46 hG7.cell
      with_reducible refine Ow.nil ?_
      refine⟨(fun r hr=>by simp only[List.mem_cons,List.not_mem_nil,or_false] at hr;rcases hr with rfl|rfl;exact(zg_ (zu_ hbD7)).trans (zg_ (zp_ (zu_ hn3))).symm;exact(zg_ (zD_ h3D7 (by omega))).trans (zg_ (zp_ (zD_ h3M (by omega)))).symm), ?_⟩
      simp only[List.set_cons_zero,List.set_cons_succ,zl_,zy_,zz_]
      refine OwG.rest [8,9,10] rfl (by kernel_rfl) (by kernel_rfl) ?_
      simp only[zh_, ↓zc_, ↓za_, ↓zk_, ↓zj_,zb_]
      refine kq @zL_ ?_
      refine Ow.store rfl rfl rfl (ke (And.intro @zL_ (And.intro @lD7 (@st7)))) ?_
      have es7:=fun Y x=>q6_ (D:=D7) (Y:=Y) (o:= .cells #[vL,vI,vt,v5,vl,vm,vn] 46 (0,0)) (x:=x) hbD7
      simp only[List.cons_append] at*
      rw[es7]
      refine ko @zL_ ?_
      refine Cw.permL (M:=(bd, .cells #[vL,vI,vt,v5,v7,vm,vn] 46 (0,0)):: (b3, .cells (zm_ c).toArray 59 (0,0)):: (b6, .cells #[vi ok,vs ot] 35 (0,0)):: (Q++ (D5++ (D7++ (K++ [(ba, .cells (zm_ c).toArray 59 (0,0)),(bb, .cells (zm_ c).toArray 59 (0,0))]))))) (by classical exact List.perm_iff_count.2 fun a=>by simp only[List.count_append,List.count_cons,List.count_nil]<;>omega) ?_
      refine Cw.regionG [bd,b3] [10] 11 (by kernel_rfl) rfl ?_
      simp only[List.replicate_succ,List.replicate_zero]
      refine OwG.run [0,1,2,3,4,5,6] [true,true,true,true,true,true,true,false,false,false,false] 4 rfl (by kernel_rfl) (by kernel_rfl) fun k hk=> ?_
      simp only[zh_, ↓zc_, ↓za_, ↓zk_, ↓zj_,zb_]
      simp(disch:=(first|assumption|omega| (simp only[qF_,qC_,UInt64.reduceToNat];try omega))) only[↓Sx.S0,Sx.S1,Tryz.fx,zL_,Nat.reduceAdd,Nat.reducePow,Int.reducePow,Nat.reduceBEq, ↓reduceIte,UInt8.reduceToNat,UInt16.reduceToNat,UInt32.reduceToNat,UInt64.reduceToNat,Int.reduceToNat,Md.next_sofnil,Md.next_sofnil]
      (with_reducible refine hk _ _ _ ?_);clear hk k
      refine OwG.one 7 _ (by kernel_rfl) rfl ?_
      obtain⟨Xn,hXn,hGn⟩:=hA.n
      refine Ow.callC rfl rfl Tryz.call73 (fun w' hw'=>kO_ vn (jL_ W.lk) c.id w' (hGn.slM (z:=id0) (fun b o hm=>hw'.has b o (by have:=hXn _ hm;simp[this])) rfl rfl z0_) (by have:=xf_ (W.lk.map ChildL.id);rw[List.length_map] at this;show(xr_ (W.lk.map ChildL.id)).length<_;omega)) (fun B8 v8 D8 hA8 hB8 hN8 hS8=> ?_)
      have hN8':=hN8.mono hB8
      have hS9:=hS8.gri (K:=K) ⟨Xn,hXn,hGn⟩
      have st8:=s7_6 vL vI vt v5 v7 vm vn v8 46 (kh_ hS9)
      with_reducible refine Ow.nil ?_
      refine⟨(zq_ (fun r hr=>by simp only[List.mem_cons,List.not_mem_nil,or_false] at hr;rcases hr with rfl|rfl<;>simp[keys])), ?_⟩
      simp only[List.set_cons_zero,List.set_cons_succ,zl_,zy_,zz_]
      refine OwG.rest [8,9,10] rfl (by kernel_rfl) (by kernel_rfl) ?_
      simp only[zh_, ↓zc_, ↓za_, ↓zk_, ↓zj_,zb_]
      refine kq @zL_ ?_
      refine Ow.store rfl rfl rfl (ke (And.intro @zL_ @st8)) ?_
      refine ko @zL_ ?_
      first|with_reducible refine ks [] @zL_ ?_|refine kp @zL_ ?_
      refine⟨_,(ke @zL_), ?_⟩
      rw[←hst,stepQ,if_neg hc]
      have hvk:jk_ (j5_ l) {W with q:=q} c={W with q:=q,vis:=W.vis++ [c],lk:=W.lk++ [c]}:=by unfold jk_;rw[if_neg (by rw[hfn];simp)]
      rw[hvk]
      refine⟨hE.trans2 ((hA.ext2 (a:= .cells #[vL,vI,vt,v5,v7,vm,v8] 46 (0,0)) (K':=K++ ([(ba, .cells (zm_ c).toArray 59 (0,0)),(bb, .cells (zm_ c).toArray 59 (0,0)),(b3, .cells (zm_ c).toArray 59 (0,0)),(b6, .cells #[vi ok,vs ot] 35 (0,0))]++D8)) (fun x h=>h) (fun x h=> .inl h) hk15 (fun x h=>(hk25 x h).imp id fun h=>by omega) hk17 (fun x h=>(hk27 x h).imp id fun h=>by omega) (fun x h=>by rw[zd_];exact List.mem_append_left _ h) (fun x h=>by rw[zd_,zd_,List.mem_append,List.mem_append] at h;exact h.imp id fun h=>h.elim (fun h=>by simp[keys] at h;omega) (hN8'.le x))).perm (by classical exact List.perm_iff_count.2 fun a=>by simp only[List.count_append,List.count_cons,List.count_nil]<;>omega)),rfl,vt,v5,v7,vm,v8,Q,D5,D7,K++ ([(ba, .cells (zm_ c).toArray 59 (0,0)),(bb, .cells (zm_ c).toArray 59 (0,0)),(b3, .cells (zm_ c).toArray 59 (0,0)),(b6, .cells #[vi ok,vs ot] 35 (0,0))]++D8),⟨(by classical exact List.perm_iff_count.2 fun a=>by simp only[List.count_append,List.count_cons,List.count_nil]<;>omega),hq2,hA5.v,by simpa [List.map_append] using hG7,hA.m.mono fun p hp=>List.mem_append_left _ hp, ?_⟩⟩
      show GrI _ _ 32 v8 (jL_ (W.lk++ [c])).length ((jL_ (W.lk++ [c])).map z4_).flatten
      rw[wa_]
      exact hS9.mono fun p hp=>by rw[List.mem_append] at hp;rcases hp with h|h<;>simp[h]
     |true=>
      cases hk0: (c.kind==0) with
      |true=>
       have f0: (c.kind !=0)=false:=by simpa using hk0
       first|with_reducible refine ks [] (And.intro @zL_ @f0) ?_|refine kp (And.intro @zL_ @f0) ?_
       exact CutO.mk () (by rw[e1,hk0];rfl) rfl rfl
      |false=>
       have f0: (c.kind !=0)=true:=by simpa using hk0
       cases hk3: (c.kind==ok) with
       |true=>
        have f1: (c.kind !=ok)=false:=by simpa using hk3
        first|with_reducible refine ks [] (And.intro @zL_ (And.intro @f0 (@f1))) ?_|refine kp (And.intro @zL_ (And.intro @f0 (@f1))) ?_
        exact CutO.mk () (by rw[e1,hk0,hk3];rfl) rfl rfl
       |false=>
        have hfn:zS_ (j5_ l) c=false:=by rw[e1,hk0,hk3];rfl
        have f1: (c.kind !=ok)=true:=by simpa using hk3
        first|with_reducible refine ks [] (And.intro @zL_ (And.intro @f0 (@f1))) ?_|refine kp (And.intro @zL_ (And.intro @f0 (@f1))) ?_
        refine Cw.permL (M:=M++ ((bd, .cells #[vL,vI,vt,v5,vl,vm,vn] 46 (0,0)):: (b3, .cells (zm_ c).toArray 59 (0,0)):: (b6, .cells #[vi ok,vs ot] 35 (0,0)):: (Q++ (D5++ (K++ [(ba, .cells (zm_ c).toArray 59 (0,0))]))))) (by classical exact List.perm_iff_count.2 fun a=>by simp only[List.count_append,List.count_cons,List.count_nil]<;>omega) ?_
        have rbd:=fun Y=>zg_ (w0:=w) (zu_ (D:=M) (Y:=Y) (o:= .cells #[vL,vI,vt,v5,vl,vm,vn] 46 (0,0)) hn3)
        have rb3:=fun Y=>zg_ (w0:=w) (zD_ (D:=M) (Y:=Y) (o:= .cells #[vL,vI,vt,v5,vl,vm,vn] 46 (0,0)) (x:= .cells (zm_ c).toArray 59 (0,0)) h3M (show bd≠b3 by omega))
        refine Cw.regionG [bd,b3] [10] 11 (by kernel_rfl) rfl ?_
        simp only[List.replicate_succ,List.replicate_zero]
        refine OwG.run [0,1,2,3,4,5] [true,true,true,true,true,true,false,false,false,false,false] 5 rfl (by kernel_rfl) (by kernel_rfl) fun k hk=> ?_
        simp only[zh_, ↓zc_, ↓za_, ↓zk_, ↓zj_,zb_]
        simp(disch:=(first|assumption|omega| (simp only[qF_,qC_,UInt64.reduceToNat];try omega))) only[↓Sx.S0,Sx.S1,Tryz.fx,zL_,Nat.reduceAdd,Nat.reducePow,Int.reducePow,Nat.reduceBEq, ↓reduceIte,UInt8.reduceToNat,UInt16.reduceToNat,UInt32.reduceToNat,UInt64.reduceToNat,Int.reduceToNat,Md.next_sofnil,rbd,rb3]
        (with_reducible refine hk _ _ _ ?_);clear hk k
        refine OwG.one 6 _ (by kernel_rfl) rfl ?_
        refine Ow.buildSlice (e:=59) (zm_ c).toArray rfl rfl (jw_ c) fun bb hbb hwb=> ?_
        with_reducible refine Ow.nil ?_
        refine⟨(zq_ (fun r hr=>by simp only[List.mem_cons,List.not_mem_nil,or_false] at hr;rcases hr with rfl|rfl<;>simp[keys])), ?_⟩
        simp only[List.set_cons_zero,List.set_cons_succ,zl_,zy_,zz_]
        refine OwG.one 7 _ (by kernel_rfl) rfl ?_
        refine Ow.appendXG (e:=59) (k:=1) (new:=zm_ c) (X:=M) vl (List.append_assoc _ _ _) rfl rfl rfl Tryz.underlying44 q1_ (by kernel_rfl) jF_ (by rw[zG_,List.size_toArray,zo_]) Tryz.underlying44 (by intro k h;cases h) hA.l (fun w' hw'=>AppX.one1 (hw'.has bb (.cells (zm_ c).toArray 59 (0,0)) (by simp)) (zo_ _) (qe_ _)) (by show 2* (W.lk.length+1)+768≤2^38;omega) (fun B7 v7 D7 hA7 hB7 hG7 hk17 hk27 hlk7=> ?_)
        have hbD7:bd∉keys D7:=qq_ hA7 (by simp[keys]) hn3 hk27
        have h3D7:b3∉keys D7:=qq_ hA7 (by simp[keys]) h3M hk27
        have lD7:=fun Y=>zu_ (D:=D7) (Y:=Y) (o:= .cells #[vL,vI,vt,v5,vl,vm,vn] 46 (0,0)) hbD7
        have st7:=s7_4 vL vI vt v5 vl vm vn v7 46 hG7.cell
        with_reducible refine Ow.nil ?_
        refine⟨(fun r hr=>by simp only[List.mem_cons,List.not_mem_nil,or_false] at hr;rcases hr with rfl|rfl;exact(zg_ (zu_ hbD7)).trans (zg_ (zp_ (zu_ hn3))).symm;exact(zg_ (zD_ h3D7 (by omega))).trans (zg_ (zp_ (zD_ h3M (by omega)))).symm), ?_⟩
        simp only[List.set_cons_zero,List.set_cons_succ,zl_,zy_,zz_]
        refine OwG.rest [8,9,10] rfl (by kernel_rfl) (by kernel_rfl) ?_
        simp only[zh_, ↓zc_, ↓za_, ↓zk_, ↓zj_,zb_]
        refine kq @zL_ ?_
        refine Ow.store rfl rfl rfl (ke (And.intro @zL_ (And.intro @lD7 (@st7)))) ?_
        have es7:=fun Y x=>q6_ (D:=D7) (Y:=Y) (o:= .cells #[vL,vI,vt,v5,vl,vm,vn] 46 (0,0)) (x:=x) hbD7
        simp only[List.cons_append] at*
        rw[es7]
        refine ko @zL_ ?_
        refine Cw.permL (M:=(bd, .cells #[vL,vI,vt,v5,v7,vm,vn] 46 (0,0)):: (b3, .cells (zm_ c).toArray 59 (0,0)):: (b6, .cells #[vi ok,vs ot] 35 (0,0)):: (Q++ (D5++ (D7++ (K++ [(ba, .cells (zm_ c).toArray 59 (0,0)),(bb, .cells (zm_ c).toArray 59 (0,0))]))))) (by classical exact List.perm_iff_count.2 fun a=>by simp only[List.count_append,List.count_cons,List.count_nil]<;>omega) ?_
        refine Cw.regionG [bd,b3] [10] 11 (by kernel_rfl) rfl ?_
        simp only[List.replicate_succ,List.replicate_zero]
        refine OwG.run [0,1,2,3,4,5,6] [true,true,true,true,true,true,true,false,false,false,false] 4 rfl (by kernel_rfl) (by kernel_rfl) fun k hk=> ?_
        simp only[zh_, ↓zc_, ↓za_, ↓zk_, ↓zj_,zb_]
        simp(disch:=(first|assumption|omega| (simp only[qF_,qC_,UInt64.reduceToNat];try omega))) only[↓Sx.S0,Sx.S1,Tryz.fx,zL_,Nat.reduceAdd,Nat.reducePow,Int.reducePow,Nat.reduceBEq, ↓reduceIte,UInt8.reduceToNat,UInt16.reduceToNat,UInt32.reduceToNat,UInt64.reduceToNat,Int.reduceToNat,Md.next_sofnil,Md.next_sofnil]
        (with_reducible refine hk _ _ _ ?_);clear hk k
        refine OwG.one 7 _ (by kernel_rfl) rfl ?_
        obtain⟨Xn,hXn,hGn⟩:=hA.n
        refine Ow.callC rfl rfl Tryz.call73 (fun w' hw'=>kO_ vn (jL_ W.lk) c.id w' (hGn.slM (z:=id0) (fun b o hm=>hw'.has b o (by have:=hXn _ hm;simp[this])) rfl rfl z0_) (by have:=xf_ (W.lk.map ChildL.id);rw[List.length_map] at this;show(xr_ (W.lk.map ChildL.id)).length<_;omega)) (fun B8 v8 D8 hA8 hB8 hN8 hS8=> ?_)
        have hN8':=hN8.mono hB8
        have hS9:=hS8.gri (K:=K) ⟨Xn,hXn,hGn⟩
        have st8:=s7_6 vL vI vt v5 v7 vm vn v8 46 (kh_ hS9)
        with_reducible refine Ow.nil ?_
        refine⟨(zq_ (fun r hr=>by simp only[List.mem_cons,List.not_mem_nil,or_false] at hr;rcases hr with rfl|rfl<;>simp[keys])), ?_⟩
        simp only[List.set_cons_zero,List.set_cons_succ,zl_,zy_,zz_]
        refine OwG.rest [8,9,10] rfl (by kernel_rfl) (by kernel_rfl) ?_
        simp only[zh_, ↓zc_, ↓za_, ↓zk_, ↓zj_,zb_]
        refine kq @zL_ ?_
        refine Ow.store rfl rfl rfl (ke (And.intro @zL_ @st8)) ?_
        refine ko @zL_ ?_
        first|with_reducible refine ks [] @zL_ ?_|refine kp @zL_ ?_
        refine⟨_,(ke @zL_), ?_⟩
        rw[←hst,stepQ,if_neg hc]
        have hvk:jk_ (j5_ l) {W with q:=q} c={W with q:=q,vis:=W.vis++ [c],lk:=W.lk++ [c]}:=by unfold jk_;rw[if_neg (by rw[hfn];simp)]
        rw[hvk]
        refine⟨hE.trans2 ((hA.ext2 (a:= .cells #[vL,vI,vt,v5,v7,vm,v8] 46 (0,0)) (K':=K++ ([(ba, .cells (zm_ c).toArray 59 (0,0)),(bb, .cells (zm_ c).toArray 59 (0,0)),(b3, .cells (zm_ c).toArray 59 (0,0)),(b6, .cells #[vi ok,vs ot] 35 (0,0))]++D8)) (fun x h=>h) (fun x h=> .inl h) hk15 (fun x h=>(hk25 x h).imp id fun h=>by omega) hk17 (fun x h=>(hk27 x h).imp id fun h=>by omega) (fun x h=>by rw[zd_];exact List.mem_append_left _ h) (fun x h=>by rw[zd_,zd_,List.mem_append,List.mem_append] at h;exact h.imp id fun h=>h.elim (fun h=>by simp[keys] at h;omega) (hN8'.le x))).perm (by classical exact List.perm_iff_count.2 fun a=>by simp only[List.count_append,List.count_cons,List.count_nil]<;>omega)),rfl,vt,v5,v7,vm,v8,Q,D5,D7,K++ ([(ba, .cells (zm_ c).toArray 59 (0,0)),(bb, .cells (zm_ c).toArray 59 (0,0)),(b3, .cells (zm_ c).toArray 59 (0,0)),(b6, .cells #[vi ok,vs ot] 35 (0,0))]++D8),⟨(by classical exact List.perm_iff_count.2 fun a=>by simp only[List.count_append,List.count_cons,List.count_nil]<;>omega),hq2,hA5.v,by simpa [List.map_append] using hG7,hA.m.mono fun p hp=>List.mem_append_left _ hp, ?_⟩⟩
        show GrI _ _ 32 v8 (jL_ (W.lk++ [c])).length ((jL_ (W.lk++ [c])).map z4_).flatten
        rw[wa_]
        exact hS9.mono fun p hp=>by rw[List.mem_append] at hp;rcases hp with h|h<;>simp[h]
    intro g j hg
    refine kv ?_
    have hfn:zS_ (j5_ l) c=true:=hg
    have his2:is=true:=by rw[e1,Bool.and_eq_true] at hfn;exact hfn.1
    have hrd:rdK ⟨ok,ot⟩=true:=hr _ (hin his2).1
    have h3Q:b3∉keys Q:=fun h=>by
     have:=hE.new b3 ((hkX b3).2 (.inr (.inl h)))
     have h2:=zf_ hb3 (b:=b3) (by simp only[keys,List.map_cons,List.map_append,List.mem_cons,List.mem_append];exact .inr (.inl h))
     omega
    have h6Q:b6∉keys Q:=fun h=>hbL (by simp only[keys,List.map_cons,List.map_append,List.mem_cons,List.mem_append];exact .inr (.inr (.inl h)))
    first|with_reducible refine ks [] @zL_ ?_|refine kp @zL_ ?_
    refine Cw.regionS [bd,b3] [0,1,2,4,3,5,6,7] [] (by kernel_rfl) (by kernel_rfl) (by kernel_rfl) ?_
    simp only[zh_, ↓zc_, ↓za_, ↓zk_, ↓zj_,zb_]
    refine kq @zL_ ?_
    refine Ow.soft rfl rfl rfl ?_
    obtain⟨Xm,hXm,hGm⟩:=hA.m
    have hml:=xf_ W.ms
    refine Ow.callFV rfl Tryz.call31 (fun w' hw'=>ajT_ vm (xr_ W.ms) c.id w' (SlV.rowX (hGm.slM (z:=id0) (fun b o hm=>hw'.has b o (by have:=hXm _ hm;simp[this])) rfl rfl z0_)) (by omega)) ?_
    with_reducible refine Ow.nil ?_
    refine⟨by intro b hb;simp only[List.mem_cons,List.not_mem_nil,or_false] at hb;(try subst hb);rfl, ?_⟩
    by_cases hm:c.id∈W.ms
    ·have em:decide (c.id∈xr_ W.ms)=true:=decide_eq_true (mem_srtI.2 hm)
     refine Ow.goQ ?_
     simp(disch:=(first|assumption|omega| (simp only[qF_,qC_,UInt64.reduceToNat];try omega))) only[↓Sx.S0,Sx.S1,Tryz.fx,zL_,Nat.reduceAdd,Nat.reducePow,Int.reducePow,Nat.reduceBEq, ↓reduceIte,UInt8.reduceToNat,UInt16.reduceToNat,UInt32.reduceToNat,UInt64.reduceToNat,Int.reduceToNat,em,Bool.not_true]
     try with_reducible refine Ow.nil ?_
     first|with_reducible refine ks [] @zL_ ?_|refine kp @zL_ ?_
     refine⟨_,(ke @zL_), ?_⟩
     rw[←hst,stepQ,if_neg hc]
     have hvk:jk_ (j5_ l) {W with q:=q} c={W with q:=q,vis:=W.vis++ [c]}:=by unfold jk_;rw[if_pos hfn,if_pos hm]
     rw[hvk]
     exact⟨hE.trans2 ((hA.ext2 (a:= .cells #[vL,vI,vt,v5,vl,vm,vn] 46 (0,0)) (K':=K++ [(ba, .cells (zm_ c).toArray 59 (0,0)),(b3, .cells (zm_ c).toArray 59 (0,0)),(b6, .cells #[vi ok,vs ot] 35 (0,0))]) (fun x h=>h) (fun x h=> .inl h) hk15 (fun x h=>(hk25 x h).imp id fun h=>by omega) (fun x h=>h) (fun x h=> .inl h) (fun x h=>by rw[zd_];exact List.mem_append_left _ h) (fun x h=>by rw[zd_,List.mem_append] at h;exact h.imp id fun h=>by simp[keys] at h;omega)).perm (by classical exact List.perm_iff_count.2 fun a=>by simp only[List.count_append,List.count_cons,List.count_nil]<;>omega)),rfl,vt,v5,vl,vm,vn,Q,D5,M,K++ [(ba, .cells (zm_ c).toArray 59 (0,0)),(b3, .cells (zm_ c).toArray 59 (0,0)),(b6, .cells #[vi ok,vs ot] 35 (0,0))],⟨(by classical exact List.perm_iff_count.2 fun a=>by simp only[List.count_append,List.count_cons,List.count_nil]<;>omega),hq2,hA5.v,hA.l,hA.m.mono fun p hp=>List.mem_append_left _ hp,hA.n.mono fun p hp=>List.mem_append_left _ hp⟩⟩
    ·have em:decide (c.id∈xr_ W.ms)=false:=decide_eq_false (fun h=>hm (mem_srtI.1 h))
     refine Ow.goQ ?_
     simp(disch:=(first|assumption|omega| (simp only[qF_,qC_,UInt64.reduceToNat];try omega))) only[↓Sx.S0,Sx.S1,Tryz.fx,zL_,Nat.reduceAdd,Nat.reducePow,Int.reducePow,Nat.reduceBEq, ↓reduceIte,UInt8.reduceToNat,UInt16.reduceToNat,UInt32.reduceToNat,UInt64.reduceToNat,Int.reduceToNat,em,Bool.not_false]
     try with_reducible refine Ow.nil ?_
     first|with_reducible refine ks [] @zL_ ?_|refine kp @zL_ ?_
     refine Cw.regionG [bd,b3] [10] 11 (by kernel_rfl) rfl ?_
     simp only[List.replicate_succ,List.replicate_zero]
     refine OwG.run [0,1,2,3,4,5,6] [true,true,true,true,true,true,true,false,false,false,false] 4 rfl (by kernel_rfl) (by kernel_rfl) fun k hk=> ?_
     simp only[zh_, ↓zc_, ↓za_, ↓zk_, ↓zj_,zb_]
     simp(disch:=(first|assumption|omega| (simp only[qF_,qC_,UInt64.reduceToNat];try omega))) only[↓Sx.S0,Sx.S1,Tryz.fx,zL_,Nat.reduceAdd,Nat.reducePow,Int.reducePow,Nat.reduceBEq, ↓reduceIte,UInt8.reduceToNat,UInt16.reduceToNat,UInt32.reduceToNat,UInt64.reduceToNat,Int.reduceToNat,Md.next_sofnil,Md.next_sofnil]
     (with_reducible refine hk _ _ _ ?_);clear hk k
     refine OwG.one 7 _ (by kernel_rfl) rfl ?_
     refine Ow.callC rfl rfl Tryz.call73 (fun w' hw'=>kO_ vm (xr_ W.ms) c.id w' (hGm.slM (z:=id0) (fun b o hm=>hw'.has b o (by have:=hXm _ hm;simp[this])) rfl rfl z0_) (by omega)) (fun B8 v8 D8 hA8 hB8 hN8 hS8=> ?_)
     have hN8':=hN8.mono hB8
     have hS9:=hS8.gri (K:=K) ⟨Xm,hXm,hGm⟩
     have st8:=s7_5 vL vI vt v5 vl vm vn v8 46 (kh_ hS9)
     with_reducible refine Ow.nil ?_
     refine⟨(zq_ (fun r hr=>by simp only[List.mem_cons,List.not_mem_nil,or_false] at hr;rcases hr with rfl|rfl<;>simp[keys])), ?_⟩
     simp only[List.set_cons_zero,List.set_cons_succ,zl_,zy_,zz_]
     refine OwG.rest [8,9,10] rfl (by kernel_rfl) (by kernel_rfl) ?_
     simp only[zh_, ↓zc_, ↓za_, ↓zk_, ↓zj_,zb_]
     refine kq @zL_ ?_
     refine Ow.store rfl rfl rfl (ke (And.intro @zL_ @st8)) ?_
     refine ko @zL_ ?_
     refine Cw.permL (M:=Q++ ((bd, .cells #[vL,vI,vt,v5,vl,v8,vn] 46 (0,0)):: (b6, .cells #[vi ok,vs ot] 35 (0,0)):: (b3, .cells (zm_ c).toArray 59 (0,0)):: (D5++ (M++ (K++ ((ba, .cells (zm_ c).toArray 59 (0,0))::D8)))))) (by classical exact List.perm_iff_count.2 fun a=>by simp only[List.count_append,List.count_cons,List.count_nil]<;>omega) ?_
     have rbd:=fun Y=>zg_ (w0:=w) (zu_ (D:=Q) (Y:=Y) (o:= .cells #[vL,vI,vt,v5,vl,v8,vn] 46 (0,0)) hn1)
     have rb6:=fun Y=>zg_ (w0:=w) (zD_ (D:=Q) (Y:=Y) (o:= .cells #[vL,vI,vt,v5,vl,v8,vn] 46 (0,0)) (x:= .cells #[vi ok,vs ot] 35 (0,0)) h6Q hdb6)
     refine Cw.regionG [bd,b6] [10] 11 (by kernel_rfl) rfl ?_
     simp only[List.replicate_succ,List.replicate_zero]
     refine OwG.run [0,1,2,3,4,5] [true,true,true,true,true,true,false,false,false,false,false] 5 rfl (by kernel_rfl) (by kernel_rfl) fun k hk=> ?_
     simp only[zh_, ↓zc_, ↓za_, ↓zk_, ↓zj_,zb_]
     simp(disch:=(first|assumption|omega| (simp only[qF_,qC_,UInt64.reduceToNat];try omega))) only[↓Sx.S0,Sx.S1,Tryz.fx,zL_,Nat.reduceAdd,Nat.reducePow,Int.reducePow,Nat.reduceBEq, ↓reduceIte,UInt8.reduceToNat,UInt16.reduceToNat,UInt32.reduceToNat,UInt64.reduceToNat,Int.reduceToNat,Md.next_sofnil,rbd,rb6]
     (with_reducible refine hk _ _ _ ?_);clear hk k
     refine OwG.one 6 _ (by kernel_rfl) rfl ?_
     refine Ow.callC rfl rfl Tryz.call74 (fun w' hw'=>Xq_ ok ot w' hrd) (fun B9 v9 D9 hA9 hB9 hN9 hSC=> ?_)
     have hN9':=hN9.mono hB9
     rw[←ek] at hSC
     have hkl:=VD_ (j5_ l) c.id
     with_reducible refine Ow.nil ?_
     refine⟨(zq_ (fun r hr=>by simp only[List.mem_cons,List.not_mem_nil,or_false] at hr;rcases hr with rfl|rfl<;>simp[keys])), ?_⟩
     simp only[List.set_cons_zero,List.set_cons_succ,zl_,zy_,zz_]
     refine OwG.one 7 _ (by kernel_rfl) rfl ?_
     refine Ow.appendQ (e:=59) (k:=(jX_ (j5_ l) c.id).length) (new:=((jX_ (j5_ l) c.id).map zm_).flatten) (X:=Q) vt (List.append_assoc _ _ _) rfl rfl rfl Tryz.underlying44 q1_ (by kernel_rfl) jF_ (by rw[zG_,List.size_toArray,zo_]) Tryz.underlying44 (by intro k h;cases h) hq2 (fun w' hw'=>(hSC.slM (z:=chd0) (fun b o hm=>hw'.has b o (List.mem_append_right _ hm)) rfl rfl zo_).appX zo_ qe_) (by omega) (fun B7 v7 D7 hA7 hB7 hG7 hk17 hk27 hlk7=> ?_)
     have hbD7:bd∉keys D7:=qq_ hA7 (by simp[keys]) hn1 hk27
     have h6D7:b6∉keys D7:=qq_ hA7 (by simp[keys]) h6Q hk27
     have lD7:=fun Y=>zu_ (D:=D7) (Y:=Y) (o:= .cells #[vL,vI,vt,v5,vl,v8,vn] 46 (0,0)) hbD7
     have st7:=s7_2 vL vI vt v5 vl v8 vn v7 46 hG7.cell
     with_reducible refine Ow.nil ?_
     refine⟨(fun r hr=>by simp only[List.mem_cons,List.not_mem_nil,or_false] at hr;rcases hr with rfl|rfl;exact(zg_ (zu_ hbD7)).trans (zg_ (zp_ (zu_ hn1))).symm;exact(zg_ (zD_ h6D7 hdb6)).trans (zg_ (zp_ (zD_ h6Q hdb6))).symm), ?_⟩
     simp only[List.set_cons_zero,List.set_cons_succ,zl_,zy_,zz_]
     refine OwG.rest [8,9,10] rfl (by kernel_rfl) (by kernel_rfl) ?_
     simp only[zh_, ↓zc_, ↓za_, ↓zk_, ↓zj_,zb_]
     refine kq @zL_ ?_
     refine Ow.store rfl rfl rfl (ke (And.intro @zL_ (And.intro @lD7 (@st7)))) ?_
     have es7:=fun Y x=>q6_ (D:=D7) (Y:=Y) (o:= .cells #[vL,vI,vt,v5,vl,v8,vn] 46 (0,0)) (x:=x) hbD7
     simp only[List.cons_append] at*
     rw[es7]
     refine ko @zL_ ?_
     first|with_reducible refine ks [] @zL_ ?_|refine kp @zL_ ?_
     refine⟨_,(ke @zL_), ?_⟩
     rw[←hst,stepQ,if_neg hc]
     have hvk:jk_ (j5_ l) {W with q:=q} c={W with q:=q++jX_ (j5_ l) c.id,vis:=W.vis++ [c],ms:=W.ms++ [c.id]}:=by unfold jk_;rw[if_pos hfn,if_neg hm]
     rw[hvk]
     refine⟨hE.trans2 ((hA.ext2 (a:= .cells #[vL,vI,v7,v5,vl,v8,vn] 46 (0,0)) (K':=K++ ([(ba, .cells (zm_ c).toArray 59 (0,0)),(b3, .cells (zm_ c).toArray 59 (0,0)),(b6, .cells #[vi ok,vs ot] 35 (0,0))]++ (D8++D9))) hk17 (fun x h=>(hk27 x h).imp id fun h=>by omega) hk15 (fun x h=>(hk25 x h).imp id fun h=>by omega) (fun x h=>h) (fun x h=> .inl h) (fun x h=>by rw[zd_];exact List.mem_append_left _ h) (fun x h=>by rw[zd_,zd_,zd_,List.mem_append,List.mem_append,List.mem_append] at h;exact h.imp id fun h=>h.elim (fun h=>by simp[keys] at h;omega) fun h=>h.elim (hN8'.le x) (hN9'.le x))).perm (by classical exact List.perm_iff_count.2 fun a=>by simp only[List.count_append,List.count_cons,List.count_nil]<;>omega)),rfl,v7,v5,vl,v8,vn,D7,D5,M,K++ ([(ba, .cells (zm_ c).toArray 59 (0,0)),(b3, .cells (zm_ c).toArray 59 (0,0)),(b6, .cells #[vi ok,vs ot] 35 (0,0))]++ (D8++D9)),⟨(by classical exact List.perm_iff_count.2 fun a=>by simp only[List.count_append,List.count_cons,List.count_nil]<;>omega),by simpa [List.map_append] using hG7,hA5.v,hA.l, ?_,hA.n.mono fun p hp=>List.mem_append_left _ hp⟩⟩
     show GrI _ _ 32 v8 (xr_ (W.ms++ [c.id])).length ((xr_ (W.ms++ [c.id])).map z4_).flatten
     rw[WP_]
     exact hS9.mono fun p hp=>by rw[List.mem_append] at hp;rcases hp with h|h<;>simp[h]
end Go.Proofs
end
section
open Go Go.Proofs Go.Sx Go.StP Go.RooP
namespace Go.Proofs
set_option maxRecDepth 10000
set_option maxHeartbeats 400000
set_option linter.unusedSimpArgs false
def acn_ (s:jg_) (W:WkS) (c:ChildL):Bool:=decide (c∈W.lk)&&zS_ s c
def Ja_ (s:jg_) (W:WkS):WkS:=⟨W.q++W.lk.filter (zS_ s),W.vis.filter (fun c=> !acn_ s W c),W.ms,W.lk.filter (fun c=> !zS_ s c)⟩
def MoreS (s s':jg_):Prop:= ∀i,(s i).2=true→s' i=s i
theorem MoreS.fine {s s':jg_} (h:MoreS s s') {c:ChildL} (hc:zS_ s c=true):zS_ s' c=true:=by
 have h2: (s c.id).2=true:=by unfold zS_ at hc;exact(Bool.and_eq_true _ _▸hc).1
 unfold zS_ at hc ⊢
 rw[h c.id h2];exact hc
theorem adp_ {s:jg_} {c:ChildL} (hc:zS_ s c=true): (s c.id).2=true:=by unfold zS_ at hc;exact(Bool.and_eq_true _ _▸hc).1
theorem MoreS.kids {s s':jg_} (h:MoreS s s') {i:IdL} (hi: (s i).2=true):jX_ s' i=jX_ s i:=by unfold jX_;rw[h i hi]
theorem MoreS.reach {s s':jg_} (h:MoreS s s') {r:List IdL} {c:ChildL} (hc:ReachK s r c):ReachK s' r c:=by
 induction hc with
 |root hi=>exact .root hi
 |kid _ hf hd ih=>exact .kid ih (h.fine hf) (by rw[h.kids (adp_ hf)];exact hd)
theorem WkI.again {s s':jg_} (h:MoreS s s') {r:List IdL} {W:WkS} (hW:WkI s r W):WkI s' r (Ja_ s' W) where
 q c hc:=by
  rcases List.mem_append.1 hc with hc|hc
  ·exact h.reach (hW.q c hc)
  ·exact h.reach (hW.vis c (hW.lk c (List.mem_filter.1 hc).1).1)
 vis c hc:=h.reach (hW.vis c (List.mem_filter.1 hc).1)
 root i hi:=by
  rcases hW.root i hi with h1|h1
  ·cases hb:acn_ s' W ⟨i,0⟩ with
   |true=>
    have hb':=(Bool.and_eq_true _ _▸hb)
    exact .inr (List.mem_append_right _ (List.mem_filter.2 ⟨of_decide_eq_true hb'.1,hb'.2⟩))
   |false=>exact .inl (List.mem_filter.2 ⟨h1,by rw[hb];rfl⟩)
  ·exact .inr (List.mem_append_left _ h1)
 fine c hc hf:=by
  obtain⟨h1,h2⟩:=List.mem_filter.1 hc
  cases hfs:zS_ s c with
  |true=>exact hW.fine c h1 hfs
  |false=>
   exfalso
   have hl:=hW.lack c h1 hfs
   unfold acn_ at h2
   rw[decide_eq_true hl,hf] at h2
   cases h2
 lack c hc hf:=by
  obtain⟨h1,-⟩:=List.mem_filter.1 hc
  have hfs:zS_ s c=false:=by
   cases hfs:zS_ s c with
   |true=>rw[h.fine hfs] at hf;cases hf
   |false=>rfl
  exact List.mem_filter.2 ⟨hW.lack c h1 hfs,by rw[hf];rfl⟩
 ms i hi:=by
  obtain⟨c,h1,h2,h3⟩:=hW.ms i hi
  refine⟨c,List.mem_filter.2 ⟨h1, ?_⟩,h.fine h2,h3⟩
  have hn:c∉W.lk:=fun hl=>by rw[(hW.lk c hl).2] at h2;cases h2
  unfold acn_
  rw[decide_eq_false hn];rfl
 lk c hc:=by
  obtain⟨h1,h2⟩:=List.mem_filter.1 hc
  have hf:zS_ s' c=false:=by simpa using h2
  exact⟨List.mem_filter.2 ⟨(hW.lk c h1).1,by unfold acn_;rw[hf,Bool.and_false];rfl⟩,hf⟩
 kids i hi d hd:=by
  obtain⟨c,-,h2,rfl⟩:=hW.ms i hi
  rw[h.kids (adp_ h2)] at hd
  rcases hW.kids c.id hi d hd with h1|h1
  ·cases hb:acn_ s' W d with
   |true=>
    have hb':=(Bool.and_eq_true _ _▸hb)
    exact .inr (List.mem_append_right _ (List.mem_filter.2 ⟨of_decide_eq_true hb'.1,hb'.2⟩))
   |false=>exact .inl (List.mem_filter.2 ⟨h1,by rw[hb];rfl⟩)
  ·exact .inr (List.mem_append_left _ h1)
 nv:=hW.nv.filter _
 nm:=hW.nm
end Go.Proofs
end
section
open Go Go.Proofs Go.Sx Go.StP Go.RooP
namespace Go.Proofs
set_option maxRecDepth 10000
set_option maxHeartbeats 400000
set_option linter.unusedSimpArgs false
def q0_ (s:jg_) (W:WkS) (j:Nat):WkS:=⟨W.q++ (W.lk.take j).filter (zS_ s),W.vis.filter (fun c=> !(decide (c∈W.lk.take j)&&zS_ s c)),W.ms,(W.lk.take j).filter (fun c=> !zS_ s c)⟩
theorem adV_ (s:jg_) (W:WkS):q0_ s W 0=⟨W.q,W.vis,W.ms,[]⟩:=by
 unfold q0_
 have:W.vis.filter (fun c=> !(decide (c∈W.lk.take 0)&&zS_ s c))=W.vis:=List.filter_eq_self.2 fun c _=>by simp
 rw[this];simp
theorem KF_ (s:jg_) (W:WkS):q0_ s W W.lk.length=Ja_ s W:=by
 unfold q0_ Ja_ acn_
 rw[List.take_length]
theorem aaq_ {s:jg_} {W:WkS} {j:Nat} (hj:j<W.lk.length) (hf:zS_ s (W.lk.getD j chd0)=false):q0_ s W (j+1)={q0_ s W j with lk:=(q0_ s W j).lk++ [W.lk.getD j chd0]}:=by
 have hts:=StP.take_snoc (z:=chd0) hj
 unfold q0_
 rw[hts]
 generalize W.lk.getD j chd0=c at*
 simp only[WkS.mk.injEq]
 refine⟨by rw[List.filter_append];simp[hf], ?_,trivial,by rw[List.filter_append];simp[hf]⟩
 apply List.filter_congr
 intro x _
 by_cases hx:x=c
 ·subst hx;rw[hf,Bool.and_false,Bool.and_false]
 ·congr 2
  simp[hx]
theorem Kg_ {s:jg_} {W:WkS} {j:Nat} (hj:j<W.lk.length) (hf:zS_ s (W.lk.getD j chd0)=true):q0_ s W (j+1)={q0_ s W j with q:=(q0_ s W j).q++ [W.lk.getD j chd0],vis:=(q0_ s W j).vis.filter (fun x=>decide (x≠W.lk.getD j chd0))}:=by
 have hts:=StP.take_snoc (z:=chd0) hj
 unfold q0_
 rw[hts]
 generalize W.lk.getD j chd0=c at*
 simp only[WkS.mk.injEq]
 refine⟨by rw[List.filter_append,List.append_assoc];simp[hf], ?_,trivial,by rw[List.filter_append];simp[hf]⟩
 rw[List.filter_filter]
 apply List.filter_congr
 intro x _
 by_cases hx:x=c
 ·subst hx;simp[hf]
 ·simp[hx]
end Go.Proofs
end
section
open Go Go.Proofs Go.Sx Go.StP Go.RooP
namespace Go.Proofs
set_option maxRecDepth 10000
set_option maxHeartbeats 400000
set_option linter.unusedSimpArgs false
theorem WD_ (c:ChildL): ∀ {l:List ChildL},l.Nodup→delG c (w0_ l)=w0_ (l.filter fun x=>decide (x≠c))
 | [],_=>rfl
 |x::r,h=>by
  rw[List.nodup_cons] at h
  show delG c ((x,true)::w0_ r)=_
  unfold delG
  by_cases hx:x=c
  ·subst hx
   rw[if_pos (by simp),List.filter_cons_of_neg (by simp),List.filter_eq_self.2 (fun y hy=>by simp only[ne_eq,decide_not,Bool.not_eq_eq_eq_not,Bool.not_true,decide_eq_false_iff_not];rintro rfl;exact h.1 hy)]
  ·rw[if_neg (by simpa using fun e=>hx e.symm),List.filter_cons_of_pos (by simpa using hx),WD_ c h.2]
   rfl
def agC (s:jg_) (W:WkS) (c:ChildL):WkS:=if zS_ s c=true then{W with q:=W.q++ [c],vis:=W.vis.filter fun x=>decide (x≠c)} else W
def wP_ (s:jg_) (W:WkS) (j:Nat) (L:List ChildL):WkS:={q0_ s W j with lk:=L}
theorem amd_ (s:jg_) (W:WkS):wP_ s W 0 W.lk=W:=by unfold wP_;rw[adV_]
theorem adJ_ {s:jg_} {W:WkS} {j:Nat} (hj:j<W.lk.length) (L:List ChildL):agC s (wP_ s W j L) (W.lk.getD j chd0)=wP_ s W (j+1) L:=by
 unfold agC
 split
 ·rename_i hf;unfold wP_;rw[Kg_ hj hf]
 ·rename_i hf;unfold wP_;rw[aaq_ hj (by simpa using hf)]
theorem ab5_ (s:jg_) (W:WkS) (j:Nat) (L:List ChildL): (wP_ s W j L).q.length≤W.q.length+W.lk.length:=by
 show(W.q++ (W.lk.take j).filter (zS_ s)).length≤_
 have:=List.length_filter_le (zS_ s) (W.lk.take j)
 rw[List.length_take] at this
 rw[List.length_append];omega
theorem V9_ {s:jg_} {W:WkS} {j:Nat} {L:List ChildL} (h:W.vis.Nodup): (wP_ s W j L).vis.Nodup:=h.filter _
theorem Wa_ {L:zi_} {b:Nat} {o:Obj} (hn: (keys L).Nodup) (h: (b,o)∈L) {w:World}:zv_ w L b=some o:=zg_ (vv_ hn h)
def WkC (bw:Nat) (sv:Value) (W:WkS) (vl:Value) (X:zi_):Prop:= ∃vq bv ov bm om Q M,WkA bw sv W vq bv ov bm om vl Q M X
theorem WkC.app {bw:Nat} {sv:Value} {W:WkS} {vl:Value} {X Y:zi_} (h:WkC bw sv W vl X):WkC bw sv W vl (X++Y):=by
 obtain⟨vq,bv,ov,bm,om,Q,M,h⟩:=h
 exact⟨vq,bv,ov,bm,om,Q,M++Y,⟨(h.perm.append_right Y).trans (by classical exact List.perm_iff_count.2 fun a=>by simp only[List.count_append,List.count_cons,List.count_nil]<;>omega),h.q,h.l.app,h.v,h.m⟩⟩
theorem WkC.perm {bw:Nat} {sv:Value} {W:WkS} {vl:Value} {X Y:zi_} (h:WkC bw sv W vl X) (hp:X.Perm Y):WkC bw sv W vl Y:=by
 obtain⟨vq,bv,ov,bm,om,Q,M,h⟩:=h
 exact⟨vq,bv,ov,bm,om,Q,M,⟨hp.symm.trans h.perm,h.q,h.l,h.v,h.m⟩⟩
theorem WkC.len {bw:Nat} {sv:Value} {W:WkS} {vl:Value} {X:zi_} (h:WkC bw sv W vl X) (x:Bool×Nat):QV_ (.sl x) vl=some (vi W.lk.length):=by
 obtain⟨vq,bv,ov,bm,om,Q,M,h⟩:=h
 exact h.l.len x
theorem WkC.row {bw:Nat} {sv:Value} {W:WkS} {vl:Value} {X:zi_} (h:WkC bw sv W vl X) (h0:0<W.lk.length):
  ∃b c rest R,vl=vsl b 0 W.lk.length c∧W.lk.length≤c∧rest.length=(c - W.lk.length)*33∧X.Perm ((b,Qe_ zm_ 59 rest W.lk)::R)∧
   (∀ (L:List ChildL) (X':zi_),L.length=W.lk.length→X'.Perm ((b,Qe_ zm_ 59 rest L)::R)→WkC bw sv {W with lk:=L} vl X')∧
   (∀ (L:List ChildL) (o:Obj) (X':zi_),Gr [(b,o)] 59 33 (vsl b 0 L.length c) L.length (L.map zm_).flatten→X'.Perm ((b,o)::R)→ ∃vq bv ov bm om Q M,X'.Perm ((bw, .cells #[sv,vq,vm bv,vm bm,vl] 133 (0,0)):: (bv,ov):: (bm,om):: (Q++M))∧Qu Q 59 33 vq W.q.length (W.q.map zm_).flatten∧Gr M 59 33 (vsl b 0 L.length c) L.length (L.map zm_).flatten∧QP_ chKV blV ov (w0_ W.vis)∧QP_ Z2_ blV om (w0_ W.ms)):=by
 obtain⟨vq,bv,ov,bm,om,Q,M,h⟩:=h
 have hl:=h.l
 generalize hn:W.lk.length=n at hl
 generalize hcs: (W.lk.map zm_).flatten=cs at hl
 rcases hl with hl| ⟨hl,-⟩
 ·cases hl with
  |nl=>omega
  | @at_ b n c cs rest hl h1 h2 h3 h4=>
   subst hcs
   obtain⟨R,hR⟩:=aad_ hl
   have hX: ∀ (o:Obj) (X':zi_),X'.Perm ((b,o):: (bw,Obj.cells #[sv,vq,vm bv,vm bm,vsl b 0 n c] 133 (0,0)):: (bv,ov):: (bm,om):: (Q++R))→X'.Perm ((bw,Obj.cells #[sv,vq,vm bv,vm bm,vsl b 0 n c] 133 (0,0)):: (bv,ov):: (bm,om):: (Q++ ((b,o)::R))):=fun o X' hp=>hp.trans (by classical exact List.perm_iff_count.2 fun a=>by simp only[List.count_append,List.count_cons,List.count_nil]<;>omega)
   refine⟨b,c,rest,(bw, .cells #[sv,vq,vm bv,vm bm,vsl b 0 n c] 133 (0,0)):: (bv,ov):: (bm,om):: (Q++R),rfl,h3,h2, ?_,fun L X' hL hp=> ?_,fun L o X' hG hp=> ?_⟩
   ·refine h.perm.trans ?_
    refine List.Perm.trans (l₂:=(bw,Obj.cells #[sv,vq,vm bv,vm bm,vsl b 0 n c] 133 (0,0)):: (bv,ov):: (bm,om):: (Q++ ((b,Qe_ zm_ 59 rest W.lk)::R))) ?_ (by classical exact List.perm_iff_count.2 fun a=>by simp only[List.count_append,List.count_cons,List.count_nil]<;>omega)
    exact .cons _ (.cons _ (.cons _ (hR.append_left Q)))
   ·refine⟨vq,bv,ov,bm,om,Q,(b,Qe_ zm_ 59 rest L)::R,⟨hX _ _ hp,h.q, ?_,h.v,h.m⟩⟩
    show Gr _ _ 33 _ L.length (L.map zm_).flatten
    rw[hL]
    exact .inl (.at_ (zH_ _ _ _) (by rw[k8_ zo_,hL]) h2 h3 h4)
   ·exact⟨vq,bv,ov,bm,om,Q,(b,o)::R,hX _ _ hp,h.q,hG.app (M:=R),h.v,h.m⟩
 ·omega
theorem aj3_ (a:Bool) (m b n c k:Nat) (h:k<n) (hc:n≤c):qR_ (.sl (a,m)) (vsl b 0 n c) (some (some (k:Int))) none=some (vsl b (k*m) (n - k) (c - k)):=by
 unfold qR_ vsl
 simp only[adS_ _ _ _ (⟨by omega,by omega⟩: (0:Int)≤ (k:Int)∧(k:Int)≤ (n:Int)),Int.toNat_natCast]
 rw[if_neg (by omega)]
 simp[qE_]
theorem ajI_ (a:Bool) (m b n c k:Nat) (h:k≤c):qR_ (.sl (a,m)) (vsl b 0 n c) none (some (some (k:Int)))=some (vsl b 0 k c):=by
 unfold qR_ vsl
 simp only[agp_ _ _ _ (⟨by omega,by omega⟩: (0:Int)≤ (k:Int)∧(k:Int)≤ (c:Int)),Int.toNat_natCast]
 simp
 try (intro _;rfl)
end Go.Proofs
end
section
open Go Go.Proofs Go.Sx Go.StP Go.RooP
namespace Go.Proofs
set_option maxRecDepth 10000
set_option maxHeartbeats 1000000
set_option linter.unusedSimpArgs false
theorem akv_ (b n:Nat) (E:TypeId) (fz:Nat×Nat):zA_ (some (false,n)) (some (.cells #[vp b 0] E fz)) 0=some (vp b 0):=(rfl)
set_option linter.defProp false
def jH_:=And.intro (And.intro (And.intro (And.intro (@akv_) (@qw_)) (And.intro (@qg_) (And.intro (@qf_) (@qd_)))) (And.intro (And.intro (@Sx.tup2_0) (@Sx.tup2_1)) (And.intro (@zJ_) (And.intro (@zI_) (@q4_))))) (And.intro (And.intro (And.intro (@xM_) (@xe_)) (And.intro (@j7_) (And.intro (@zG_) (@jG_)))) (And.intro (And.intro (@l5_0) (@l5_1)) (And.intro (@l5_2) (And.intro (@l5_3) (@l5_4)))))
theorem aj6_ (bw b2:Nat) (sv:Value) (W:WkS) (m:List (IdL×ObK)) (c:ChildL) (vq:Value) (bv:Nat) (ov:Obj) (bm:Nat) (om:Obj) (vl:Value) (Q M X:zi_) (w:World) (hX: ∀p,p∈X→w.heap[p.1]? =some p.2) (hn: (keys X).Nodup) (hA:WkA bw sv W vq bv ov bm om vl Q M X) (hS:SrcW w sv m X) (h2:w.heap[b2]? =some (.cells #[vp bw 0] 41 (0,0))) (h2X:b2∉keys X) (hnv:W.vis.Nodup)
  (hb1:W.q.length<10000000):
  Rets Tryz.prog 78 #[.agg (zm_ c).toArray,vp b2 0] w (XS w X (fun v D=>v= .bool (zS_ (zN_ m) c)∧ ∃vq' ov' Q' G,WkA bw sv (agC (zN_ m) W c) vq' bv ov' bm om vl Q' (M++G) D)):=by
 obtain⟨hn1,hn2,hn3,hn4⟩:=hA.ne hn
 have hkX:=hA.keysX
 have hlt: ∀x,x∈keys X→x<w.heap.size:=fun x hx=>by
  obtain⟨p,hp,rfl⟩:=List.mem_map.1 hx
  exact(Array.getElem?_eq_some_iff.1 (hX p hp)).1
 have hl2:=(Array.getElem?_eq_some_iff.1 h2).1
 have hwb:=hlt bw ((hkX bw).2 (.inl rfl))
 have hwv:=hlt bv ((hkX bv).2 (.inr (.inl rfl)))
 have hwm:=hlt bm ((hkX bm).2 (.inr (.inr (.inl rfl))))
 have hwQ: ∀x,x∈keys Q→x<w.heap.size:=fun x hx=>hlt x ((hkX x).2 (.inr (.inr (.inr (.inl hx)))))
 have hwM: ∀x,x∈keys M→x<w.heap.size:=fun x hx=>hlt x ((hkX x).2 (.inr (.inr (.inr (.inr hx)))))
 have hid:=c.id.h
 have rd2: ∀L:zi_,(∀x,x∈keys L→x∈keys X∨w.heap.size≤x)→zv_ w L b2=some (.cells #[vp bw 0] 41 (0,0)):=fun L hL=>by
  rw[qD_ (fun hm=>by rcases hL _ hm with h|h;exact h2X h;omega)];exact h2
 refine Rets.enterX Tryz.func78 rfl (rs:= [.tmp 3]) Tryz.results78 Tryz.ntmps78 hX hn ?_
 refine kf ?_
 refine Cw.permL hA.perm.symm ?_
 first|with_reducible refine ks [] @jH_ ?_|refine kp @jH_ ?_
 refine Ow.box rfl rfl fun b3 hb3 hw3=> ?_
 simp only[zW_,zT_,z1_,ze_]
 refine Ow.permL (M:=(b3, .cells (zm_ c).toArray 59 (0,0)):: (bw, .cells #[sv,vq,vm bv,vm bm,vl] 133 (0,0)):: (bv,ov):: (bm,om):: (Q++M)) (by classical exact List.perm_iff_count.2 fun a=>by simp only[List.count_append,List.count_cons,List.count_nil]<;>omega) ?_
 have hLk: ∀x,x∈keys ((b3,Obj.cells (zm_ c).toArray 59 (0,0)):: (bw, .cells #[sv,vq,vm bv,vm bm,vl] 133 (0,0)):: (bv,ov):: (bm,om):: (Q++M))→x∈keys X∨w.heap.size≤x:=fun x hx=>by
  simp only[keys,List.map_cons,List.map_append,List.mem_cons,List.mem_append] at hx
  rcases hx with h|h
  ·exact .inr (by omega)
  ·exact .inl ((hkX x).2 h)
 have r2:=rd2 ((bw, .cells #[sv,vq,vm bv,vm bm,vl] 133 (0,0)):: (bv,ov):: (bm,om):: (Q++M)) fun x hx=>hLk x (List.mem_cons_of_mem _ hx)
 refine ko @jH_ ?_
 first|with_reducible refine ks [] (And.intro @jH_ @r2) ?_|refine kp (And.intro @jH_ @r2) ?_
 refine Ow.callFV rfl Tryz.call79 (fun w' hw'=>aaa_ bw sv vq _ _ vl m c w' (hw'.has bw (.cells #[sv,vq,vm bv,vm bm,vl] 133 (0,0)) (by simp)) ((hS.ext hLk).old hw' (fun _ h=>by cases h))) ?_
 obtain⟨o,ho⟩: ∃o,o=(zN_ m c.id).1:=⟨_,rfl⟩
 rw[←ho]
 obtain⟨ok,ot⟩:=o
 have e0:obKV ⟨ok,ot⟩=obV ok ot:=rfl
 rw[e0]
 refine ko @jH_ ?_
 refine Ow.alloc rfl rfl Xl_ fun b4 hb4 hw4=> ?_
 simp only[ze_,List.nil_append,List.cons_append]
 have h34:b3<b4:=zf_ hb4 (by simp[keys])
 refine Ow.permL (M:=(bm,om):: (bw, .cells #[sv,vq,vm bv,vm bm,vl] 133 (0,0)):: (b3, .cells (zm_ c).toArray 59 (0,0)):: (b4, .cells #[vi 0,vs []] 35 (0,0)):: (bv,ov):: (Q++M)) (by classical exact List.perm_iff_count.2 fun a=>by simp only[List.count_append,List.count_cons,List.count_nil]<;>omega) ?_
 refine ko @jH_ ?_
 have hbQ:bw∉keys Q:=fun h=>(hn4 _ (.inl h)).1 rfl
 have h3Q:b3∉keys Q:=fun h=>by have:=hwQ _ h;omega
 have hNg: ∀x,x∈keys [(b3,Obj.cells (zm_ c).toArray 59 (0,0)),(b4, .cells #[vi ok,vs ot] 35 (0,0))]→w.heap.size≤x:=fun x hx=>by
  simp only[keys,List.map_cons,List.map_nil,List.mem_cons,List.not_mem_nil,or_false] at hx
  omega
 cases hf:zS_ (zN_ m) c
 ·have hv:agC (zN_ m) W c=W:=by unfold agC;rw[hf];rfl
  rw[hv]
  first|with_reducible refine ks [] @jH_ ?_|refine kp @jH_ ?_
  refine⟨_,(ke @jH_), ?_⟩
  have hNM: ∀x,x∈keys (M++ [(b3,Obj.cells (zm_ c).toArray 59 (0,0)),(b4, .cells #[vi ok,vs ot] 35 (0,0))])→x∈keys M∨w.heap.size≤x:=fun x hx=>by
   rw[zd_,List.mem_append] at hx
   exact hx.imp id (hNg x)
  exact⟨(hA.ext2 (fun x h=>h) (fun x h=> .inl h) (fun x h=>by rw[zd_];exact List.mem_append_left _ h) hNM).perm (D:=(bw, .cells #[sv,vq,vm bv,vm bm,vl] 133 (0,0)):: (bv,ov):: (bm,om):: (Q++ (M++ [(b3,Obj.cells (zm_ c).toArray 59 (0,0)),(b4, .cells #[vi ok,vs ot] 35 (0,0))]))) (by classical exact List.perm_iff_count.2 fun a=>by simp only[List.count_append,List.count_cons,List.count_nil]<;>omega),rfl,vq,ov,Q,[(b3,Obj.cells (zm_ c).toArray 59 (0,0)),(b4, .cells #[vi ok,vs ot] 35 (0,0))],⟨(by classical exact List.perm_iff_count.2 fun a=>by simp only[List.count_append,List.count_cons,List.count_nil]<;>omega),hA.q,hA.l.app,hA.v,hA.m⟩⟩
 ·have hv:agC (zN_ m) W c={W with q:=W.q++ [c],vis:=W.vis.filter fun x=>decide (x≠c)}:=by unfold agC;rw[hf];rfl
  rw[hv]
  have hin: ∀x,(x=bw∨x=bv∨x=bm∨x∈keys Q∨x∈keys M)∨w.heap.size≤x→x∈keys X∨w.heap.size≤x:=fun x h=>h.imp (hkX x).2 id
  first|with_reducible refine ks [] @jH_ ?_|refine kp @jH_ ?_
  have r4:=rd2 ((bm,om):: (bw, .cells #[sv,vq,vm bv,vm bm,vl] 133 (0,0)):: (b3, .cells (zm_ c).toArray 59 (0,0)):: (b4, .cells #[vi ok,vs ot] 35 (0,0)):: (bv,ov):: (Q++M)) (fun x hx=>hin x (by
   simp only[keys,List.map_cons,List.map_append,List.mem_cons,List.mem_append] at hx ⊢
   rcases hx with h|h|h|h|h|h
   ·exact .inl (.inr (.inr (.inl h)))
   ·exact .inl (.inl h)
   ·exact .inr (by omega)
   ·exact .inr (by omega)
   ·exact .inl (.inr (.inl h))
   ·exact .inl (.inr (.inr (.inr h)))))
  refine Cw.regionS [bw,b3,b2] [0,1,2,3,4,5] [] (by kernel_rfl) (by kernel_rfl) (by kernel_rfl) ?_
  simp only[zh_, ↓zc_, ↓za_, ↓zk_, ↓zj_,zb_]
  refine kq (And.intro @jH_ @r4) ?_
  have h2v:b2≠bv:=fun e=>h2X (e▸ (hkX bv).2 (.inr (.inl rfl)))
  refine Ow.soft rfl rfl rfl ?_
  refine Ow.mapDeleteG (encK:=chKV) (encV:=blV) (k:=c) (m:=w0_ W.vis) rfl rfl Tryz.underlying130 ahj_ rfl rfl (by rw[zY_ _ _ _ _ (by omega),zY_ _ _ _ _ (by omega),zY_ _ _ _ _ (by omega),zY_ _ _ _ _ (by omega)];exact zH_ _ _ _) hA.v (fun o1 ho1=> ?_)
  rw[WD_ c hnv] at ho1
  with_reducible refine Ow.nil ?_
  refine⟨fun b hb=>jY_ (by simp only[List.mem_cons,List.not_mem_nil,or_false] at hb;omega), ?_⟩
  rw[z6_ _ _ _ _ _ (by omega),z6_ _ _ _ _ _ (by omega),z6_ _ _ _ _ _ (by omega),z6_ _ _ _ _ _ (by omega),qt_]
  try with_reducible refine Ow.nil ?_
  first|with_reducible refine ks [] @jH_ ?_|refine kp @jH_ ?_
  refine Cw.permL (M:=Q++ ((bw, .cells #[sv,vq,vm bv,vm bm,vl] 133 (0,0)):: (b3, .cells (zm_ c).toArray 59 (0,0)):: (b4, .cells #[vi ok,vs ot] 35 (0,0)):: (bv,o1):: (bm,om)::M)) (by classical exact List.perm_iff_count.2 fun a=>by simp only[List.count_append,List.count_cons,List.count_nil]<;>omega) ?_
  have rbw:=fun Y=>zg_ (w0:=w) (zu_ (D:=Q) (Y:=Y) (o:= .cells #[sv,vq,vm bv,vm bm,vl] 133 (0,0)) hbQ)
  have rb3:=fun Y=>zg_ (w0:=w) (zD_ (D:=Q) (Y:=Y) (o:= .cells #[sv,vq,vm bv,vm bm,vl] 133 (0,0)) (x:= .cells (zm_ c).toArray 59 (0,0)) h3Q (show bw≠b3 by omega))
  have hq5: ∀x,x∈keys (Q++ ((bw,Obj.cells #[sv,vq,vm bv,vm bm,vl] 133 (0,0)):: (b3, .cells (zm_ c).toArray 59 (0,0)):: (b4, .cells #[vi ok,vs ot] 35 (0,0)):: (bv,o1):: (bm,om)::M))→x∈keys X∨w.heap.size≤x:=fun x hx=>hin x (by
   simp only[keys,List.map_cons,List.map_append,List.mem_cons,List.mem_append] at hx ⊢
   rcases hx with h|h|h|h|h|h|h
   ·exact .inl (.inr (.inr (.inr (.inl h))))
   ·exact .inl (.inl h)
   ·exact .inr (by omega)
   ·exact .inr (by omega)
   ·exact .inl (.inr (.inl h))
   ·exact .inl (.inr (.inr (.inl h)))
   ·exact .inl (.inr (.inr (.inr (.inr h)))))
  have r5:=rd2 _ hq5
  refine Cw.regionG [bw,b3,b2] [10] 11 (by kernel_rfl) rfl ?_
  simp only[List.replicate_succ,List.replicate_zero]
  refine OwG.run [0,1,2,3,4,5] [true,true,true,true,true,true,false,false,false,false,false] 5 rfl (by kernel_rfl) (by kernel_rfl) fun k hk=> ?_
  simp only[zh_, ↓zc_, ↓za_, ↓zk_, ↓zj_,zb_]
  simp(disch:=(first|assumption|omega| (simp only[qF_,qC_,UInt64.reduceToNat];try omega))) only[↓Sx.S0,Sx.S1,Tryz.fx,jH_,Nat.reduceAdd,Nat.reducePow,Int.reducePow,Nat.reduceBEq, ↓reduceIte,UInt8.reduceToNat,UInt16.reduceToNat,UInt32.reduceToNat,UInt64.reduceToNat,Int.reduceToNat,Md.next_sofnil,rbw,rb3,r5]
  (with_reducible refine hk _ _ _ ?_);clear hk k
  refine OwG.one 6 _ (by kernel_rfl) rfl ?_
  refine Ow.buildSlice (e:=59) (zm_ c).toArray rfl rfl (jw_ c) fun ba hba hwa=> ?_
  with_reducible refine Ow.nil ?_
  refine⟨(fun r hr=>by simp only[List.mem_cons,List.not_mem_nil,or_false] at hr;rcases hr with rfl|rfl|rfl;exact j8_ (by simp[keys]);exact j8_ (by simp[keys]);exact(rd2 _ (fun x hx=>by rw[zd_,List.mem_append] at hx;exact hx.elim (hq5 x) (fun h=> .inr (by simp[keys] at h;omega)))).trans r5.symm), ?_⟩
  simp only[List.set_cons_zero,List.set_cons_succ,zl_,zy_,zz_]
  refine OwG.one 7 _ (by kernel_rfl) rfl ?_
  refine Ow.appendQ (e:=59) (k:=1) (new:=zm_ c) (X:=Q) vq (List.append_assoc _ _ _) rfl rfl rfl Tryz.underlying44 q1_ (by kernel_rfl) jF_ (by rw[zG_,List.size_toArray,zo_]) Tryz.underlying44 (by intro k h;cases h) hA.q (fun w' hw'=>AppX.one1 (hw'.has ba (.cells (zm_ c).toArray 59 (0,0)) (by simp)) (zo_ _) (qe_ _)) (by omega) (fun B7 v7 D7 hA7 hB7 hG7 hk17 hk27 hlk7=> ?_)
  have hbD:bw∉keys D7:=qq_ hA7 (by simp[keys]) hbQ hk27
  have h3D:b3∉keys D7:=qq_ hA7 (by simp[keys]) h3Q hk27
  have c7:=hG7.cell
  have lD7:=fun Y=>zu_ (D:=D7) (Y:=Y) (o:= .cells #[sv,vq,vm bv,vm bm,vl] 133 (0,0)) hbD
  have st7:=s5_1 sv vq (vm bv) (vm bm) vl v7 133 c7
  have hk5: ∀x,x∈keys ((Q++ ((bw,Obj.cells #[sv,vq,vm bv,vm bm,vl] 133 (0,0)):: (b3, .cells (zm_ c).toArray 59 (0,0)):: (b4, .cells #[vi ok,vs ot] 35 (0,0)):: (bv,o1):: (bm,om)::M))++ [(ba, .cells (zm_ c).toArray 59 (0,0))])→x∈keys X∨w.heap.size≤x:=fun x hx=>by
   rw[zd_,List.mem_append] at hx
   exact hx.elim (hq5 x) (fun h=> .inr (by simp[keys] at h;omega))
  have hk7: ∀x,x∈keys (D7++ (((bw,Obj.cells #[sv,vq,vm bv,vm bm,vl] 133 (0,0)):: (b3, .cells (zm_ c).toArray 59 (0,0)):: (b4, .cells #[vi ok,vs ot] 35 (0,0)):: (bv,o1):: (bm,om)::M)++ [(ba, .cells (zm_ c).toArray 59 (0,0))]))→x∈keys X∨w.heap.size≤x:=fun x hx=>by
   rw[zd_,List.mem_append] at hx
   rcases hx with h|h
   ·rcases hk27 x h with h|h
    ·exact .inl ((hkX x).2 (.inr (.inr (.inr (.inl h)))))
    ·exact .inr (by omega)
   ·rw[zd_,List.mem_append] at h
    exact h.elim (fun h=>hq5 x (by rw[zd_];exact List.mem_append_right _ h)) (fun h=> .inr (by simp[keys] at h;omega))
  with_reducible refine Ow.nil ?_
  refine⟨(fun r hr=>by simp only[List.mem_cons,List.not_mem_nil,or_false] at hr;rcases hr with rfl|rfl|rfl;exact(zg_ (zu_ hbD)).trans (zg_ (zp_ (zu_ hbQ))).symm;exact(zg_ (zD_ h3D (by omega))).trans (zg_ (zp_ (zD_ h3Q (by omega)))).symm;exact(rd2 _ hk7).trans (rd2 _ hk5).symm), ?_⟩
  simp only[List.set_cons_zero,List.set_cons_succ,zl_,zy_,zz_]
  refine OwG.rest [8,9,10] rfl (by kernel_rfl) (by kernel_rfl) ?_
  simp only[zh_, ↓zc_, ↓za_, ↓zk_, ↓zj_,zb_]
  refine kq @jH_ ?_
  refine Ow.store rfl rfl rfl (ke (And.intro @jH_ (And.intro @lD7 (@st7)))) ?_
  have es:=fun Y x=>q6_ (D:=D7) (Y:=Y) (o:= .cells #[sv,vq,vm bv,vm bm,vl] 133 (0,0)) (x:=x) hbD
  simp only[List.cons_append] at*
  rw[es]
  refine ko @jH_ ?_
  first|with_reducible refine ks [] @jH_ ?_|refine kp @jH_ ?_
  refine⟨_,(ke @jH_), ?_⟩
  have hNM: ∀x,x∈keys (M++ [(b3,Obj.cells (zm_ c).toArray 59 (0,0)),(b4, .cells #[vi ok,vs ot] 35 (0,0)),(ba, .cells (zm_ c).toArray 59 (0,0))])→x∈keys M∨w.heap.size≤x:=fun x hx=>by
   rw[zd_,List.mem_append] at hx
   refine hx.imp id fun h=> ?_
   simp only[keys,List.map_cons,List.map_nil,List.mem_cons,List.not_mem_nil,or_false] at h
   omega
  refine⟨(hA.ext2 (fun x h=>hk17 x h) (fun x h=>(hk27 x h).imp id fun h=>by omega) (fun x h=>by rw[zd_];exact List.mem_append_left _ h) hNM).perm (D:=(bw, .cells #[sv,v7,vm bv,vm bm,vl] 133 (0,0)):: (bv,o1):: (bm,om):: (D7++ (M++ [(b3,Obj.cells (zm_ c).toArray 59 (0,0)),(b4, .cells #[vi ok,vs ot] 35 (0,0)),(ba, .cells (zm_ c).toArray 59 (0,0))]))) (by classical exact List.perm_iff_count.2 fun a=>by simp only[List.count_append,List.count_cons,List.count_nil]<;>omega),rfl,v7,o1,D7,[(b3,Obj.cells (zm_ c).toArray 59 (0,0)),(b4, .cells #[vi ok,vs ot] 35 (0,0)),(ba, .cells (zm_ c).toArray 59 (0,0))],⟨(by classical exact List.perm_iff_count.2 fun a=>by simp only[List.count_append,List.count_cons,List.count_nil]<;>omega), ?_,hA.l.app,ho1,hA.m⟩⟩
  simpa [List.map_append] using hG7
end Go.Proofs
end
section
open Go Go.Proofs Go.Sx Go.StP Go.RooP
namespace Go.Proofs
set_option maxRecDepth 10000
set_option maxHeartbeats 1000000
set_option linter.unusedSimpArgs false
structure ClW (w:World) (bw b2:Nat) (sv:Value) (m:List (IdL×ObK)) (X:zi_):Prop where
 s:SrcW w sv m X
 b:w.heap[b2]? =some (.cells #[vp bw 0] 41 (0,0))
 n:b2∉keys X
theorem ClW.ext {w:World} {bw b2:Nat} {sv:Value} {m:List (IdL×ObK)} {X L:zi_} (h:ClW w bw b2 sv m X) (hL: ∀c,c∈keys L→c∈keys X∨w.heap.size≤c):ClW w bw b2 sv m L:=
 ⟨h.s.ext hL,h.b,fun hm=>by
  have:=(Array.getElem?_eq_some_iff.1 h.b).1
  rcases hL _ hm with h1|h1
  ·exact h.n h1
  ·omega⟩
theorem ClW.old {w w':World} {bw b2:Nat} {sv:Value} {m:List (IdL×ObK)} {X L:zi_} (h:ClW w bw b2 sv m L) (hw:Hp w L w') (hX: ∀c,c∈keys X→c∈keys L):ClW w' bw b2 sv m X:=
 ⟨h.s.old hw hX,(hw.old _ (Array.getElem?_eq_some_iff.1 h.b).1 h.n).trans h.b,fun hm=>h.n (hX _ hm)⟩
theorem V3_ (bw b2:Nat) (sv:Value) (W:WkS) (m:List (IdL×ObK)) (c:ChildL) (vl:Value) (X:zi_) (w:World) (hX: ∀p,p∈X→w.heap[p.1]? =some p.2) (hn: (keys X).Nodup) (hC:WkC bw sv W vl X) (hW:ClW w bw b2 sv m X) (hnv:W.vis.Nodup) (hb1:W.q.length<10000000):
  Rets Tryz.prog 78 #[.agg (zm_ c).toArray,vp b2 0] w (XS w X (fun v D=>v= .bool (zS_ (zN_ m) c)∧WkC bw sv (agC (zN_ m) W c) vl D)):=by
 obtain⟨vq,bv,ov,bm,om,Q,M,hA⟩:=hC
 refine Calls.mono (aj6_ bw b2 sv W m c vq bv ov bm om vl Q M X w hX hn hA hW.s hW.b hW.n hnv hb1) ?_
 rintro e w' ⟨v,D,he,hp,hE,hv,vq',ov',Q',G,hA'⟩
 exact⟨v,D,he,hp,hE,hv,vq',bv,ov',bm,om,Q',M++G,hA'⟩
structure MkIxG where
 i:Nat
 X:zi_
def IxS (bw:Nat) (sv:Value) (s:jg_) (W:WkS) (vl:Value) (v:Value) (D:zi_):Prop:=
 (∃i,i<W.lk.length∧v=vi i∧zS_ s (W.lk.getD i chd0)=true∧(∀k,k<i→zS_ s (W.lk.getD k chd0)=false)∧WkC bw sv (wP_ s W (i+1) W.lk) vl D)∨
 (v=vi (-1)∧(∀k,k<W.lk.length→zS_ s (W.lk.getD k chd0)=false)∧WkC bw sv (wP_ s W W.lk.length W.lk) vl D)
theorem agt_ (b n c k:Nat) (hk:k<n) (a:Bool):zK_ (.sl (a,33)) (vsl b 0 n c) (some (k:Int))=some (vp b (k*33)):=by
 rw[qn_ _ _ _ _ _ _ ⟨by omega,by omega⟩];simp
set_option linter.defProp false
def kx_:=And.intro (And.intro (And.intro (@qw_) (@qg_)) (And.intro (@qf_) (@qd_))) (And.intro (And.intro (@Sx.tup2_0) (@Sx.tup2_1)) (And.intro (@zJ_) (@zI_)))
theorem abF_ (bw b2:Nat) (sv:Value) (W:WkS) (m:List (IdL×ObK)) (vl:Value) (X:zi_) (w:World) (hX: ∀p,p∈X→w.heap[p.1]? =some p.2) (hn: (keys X).Nodup) (hC:WkC bw sv W vl X) (hW:ClW w bw b2 sv m X) (hnv:W.vis.Nodup) (hb1:W.q.length+W.lk.length<10000000):
  Rets Tryz.prog 148 #[vl, .func (.func 78) #[] #[vp b2 0]] w (XS w X (IxS bw sv (zN_ m) W vl)):=by
 have lnv:=fun x=>hC.len x
 refine Rets.enterX Tryz.func148 rfl (rs:= [.tmp 4]) Tryz.results148 Tryz.ntmps148 hX hn ?_
 refine kf ?_
 first|with_reducible refine ks [] (And.intro @kx_ @lnv) ?_|refine kp (And.intro @kx_ @lnv) ?_
 refine Cw.loopG (G:=MkIxG) [9,10,5,11,12,13,14,15,16,17,4,18,8] (fun g=> [(8,vi g.i)]) (fun g=>g.X) (fun g=>g.i≤W.lk.length∧WkC bw sv (wP_ (zN_ m) W g.i W.lk) vl g.X∧Ext w X g.X∧(∀k,k<g.i→zS_ (zN_ m) (W.lk.getD k chd0)=false)) (fun g=>W.lk.length - g.i) ⟨0,X⟩ rfl rfl ?_ ?_
 ·exact⟨Nat.zero_le _,by rw[amd_];exact hC,Ext.refl _ _,fun k hk=>absurd hk (Nat.not_lt_zero _)⟩
 intro g j hg
 refine kv ?_
 clear hC hX hn
 obtain⟨i,X'⟩:=g
 simp only at hg ⊢
 obtain⟨hi,hC,hE,hno⟩:=hg
 by_cases hlt:i<W.lk.length
 ·refine Cw.world fun wz hwz=> ?_
  have hnX:=hwz.nodup
  clear hwz wz
  obtain⟨b,c,rest,R,hvl,-,-,hp,-,-⟩:=hC.row (by show 0<W.lk.length;omega)
  replace hvl:vl=vsl b 0 W.lk.length c:=hvl
  have rd:zv_ w X' b=some (Qe_ zm_ 59 rest W.lk):=Wa_ hnX (hp.mem_iff.2 List.mem_cons_self)
  have ix: ∀a,zK_ (.sl (a,33)) vl (some (i:Int))=some (vp b (i*33)):=fun a=>by rw[hvl];exact agt_ b _ c i hlt a
  have ld:=vr_ (z:=chd0) (E:=59) (rest:=rest) zo_ i hlt
  have hag:=adJ_ (s:=zN_ m) hlt W.lk
  have hq:=ab5_ (zN_ m) W i W.lk
  have d0:decide ((i:Int)< (W.lk.length:Int))=true:=decide_eq_true (by omega)
  obtain⟨x,hx⟩: ∃x,x=W.lk.getD i chd0:=⟨_,rfl⟩
  rw[←hx] at ld hag
  first|with_reducible refine ks [] (And.intro @kx_ (And.intro @d0 (And.intro @ix (And.intro @rd (@ld))))) ?_|refine kp (And.intro @kx_ (And.intro @d0 (And.intro @ix (And.intro @rd (@ld))))) ?_
  refine Ow.callFnXC (b:= .agg (zm_ x).toArray) (cap:= #[vp b2 0]) (ars:= #[.agg (zm_ x).toArray,vp b2 0]) rfl (X:=X') (Y:= []) (List.append_nil _).symm rfl rfl rfl rfl Tryz.call78 (fun w' hw' hX' hn'=>V3_ bw b2 sv (wP_ (zN_ m) W i W.lk) m x vl X' w' hX' hn' hC ((hW.ext hE.new).old hw' fun _ h=>h) (V9_ hnv) (by omega)) (fun v D hD hS=> ?_)
  rw[List.append_nil]
  obtain⟨rfl,hC2⟩:=hS
  rw[hag] at hC2
  have hE2:=hE.came0 hD
  cases hf:zS_ (zN_ m) x with
  |true=>
   refine ko @kx_ ?_
   first|with_reducible refine ks [] @kx_ ?_|refine kp @kx_ ?_
   refine⟨_,(ke @kx_), ?_⟩
   exact⟨hE2, .inl ⟨i,hlt,rfl,by rw[←hx];exact hf,hno,hC2⟩⟩
  |false=>
   refine ko @kx_ ?_
   first|with_reducible refine ks [] @kx_ ?_|refine kp @kx_ ?_
   refine Again.mk ⟨i+1,D⟩ (by show W.lk.length - (i+1)<W.lk.length - i;omega) ⟨hlt,hC2,hE2,fun k hk=> ?_⟩ rfl rfl
   by_cases hki:k=i
   ·subst hki;rw[←hx];exact hf
   ·exact hno k (by have:k<i+1:=hk;omega)
 ·obtain rfl:i=W.lk.length:=by omega
  have d0:decide ((W.lk.length:Int)< (W.lk.length:Int))=false:=by simp
  first|with_reducible refine ks [] (And.intro @kx_ @d0) ?_|refine kp (And.intro @kx_ @d0) ?_
  refine⟨_,(ke @kx_), ?_⟩
  exact⟨hE, .inr ⟨rfl,hno,hC⟩⟩
end Go.Proofs
end
namespace Go.Sx
open Go
section
variable {P:Program} {w0:World} {f:Fr} {L:zi_} {N:Fr→zi_→Prop} {ops:Array Oper} {rest:List Oper} {md:Md} {d:Option Tmp} {ty:TypeId} {ps:String} {af:Array Edge} {g:Option (Nat×Bool)}
theorem Ow.clearRow {ts e:TypeId} {z:Value} {x:Operand} {b off n c:Nat} {cs:Array Value} {E:TypeId} {md':Md} (he:md.turn=some md')
  (hs:zt_ ops f ⟨d, .call ⟨.builtin .clear, #[x], #[ts]⟩,ty,ps,af,g⟩=false) (hu:P.underlying ts=some (.slice e)) (hz:z8_ P e=some z) (hz1: ∀v,v∈ (Builtin.zeroCells z.cells n).toList→v.oneCell'=true)
  (hx:ev f x=vsl b off n c) (h0:0<n) (hl:look L b=some (.cells cs E (0,0))) (hn:off+n*z.cells.size≤cs.size)
  (hO:Ow P w0 ops md' rest (qz_ f d (.tuple #[])) (setB L b (.cells (xA_ cs off (Builtin.zeroCells z.cells n).toList) E (0,0))) N):
  Ow P w0 ops md (⟨d, .call ⟨.builtin .clear, #[x], #[ts]⟩,ty,ps,af,g⟩::rest) f L N:=by
 refine Ow.step he rfl hs fun w hw=> ?_
 have hhb:=hw.has _ _ (zF_ hl)
 have hzv:=js_ (P:=P) hz
 have hst:=je_ (P:=P) (b:=b) (off:=off) (E:=E) (fz:=(0,0)) (Builtin.zeroCells z.cells n).toList 0 cs w hhb (by simp[Builtin.zeroCells];omega) (.inl (Nat.le_refl 0)) (List.all_eq_true.2 hz1)
 refine .inl ⟨.tuple #[],{w with heap:=w.heap.setIfInBounds b (.cells (xA_ cs off (Builtin.zeroCells z.cells n).toList) E (0,0))},_, ?_,hw.set (zn_ hl) rfl rfl rfl rfl,hO⟩
 simp only[execOp,resolve,Sem.run_bind,Sem.run_pure,Result.andThen_ok,invoke,builtin,List.map_toArray,List.map_cons,List.map_nil,hx]
 obtain⟨n,rfl⟩: ∃n',n=n'+1:=⟨n - 1,by omega⟩
 simp only[Builtin.clear_,vsl,List.getElem?_toArray,List.getElem?_cons_zero,Sem.run_bind,run_underlying hu w,Result.andThen_ok,hzv]
 rw[Nat.add_zero] at hst
 rw[hst]
 rfl
end
end Go.Sx
section
open Go Go.Proofs Go.Sx Go.StP Go.RooP
namespace Go.Proofs
set_option maxRecDepth 10000
set_option maxHeartbeats 1000000
set_option linter.unusedSimpArgs false
def DelA (bw:Nat) (sv:Value) (W:WkS) (vl v:Value) (D:zi_):Prop:=
 ∃vq bv ov bm om Q M,D.Perm ((bw, .cells #[sv,vq,vm bv,vm bm,vl] 133 (0,0)):: (bv,ov):: (bm,om):: (Q++M))∧Qu Q 59 33 vq W.q.length (W.q.map zm_).flatten∧Gr M 59 33 v W.lk.length (W.lk.map zm_).flatten∧QP_ chKV blV ov (w0_ W.vis)∧QP_ Z2_ blV om (w0_ W.ms)
theorem Ww_ {s:jg_} {l:List ChildL} {n:Nat} (h: ∀k,k<n→zS_ s (l.getD k chd0)=false): (l.take n).filter (fun c=> !zS_ s c)=l.take n:=
 List.filter_eq_self.2 fun c hc=>by
  obtain⟨k,hk,rfl⟩:=StP.mem_getD (z:=chd0) hc
  rw[List.length_take] at hk
  rw[StP.getD_take (by omega),h k (by omega)];rfl
theorem WF_ {s:jg_} {l:List ChildL} {j:Nat} (hj:j<l.length): (l.take (j+1)).filter (fun c=> !zS_ s c)=(l.take j).filter (fun c=> !zS_ s c)++ (if zS_ s (l.getD j chd0)=true then [] else [l.getD j chd0]):=by
 rw[StP.take_snoc (z:=chd0) hj,List.filter_append]
 congr 1
 generalize l.getD j chd0=x
 cases h:zS_ s x<;>simp[h]
theorem aki_ (A:Array Value) (n:Nat) (hn:n<A.size):A[n]! ∈A:=by rw[getElem!_pos A n hn];exact Array.getElem_mem hn
theorem ajb_: ∀v,v∈ (Value.agg (zm_ chd0).toArray).cells.toList→v.oneCell'=true:=fun v hv=>by
 rw[zG_] at hv
 exact List.all_eq_true.1 (qe_ chd0) v (by simpa using hv)
theorem adv_ {w:World} {X D E:zi_} (h:Ext w X D) (hN:New w.heap.size E):Ext w X (D++E):=⟨fun c hc=>by
  rw[zd_] at hc
  exact(List.mem_append.1 hc).elim (h.new c) fun hc=> .inr (hN.le c hc),fun c hc=>by rw[zd_];exact List.mem_append_left _ (h.all c hc)⟩
structure MkDeG where
 i:Nat
 j:Nat
 L:List ChildL
 X:zi_
set_option linter.defProp false
def qY_:=And.intro (And.intro (And.intro (@qw_) (And.intro (@qg_) (@qf_))) (And.intro (@qd_) (And.intro (@Sx.tup2_0) (@Sx.tup2_1)))) (And.intro (And.intro (@zJ_) (And.intro (@zI_) (@xM_))) (And.intro (And.intro (@xe_) (@j7_)) (And.intro (@zG_) (@jG_))))
theorem Wz_ (bw b2:Nat) (sv:Value) (W:WkS) (m:List (IdL×ObK)) (vl:Value) (X:zi_) (w:World) (hX: ∀p,p∈X→w.heap[p.1]? =some p.2) (hn: (keys X).Nodup) (hC:WkC bw sv W vl X) (hW:ClW w bw b2 sv m X) (hnv:W.vis.Nodup) (hb1:W.q.length+W.lk.length<10000000):
  Rets Tryz.prog 77 #[vl, .func (.func 78) #[] #[vp b2 0]] w (XS w X (DelA bw sv (q0_ (zN_ m) W W.lk.length) vl)):=by
 have lnv:=fun x=>hC.len x
 refine Rets.enterX Tryz.func77 rfl (rs:= [.tmp 4]) Tryz.results77 Tryz.ntmps77 hX hn ?_
 refine kf ?_
 first|with_reducible refine ks [] @qY_ ?_|refine kp @qY_ ?_
 refine Ow.callX (X:=X) (Y:= []) (List.append_nil _).symm rfl rfl Tryz.call148 (fun w' hw' hX' hn'=>abF_ bw b2 sv W m vl X w' hX' hn' hC (hW.old hw' fun _ hc=>hc) hnv hb1) (fun v D hD hS=> ?_)
 rw[List.append_nil]
 have hE:=(Ext.refl w X).came0 hD
 rcases hS with⟨i,hi,rfl,hf,hno,hC⟩ | ⟨rfl,hno,hC⟩
 ·have e0: ((i:Int)== -1)=false:=by simp
  have e1:decide ((i:Int)= -1)=false:=by simp
  refine ko @qY_ ?_
  first|with_reducible refine ks [] (And.intro @qY_ (And.intro @e0 (@e1))) ?_|refine kp (And.intro @qY_ (And.intro @e0 (@e1))) ?_
  clear hX hn
  refine Cw.loopG (G:=MkDeG) [16,17,18,19,22,23,24,25,7,26,27,28,29,30,31,32,33,34,35,5,20,21,6] (fun g=> [(5,vi g.i),(6,vi g.j)]) (fun g=>g.X) (fun g=>g.i<g.j∧g.j≤W.lk.length∧g.L.length=W.lk.length∧g.L.take g.i=(W.lk.take g.j).filter (fun c=> !zS_ (zN_ m) c)∧g.L.drop g.j=W.lk.drop g.j∧WkC bw sv (wP_ (zN_ m) W g.j g.L) vl g.X∧Ext w X g.X) (fun g=>W.lk.length - g.j) ⟨i,i+1,W.lk,D⟩ rfl rfl ?_ ?_
  ·refine⟨Nat.lt_succ_self _,hi,rfl, ?_,rfl,hC,hE⟩
   rw[WF_ hi,if_pos hf,List.append_nil,Ww_ hno]
  intro g j hg
  refine kv ?_
  clear hC hE hD hno hf hi e0 e1
  obtain⟨i,j,L,X'⟩:=g
  simp only at hg ⊢
  obtain⟨hij,hj,hL,htk,hdr,hC,hE⟩:=hg
  refine Cw.world fun wz hwz=> ?_
  have hnX:=hwz.nodup
  clear hwz wz
  obtain⟨b,c,rest,R,hvl,hnc,hrl,hp,hK1,hK2⟩:=hC.row (by show 0<L.length;omega)
  replace hvl:vl=vsl b 0 L.length c:=hvl
  replace hnc:L.length≤c:=hnc
  replace hrl:rest.length=(c - L.length)*33:=hrl
  replace hp:X'.Perm ((b,Qe_ zm_ 59 rest L)::R):=hp
  by_cases hlt:j<W.lk.length
  ·have rd:zv_ w X' b=some (Qe_ zm_ 59 rest L):=Wa_ hnX (hp.mem_iff.2 List.mem_cons_self)
   have ix: ∀a,zK_ (.sl (a,33)) vl (some (j:Int))=some (vp b (j*33)):=fun a=>by rw[hvl];exact agt_ b _ c j (by omega) a
   have hLj:L.getD j chd0=W.lk.getD j chd0:=by
    have:=congrArg (fun l=>l.getD 0 chd0) hdr
    simpa [List.getD_eq_getElem?_getD,List.getElem?_drop] using this
   have ld:=vr_ (z:=chd0) (E:=59) (rest:=rest) zo_ j (show j<L.length by omega)
   rw[hLj] at ld
   have hag:=adJ_ (s:=zN_ m) hlt L
   have hfs:=WF_ (s:=zN_ m) hlt
   have hq:=ab5_ (zN_ m) W j L
   have d0:decide ((j:Int)< (W.lk.length:Int))=true:=decide_eq_true (by omega)
   obtain⟨x,hx⟩: ∃x,x=W.lk.getD j chd0:=⟨_,rfl⟩
   rw[←hx] at ld hag hfs
   clear hK1 hK2 hp
   first|with_reducible refine ks [] (And.intro @qY_ (And.intro @lnv (And.intro @d0 (And.intro @ix (And.intro @rd (@ld)))))) ?_|refine kp (And.intro @qY_ (And.intro @lnv (And.intro @d0 (And.intro @ix (And.intro @rd (@ld)))))) ?_
   refine Ow.alloc rfl rfl jF_ fun b7 hb7 hw7=> ?_
   simp only[ze_,List.nil_append,List.cons_append]
   have k7:=fun o=>j6_ (o:=o) hb7
   have s7:=fun o x=>wh_ (o:=o) (x:=x) hb7
   have rd7:=fun o=>k9_ w (o:=o) hb7
   refine ko (And.intro @qY_ (And.intro @k7 (And.intro @s7 (@wD_)))) ?_
   first|with_reducible refine ks [] (And.intro @qY_ @rd7) ?_|refine kp (And.intro @qY_ @rd7) ?_
   refine Ow.callFnXC (b:= .agg (zm_ x).toArray) (cap:= #[vp b2 0]) (ars:= #[.agg (zm_ x).toArray,vp b2 0]) rfl (X:=X') (Y:= [(b7, .cells (zm_ x).toArray 59 (0,0))]) rfl rfl rfl rfl rfl Tryz.call78 (fun w' hw' hX' hn'=>V3_ bw b2 sv (wP_ (zN_ m) W j L) m x vl X' w' hX' hn' hC ((hW.ext (L:=X'++ [(b7, .cells (zm_ x).toArray 59 (0,0))]) (fun q hq=>by
    rw[zd_,List.mem_append] at hq
    exact hq.elim (hE.new q) fun h=> .inr (by simp[keys] at h;omega))).old hw' fun q hq=>by rw[zd_];exact List.mem_append_left _ hq) (V9_ hnv) (by omega)) (fun v D hD hS=> ?_)
   obtain⟨rfl,hC2⟩:=hS
   rw[hag] at hC2
   have hE2:=hE.came0 hD
   have hE3:Ext w X (D++ [(b7, .cells (zm_ x).toArray 59 (0,0))]):=adv_ hE2 ⟨hw7,trivial⟩
   cases hf:zS_ (zN_ m) x with
   |true=>
    rw[hf,if_pos rfl,List.append_nil] at hfs
    refine Ow.go rfl ?_
    simp(disch:=(first|assumption|omega| (simp only[qF_,qC_,UInt64.reduceToNat];try omega))) only[↓Sx.S0,Sx.S1,Tryz.fx,qY_,Nat.reduceAdd,Nat.reducePow,Int.reducePow,Nat.reduceBEq, ↓reduceIte,UInt8.reduceToNat,UInt16.reduceToNat,UInt32.reduceToNat,UInt64.reduceToNat,Int.reduceToNat,Bool.not_true]
    first|with_reducible refine ks [] @qY_ ?_|refine kp @qY_ ?_
    refine Again.mk ⟨i,j+1,L,D++ [(b7, .cells (zm_ x).toArray 59 (0,0))]⟩ (by show W.lk.length - (j+1)<W.lk.length - j;omega) ⟨by show i<j+1;omega,hlt,hL,by show L.take i=_;rw[hfs];exact htk, ?_,hC2.app,hE3⟩ rfl rfl
    show L.drop (j+1)=W.lk.drop (j+1)
    have h:=congrArg (List.drop 1) hdr
    rw[List.drop_drop,List.drop_drop] at h
    exact h
   |false=>
    rw[hf,if_neg (by decide)] at hfs
    refine Ow.world fun wz hwz=> ?_
    have hnD:=hwz.nodup
    clear hwz wz
    obtain⟨b',c',rest',R',hvl',-,-,hp',hK1',-⟩:=hC2.row (by show 0<L.length;omega)
    replace hvl':vl=vsl b' 0 L.length c':=hvl'
    replace hp':D.Perm ((b',Qe_ zm_ 59 rest' L)::R'):=hp'
    replace hK1': ∀ (L2:List ChildL) (X2:zi_),L2.length=L.length→X2.Perm ((b',Qe_ zm_ 59 rest' L2)::R')→WkC bw sv (wP_ (zN_ m) W (j+1) L2) vl X2:=hK1'
    have hp7: (D++ [(b7,Obj.cells (zm_ x).toArray 59 (0,0))]).Perm ((b',Qe_ zm_ 59 rest' L):: (b7, .cells (zm_ x).toArray 59 (0,0))::R'):=(hp'.append_right _).trans (by classical exact List.perm_iff_count.2 fun a=>by simp only[List.count_append,List.count_cons,List.count_nil]<;>omega)
    have hb7n:b'≠b7:=by
     have:=((hp7.map Prod.fst).nodup_iff).1 hnD
     simp only[List.map_cons,List.nodup_cons,List.mem_cons,not_or] at this
     exact this.1.1
    have hE4:Ext w X ((b',Qe_ zm_ 59 rest' (L.set i x)):: (b7, .cells (zm_ x).toArray 59 (0,0))::R'):=(hE3.perm hp7.symm).keys rfl
    have ixi: ∀a,zK_ (.sl (a,33)) vl (some (i:Int))=some (vp b' (i*33)):=fun a=>by rw[hvl'];exact agt_ b' _ c' i (by omega) a
    have sti:=fun a=>V8_ (E:=59) (rest:=rest') zo_ qe_ i x a (show i<L.length by omega)
    refine Ow.permL hp7.symm ?_
    refine Ow.go rfl ?_
    simp(disch:=(first|assumption|omega| (simp only[qF_,qC_,UInt64.reduceToNat];try omega))) only[↓Sx.S0,Sx.S1,Tryz.fx,qY_,Nat.reduceAdd,Nat.reducePow,Int.reducePow,Nat.reduceBEq, ↓reduceIte,UInt8.reduceToNat,UInt16.reduceToNat,UInt32.reduceToNat,UInt64.reduceToNat,Int.reduceToNat,Bool.not_false,ixi,sti]
    first|with_reducible refine ks [] (And.intro @qY_ (And.intro @ixi (@sti))) ?_|refine kp (And.intro @qY_ (And.intro @ixi (@sti))) ?_
    have hsl: (L.set i x).length=L.length:=List.length_set
    refine Again.mk ⟨i+1,j+1,L.set i x,_⟩ (by show W.lk.length - (j+1)<W.lk.length - j;omega) ⟨by show i+1<j+1;omega,hlt,hsl.trans hL, ?_, ?_, ?_,hE4⟩ rfl rfl
    ·show(L.set i x).take (i+1)=_
     rw[StP.take_snoc (z:=chd0) (by omega),List.take_set_of_le (Nat.le_refl _),htk,hfs]
     congr 1
     rw[List.getD_eq_getElem?_getD,List.getElem?_set_self (by omega)];rfl
    ·show(L.set i x).drop (j+1)=W.lk.drop (j+1)
     rw[List.drop_set_of_lt (by omega)]
     have h:=congrArg (List.drop 1) hdr
     rw[List.drop_drop,List.drop_drop] at h
     exact h
    ·exact((hK1' (L.set i x) ((b',Qe_ zm_ 59 rest' (L.set i x))::R') hsl (List.Perm.refl _)).app (Y:= [(b7, .cells (zm_ x).toArray 59 (0,0))])).perm (by classical exact List.perm_iff_count.2 fun a=>by simp only[List.count_append,List.count_cons,List.count_nil]<;>omega)
  ·obtain rfl:j=W.lk.length:=by omega
   have hd0:decide ((W.lk.length:Int)< (W.lk.length:Int))=false:=by simp
   have hil:i<L.length:=by omega
   have hcl:=fun a=>aj3_ a 33 b L.length c i hil hnc
   have hct:=fun a=>ajI_ a 33 b L.length c i (by omega)
   rw[←hvl] at hcl hct
   refine Cw.permL hp.symm ?_
   unfold Qe_
   first|with_reducible refine ks [] (And.intro @qY_ (And.intro @lnv (And.intro @hd0 (@hcl)))) ?_|refine kp (And.intro @qY_ (And.intro @lnv (And.intro @hd0 (@hcl)))) ?_
   have hAl: (((L.take i).map zm_).flatten).length=i*33:=by rw[k8_ zo_,List.length_take];congr 1;omega
   have hsp: (L.map zm_).flatten++rest=((L.take i).map zm_).flatten++ (((L.drop i).map zm_).flatten++rest):=by
    rw[←List.append_assoc,←List.flatten_append,←List.map_append,List.take_append_drop]
   have hBl: (((L.drop i).map zm_).flatten++rest).length=(L.length - i)*33+rest.length:=by
    rw[List.length_append,k8_ zo_,List.length_drop]
   have hzs: (Value.agg (zm_ chd0).toArray).cells.size=33:=by rw[zG_,List.size_toArray,zo_]
   have hzl: (Builtin.zeroCells (Value.agg (zm_ chd0).toArray).cells (L.length - i)).toList.length=(L.length - i)*33:=by
    simp[Builtin.zeroCells,hzs]
   refine Ow.clearRow (e:=59) (cs:=((L.map zm_).flatten++rest).toArray) (E:=59) rfl rfl Tryz.underlying44 jF_ ?_ rfl (by omega) (zH_ _ _ _) ?_ ?_
   ·intro v hv
    simp only[Builtin.zeroCells,Array.toList_map,List.mem_map] at hv
    obtain⟨k,-,rfl⟩:=hv
    refine ajb_ _ (Array.mem_toList_iff.2 ?_)
    have hk:k% (Value.agg (zm_ chd0).toArray).cells.size< (Value.agg (zm_ chd0).toArray).cells.size:=Nat.mod_lt _ (by rw[hzs];omega)
    exact aki_ _ _ hk
   ·have h1: ((L.map zm_).flatten++rest).length=i*33+ ((L.length - i)*33+rest.length):=by rw[hsp,List.length_append,hAl,hBl]
    rw[hzs,List.size_toArray,h1]
    omega
   rw[hsp,←hAl,Q4_ _ _ _ (by rw[hzl,hBl];omega)]
   generalize hzz: (Builtin.zeroCells (Value.agg (zm_ chd0).toArray).cells (L.length - i)).toList=zz at*
   rw[qt_]
   refine ko @qY_ ?_
   first|with_reducible refine ks [] (And.intro @qY_ @hct) ?_|refine kp (And.intro @qY_ @hct) ?_
   refine⟨_,(ke @qY_), ?_⟩
   have htl: (q0_ (zN_ m) W W.lk.length).lk=L.take i:=htk.symm
   have hll: (L.take i).length=i:=by rw[List.length_take];omega
   have hG:Gr [(b,Obj.cells (((L.take i).map zm_).flatten++zz++ (((L.drop i).map zm_).flatten++rest).drop zz.length).toArray 59 (0,0))] 59 33 (vsl b 0 (L.take i).length c) (L.take i).length ((L.take i).map zm_).flatten:=by
    rw[hll]
    refine .inl (Buf.at_ (rest:=zz++ (((L.drop i).map zm_).flatten++rest).drop zz.length) ?_ hAl ?_ (by omega) (by omega))
    ·rw[←List.append_assoc];exact zH_ _ _ _
    ·rw[List.length_append,List.length_drop,hBl,hzl,hrl,←Nat.add_mul,Nat.add_sub_cancel' (by omega)]
     congr 1;omega
   obtain⟨vq,bv,ov,bm,om,Q,M,k1,k2,k3,k4,k5⟩:=hK2 (L.take i) _ ((b,Obj.cells (((L.take i).map zm_).flatten++zz++ (((L.drop i).map zm_).flatten++rest).drop zz.length).toArray 59 (0,0))::R) hG (List.Perm.refl _)
   refine⟨(hE.perm hp.symm).keys rfl,vq,bv,ov,bm,om,Q,M, ?_,k2, ?_,k4,k5⟩
   ·exact k1
   ·rw[htl]
    rw[hll] at k3 ⊢
    exact k3
 ·have e0: ((-1:Int)== -1)=true:=rfl
  refine ko @qY_ ?_
  first|with_reducible refine ks [] (And.intro @qY_ @e0) ?_|refine kp (And.intro @qY_ @e0) ?_
  refine⟨_,(ke @qY_), ?_⟩
  have htl: (q0_ (zN_ m) W W.lk.length).lk=W.lk:=by
   show(W.lk.take W.lk.length).filter (fun c=> !zS_ (zN_ m) c)=W.lk
   rw[Ww_ hno,List.take_length]
  obtain⟨vq,bv,ov,bm,om,Q,M,h⟩:=hC
  refine⟨hE,vq,bv,ov,bm,om,Q,M,h.perm,h.q, ?_,h.v,h.m⟩
  rw[htl]
  exact h.l
end Go.Proofs
end
section
open Go Go.Proofs Go.Sx Go.StP Go.RooP
namespace Go.Proofs
set_option maxRecDepth 10000
set_option maxHeartbeats 1000000
set_option linter.unusedSimpArgs false
theorem s5_0 (a b c d e v:Value) (E:TypeId) (h:Value.oneCell' v=true∧v.cells= #[v]):zs_ (some (false,1)) (some (.cells #[a,b,c,d,e] E (0,0))) 0 v=some (.cells #[v,b,c,d,e] E (0,0)):=by simp[zs_,h,xA_]
theorem amK_ (b o:Nat):q9_ Tryz.prog .eql 41 (vp b o) (.pointer none)=some (.bool false):=by
 simp[q9_,eqX,qX_,jr_,Tryz.underlying41,vp]
set_option linter.defProp false
def kK_:=And.intro (And.intro (And.intro (@akv_) (And.intro (@amK_) (@qw_))) (And.intro (And.intro (@qg_) (@qf_)) (And.intro (@qd_) (@Sx.tup2_0)))) (And.intro (And.intro (And.intro (@Sx.tup2_1) (@zJ_)) (And.intro (@zI_) (@l5_0))) (And.intro (And.intro (@l5_1) (@l5_2)) (And.intro (@l5_3) (@l5_4))))
theorem acr_ (bw:Nat) (sv sv':Value) (W:WkS) (m:List (IdL×ObK)) (X:zi_) (w:World) (hX: ∀p,p∈X→w.heap[p.1]? =some p.2) (hn: (keys X).Nodup) (hP:WkP bw sv W X) (hS:SrcW w sv' m X) (hnv:W.vis.Nodup) (hb1:W.q.length+W.lk.length<10000000):
  Rets Tryz.prog 34 #[vp bw 0,sv'] w (XS w X (fun v D=>v= .tuple #[]∧WkP bw sv' (Ja_ (zN_ m) W) D)):=by
 have hsv:Value.oneCell' sv'=true∧sv'.cells= #[sv']:=by
  obtain⟨bx',bm',om',hSA,-,-⟩:=hS
  rw[hSA.sv];exact⟨rfl,rfl⟩
 obtain⟨vq,bv,ov,bm,om,vl,Q,M,hA⟩:=hP
 obtain⟨hn1,hn2,hn3,hn4⟩:=hA.ne hn
 have hkX:=hA.keysX
 refine Rets.enterX Tryz.func34 rfl (rs:= []) Tryz.results34 Tryz.ntmps34 hX hn ?_
 refine kf ?_
 refine Cw.permL hA.perm.symm ?_
 first|with_reducible refine ks [] @kK_ ?_|refine kp @kK_ ?_
 refine Ow.box rfl rfl fun b2 hb2 hw2=> ?_
 have ec2: (vp bw 0).cells= #[vp bw 0]:=rfl
 simp only[zW_,zT_,z1_,ec2]
 have hbw2:bw<b2:=zf_ hb2 (by simp[keys])
 refine Ow.permL (M:=(b2, .cells #[vp bw 0] 41 (0,0)):: (bw, .cells #[sv,vq,vm bv,vm bm,vl] 133 (0,0)):: (bv,ov):: (bm,om):: (Q++M)) (by classical exact List.perm_iff_count.2 fun a=>by simp only[List.count_append,List.count_cons,List.count_nil]<;>omega) ?_
 have st0:=s5_0 sv vq (vm bv) (vm bm) vl sv' 133 hsv
 refine ko @kK_ ?_
 first|with_reducible refine ks [] (And.intro @kK_ @st0) ?_|refine kp (And.intro @kK_ @st0) ?_
 have hX2: ∀x,x∈keys ((bw,Obj.cells #[sv',vq,vm bv,vm bm,vl] 133 (0,0)):: (bv,ov):: (bm,om):: (Q++M))↔x∈keys X:=fun x=>by rw[akN_ rfl x,hkX x]
 have hlt: ∀x,x∈keys X→x<b2:=fun x hx=>zf_ hb2 (by
  have:=(hX2 x).2 hx
  simpa [keys] using this)
 have h2n:b2∉keys ((bw,Obj.cells #[sv',vq,vm bv,vm bm,vl] 133 (0,0)):: (bv,ov):: (bm,om):: (Q++M)):=fun h=>Nat.lt_irrefl _ (hlt b2 ((hX2 b2).1 h))
 have hC2:WkC bw sv' W vl ((bw, .cells #[sv',vq,vm bv,vm bm,vl] 133 (0,0)):: (bv,ov):: (bm,om):: (Q++M)):=⟨vq,bv,ov,bm,om,Q,M,⟨List.Perm.refl _,hA.q,hA.l,hA.v,hA.m⟩⟩
 have hE2:Ext w X ((bw, .cells #[sv',vq,vm bv,vm bm,vl] 133 (0,0)):: (bv,ov):: (bm,om):: (Q++M)):=⟨fun x hx=> .inl ((hX2 x).1 hx),fun x hx=>(hX2 x).2 hx⟩
 refine Cw.regionG [b2] [9] 10 (by kernel_rfl) rfl ?_
 simp only[List.replicate_succ,List.replicate_zero]
 refine OwG.run [5,0,1,2,3] [true,true,true,true,false,true,false,false,false,false] 5 rfl (by kernel_rfl) (by kernel_rfl) fun k hk=> ?_
 simp only[zh_, ↓zc_, ↓za_, ↓zk_, ↓zj_,zb_]
 simp(disch:=(first|assumption|omega| (simp only[qF_,qC_,UInt64.reduceToNat];try omega))) only[↓Sx.S0,Sx.S1,Tryz.fx,kK_,Nat.reduceAdd,Nat.reducePow,Int.reducePow,Nat.reduceBEq, ↓reduceIte,UInt8.reduceToNat,UInt16.reduceToNat,UInt32.reduceToNat,UInt64.reduceToNat,Int.reduceToNat,Md.next_sofnil,Md.next_sofnil]
 (with_reducible refine hk _ _ _ ?_);clear hk k
 refine OwG.one 4 _ (by kernel_rfl) rfl ?_
 refine ko @kK_ ?_
 refine⟨fun r hr=>rfl, ?_⟩
 simp only[List.set_cons_zero,List.set_cons_succ,List.map_toArray,List.map_cons,List.map_nil,zW_,zT_,z1_]
 obtain⟨X2,hXe⟩: ∃Y:zi_,Y=(bw, .cells #[sv',vq,vm bv,vm bm,vl] 133 (0,0)):: (bv,ov):: (bm,om):: (Q++M):=⟨_,rfl⟩
 rw[←hXe] at hX2 h2n hC2 hE2 ⊢
 refine OwG.one 6 _ (by kernel_rfl) rfl ?_
 refine Ow.permL (M:=X2++ [(b2, .cells #[vp bw 0] 41 (0,0))]) (by classical exact List.perm_iff_count.2 fun a=>by simp only[List.count_append,List.count_cons,List.count_nil]<;>omega) ?_
 refine Ow.callX (X:=X2) (Y:= [(b2, .cells #[vp bw 0] 41 (0,0))]) rfl rfl rfl Tryz.call77 (fun w' hw' hX' hn'=>Wz_ bw b2 sv' W m vl X2 w' hX' hn' hC2 ⟨(hS.ext (L:=X2++ [(b2, .cells #[vp bw 0] 41 (0,0))]) (fun x hx=>by
  rw[zd_,List.mem_append] at hx
  exact hx.elim (fun h=> .inl ((hX2 x).1 h)) fun h=> .inr (by simp[keys] at h;omega))).old hw' (fun x hx=>by rw[zd_];exact List.mem_append_left _ hx),hw'.has _ _ (by simp),h2n⟩ hnv hb1) (fun v D hD hS2=> ?_)
 rw[KF_] at hS2
 obtain⟨vq',bv',ov',bm',om',Q',M',k1,k2,k3,k4,k5⟩:=hS2
 have hE3:=hE2.came0 hD
 have h2D:b2∉keys D:=fun h=>(hD.new b2 h).elim h2n fun h=>Nat.lt_irrefl _ (zf_ h.1 (by simp[keys]))
 have hbD:b2≠bw:=fun e=>by omega
 have st4:=s5_4 sv' vq' (vm bv') (vm bm') vl v 133 k3.cell
 have hp3: (D++ [(b2,Obj.cells #[vp bw 0] 41 (0,0))]).Perm ((b2, .cells #[vp bw 0] 41 (0,0)):: (bw, .cells #[sv',vq',vm bv',vm bm',vl] 133 (0,0)):: (bv',ov'):: (bm',om'):: (Q'++M')):=(k1.append_right _).trans (by classical exact List.perm_iff_count.2 fun a=>by simp only[List.count_append,List.count_cons,List.count_nil]<;>omega)
 refine Ow.permL hp3.symm ?_
 with_reducible refine Ow.nil ?_
 refine⟨(fun r hr=>by rw[List.mem_singleton.1 hr];exact(zV_ _ _ _ _).trans (zV_ _ _ _ _).symm), ?_⟩
 simp only[List.set_cons_zero,List.set_cons_succ,zl_,zy_,zz_]
 refine OwG.rest [7,8,9] rfl (by kernel_rfl) (by kernel_rfl) ?_
 simp only[zh_, ↓zc_, ↓za_, ↓zk_, ↓zj_,zb_]
 refine kq @kK_ ?_
 refine Ow.store rfl rfl rfl (ke (And.intro @kK_ @st4)) ?_
 refine ko @kK_ ?_
 first|with_reducible refine ks [] @kK_ ?_|refine kp @kK_ ?_
 refine⟨_,(ke @kK_), ?_⟩
 have hE4:Ext w X ((b2, .cells #[vp bw 0] 41 (0,0)):: (bw, .cells #[sv',vq',vm bv',vm bm',v] 133 (0,0)):: (bv',ov'):: (bm',om'):: (Q'++M')):=((adv_ hE3 (E:= [(b2,Obj.cells #[vp bw 0] 41 (0,0))]) ⟨hw2,trivial⟩).perm hp3.symm).keys rfl
 exact⟨hE4,rfl,vq',bv',ov',bm',om',v,Q',M'++ [(b2, .cells #[vp bw 0] 41 (0,0))],⟨(by classical exact List.perm_iff_count.2 fun a=>by simp only[List.count_append,List.count_cons,List.count_nil]<;>omega),k2,k3.app,k4,k5⟩⟩
end Go.Proofs
end
section
open Go Go.Proofs Go.Sx Go.StP Go.RooP
namespace Go.Proofs
set_option maxRecDepth 10000
set_option maxHeartbeats 1000000
set_option linter.unusedSimpArgs false
theorem aov_ (a b:Value) (E:TypeId) (fz:Nat×Nat):zA_ (some (true,2)) (some (.cells #[a,b] E fz)) 0=some (.agg #[a,b]):=(rfl)
theorem aos_ (a b c d e f g x y:Value) (E:TypeId) (hx:Value.oneCell' x=true) (hy:Value.oneCell' y=true):zs_ (some (true,2)) (some (.cells #[a,b,c,d,e,f,g] E (0,0))) 0 (.agg #[x,y])=some (.cells #[x,y,c,d,e,f,g] E (0,0)):=by
 simp[zs_,hx,hy,xA_,ze_]
theorem amO_ (a b:ChildL):q9_ Tryz.prog .neq 59 (.agg (zm_ a).toArray) (.agg (zm_ b).toArray)=some (.bool (!decide (a=b))):=by
 rw[an8_,ah4_]
def DwR (bd b3:Nat) (vL vI:Value) (W:WkS) (vl0:Value) (L0:List ChildL) (X:zi_):Prop:=
 ∃vq vv vl vm vn Q V M K,DwA bd vL vI W vq vv vl vm vn Q V M K X∧GrI K 59 33 vl0 L0.length (L0.map zm_).flatten∧(b3, .cells #[vL,vI] 32 (0,0))∈K
structure MkAgG where
 jz:Nat
 X:zi_
structure MkAvG where
 k:Nat
 v:Value
 D:zi_
 G:zi_
set_option linter.defProp false
def zC_:=And.intro (And.intro (And.intro (And.intro (@qw_) (@qg_)) (And.intro (@qf_) (And.intro (@qd_) (@ke_)))) (And.intro (And.intro (@Sx.tup2_0) (And.intro (@Sx.tup2_1) (@zJ_))) (And.intro (@zI_) (And.intro (@q4_) (@xM_))))) (And.intro (And.intro (And.intro (@xe_) (And.intro (@j7_) (@zG_))) (And.intro (@jG_) (And.intro (@aov_) (@l7_0)))) (And.intro (And.intro (@l7_2) (And.intro (@l7_3) (@l7_4))) (And.intro (@l7_5) (And.intro (@l7_6) (@amO_)))))
theorem acc_ (bd:Nat) (vL vI vL' vI':Value) (l:List ObK) (W:WkS) (X:zi_) (w:World) (hX: ∀p,p∈X→w.heap[p.1]? =some p.2) (hn: (keys X).Nodup) (hP:DwP bd vL vI W X) (hL:RowX 2 kl_ jU_ w vL' l X) (hI:RowX 32 z4_ id0 w vI' (l.map idK) X)
  (hoL:Value.oneCell' vL'=true) (hoI:Value.oneCell' vI'=true) (hl:l.length<1000000) (hb1:W.q.length+W.lk.length<10000000) (hb2:W.lk.length<90000) (hb3:W.vis.length<1000000):
  Rets Tryz.prog 35 #[vp bd 0, .agg #[vL',vI']] w (XS w X (fun v D=>v= .tuple #[]∧DwP bd vL' vI' (Ja_ (j5_ l) W) D)):=by
 obtain⟨vq,vv,vl,vm,vn,Q,V,M,K,hA⟩:=hP
 obtain⟨hn1,hn2,hn3,hn4⟩:=hA.ne hn
 have hkX:=hA.keysX
 refine Rets.enterX Tryz.func35 rfl (rs:= []) Tryz.results35 Tryz.ntmps35 hX hn ?_
 refine kf ?_
 refine Cw.permL hA.perm.symm ?_
 first|with_reducible refine ks [1000010] @zC_ ?_|refine kp @zC_ ?_
 refine Ow.box rfl rfl fun b3 hb3 hw3=> ?_
 simp only[zW_,zT_,z1_,ze_]
 have hbd3:bd<b3:=zf_ hb3 (by simp[keys])
 refine Ow.permL (M:=(b3, .cells #[vL',vI'] 32 (0,0)):: (bd, .cells #[vL,vI,vq,vv,vl,vm,vn] 46 (0,0)):: (Q++ (V++ (M++K)))) (by classical exact List.perm_iff_count.2 fun a=>by simp only[List.count_append,List.count_cons,List.count_nil]<;>omega) ?_
 have st0:=aos_ vL vI vq vv vl vm vn vL' vI' 46 hoL hoI
 have st4:=s7_4 vL' vI' vq vv vl vm vn (.slice none 0 0) 46 ⟨rfl,rfl⟩
 have st6:=s7_6 vL' vI' vq vv (.slice none 0 0) vm vn (.slice none 0 0) 46 ⟨rfl,rfl⟩
 refine ko @zC_ ?_
 first|with_reducible refine ks [] (And.intro @zC_ (And.intro @st0 (And.intro @st4 (@st6)))) ?_|refine kp (And.intro @zC_ (And.intro @st0 (And.intro @st4 (@st6)))) ?_
 have hR0:DwR bd b3 vL' vI' (q0_ (j5_ l) W 0) vl W.lk ((b3, .cells #[vL',vI'] 32 (0,0)):: (bd, .cells #[vL',vI',vq,vv, .slice none 0 0,vm, .slice none 0 0] 46 (0,0)):: (Q++ (V++ (M++K)))):=by
  rw[adV_]
  exact⟨vq,vv, .slice none 0 0,vm, .slice none 0 0,Q,V,[],(b3, .cells #[vL',vI'] 32 (0,0)):: (M++K),⟨(by classical exact List.perm_iff_count.2 fun a=>by simp only[List.count_append,List.count_cons,List.count_nil]<;>omega),hA.q,hA.v,Gr.nl,hA.m.mono fun p hp=>List.mem_cons_of_mem _ (List.mem_append_right _ hp),⟨[],(fun p hp=>by cases hp),Gr.nl⟩⟩,⟨M,fun p hp=>List.mem_cons_of_mem _ (List.mem_append_left _ hp),hA.l⟩,List.mem_cons_self⟩
 have hE0:Ext w X ((b3, .cells #[vL',vI'] 32 (0,0)):: (bd, .cells #[vL',vI',vq,vv, .slice none 0 0,vm, .slice none 0 0] 46 (0,0)):: (Q++ (V++ (M++K)))):=by
  refine⟨fun x hx=> ?_,fun x hx=> ?_⟩
  ·simp only[keys,List.map_cons,List.map_append,List.mem_cons,List.mem_append] at hx
   rcases hx with h|h
   ·exact .inr (by omega)
   ·exact .inl ((hkX x).2 h)
  ·have:=(hkX x).1 hx
   simp only[keys,List.map_cons,List.map_append,List.mem_cons,List.mem_append]
   exact .inr this
 have lnl:=fun x=>hA.l.len x
 refine Cw.loopG (G:=MkAgG) [25,26,27,28,31,32,33,34,6,36,37,38,39,35,40,41,7,8,42,43,44,45,46,47,48,49,50,51,52,53,54,55,56,57,58,59,60,61,62,63,64,65,66,67,68,69,70,71,72,73,74,75,9,10,76,77,78,79,80,81,82,85,86,87,88,89,90,91,92,93,94,95,96,97,98,99,100,101,102,103,83,84,104,105,106,107,108,109,110,111,112,113,114,115,116,117,29,30,5] (fun g=> [(5,vi g.jz)]) (fun g=>g.X) (fun g=>g.jz≤W.lk.length∧DwR bd b3 vL' vI' (q0_ (j5_ l) W g.jz) vl W.lk g.X∧Ext w X g.X) (fun g=>W.lk.length - g.jz) ⟨0,_⟩ rfl rfl ?_ ?_
 ·exact⟨Nat.zero_le _,hR0,hE0⟩
 intro g j hg
 refine kv ?_
 clear hR0 hE0 hX hn hA hn1 hn2 hn3 hn4 hkX hb3 hbd3 st0 st4 st6
 obtain⟨jz,X'⟩:=g
 simp only at hg ⊢
 obtain⟨hj,hR,hE⟩:=hg
 refine Cw.world fun wz hwz=> ?_
 have hnX:=hwz.nodup
 clear hwz wz
 by_cases hlt:jz<W.lk.length
 ·have hno:=fun h=>aaq_ (s:=j5_ l) hlt h
  have hyes:=fun h=>Kg_ (s:=j5_ l) hlt h
  have hbq: (q0_ (j5_ l) W jz).q.length≤W.q.length+W.lk.length:=ab5_ (j5_ l) W jz []
  have hbl: (q0_ (j5_ l) W jz).lk.length≤W.lk.length:=by
   refine Nat.le_trans (List.length_filter_le _ _) ?_
   rw[List.length_take];omega
  have hbv: (q0_ (j5_ l) W jz).vis.length≤W.vis.length:=List.length_filter_le _ _
  generalize q0_ (j5_ l) W jz=Wj at*
  obtain⟨vq,vv,vk,vm,vn,Q,V,M,K,hA,⟨K0,hK0,hG0⟩,hb3K⟩:=hR
  obtain⟨hn1,hn2,hn3,hn4⟩:=hA.ne hnX
  have hkX:=hA.keysX
  obtain⟨bl,cl,restl,hvl,hll⟩:=Go.Proofs.Gr.rows hG0 (show 0<W.lk.length by omega)
  refine Cw.permL hA.perm.symm ?_
  have hnX2: (keys ((bd,Obj.cells #[vL',vI',vq,vv,vk,vm,vn] 46 (0,0)):: (Q++ (V++ (M++K))))).Nodup:=((hA.perm.map Prod.fst).nodup_iff).1 hnX
  have rl:zv_ w ((bd, .cells #[vL',vI',vq,vv,vk,vm,vn] 46 (0,0)):: (Q++ (V++ (M++K)))) bl=some (Qe_ zm_ 59 restl W.lk):=jb_ hnX2 (by simp[hK0 _ (zF_ hll)])
  have ix: ∀a,zK_ (.sl (a,33)) vl (some (jz:Int))=some (vp bl (jz*33)):=fun a=>by
   rw[hvl,qn_ _ _ _ _ _ _ ⟨by omega,by omega⟩];simp
  have ld:=vr_ (z:=chd0) (E:=59) (rest:=restl) zo_ jz hlt
  have hbd3:b3≠bd:=fun e=>hn4 (e▸List.mem_map_of_mem hb3K)
  have hn3K:b3∈keys K:=List.mem_map_of_mem hb3K
  generalize W.lk.getD jz chd0=c at*
  have hcid:=c.id.h
  have d0:decide ((jz:Int)< (W.lk.length:Int))=true:=decide_eq_true (by omega)
  first|with_reducible refine ks [1000010] (And.intro @zC_ (And.intro @lnl (And.intro @d0 (And.intro @ix (And.intro @rl (@ld)))))) ?_|refine kp (And.intro @zC_ (And.intro @lnl (And.intro @d0 (And.intro @ix (And.intro @rl (@ld)))))) ?_
  refine Ow.alloc rfl rfl jF_ fun b6 hb6 hw6=> ?_
  simp only[ze_,List.nil_append,List.cons_append]
  have hbd6:bd<b6:=zf_ hb6 (by simp[keys])
  have hb36:b3<b6:=zf_ hb6 (by simp[keys];simp[keys] at hn3K;exact .inr (.inr (.inr (.inr hn3K))))
  refine Ow.permL (M:=(b6, .cells (zm_ chd0).toArray 59 (0,0)):: (bd, .cells #[vL',vI',vq,vv,vk,vm,vn] 46 (0,0)):: (Q++ (V++ (M++K)))) (by classical exact List.perm_iff_count.2 fun a=>by simp only[List.count_append,List.count_cons,List.count_nil]<;>omega) ?_
  refine Ow.world fun wz hwz=> ?_
  have hnd6:=hwz.nodup
  clear hwz wz
  have r3:zv_ w ((bd, .cells #[vL',vI',vq,vv,vk,vm,vn] 46 (0,0)):: (Q++ (V++ (M++K)))) b3=some (.cells #[vL',vI'] 32 (0,0)):=jb_ hnX2 (by simp[hb3K])
  have r3b:zv_ w (Q++ (V++ (M++K))) b3=some (.cells #[vL',vI'] 32 (0,0)):=by rw[←r3,zx_ _ _ _ _ _ (Ne.symm hbd3)]
  refine ko @zC_ ?_
  first|with_reducible refine ks [] (And.intro @zC_ (And.intro @r3 (@r3b))) ?_|refine kp (And.intro @zC_ (And.intro @r3 (@r3b))) ?_
  have hLk: ∀x,x∈keys ((b6,Obj.cells (zm_ c).toArray 59 (0,0)):: (bd, .cells #[vL',vI',vq,vv,vk,vm,vn] 46 (0,0)):: (Q++ (V++ (M++K))))→x∈keys X∨w.heap.size≤x:=fun x hx=>by
   simp only[keys,List.map_cons,List.map_append,List.mem_cons,List.mem_append] at hx
   rcases hx with h|h
   ·exact .inr (by omega)
   ·exact hE.new x ((hkX x).2 h)
  refine Ow.callFV rfl Tryz.call18 (fun w' hw'=>W8_ vL' vI' l c.id w' ((hL.ext hLk).old hw' (fun _ h=>by cases h)) ((hI.ext hLk).old hw' (fun _ h=>by cases h)) hl) ?_
  have e1:zS_ (j5_ l) c=((j5_ l c.id).2&& (c.kind==0||c.kind==(j5_ l c.id).1.k)):=rfl
  obtain⟨is,his⟩: ∃b,b=(j5_ l c.id).2:=⟨_,rfl⟩
  obtain⟨o,ho⟩: ∃o,o=(j5_ l c.id).1:=⟨_,rfl⟩
  rw[←his,←ho] at e1 ⊢
  obtain⟨ok,ot⟩:=o
  simp only at e1
  have e0:obKV ⟨ok,ot⟩=obV ok ot:=rfl
  rw[e0]
  refine ko @zC_ ?_
  refine Ow.alloc rfl rfl Xl_ fun b7 hb7 hw7=> ?_
  simp only[ze_,List.nil_append,List.cons_append]
  have h67:b6<b7:=zf_ hb7 (by simp[keys])
  have hbd7:bd<b7:=zf_ hb7 (by simp[keys])
  refine Ow.permL (M:=(b7, .cells #[vi 0,vs []] 35 (0,0)):: (b6, .cells (zm_ c).toArray 59 (0,0)):: (bd, .cells #[vL',vI',vq,vv,vk,vm,vn] 46 (0,0)):: (Q++ (V++ (M++K)))) (by classical exact List.perm_iff_count.2 fun a=>by simp only[List.count_append,List.count_cons,List.count_nil]<;>omega) ?_
  refine ko @zC_ ?_
  refine Cw.world fun wz hwz=> ?_
  have hnd7:=hwz.nodup
  clear hwz wz
  have hn6:b6∉keys Q∧b6∉keys V∧b6∉keys M∧b6∉keys K:=by
   simp only[keys,List.map_cons,List.map_append,List.nodup_cons,List.mem_cons,List.mem_append,not_or] at hnd6 ⊢
   exact hnd6.1.2
  have hn7:b7∉keys Q∧b7∉keys V∧b7∉keys M∧b7∉keys K:=by
   simp only[keys,List.map_cons,List.map_append,List.nodup_cons,List.mem_cons,List.mem_append,not_or] at hnd7 ⊢
   exact hnd7.1.2.2
  refine Cw.cutO (G:=Unit) [42,43,44,45,46,47,48,49,50,51,52,53,54,55,56,57,58,59,60,61,62,63,64,65,66,67,68,69,70,71,72,73,74,75] (fun g=> []) (fun g=>(b7, .cells #[vi ok,vs ot] 35 (0,0)):: (b6, .cells (zm_ c).toArray 59 (0,0)):: (bd, .cells #[vL',vI',vq,vv,vk,vm,vn] 46 (0,0)):: (Q++ (V++ (M++K)))) (fun g=>zS_ (j5_ l) c=true) ?_ ?_
  ·cases is with
   |false=>
    have hfn:zS_ (j5_ l) c=false:=by rw[e1];rfl
    first|with_reducible refine ks [] @zC_ ?_|refine kp @zC_ ?_
    refine Cw.permL (M:=M++ ((bd, .cells #[vL',vI',vq,vv,vk,vm,vn] 46 (0,0)):: (b6, .cells (zm_ c).toArray 59 (0,0)):: (b7, .cells #[vi ok,vs ot] 35 (0,0)):: (Q++ (V++K)))) (by classical exact List.perm_iff_count.2 fun a=>by simp only[List.count_append,List.count_cons,List.count_nil]<;>omega) ?_
    have rbd:=fun Y=>zg_ (w0:=w) (zu_ (D:=M) (Y:=Y) (o:= .cells #[vL',vI',vq,vv,vk,vm,vn] 46 (0,0)) hn3)
    have rb6:=fun Y=>zg_ (w0:=w) (zD_ (D:=M) (Y:=Y) (o:= .cells #[vL',vI',vq,vv,vk,vm,vn] 46 (0,0)) (x:= .cells (zm_ c).toArray 59 (0,0)) hn6.2.2.1 (show bd≠b6 by omega))
    refine Cw.regionG [bd,b6] [10] 11 (by kernel_rfl) rfl ?_
    simp only[List.replicate_succ,List.replicate_zero]
    refine OwG.run [0,1,2,3,4,5] [true,true,true,true,true,true,false,false,false,false,false] 5 rfl (by kernel_rfl) (by kernel_rfl) fun k hk=> ?_
    simp only[zh_, ↓zc_, ↓za_, ↓zk_, ↓zj_,zb_]
    simp(disch:=(first|assumption|omega| (simp only[qF_,qC_,UInt64.reduceToNat];try omega))) only[↓Sx.S0,Sx.S1,Tryz.fx,zC_,Nat.reduceAdd,Nat.reducePow,Int.reducePow,Nat.reduceBEq, ↓reduceIte,UInt8.reduceToNat,UInt16.reduceToNat,UInt32.reduceToNat,UInt64.reduceToNat,Int.reduceToNat,Md.next_sofnil,rbd,rb6]
    (with_reducible refine hk _ _ _ ?_);clear hk k
    refine OwG.one 6 _ (by kernel_rfl) rfl ?_
    refine Ow.buildSlice (e:=59) (zm_ c).toArray rfl rfl (jw_ c) fun bb hbb hwb=> ?_
    with_reducible refine Ow.nil ?_
    refine⟨(zq_ (fun r hr=>by simp only[List.mem_cons,List.not_mem_nil,or_false] at hr;rcases hr with rfl|rfl<;>simp[keys])), ?_⟩
    simp only[List.set_cons_zero,List.set_cons_succ,zl_,zy_,zz_]
    refine OwG.one 7 _ (by kernel_rfl) rfl ?_
    refine Ow.appendXG (e:=59) (k:=1) (new:=zm_ c) (X:=M) vk (List.append_assoc _ _ _) rfl rfl rfl Tryz.underlying44 q1_ (by kernel_rfl) jF_ (by rw[zG_,List.size_toArray,zo_]) Tryz.underlying44 (by intro k h;cases h) hA.l (fun w' hw'=>AppX.one1 (hw'.has bb (.cells (zm_ c).toArray 59 (0,0)) (by simp)) (zo_ _) (qe_ _)) (by show 2* (Wj.lk.length+1)+768≤2^38;omega) (fun B9 v9 D9 hA9 hB9 hG9 hk19 hk29 hlk9=> ?_)
    have hbD9:bd∉keys D9:=qq_ hA9 (by simp[keys]) hn3 hk29
    have h6D9:b6∉keys D9:=qq_ hA9 (by simp[keys]) hn6.2.2.1 hk29
    have lD9:=fun Y=>zu_ (D:=D9) (Y:=Y) (o:= .cells #[vL',vI',vq,vv,vk,vm,vn] 46 (0,0)) hbD9
    have st9:=s7_4 vL' vI' vq vv vk vm vn v9 46 hG9.cell
    with_reducible refine Ow.nil ?_
    refine⟨(fun r hr=>by simp only[List.mem_cons,List.not_mem_nil,or_false] at hr;rcases hr with rfl|rfl;exact(zg_ (zu_ hbD9)).trans (zg_ (zp_ (zu_ hn3))).symm;exact(zg_ (zD_ h6D9 (by omega))).trans (zg_ (zp_ (zD_ hn6.2.2.1 (by omega)))).symm), ?_⟩
    simp only[List.set_cons_zero,List.set_cons_succ,zl_,zy_,zz_]
    refine OwG.rest [8,9,10] rfl (by kernel_rfl) (by kernel_rfl) ?_
    simp only[zh_, ↓zc_, ↓za_, ↓zk_, ↓zj_,zb_]
    refine kq @zC_ ?_
    refine Ow.store rfl rfl rfl (ke (And.intro @zC_ (And.intro @lD9 (@st9)))) ?_
    have es9:=fun Y x=>q6_ (D:=D9) (Y:=Y) (o:= .cells #[vL',vI',vq,vv,vk,vm,vn] 46 (0,0)) (x:=x) hbD9
    simp only[List.cons_append] at*
    rw[es9]
    refine ko @zC_ ?_
    refine Cw.permL (M:=(bd, .cells #[vL',vI',vq,vv,v9,vm,vn] 46 (0,0)):: (b6, .cells (zm_ c).toArray 59 (0,0)):: (b7, .cells #[vi ok,vs ot] 35 (0,0)):: (Q++ (V++ (D9++ (K++ [(bb, .cells (zm_ c).toArray 59 (0,0))]))))) (by classical exact List.perm_iff_count.2 fun a=>by simp only[List.count_append,List.count_cons,List.count_nil]<;>omega) ?_
    refine Cw.regionG [bd,b6] [10] 11 (by kernel_rfl) rfl ?_
    simp only[List.replicate_succ,List.replicate_zero]
    refine OwG.run [0,1,2,3,4,5,6] [true,true,true,true,true,true,true,false,false,false,false] 4 rfl (by kernel_rfl) (by kernel_rfl) fun k hk=> ?_
    simp only[zh_, ↓zc_, ↓za_, ↓zk_, ↓zj_,zb_]
    simp(disch:=(first|assumption|omega| (simp only[qF_,qC_,UInt64.reduceToNat];try omega))) only[↓Sx.S0,Sx.S1,Tryz.fx,zC_,Nat.reduceAdd,Nat.reducePow,Int.reducePow,Nat.reduceBEq, ↓reduceIte,UInt8.reduceToNat,UInt16.reduceToNat,UInt32.reduceToNat,UInt64.reduceToNat,Int.reduceToNat,Md.next_sofnil,Md.next_sofnil]
    (with_reducible refine hk _ _ _ ?_);clear hk k
    refine OwG.one 7 _ (by kernel_rfl) rfl ?_
    obtain⟨Xn,hXn,hGn⟩:=hA.n
    refine Ow.callC rfl rfl Tryz.call73 (fun w' hw'=>kO_ vn (jL_ Wj.lk) c.id w' (hGn.slM (z:=id0) (fun b o hm=>hw'.has b o (by have:=hXn _ hm;simp[this])) rfl rfl z0_) (by have:=xf_ (Wj.lk.map ChildL.id);rw[List.length_map] at this;show(xr_ (Wj.lk.map ChildL.id)).length<_;omega)) (fun B8 v8 D8 hA8 hB8 hN8 hS8=> ?_)
    have hN8':=hN8.mono hB8
    have hS9:=hS8.gri (K:=K) ⟨Xn,hXn,hGn⟩
    have st8:=s7_6 vL' vI' vq vv v9 vm vn v8 46 (kh_ hS9)
    with_reducible refine Ow.nil ?_
    refine⟨(zq_ (fun r hr=>by simp only[List.mem_cons,List.not_mem_nil,or_false] at hr;rcases hr with rfl|rfl<;>simp[keys])), ?_⟩
    simp only[List.set_cons_zero,List.set_cons_succ,zl_,zy_,zz_]
    refine OwG.rest [8,9,10] rfl (by kernel_rfl) (by kernel_rfl) ?_
    simp only[zh_, ↓zc_, ↓za_, ↓zk_, ↓zj_,zb_]
    refine kq @zC_ ?_
    refine Ow.store rfl rfl rfl (ke (And.intro @zC_ @st8)) ?_
    refine ko @zC_ ?_
    first|with_reducible refine ks [] @zC_ ?_|refine kp @zC_ ?_
    have hN0:=hno hfn
    refine Again.mk ⟨jz+1,_⟩ (by show W.lk.length - (jz+1)<W.lk.length - jz;omega) ⟨hlt, ?_,hE.trans2 ((hA.ext2 (a:= .cells #[vL',vI',vq,vv,v9,vm,v8] 46 (0,0)) (K':=K++ ([(bb, .cells (zm_ c).toArray 59 (0,0)),(b6, .cells (zm_ c).toArray 59 (0,0)),(b7, .cells #[vi ok,vs ot] 35 (0,0))]++D8)) (fun x h=>h) (fun x h=> .inl h) (fun x h=>h) (fun x h=> .inl h) hk19 (fun x h=>(hk29 x h).imp id fun h=>by omega) (fun x h=>by rw[zd_];exact List.mem_append_left _ h) (fun x h=>by rw[zd_,zd_,List.mem_append,List.mem_append] at h;exact h.imp id fun h=>h.elim (fun h=>by simp[keys] at h;omega) (hN8'.le x))).perm (by classical exact List.perm_iff_count.2 fun a=>by simp only[List.count_append,List.count_cons,List.count_nil]<;>omega))⟩ rfl rfl
    show DwR bd b3 vL' vI' (q0_ (j5_ l) W (jz+1)) vl W.lk _
    rw[hN0]
    refine⟨vq,vv,v9,vm,v8,Q,V,D9,K++ ([(bb, .cells (zm_ c).toArray 59 (0,0)),(b6, .cells (zm_ c).toArray 59 (0,0)),(b7, .cells #[vi ok,vs ot] 35 (0,0))]++D8),⟨(by classical exact List.perm_iff_count.2 fun a=>by simp only[List.count_append,List.count_cons,List.count_nil]<;>omega),hA.q,hA.v,by simpa [List.map_append] using hG9,hA.m.mono fun p hp=>List.mem_append_left _ hp, ?_⟩,⟨K0,fun p hp=>List.mem_append_left _ (hK0 p hp),hG0⟩,List.mem_append_left _ hb3K⟩
    show GrI _ _ 32 v8 (jL_ (Wj.lk++ [c])).length ((jL_ (Wj.lk++ [c])).map z4_).flatten
    rw[wa_]
    exact hS9.mono fun p hp=>by rw[List.mem_append] at hp;rcases hp with h|h<;>simp[h]
   |true=>
    cases hk0: (c.kind==0) with
    |true=>
     have f0: (c.kind !=0)=false:=by simpa using hk0
     first|with_reducible refine ks [] (And.intro @zC_ @f0) ?_|refine kp (And.intro @zC_ @f0) ?_
     exact CutO.mk () (by rw[e1,hk0];rfl) rfl rfl
    |false=>
     have f0: (c.kind !=0)=true:=by simpa using hk0
     cases hk3: (c.kind==ok) with
     |true=>
      have f1: (c.kind !=ok)=false:=by simpa using hk3
      first|with_reducible refine ks [] (And.intro @zC_ (And.intro @f0 (@f1))) ?_|refine kp (And.intro @zC_ (And.intro @f0 (@f1))) ?_
      exact CutO.mk () (by rw[e1,hk0,hk3];rfl) rfl rfl
     |false=>
      have hfn:zS_ (j5_ l) c=false:=by rw[e1,hk0,hk3];rfl
      have f1: (c.kind !=ok)=true:=by simpa using hk3
      first|with_reducible refine ks [] (And.intro @zC_ (And.intro @f0 (@f1))) ?_|refine kp (And.intro @zC_ (And.intro @f0 (@f1))) ?_
      refine Cw.permL (M:=M++ ((bd, .cells #[vL',vI',vq,vv,vk,vm,vn] 46 (0,0)):: (b6, .cells (zm_ c).toArray 59 (0,0)):: (b7, .cells #[vi ok,vs ot] 35 (0,0)):: (Q++ (V++K)))) (by classical exact List.perm_iff_count.2 fun a=>by simp only[List.count_append,List.count_cons,List.count_nil]<;>omega) ?_
      have rbd:=fun Y=>zg_ (w0:=w) (zu_ (D:=M) (Y:=Y) (o:= .cells #[vL',vI',vq,vv,vk,vm,vn] 46 (0,0)) hn3)
      have rb6:=fun Y=>zg_ (w0:=w) (zD_ (D:=M) (Y:=Y) (o:= .cells #[vL',vI',vq,vv,vk,vm,vn] 46 (0,0)) (x:= .cells (zm_ c).toArray 59 (0,0)) hn6.2.2.1 (show bd≠b6 by omega))
      refine Cw.regionG [bd,b6] [10] 11 (by kernel_rfl) rfl ?_
      simp only[List.replicate_succ,List.replicate_zero]
      refine OwG.run [0,1,2,3,4,5] [true,true,true,true,true,true,false,false,false,false,false] 5 rfl (by kernel_rfl) (by kernel_rfl) fun k hk=> ?_
      simp only[zh_, ↓zc_, ↓za_, ↓zk_, ↓zj_,zb_]
      simp(disch:=(first|assumption|omega| (simp only[qF_,qC_,UInt64.reduceToNat];try omega))) only[↓Sx.S0,Sx.S1,Tryz.fx,zC_,Nat.reduceAdd,Nat.reducePow,Int.reducePow,Nat.reduceBEq, ↓reduceIte,UInt8.reduceToNat,UInt16.reduceToNat,UInt32.reduceToNat,UInt64.reduceToNat,Int.reduceToNat,Md.next_sofnil,rbd,rb6]
      (with_reducible refine hk _ _ _ ?_);clear hk k
      refine OwG.one 6 _ (by kernel_rfl) rfl ?_
      refine Ow.buildSlice (e:=59) (zm_ c).toArray rfl rfl (jw_ c) fun bb hbb hwb=> ?_
      with_reducible refine Ow.nil ?_
      refine⟨(zq_ (fun r hr=>by simp only[List.mem_cons,List.not_mem_nil,or_false] at hr;rcases hr with rfl|rfl<;>simp[keys])), ?_⟩
      simp only[List.set_cons_zero,List.set_cons_succ,zl_,zy_,zz_]
      refine OwG.one 7 _ (by kernel_rfl) rfl ?_
      refine Ow.appendXG (e:=59) (k:=1) (new:=zm_ c) (X:=M) vk (List.append_assoc _ _ _) rfl rfl rfl Tryz.underlying44 q1_ (by kernel_rfl) jF_ (by rw[zG_,List.size_toArray,zo_]) Tryz.underlying44 (by intro k h;cases h) hA.l (fun w' hw'=>AppX.one1 (hw'.has bb (.cells (zm_ c).toArray 59 (0,0)) (by simp)) (zo_ _) (qe_ _)) (by show 2* (Wj.lk.length+1)+768≤2^38;omega) (fun B9 v9 D9 hA9 hB9 hG9 hk19 hk29 hlk9=> ?_)
      have hbD9:bd∉keys D9:=qq_ hA9 (by simp[keys]) hn3 hk29
      have h6D9:b6∉keys D9:=qq_ hA9 (by simp[keys]) hn6.2.2.1 hk29
      have lD9:=fun Y=>zu_ (D:=D9) (Y:=Y) (o:= .cells #[vL',vI',vq,vv,vk,vm,vn] 46 (0,0)) hbD9
      have st9:=s7_4 vL' vI' vq vv vk vm vn v9 46 hG9.cell
      with_reducible refine Ow.nil ?_
      refine⟨(fun r hr=>by simp only[List.mem_cons,List.not_mem_nil,or_false] at hr;rcases hr with rfl|rfl;exact(zg_ (zu_ hbD9)).trans (zg_ (zp_ (zu_ hn3))).symm;exact(zg_ (zD_ h6D9 (by omega))).trans (zg_ (zp_ (zD_ hn6.2.2.1 (by omega)))).symm), ?_⟩
      simp only[List.set_cons_zero,List.set_cons_succ,zl_,zy_,zz_]
      refine OwG.rest [8,9,10] rfl (by kernel_rfl) (by kernel_rfl) ?_
      simp only[zh_, ↓zc_, ↓za_, ↓zk_, ↓zj_,zb_]
      refine kq @zC_ ?_
      refine Ow.store rfl rfl rfl (ke (And.intro @zC_ (And.intro @lD9 (@st9)))) ?_
      have es9:=fun Y x=>q6_ (D:=D9) (Y:=Y) (o:= .cells #[vL',vI',vq,vv,vk,vm,vn] 46 (0,0)) (x:=x) hbD9
      simp only[List.cons_append] at*
      rw[es9]
      refine ko @zC_ ?_
      refine Cw.permL (M:=(bd, .cells #[vL',vI',vq,vv,v9,vm,vn] 46 (0,0)):: (b6, .cells (zm_ c).toArray 59 (0,0)):: (b7, .cells #[vi ok,vs ot] 35 (0,0)):: (Q++ (V++ (D9++ (K++ [(bb, .cells (zm_ c).toArray 59 (0,0))]))))) (by classical exact List.perm_iff_count.2 fun a=>by simp only[List.count_append,List.count_cons,List.count_nil]<;>omega) ?_
      refine Cw.regionG [bd,b6] [10] 11 (by kernel_rfl) rfl ?_
      simp only[List.replicate_succ,List.replicate_zero]
      refine OwG.run [0,1,2,3,4,5,6] [true,true,true,true,true,true,true,false,false,false,false] 4 rfl (by kernel_rfl) (by kernel_rfl) fun k hk=> ?_
      simp only[zh_, ↓zc_, ↓za_, ↓zk_, ↓zj_,zb_]
      simp(disch:=(first|assumption|omega| (simp only[qF_,qC_,UInt64.reduceToNat];try omega))) only[↓Sx.S0,Sx.S1,Tryz.fx,zC_,Nat.reduceAdd,Nat.reducePow,Int.reducePow,Nat.reduceBEq, ↓reduceIte,UInt8.reduceToNat,UInt16.reduceToNat,UInt32.reduceToNat,UInt64.reduceToNat,Int.reduceToNat,Md.next_sofnil,Md.next_sofnil]
      (with_reducible refine hk _ _ _ ?_);clear hk k
      refine OwG.one 7 _ (by kernel_rfl) rfl ?_
      obtain⟨Xn,hXn,hGn⟩:=hA.n
      refine Ow.callC rfl rfl Tryz.call73 (fun w' hw'=>kO_ vn (jL_ Wj.lk) c.id w' (hGn.slM (z:=id0) (fun b o hm=>hw'.has b o (by have:=hXn _ hm;simp[this])) rfl rfl z0_) (by have:=xf_ (Wj.lk.map ChildL.id);rw[List.length_map] at this;show(xr_ (Wj.lk.map ChildL.id)).length<_;omega)) (fun B8 v8 D8 hA8 hB8 hN8 hS8=> ?_)
      have hN8':=hN8.mono hB8
      have hS9:=hS8.gri (K:=K) ⟨Xn,hXn,hGn⟩
      have st8:=s7_6 vL' vI' vq vv v9 vm vn v8 46 (kh_ hS9)
      with_reducible refine Ow.nil ?_
      refine⟨(zq_ (fun r hr=>by simp only[List.mem_cons,List.not_mem_nil,or_false] at hr;rcases hr with rfl|rfl<;>simp[keys])), ?_⟩
      simp only[List.set_cons_zero,List.set_cons_succ,zl_,zy_,zz_]
      refine OwG.rest [8,9,10] rfl (by kernel_rfl) (by kernel_rfl) ?_
      simp only[zh_, ↓zc_, ↓za_, ↓zk_, ↓zj_,zb_]
      refine kq @zC_ ?_
      refine Ow.store rfl rfl rfl (ke (And.intro @zC_ @st8)) ?_
      refine ko @zC_ ?_
      first|with_reducible refine ks [] @zC_ ?_|refine kp @zC_ ?_
      have hN0:=hno hfn
      refine Again.mk ⟨jz+1,_⟩ (by show W.lk.length - (jz+1)<W.lk.length - jz;omega) ⟨hlt, ?_,hE.trans2 ((hA.ext2 (a:= .cells #[vL',vI',vq,vv,v9,vm,v8] 46 (0,0)) (K':=K++ ([(bb, .cells (zm_ c).toArray 59 (0,0)),(b6, .cells (zm_ c).toArray 59 (0,0)),(b7, .cells #[vi ok,vs ot] 35 (0,0))]++D8)) (fun x h=>h) (fun x h=> .inl h) (fun x h=>h) (fun x h=> .inl h) hk19 (fun x h=>(hk29 x h).imp id fun h=>by omega) (fun x h=>by rw[zd_];exact List.mem_append_left _ h) (fun x h=>by rw[zd_,zd_,List.mem_append,List.mem_append] at h;exact h.imp id fun h=>h.elim (fun h=>by simp[keys] at h;omega) (hN8'.le x))).perm (by classical exact List.perm_iff_count.2 fun a=>by simp only[List.count_append,List.count_cons,List.count_nil]<;>omega))⟩ rfl rfl
      show DwR bd b3 vL' vI' (q0_ (j5_ l) W (jz+1)) vl W.lk _
      rw[hN0]
      refine⟨vq,vv,v9,vm,v8,Q,V,D9,K++ ([(bb, .cells (zm_ c).toArray 59 (0,0)),(b6, .cells (zm_ c).toArray 59 (0,0)),(b7, .cells #[vi ok,vs ot] 35 (0,0))]++D8),⟨(by classical exact List.perm_iff_count.2 fun a=>by simp only[List.count_append,List.count_cons,List.count_nil]<;>omega),hA.q,hA.v,by simpa [List.map_append] using hG9,hA.m.mono fun p hp=>List.mem_append_left _ hp, ?_⟩,⟨K0,fun p hp=>List.mem_append_left _ (hK0 p hp),hG0⟩,List.mem_append_left _ hb3K⟩
      show GrI _ _ 32 v8 (jL_ (Wj.lk++ [c])).length ((jL_ (Wj.lk++ [c])).map z4_).flatten
      rw[wa_]
      exact hS9.mono fun p hp=>by rw[List.mem_append] at hp;rcases hp with h|h<;>simp[h]
  intro g j hg
  refine kv ?_
  have hfn:zS_ (j5_ l) c=true:=hg
  refine Cw.permL (M:= []++ ((bd, .cells #[vL',vI',vq,vv,vk,vm,vn] 46 (0,0)):: (b6, .cells (zm_ c).toArray 59 (0,0)):: (b7, .cells #[vi ok,vs ot] 35 (0,0)):: (Q++ (V++ (M++ (K++ [])))))) (by classical exact List.perm_iff_count.2 fun a=>by simp only[List.count_append,List.count_cons,List.count_nil]<;>omega) ?_
  first|with_reducible refine ks [] @zC_ ?_|refine kp @zC_ ?_
  refine Cw.loopG (G:=MkAvG) [76,77,78,79,80,81,82,85,86,87,88,89,90,91,92,93,94,95,96,97,98,99,100,101,102,103,9,83,84,10] (fun a=> [(9,a.v),(10,vi a.k)]) (fun a=>a.D++ ((bd, .cells #[vL',vI',vq,vv,vk,vm,vn] 46 (0,0)):: (b6, .cells (zm_ c).toArray 59 (0,0)):: (b7, .cells #[vi ok,vs ot] 35 (0,0)):: (Q++ (V++ (M++ (K++a.G)))))) (fun a=>a.k≤Wj.vis.length∧Gr a.D 59 33 a.v ((Wj.vis.take a.k).filter fun x=>decide (x≠c)).length (((Wj.vis.take a.k).filter fun x=>decide (x≠c)).map zm_).flatten∧New w.heap.size a.D∧New w.heap.size a.G) (fun a=>Wj.vis.length - a.k) ⟨0, .slice none 0 0,[],[]⟩ rfl rfl ?_ ?_
  ·exact⟨Nat.zero_le _,Gr.nl,trivial,trivial⟩
  intro a ja ha
  refine kv ?_
  obtain⟨k,v,D,G⟩:=a
  simp only at ha ⊢
  obtain⟨hk1,hGD,hND,hNG⟩:=ha
  refine Cw.world fun wz hwz=> ?_
  have hnk:=hwz.nodup
  clear hwz wz
  have rbd:zv_ w (D++ ((bd, .cells #[vL',vI',vq,vv,vk,vm,vn] 46 (0,0)):: (b6, .cells (zm_ c).toArray 59 (0,0)):: (b7, .cells #[vi ok,vs ot] 35 (0,0)):: (Q++ (V++ (M++ (K++G)))))) bd=some (.cells #[vL',vI',vq,vv,vk,vm,vn] 46 (0,0)):=jb_ hnk (by simp)
  have rb6:zv_ w (D++ ((bd, .cells #[vL',vI',vq,vv,vk,vm,vn] 46 (0,0)):: (b6, .cells (zm_ c).toArray 59 (0,0)):: (b7, .cells #[vi ok,vs ot] 35 (0,0)):: (Q++ (V++ (M++ (K++G)))))) b6=some (.cells (zm_ c).toArray 59 (0,0)):=jb_ hnk (by simp)
  have lnv:=fun x=>hA.v.len x
  by_cases hltk:k<Wj.vis.length
  ·obtain⟨bV,cV,restV,hvv,hlV⟩:=Go.Proofs.Gr.rows hA.v (show 0<Wj.vis.length by omega)
   have rV:zv_ w (D++ ((bd, .cells #[vL',vI',vq,vv,vk,vm,vn] 46 (0,0)):: (b6, .cells (zm_ c).toArray 59 (0,0)):: (b7, .cells #[vi ok,vs ot] 35 (0,0)):: (Q++ (V++ (M++ (K++G)))))) bV=some (Qe_ zm_ 59 restV Wj.vis):=jb_ hnk (by simp[zF_ hlV])
   have ixV: ∀a,zK_ (.sl (a,33)) vv (some (k:Int))=some (vp bV (k*33)):=fun a=>by
    rw[hvv,qn_ _ _ _ _ _ _ ⟨by omega,by omega⟩];simp
   have ldV:=vr_ (z:=chd0) (E:=59) (rest:=restV) zo_ k hltk
   have hts:=StP.take_snoc (z:=chd0) hltk
   have hbt: ((Wj.vis.take k).filter fun x=>decide (x≠c)).length≤W.vis.length:=by
    refine Nat.le_trans (List.length_filter_le _ _) ?_
    rw[List.length_take];omega
   have d1:decide ((k:Int)< (Wj.vis.length:Int))=true:=decide_eq_true (by omega)
   generalize Wj.vis.getD k chd0=y at*
   first|with_reducible refine ks [16] (And.intro @zC_ (And.intro @rbd (And.intro @lnv (@d1)))) ?_|refine kp (And.intro @zC_ (And.intro @rbd (And.intro @lnv (@d1)))) ?_
   refine Cw.regionS [bd,b6,bV] [0,1,2,4,3,5,6,7,8] [] (by kernel_rfl) (by kernel_rfl) (by kernel_rfl) ?_
   simp only[zh_, ↓zc_, ↓za_, ↓zk_, ↓zj_,zb_]
   refine kq (And.intro @zC_ (And.intro @rbd (And.intro @ixV (And.intro @rV (And.intro @ldV (@rb6)))))) ?_
   by_cases hyc:y=c
   ·have hd: (!decide (y=c))=false:=by rw[decide_eq_true hyc];rfl
    first|with_reducible refine ks [16] (And.intro @zC_ @hd) ?_|refine kp (And.intro @zC_ @hd) ?_
    first|with_reducible refine ks [] @zC_ ?_|refine kp @zC_ ?_
    refine Again.mk ⟨k+1,v,D,G⟩ (by show Wj.vis.length - (k+1)<Wj.vis.length - k;omega) ⟨hltk, ?_,hND,hNG⟩ rfl rfl
    show Gr D _ 33 v ((Wj.vis.take (k+1)).filter fun x=>decide (x≠c)).length _
    rw[hts,List.filter_append,show [y].filter (fun x=>decide (x≠c))= [] by simp[hyc],List.append_nil]
    exact hGD
   ·have hd: (!decide (y=c))=true:=by rw[decide_eq_false hyc];rfl
    first|with_reducible refine ks [16] (And.intro @zC_ (And.intro @hd (And.intro @rbd (And.intro @ixV (And.intro @rV (@ldV)))))) ?_|refine kp (And.intro @zC_ (And.intro @hd (And.intro @rbd (And.intro @ixV (And.intro @rV (@ldV)))))) ?_
    refine Ow.buildSlice (e:=59) (zm_ y).toArray rfl rfl (jw_ y) fun ba hba hwa=> ?_
    refine ko @zC_ ?_
    refine Ow.appendXG (e:=59) (k:=1) (new:=zm_ y) (X:=D) v (List.append_assoc _ _ _) rfl rfl rfl Tryz.underlying44 q1_ (by kernel_rfl) jF_ (by rw[zG_,List.size_toArray,zo_]) Tryz.underlying44 (by intro k h;cases h) hGD (fun w' hw'=>AppX.one1 (hw'.has ba (.cells (zm_ y).toArray 59 (0,0)) (by simp)) (zo_ _) (qe_ _)) (by omega) (fun B9 v9 D9 hA9 hB9 hG9 hk19 hk29 hlk9=> ?_)
    have hN9:New w.heap.size D9:=New.of_le fun q hq=>by
     rcases hk29 q hq with h|h
     ·exact hND.le q h
     ·omega
    refine ko @zC_ ?_
    first|with_reducible refine ks [16] @zC_ ?_|refine kp @zC_ ?_
    refine Cw.permL (M:=D9++ ((bd, .cells #[vL',vI',vq,vv,vk,vm,vn] 46 (0,0)):: (b6, .cells (zm_ c).toArray 59 (0,0)):: (b7, .cells #[vi ok,vs ot] 35 (0,0)):: (Q++ (V++ (M++ (K++ (G++ [(ba, .cells (zm_ y).toArray 59 (0,0))]))))))) (by classical exact List.perm_iff_count.2 fun a=>by simp only[List.count_append,List.count_cons,List.count_nil]<;>omega) ?_
    first|with_reducible refine ks [] @zC_ ?_|refine kp @zC_ ?_
    refine Again.mk ⟨k+1,v9,D9,G++ [(ba, .cells (zm_ y).toArray 59 (0,0))]⟩ (by show Wj.vis.length - (k+1)<Wj.vis.length - k;omega) ⟨hltk, ?_,hN9,hNG.app ⟨hwa,trivial⟩⟩ rfl rfl
    show Gr D9 _ 33 v9 ((Wj.vis.take (k+1)).filter fun x=>decide (x≠c)).length _
    rw[hts,List.filter_append,show [y].filter (fun x=>decide (x≠c))= [y] by simp[hyc]]
    simpa [List.map_append] using hG9
  ·obtain rfl:k=Wj.vis.length:=by omega
   rw[List.take_length] at hGD
   have d1:decide ((Wj.vis.length:Int)< (Wj.vis.length:Int))=false:=by simp
   have hbt: (Wj.vis.filter fun x=>decide (x≠c)).length≤W.vis.length:=Nat.le_trans (List.length_filter_le _ _) hbv
   have hnQ:b6∉keys Q:=hn6.1
   have st3:=s7_3 vL' vI' vq vv vk vm vn v 46 hGD.cell
   have hbD0:bd∉keys D:=by
    have:=hnk
    rw[zd_,List.nodup_append] at this
    exact fun h=>this.2.2 _ h _ (by simp[keys]) rfl
   have lk3:=fun Y=>zu_ (D:=D) (Y:=Y) (o:= .cells #[vL',vI',vq,vv,vk,vm,vn] 46 (0,0)) hbD0
   have es3:=fun Y x=>q6_ (D:=D) (Y:=Y) (o:= .cells #[vL',vI',vq,vv,vk,vm,vn] 46 (0,0)) (x:=x) hbD0
   first|with_reducible refine ks [] (And.intro @zC_ (And.intro @rbd (And.intro @lnv (And.intro @d1 (And.intro @lk3 (And.intro @st3 (And.intro @es3 (@wD_)))))))) ?_|refine kp (And.intro @zC_ (And.intro @rbd (And.intro @lnv (And.intro @d1 (And.intro @lk3 (And.intro @st3 (And.intro @es3 (@wD_)))))))) ?_
   refine Cw.permL (M:=Q++ ((bd, .cells #[vL',vI',vq,v,vk,vm,vn] 46 (0,0)):: (b6, .cells (zm_ c).toArray 59 (0,0)):: (b7, .cells #[vi ok,vs ot] 35 (0,0)):: (D++ (V++ (M++ (K++G)))))) (by classical exact List.perm_iff_count.2 fun a=>by simp only[List.count_append,List.count_cons,List.count_nil]<;>omega) ?_
   have rbq:=fun Y=>zg_ (w0:=w) (zu_ (D:=Q) (Y:=Y) (o:= .cells #[vL',vI',vq,v,vk,vm,vn] 46 (0,0)) hn1)
   have rb6q:=fun Y=>zg_ (w0:=w) (zD_ (D:=Q) (Y:=Y) (o:= .cells #[vL',vI',vq,v,vk,vm,vn] 46 (0,0)) (x:= .cells (zm_ c).toArray 59 (0,0)) hnQ (show bd≠b6 by omega))
   refine Cw.regionG [bd,b6] [10] 11 (by kernel_rfl) rfl ?_
   simp only[List.replicate_succ,List.replicate_zero]
   refine OwG.run [0,1,2,3,4,5] [true,true,true,true,true,true,false,false,false,false,false] 5 rfl (by kernel_rfl) (by kernel_rfl) fun k hk=> ?_
   simp only[zh_, ↓zc_, ↓za_, ↓zk_, ↓zj_,zb_]
   simp(disch:=(first|assumption|omega| (simp only[qF_,qC_,UInt64.reduceToNat];try omega))) only[↓Sx.S0,Sx.S1,Tryz.fx,zC_,Nat.reduceAdd,Nat.reducePow,Int.reducePow,Nat.reduceBEq, ↓reduceIte,UInt8.reduceToNat,UInt16.reduceToNat,UInt32.reduceToNat,UInt64.reduceToNat,Int.reduceToNat,Md.next_sofnil,rbq,rb6q]
   (with_reducible refine hk _ _ _ ?_);clear hk k
   refine OwG.one 6 _ (by kernel_rfl) rfl ?_
   refine Ow.buildSlice (e:=59) (zm_ c).toArray rfl rfl (jw_ c) fun ba hba hwa=> ?_
   with_reducible refine Ow.nil ?_
   refine⟨(zq_ (fun r hr=>by simp only[List.mem_cons,List.not_mem_nil,or_false] at hr;rcases hr with rfl|rfl<;>simp[keys])), ?_⟩
   simp only[List.set_cons_zero,List.set_cons_succ,zl_,zy_,zz_]
   refine OwG.one 7 _ (by kernel_rfl) rfl ?_
   refine Ow.appendQ (e:=59) (k:=1) (new:=zm_ c) (X:=Q) vq (List.append_assoc _ _ _) rfl rfl rfl Tryz.underlying44 q1_ (by kernel_rfl) jF_ (by rw[zG_,List.size_toArray,zo_]) Tryz.underlying44 (by intro k h;cases h) hA.q (fun w' hw'=>AppX.one1 (hw'.has ba (.cells (zm_ c).toArray 59 (0,0)) (by simp)) (zo_ _) (qe_ _)) (by omega) (fun B5 v5 D5 hA5 hB5 hG5 hk15 hk25 hlk5=> ?_)
   have hbD:bd∉keys D5:=qq_ hA5 (by simp[keys]) hn1 hk25
   have h6D:b6∉keys D5:=qq_ hA5 (by simp[keys]) hnQ hk25
   have lD5:=fun Y=>zu_ (D:=D5) (Y:=Y) (o:= .cells #[vL',vI',vq,v,vk,vm,vn] 46 (0,0)) hbD
   have st5:=s7_2 vL' vI' vq v vk vm vn v5 46 hG5.cell
   with_reducible refine Ow.nil ?_
   refine⟨(fun r hr=>by simp only[List.mem_cons,List.not_mem_nil,or_false] at hr;rcases hr with rfl|rfl;exact(zg_ (zu_ hbD)).trans (zg_ (zp_ (zu_ hn1))).symm;exact(zg_ (zD_ h6D (by omega))).trans (zg_ (zp_ (zD_ hnQ (by omega)))).symm), ?_⟩
   simp only[List.set_cons_zero,List.set_cons_succ,zl_,zy_,zz_]
   refine OwG.rest [8,9,10] rfl (by kernel_rfl) (by kernel_rfl) ?_
   simp only[zh_, ↓zc_, ↓za_, ↓zk_, ↓zj_,zb_]
   refine kq @zC_ ?_
   refine Ow.store rfl rfl rfl (ke (And.intro @zC_ (And.intro @lD5 (@st5)))) ?_
   have es5:=fun Y x=>q6_ (D:=D5) (Y:=Y) (o:= .cells #[vL',vI',vq,v,vk,vm,vn] 46 (0,0)) (x:=x) hbD
   simp only[List.cons_append] at*
   rw[es5]
   refine ko @zC_ ?_
   first|with_reducible refine ks [] @zC_ ?_|refine kp @zC_ ?_
   have hN0:=hyes hfn
   have hE5:Ext w X' ((bd, .cells #[vL',vI',v5,v,vk,vm,vn] 46 (0,0)):: (D5++ (D++ (M++ (K++ (V++ (G++ [(ba, .cells (zm_ c).toArray 59 (0,0)),(b6, .cells (zm_ c).toArray 59 (0,0)),(b7, .cells #[vi ok,vs ot] 35 (0,0))]))))))):=by
    refine⟨fun x hx=> ?_,fun x hx=> ?_⟩
    ·simp only[keys,List.map_cons,List.map_append,List.map_nil,List.mem_cons,List.mem_append,List.not_mem_nil,or_false] at hx
     rcases hx with h|h|h|h|h|h|h|h|h|h
     ·exact .inl ((hkX x).2 (.inl h))
     ·exact(hk25 x h).imp (fun h=>(hkX x).2 (.inr (.inl h))) fun h=>by omega
     ·exact .inr (hND.le x h)
     ·exact .inl ((hkX x).2 (.inr (.inr (.inr (.inl h)))))
     ·exact .inl ((hkX x).2 (.inr (.inr (.inr (.inr h)))))
     ·exact .inl ((hkX x).2 (.inr (.inr (.inl h))))
     ·exact .inr (hNG.le x h)
     ·exact .inr (by omega)
     ·exact .inr (by omega)
     ·exact .inr (by omega)
    ·have hk15x:=hk15 x
     simp only[keys,List.map_cons,List.map_append,List.mem_cons,List.mem_append]
     rcases(hkX x).1 hx with h|h|h|h|h
     ·exact .inl h
     ·exact .inr (.inl (hk15x h))
     ·exact .inr (.inr (.inr (.inr (.inr (.inl h)))))
     ·exact .inr (.inr (.inr (.inl h)))
     ·exact .inr (.inr (.inr (.inr (.inl h))))
   refine Again.mk ⟨jz+1,_⟩ (by show W.lk.length - (jz+1)<W.lk.length - jz;omega) ⟨hlt, ?_,hE.trans2 (hE5.perm (by classical exact List.perm_iff_count.2 fun a=>by simp only[List.count_append,List.count_cons,List.count_nil]<;>omega))⟩ rfl rfl
   show DwR bd b3 vL' vI' (q0_ (j5_ l) W (jz+1)) vl W.lk _
   rw[hN0]
   exact⟨v5,v,vk,vm,vn,D5,D,M,K++ (V++ (G++ [(ba, .cells (zm_ c).toArray 59 (0,0)),(b6, .cells (zm_ c).toArray 59 (0,0)),(b7, .cells #[vi ok,vs ot] 35 (0,0))])),⟨(by classical exact List.perm_iff_count.2 fun a=>by simp only[List.count_append,List.count_cons,List.count_nil]<;>omega),by simpa [List.map_append] using hG5,hGD,hA.l,hA.m.mono fun p hp=>List.mem_append_left _ hp,hA.n.mono fun p hp=>List.mem_append_left _ hp⟩,⟨K0,fun p hp=>List.mem_append_left _ (hK0 p hp),hG0⟩,List.mem_append_left _ hb3K⟩
 ·obtain rfl:jz=W.lk.length:=by omega
  have d0:decide ((W.lk.length:Int)< (W.lk.length:Int))=false:=by simp
  first|with_reducible refine ks [] (And.intro @zC_ (And.intro @lnl (@d0))) ?_|refine kp (And.intro @zC_ (And.intro @lnl (@d0))) ?_
  refine⟨_,(ke @zC_), ?_⟩
  rw[KF_] at hR
  obtain⟨vq,vv,vk,vm,vn,Q,V,M,K,hA,-,-⟩:=hR
  exact⟨hE,rfl,vq,vv,vk,vm,vn,Q,V,M,K,hA⟩
end Go.Proofs
end
section
open Go Go.Proofs Go.Sx Go.StP Go.RooP
namespace Go.Proofs
set_option maxRecDepth 10000
set_option maxHeartbeats 400000
set_option linter.unusedSimpArgs false
theorem agT_ (l m:List ObK):MoreS (ZL_ l) (ZL_ (l++m)):=fun i h=>by
 unfold ZL_ at h ⊢
 rw[List.filter_append,List.find?_append]
 cases hf: (l.filter rdK).find? (fun o=>decide (idK o=i)) with
 |none=>rw[hf] at h;cases h
 |some o=>rfl
theorem adj_ {s:jg_} {r:List IdL} {W:WkS} (hI:WkI s r W) (hn:W.lk.Nodup): ∀ (q:List ChildL),(stepQ s W q).2.lk.Nodup
 | []=>hn
 |c::q=>by
  unfold stepQ
  split
  ·exact adj_ hI hn q
  ·rename_i hc
   unfold jk_
   split
   ·split
    ·exact hn
    ·exact hn
   ·show(W.lk++ [c]).Nodup
    rw[List.nodup_append]
    refine⟨hn,by simp,fun a ha b hb=> ?_⟩
    rw[List.mem_singleton] at hb
    subst hb
    rintro rfl
    exact hc (hI.lk _ ha).1
structure WkD (s:jg_) (ids r:List IdL) (n:Nat) (W:WkS):Prop where
 N:WkN s ids r n W
 d:W.lk.Nodup
theorem WkD.new {s:jg_} {ids:List IdL} (r:List IdL) (h: ∀i,(s i).2=true→i∈ids):WkD s ids r r.length (newK r):=⟨WkN.new r h,by
 show(newK r).lk.Nodup
 unfold newK wr_ Zy_
 exact List.nodup_nil⟩
theorem WkD.step {s:jg_} {ids r:List IdL} {n:Nat} {W:WkS} (h:WkD s ids r n W):WkD s ids r n (xy_ s W).2:=⟨h.N.step,adj_ h.N.I h.d _⟩
theorem WkD.again {s s':jg_} {ids ids' r:List IdL} {n:Nat} {W:WkS} (h:WkD s ids r n W) (hm:MoreS s s') (hi: ∀i,(s' i).2=true→i∈ids'):WkD s' ids' r (n+W.lk.length) (Ja_ s' W):=by
 have hI:=h.N.I.again hm
 refine⟨⟨hI,⟨?_, ?_⟩,hi⟩,h.d.filter _⟩
 ·have h1:=h.N.B.q
  have h2:=List.length_filter_le (zS_ s') W.lk
  show(W.q++W.lk.filter (zS_ s')).length≤n+W.lk.length+40*W.ms.length
  rw[List.length_append];omega
 ·exact KO_ (h.d.filter _) fun c hc=>(hI.lk c hc).1
end Go.Proofs
end
section
open Go Go.Proofs Go.Sx Go.StP Go.RooP
namespace Go.Proofs
set_option maxRecDepth 10000
set_option maxHeartbeats 400000
set_option linter.unusedSimpArgs false
set_option linter.defProp false
def Qc_:=And.intro (And.intro (And.intro (And.intro (@qw_) (@qg_)) (And.intro (@qf_) (And.intro (@qd_) (@ke_)))) (And.intro (And.intro (@Sx.tup2_0) (And.intro (@Sx.tup2_1) (@zJ_))) (And.intro (@zI_) (And.intro (@kp_) (@xM_))))) (And.intro (And.intro (And.intro (@xe_) (@j7_)) (And.intro (@zG_) (And.intro (@jG_) (@l7_0)))) (And.intro (And.intro (@l7_2) (And.intro (@l7_3) (@l7_4))) (And.intro (@l7_5) (And.intro (@l7_6) (@aak_)))))
theorem aht_ (bd:Nat) (vL vI:Value) (W:WkS) (v:Value) (l:List IdL) (X:zi_) (w:World) (hX: ∀p,p∈X→w.heap[p.1]? =some p.2) (hn: (keys X).Nodup) (hP:DwP bd vL vI W X) (hR:RowX 32 z4_ id0 w v l X)
  (hb1:W.q.length<10000000) (hl:l.length<1000000):
  Rets Tryz.prog 22 #[vp bd 0,v] w (XS w X (fun v D=>v= .tuple #[]∧DwP bd vL vI (wr_ W l) D)):=by
 obtain⟨rb,off,arr,E,fz,hr,hrb⟩:=hR
 have lnv:=fun x=>hr.len x
 refine Rets.enterX Tryz.func22 rfl (rs:= []) Tryz.results22 Tryz.ntmps22 hX hn ?_
 refine kf ?_
 first|with_reducible refine ks [] @Qc_ ?_|refine kp @Qc_ ?_
 refine Cw.loopG (G:=MkAdG) [5,6,7,8,11,12,13,14,15,16,17,18,19,20,21,22,23,24,9,10,4] (fun g=> [(4,vi g.i)]) (fun g=>g.X) (fun g=>g.i≤l.length∧DwP bd vL vI (wr_ W (l.take g.i)) g.X∧Ext w X g.X) (fun g=>l.length - g.i) ⟨0,X⟩ rfl rfl ?_ ?_
 ·refine⟨Nat.zero_le _, ?_,Ext.refl _ _⟩
  have:wr_ W (l.take 0)=W:=by unfold wr_;simp
  rw[this];exact hP
 intro g j hg
 refine kv ?_
 clear hP hX hn
 obtain⟨i,X'⟩:=g
 simp only at hg ⊢
 obtain⟨hi,hP,hE⟩:=hg
 by_cases hlt:i<l.length
 ·refine Cw.world fun wz hwz=> ?_
  have hnX:=hwz.nodup
  clear hwz wz
  obtain⟨vq,vv,vl,vm,vn,Q,V,M,K,hA⟩:=hP
  obtain⟨hn1,hn2,hn3,hn4⟩:=hA.ne hnX
  have hkX:=hA.keysX
  have hrl:=hr.lt (by omega)
  have hrn:rb∉keys X':=hE.not hrl (hrb (by omega))
  have rd: ∀L:zi_,(∀c,c∈keys L→c∈keys X'∨w.heap.size≤c)→zv_ w L rb=some (.cells arr E fz):=fun L hL=>by
   rw[qD_ (fun hm=>by rcases hL _ hm with h|h;exact hrn h;omega)];exact hr.has (by omega)
  have ix:=hr.idx true i hlt
  have ld:=JU_ hr hlt
  have hts:wr_ W (l.take (i+1))={wr_ W (l.take i) with q:=(wr_ W (l.take i)).q++ [⟨l.getD i id0,0⟩]}:=by
   rw[StP.take_snoc (z:=id0) hlt]
   unfold wr_
   simp
  have hql: (wr_ W (l.take i)).q.length<20000000:=by
   unfold wr_
   simp only[List.length_append,List.length_map,List.length_take]
   omega
  have hd0:decide ((i:Int)< (l.length:Int))=true:=decide_eq_true (by omega)
  generalize hx:l.getD i id0=x at*
  have hxh:=x.h
  refine Cw.permL (M:=Q++ ((bd, .cells #[vL,vI,vq,vv,vl,vm,vn] 46 (0,0)):: (V++ (M++K)))) (((by classical exact List.perm_iff_count.2 fun a=>by simp only[List.count_append,List.count_cons,List.count_nil]<;>omega):List.Perm _ _).trans hA.perm.symm) ?_
  have hkQ: ∀D,(∀c,c∈keys D→c∈keys Q∨w.heap.size≤c)→ ∀Z,New w.heap.size Z→ ∀c,c∈keys (D++ ((bd,Obj.cells #[vL,vI,vq,vv,vl,vm,vn] 46 (0,0)):: (V++ (M++ (K++Z)))))→c∈keys X'∨w.heap.size≤c:=fun D hD Z hZ c hc=>by
   simp only[keys,List.map_append,List.map_cons,List.mem_append,List.mem_cons] at hc
   rcases hc with h|h|h|h|h|h
   ·exact(hD c h).imp (fun h=>(hkX c).2 (.inr (.inl h))) id
   ·exact .inl ((hkX c).2 (.inl h))
   ·exact .inl ((hkX c).2 (.inr (.inr (.inl h))))
   ·exact .inl ((hkX c).2 (.inr (.inr (.inr (.inl h)))))
   ·exact .inl ((hkX c).2 (.inr (.inr (.inr (.inr h)))))
   ·exact .inr (hZ.le c h)
  have rd0:=rd _ (hkQ Q (fun c h=> .inl h) [] trivial)
  simp only[List.append_nil] at rd0
  have rbd:=fun Y=>zg_ (w0:=w) (zu_ (D:=Q) (Y:=Y) (o:= .cells #[vL,vI,vq,vv,vl,vm,vn] 46 (0,0)) hn1)
  have bdc:=Qt_ ⟨x,0⟩
  first|with_reducible refine ks [2] (And.intro @Qc_ (And.intro @hd0 (@lnv))) ?_|refine kp (And.intro @Qc_ (And.intro @hd0 (@lnv))) ?_
  refine Cw.regionG [bd,rb] [14] 15 (by kernel_rfl) rfl ?_
  simp only[List.replicate_succ,List.replicate_zero]
  refine OwG.run [0,1,2,3,4,5,6,7,8] [true,true,true,true,true,true,true,true,true,false,false,false,false,false,false] 6 rfl (by kernel_rfl) (by kernel_rfl) fun k hk=> ?_
  simp only[zh_, ↓zc_, ↓za_, ↓zk_, ↓zj_,zb_]
  simp(disch:=(first|assumption|omega| (simp only[qF_,qC_,UInt64.reduceToNat];try omega))) only[↓Sx.S0,Sx.S1,Tryz.fx,Qc_,Nat.reduceAdd,Nat.reducePow,Int.reducePow,Nat.reduceBEq, ↓reduceIte,UInt8.reduceToNat,UInt16.reduceToNat,UInt32.reduceToNat,UInt64.reduceToNat,Int.reduceToNat,Md.next_sofnil,rbd,ix,rd0,ld]
  (with_reducible refine hk _ _ _ ?_);clear hk k
  refine OwG.one 9 _ (by kernel_rfl) rfl ?_
  refine Ow.build (.agg (zm_ ⟨x,0⟩).toArray) rfl bdc ?_
  with_reducible refine Ow.nil ?_
  refine⟨(fun r hr=>rfl), ?_⟩
  simp only[List.set_cons_zero,List.set_cons_succ,zl_,zy_,zz_]
  refine OwG.one 10 _ (by kernel_rfl) rfl ?_
  refine Ow.buildSlice (e:=59) (zm_ ⟨x,0⟩).toArray rfl rfl (jw_ ⟨x,0⟩) fun ba hba hwa=> ?_
  have hNa:New w.heap.size [(ba,Obj.cells (zm_ ⟨x,0⟩).toArray 59 (0,0))]:=⟨hwa,trivial⟩
  have rd1:=rd _ (hkQ Q (fun c h=> .inl h) [(ba,Obj.cells (zm_ ⟨x,0⟩).toArray 59 (0,0))] hNa)
  with_reducible refine Ow.nil ?_
  refine⟨(fun r hr=>by simp only[List.mem_cons,List.not_mem_nil,or_false] at hr;rcases hr with rfl|rfl;exact(j8_ (by simp[keys]));simp only[List.append_assoc,List.cons_append] at*;exact rd1.trans rd0.symm), ?_⟩
  simp only[List.set_cons_zero,List.set_cons_succ,zl_,zy_,zz_]
  refine OwG.one 11 _ (by kernel_rfl) rfl ?_
  refine Ow.appendQ (e:=59) (k:=1) (new:=zm_ ⟨x,0⟩) (X:=Q) vq (List.append_assoc _ _ _) rfl rfl rfl Tryz.underlying44 q1_ (by kernel_rfl) jF_ (by rw[zG_,List.size_toArray,zo_]) Tryz.underlying44 (by intro k h;cases h) hA.q (fun w' hw'=>AppX.one1 (hw'.has ba (.cells (zm_ ⟨x,0⟩).toArray 59 (0,0)) (by simp)) (zo_ _) (qe_ _)) (by omega) (fun B7 v7 D7 hA7 hB7 hG7 hk17 hk27 hlk7=> ?_)
  have hbD:bd∉keys D7:=qq_ hA7 (by simp[keys]) hn1 hk27
  have lD7:=fun Y=>zu_ (D:=D7) (Y:=Y) (o:= .cells #[vL,vI,vq,vv,vl,vm,vn] 46 (0,0)) hbD
  have st7:=s7_2 vL vI vq vv vl vm vn v7 46 hG7.cell
  have rd2:=rd _ (hkQ D7 (fun c h=>(hk27 c h).imp id fun h=>by omega) [(ba,Obj.cells (zm_ ⟨x,0⟩).toArray 59 (0,0))] hNa)
  with_reducible refine Ow.nil ?_
  refine⟨(fun r hr=>by simp only[List.mem_cons,List.not_mem_nil,or_false] at hr;rcases hr with rfl|rfl;exact(zg_ (zu_ hbD)).trans (zg_ (zp_ (zu_ hn1))).symm;simp only[List.append_assoc,List.cons_append] at*;exact rd2.trans rd1.symm), ?_⟩
  simp only[List.set_cons_zero,List.set_cons_succ,zl_,zy_,zz_]
  refine OwG.rest [12,13,14] rfl (by kernel_rfl) (by kernel_rfl) ?_
  simp only[zh_, ↓zc_, ↓za_, ↓zk_, ↓zj_,zb_]
  refine kq @Qc_ ?_
  refine Ow.store rfl rfl rfl (ke (And.intro @Qc_ (And.intro @lD7 (@st7)))) ?_
  have es:=fun Y x=>q6_ (D:=D7) (Y:=Y) (o:= .cells #[vL,vI,vq,vv,vl,vm,vn] 46 (0,0)) (x:=x) hbD
  simp only[List.cons_append,List.append_assoc] at*
  rw[es]
  refine ko @Qc_ ?_
  first|with_reducible refine ks [] @Qc_ ?_|refine kp @Qc_ ?_
  refine Again.mk ⟨i+1,_⟩ (by show l.length - (i+1)<l.length - i;omega) ⟨hlt, ?_, ?_⟩ rfl rfl
  ·show DwP bd vL vI (wr_ W (l.take (i+1))) _
   rw[hts]
   refine⟨v7,vv,vl,vm,vn,D7,V,M,K++ [(ba, .cells (zm_ ⟨x,0⟩).toArray 59 (0,0))],⟨(by classical exact List.perm_iff_count.2 fun a=>by simp only[List.count_append,List.count_cons,List.count_nil]<;>omega), ?_,hA.v,hA.l,hA.m.mono fun p hp=>List.mem_append_left _ hp,hA.n.mono fun p hp=>List.mem_append_left _ hp⟩⟩
   simpa [List.map_append] using hG7
  ·have h1:=(hA.ext2 (w:=w) (a:= .cells #[vL,vI,v7,vv,vl,vm,vn] 46 (0,0)) (K':=K++ [(ba, .cells (zm_ ⟨x,0⟩).toArray 59 (0,0))]) (fun x h=>hk17 x h) (fun x h=>(hk27 x h).imp id fun h=>by omega) (fun x h=>h) (fun x h=> .inl h) (fun x h=>h) (fun x h=> .inl h) (fun x h=>by rw[zd_];exact List.mem_append_left _ h) (fun x h=>by rw[zd_,List.mem_append] at h;exact h.imp id (hNa.le x))).perm (D':=D7++ ((bd, .cells #[vL,vI,v7,vv,vl,vm,vn] 46 (0,0)):: (V++ (M++ (K++ [(ba, .cells (zm_ ⟨x,0⟩).toArray 59 (0,0))]))))) (by classical exact List.perm_iff_count.2 fun a=>by simp only[List.count_append,List.count_cons,List.count_nil]<;>omega)
   exact hE.trans2 h1
 ·obtain rfl:i=l.length:=by omega
  rw[List.take_length] at hP
  have hd0:decide ((l.length:Int)< (l.length:Int))=false:=by simp
  first|with_reducible refine ks [] (And.intro @Qc_ (And.intro @hd0 (@lnv))) ?_|refine kp (And.intro @Qc_ (And.intro @hd0 (@lnv))) ?_
  refine⟨_,(ke @Qc_), ?_⟩
  exact⟨hE,rfl,hP⟩
theorem aiC_ (vL vI:Value):jn_ (wA_ Tryz.prog 46) (z8_ Tryz.prog 46) [(0, .agg #[vL,vI])]=some (.agg #[vL,vI, .slice none 0 0, .slice none 0 0, .slice none 0 0, .slice none 0 0, .slice none 0 0]):=by
 rw[show wA_ Tryz.prog 46=some [(0,2),(2,1),(3,1),(4,1),(5,1),(6,1)] from id (by kernel_rfl),show z8_ Tryz.prog 46=some (.agg #[.slice none 0 0, .slice none 0 0, .slice none 0 0, .slice none 0 0, .slice none 0 0, .slice none 0 0, .slice none 0 0]) from id (by kernel_rfl)]
 simp[jn_,Sx.fillV,ze_,xA_]
theorem amM_ (bd:Nat) (vL vI:Value):DwP bd vL vI Zy_ [(bd, .cells #[vL,vI, .slice none 0 0, .slice none 0 0, .slice none 0 0, .slice none 0 0, .slice none 0 0] 46 (0,0))]:=
 ⟨.slice none 0 0, .slice none 0 0, .slice none 0 0, .slice none 0 0, .slice none 0 0,[],[],[],[],⟨List.Perm.refl _, .nl,Gr.nl,Gr.nl,Gr.nl.i fun _ h=>h,Gr.nl.i fun _ h=>h⟩⟩
end Go.Proofs
end
section
open Go Go.Proofs Go.Sx Go.StP Go.RooP
namespace Go.Proofs
set_option maxRecDepth 10000
set_option maxHeartbeats 400000
set_option linter.unusedSimpArgs false
theorem amI_ (a b:ObK):eqD Tryz.prog 8 35 (obV a.k a.t) (obV b.k b.t)=some (decide (a=b)):=by
 have p0: ∀o:ObK,Sx.partV (false,1) #[vi o.k,vs o.t] 0=some (vi o.k):=fun _=>rfl
 have p1: ∀o:ObK,Sx.partV (false,1) #[vi o.k,vs o.t] 1=some (vs o.t):=fun _=>rfl
 have e1: ∀a b:Int,eqD Tryz.prog 7 3 (vi a) (vi b)=some (a==b):=fun a b=>by unfold eqD;rw[Tryz.underlying3];rfl
 have e2: ∀a b:List UInt8,eqD Tryz.prog 7 9 (vs a) (vs b)=some (a==b):=fun a b=>by
  unfold eqD;rw[Tryz.underlying9];simp only[vs,aao_]
 have a1:zU_ Tryz.prog 3=some (false,1):=id (by kernel_rfl)
 have a2:zU_ Tryz.prog 9=some (false,1):=id (by kernel_rfl)
 unfold eqD obV
 rw[Tryz.underlying35]
 simp only
 rw[show Tryz.prog.stoodInHeld 35=false by kernel_rfl]
 simp only[Bool.false_eq_true, ↓reduceIte,kW_,vj_,a1,a2,p0,p1,e1,e2]
 obtain⟨k,t⟩:=a
 obtain⟨k',t'⟩:=b
 have e:decide ((⟨k,t⟩:ObK)=⟨k',t'⟩)=((k==k')&& (t==t')):=by rw[Bool.eq_iff_iff];simp
 rw[e]
 cases(k==k')<;>cases(t==t')<;>rfl
theorem anS_ (a b:ObK):q9_ Tryz.prog .neq 35 (obV a.k a.t) (obV b.k b.t)=some (.bool (!decide (a=b))):=by
 have h:=amI_ a b
 unfold q9_ eqX obV at*;rw[show Tryz.prog.eqGuardType Tryz.prog.depth 35=false by kernel_rfl];simp[qX_,h]
def VX_ (l:List ObK):Bool:=decide (40<l.length) ||l.any fun o=>decide (2500<o.t.length)
theorem ag6_ {l:List ObK} (h:VX_ l=false):l.length≤40∧ ∀o,o∈l→o.t.length≤2500:=by
 unfold VX_ at h
 rw[Bool.or_eq_false_iff,decide_eq_false_iff_not,List.any_eq_false] at h
 exact⟨by omega,fun o ho=>by have:=h.2 o ho;simpa using this⟩
theorem ajR_ {w:World} {v:Value} {l:List ObK} {b off:Nat} {arr:Array Value} {E:TypeId} {fz:Nat×Nat} (h:RowS 2 kl_ jU_ w v l b off arr E fz) {k n:Nat} (hk:k<l.length):
  zA_ (some (false,n)) (some (.cells arr E fz)) (off+k*2+1)=some (vs (l.getD k jU_).t):=h.cell hk (by omega)
set_option linter.defProp false
def Z8_:=And.intro (@zJ_) (@zI_)
theorem aaM_ (v:Value) (l:List ObK) (w:World) (hv:RowX 2 kl_ jU_ w v l []):
  Rets Tryz.prog 14 #[v] w (fun v' D=>v'= .bool (VX_ l)∧D= []):=by
 obtain⟨rb,off,arr,E,fz,hr,-⟩:=hv
 have ln:=fun x=>hr.len x
 refine Rets.enterV Tryz.func14 rfl (rs:= [.tmp 2]) Tryz.results14 Tryz.ntmps14 ?_
 refine kf ?_
 unfold VX_
 by_cases h40:40<l.length
 ·have d1:decide ((40:Int)< (l.length:Int))=true:=decide_eq_true (by omega)
  rw[decide_eq_true h40]
  first|with_reducible refine ks [] (And.intro @Z8_ (And.intro @ln (@d1))) ?_|refine kp (And.intro @Z8_ (And.intro @ln (@d1))) ?_
  refine⟨_,(ke @Z8_),trivial, ?_⟩
  rfl
 ·have d1:decide ((40:Int)< (l.length:Int))=false:=decide_eq_false (by omega)
  rw[decide_eq_false h40,Bool.false_or]
  first|with_reducible refine ks [] (And.intro @Z8_ (And.intro @ln (@d1))) ?_|refine kp (And.intro @Z8_ (And.intro @ln (@d1))) ?_
  refine Cw.loopG (G:=Nat) [7,8,9,10,13,14,15,16,17,18,19,2,11,12,3] (fun g=> [(3,vi g)]) (fun g=> []) (fun g=>g≤l.length∧(l.take g).any (fun o=>decide (2500<o.t.length))=false) (fun g=>l.length - g) 0 rfl rfl ?_ ?_
  ·exact⟨Nat.zero_le _,rfl⟩
  intro k jk hk
  refine kv ?_
  obtain⟨h1,h2⟩:=hk
  by_cases hk:k<l.length
  ·have hd0:decide ((k:Int)< (l.length:Int))=true:=decide_eq_true (by omega)
   have ix:=hr.idx true k hk
   have ld:=fun n=>ajR_ (n:=n) hr hk
   have rd:=hr.has (by omega)
   have hts:=StP.take_snoc (z:=jU_) hk
   have hm:l.getD k jU_∈l:=by rw[List.getD_eq_getElem?_getD,List.getElem?_eq_getElem hk];exact List.getElem_mem _
   generalize l.getD k jU_=o at*
   by_cases h25:2500<o.t.length
   ·have d2:decide ((2500:Int)< (o.t.length:Int))=true:=decide_eq_true (by omega)
    have e:l.any (fun o=>decide (2500<o.t.length))=true:=List.any_eq_true.2 ⟨o,hm,decide_eq_true h25⟩
    rw[e]
    first|with_reducible refine ks [] (And.intro @Z8_ (And.intro @ln (And.intro @hd0 (And.intro @ix (And.intro @rd (And.intro @ld (@d2))))))) ?_|refine kp (And.intro @Z8_ (And.intro @ln (And.intro @hd0 (And.intro @ix (And.intro @rd (And.intro @ld (@d2))))))) ?_
    refine⟨_,(ke @Z8_),trivial, ?_⟩
    rfl
   ·have d2:decide ((2500:Int)< (o.t.length:Int))=false:=decide_eq_false (by omega)
    first|with_reducible refine ks [] (And.intro @Z8_ (And.intro @ln (And.intro @hd0 (And.intro @ix (And.intro @rd (And.intro @ld (@d2))))))) ?_|refine kp (And.intro @Z8_ (And.intro @ln (And.intro @hd0 (And.intro @ix (And.intro @rd (And.intro @ld (@d2))))))) ?_
    refine Again.mk (k+1) (by omega) ⟨hk, ?_⟩ rfl rfl
    rw[hts,List.any_append,h2]
    simp[h25]
  ·obtain rfl:k=l.length:=by omega
   rw[List.take_length] at h2
   have hd0:decide ((l.length:Int)< (l.length:Int))=false:=by simp
   rw[h2]
   first|with_reducible refine ks [] (And.intro @Z8_ (And.intro @ln (@hd0))) ?_|refine kp (And.intro @Z8_ (And.intro @ln (@hd0))) ?_
   refine⟨_,(ke @Z8_),trivial, ?_⟩
   rfl
def ClK (a b:ObK):Prop:=a≠b∧rdK a=true∧rdK b=true∧idK a=idK b
theorem amf_ {l:List ObK} (h: ∀p,p<l.length→ ∀q,q<p→ ¬ClK (l.getD p jU_) (l.getD q jU_)):NoCl l:=by
 intro a ha b hb hra hrb he
 obtain⟨i,hi,rfl⟩:=List.getElem_of_mem ha
 obtain⟨j,hj,rfl⟩:=List.getElem_of_mem hb
 have gd: ∀k (hk:k<l.length),l.getD k jU_=l[k]:=fun k hk=>by rw[List.getD_eq_getElem?_getD,List.getElem?_eq_getElem hk];rfl
 refine Classical.byContradiction fun hne=> ?_
 rcases Nat.lt_trichotomy i j with hij|hij|hij
 ·exact h j hj i hij ⟨by rw[gd _ hj,gd _ hi];exact Ne.symm hne,by rw[gd _ hj];exact hrb,by rw[gd _ hi];exact hra,by rw[gd _ hj,gd _ hi];exact he.symm⟩
 ·subst hij;exact hne rfl
 ·exact h i hi j hij ⟨by rw[gd _ hj,gd _ hi];exact hne,by rw[gd _ hi];exact hra,by rw[gd _ hj];exact hrb,by rw[gd _ hj,gd _ hi];exact he⟩
set_option linter.defProp false
def xj_:=And.intro (And.intro (@zJ_) (@zI_)) (And.intro (@anS_) (@aeJ_))
theorem Wf_ (v:Value) (l:List ObK) (w:World) (hv:RowX 2 kl_ jU_ w v l []) (hl:l.length<1000000) (ht: ∀o,o∈l→o.t.length<100000):
  Rets Tryz.prog 15 #[v] w (fun v' D=>(∃b,v'= .bool b∧(b=false→NoCl l))∧D= []):=by
 obtain⟨rb,off,arr,E,fz,hr,-⟩:=hv
 have ln:=fun x=>hr.len x
 have gm: ∀k,k<l.length→l.getD k jU_∈l:=fun k hk=>by rw[List.getD_eq_getElem?_getD,List.getElem?_eq_getElem hk];exact List.getElem_mem _
 refine Rets.enterV Tryz.func15 rfl (rs:= [.tmp 2]) Tryz.results15 Tryz.ntmps15 ?_
 refine kf ?_
 first|with_reducible refine ks [] @xj_ ?_|refine kp @xj_ ?_
 refine Cw.loopG (G:=Nat) [5,6,7,8,4,11,12,13,16,17,18,19,20,21,22,23,24,25,26,27,28,29,30,31,32,33,34,35,36,37,38,39,40,41,42,43,44,45,46,47,48,49,50,51,2,14,15,9,10,3] (fun g=> [(3,vi g)]) (fun g=> []) (fun g=>g≤l.length∧(∀p,p<g→ ∀q,q<p→ ¬ClK (l.getD p jU_) (l.getD q jU_))) (fun g=>l.length - g) 0 rfl rfl ?_ ?_
 ·exact⟨Nat.zero_le _,fun p hp=>absurd hp (Nat.not_lt_zero _)⟩
 intro i ji hi
 refine kv ?_
 obtain⟨hi,hpi⟩:=hi
 by_cases hlt:i<l.length
 ·have hd0:decide ((i:Int)< (l.length:Int))=true:=decide_eq_true (by omega)
  have ixi:=hr.idx true i hlt
  have ldi:=JP_ hr hlt
  have rd:=hr.has (by omega)
  have hti:=ht _ (gm i hlt)
  first|with_reducible refine ks [] (And.intro @xj_ (And.intro @ln (@hd0))) ?_|refine kp (And.intro @xj_ (And.intro @ln (@hd0))) ?_
  refine Cw.loopG (G:=Nat) [11,12,13,16,17,18,19,20,21,22,23,24,25,26,27,28,29,30,31,32,33,34,35,36,37,38,39,40,41,42,43,44,45,46,47,48,49,50,51,2,14,15,4] (fun g=> [(4,vi g)]) (fun g=> []) (fun g=>g≤i∧(∀q,q<g→ ¬ClK (l.getD i jU_) (l.getD q jU_))) (fun g=>i - g) 0 rfl rfl ?_ ?_
  ·exact⟨Nat.zero_le _,fun p hp=>absurd hp (Nat.not_lt_zero _)⟩
  intro k jk hk
  refine kv ?_
  obtain⟨hk,hpk⟩:=hk
  by_cases hkt:k<i
  ·have hd1:decide ((k:Int)< (i:Int))=true:=decide_eq_true (by omega)
   have ixk:=hr.idx true k (show k<l.length by omega)
   have ldk:=JP_ hr (show k<l.length by omega)
   have htk:=ht _ (gm k (by omega))
   have next: ¬ClK (l.getD i jU_) (l.getD k jU_)→ ∀q,q<k+1→ ¬ClK (l.getD i jU_) (l.getD q jU_):=fun h q hq=>by
    by_cases e:q=k
    ·subst e;exact h
    ·exact hpk q (by omega)
   generalize l.getD i jU_=a at*
   generalize hb:l.getD k jU_=b at*
   first|with_reducible refine ks [] (And.intro @xj_ @hd1) ?_|refine kp (And.intro @xj_ @hd1) ?_
   by_cases hab:a=b
   ·have eab:decide (a=b)=true:=decide_eq_true hab
    refine Cw.regionS [rb] [0,1,2,4,5,6,3,7,8,9,10,11,12,13,14,15,16,17,18,19,20,21,22,23,24,25,26,29,30,31,27,32,28,33,34,35] [] (by kernel_rfl) (by kernel_rfl) (by kernel_rfl) ?_
    simp only[zh_, ↓zc_, ↓za_, ↓zk_, ↓zj_,zb_]
    refine Ow.goQ ?_
    simp(disch:=(first|assumption|omega| (simp only[qF_,qC_,UInt64.reduceToNat];try omega))) only[↓Sx.S0,Sx.S1,Tryz.fx,xj_,Nat.reduceAdd,Nat.reducePow,Int.reducePow,Nat.reduceBEq, ↓reduceIte,UInt8.reduceToNat,UInt16.reduceToNat,UInt32.reduceToNat,UInt64.reduceToNat,Int.reduceToNat,ixi,rd,ldi,ixk,ldk,eab,Bool.not_true]
    exact Again.mk (k+1) (by omega) ⟨hkt,next fun h=>h.1 hab⟩ rfl rfl
   ·have eab:decide (a=b)=false:=decide_eq_false hab
    refine Cw.regionS [rb] [0,1,2,4,5,6,3,7,8,9,10,11,12,13,14,15,16,17,18,19,20,21,22,23,24,25,26,29,30,31,27,32,28,33,34,35] [] (by kernel_rfl) (by kernel_rfl) (by kernel_rfl) ?_
    simp only[zh_, ↓zc_, ↓za_, ↓zk_, ↓zj_,zb_]
    refine Ow.goQ ?_
    simp(disch:=(first|assumption|omega| (simp only[qF_,qC_,UInt64.reduceToNat];try omega))) only[↓Sx.S0,Sx.S1,Tryz.fx,xj_,Nat.reduceAdd,Nat.reducePow,Int.reducePow,Nat.reduceBEq, ↓reduceIte,UInt8.reduceToNat,UInt16.reduceToNat,UInt32.reduceToNat,UInt64.reduceToNat,Int.reduceToNat,ixi,rd,ldi,ixk,ldk,eab,Bool.not_false]
    refine Ow.soft rfl rfl rfl ?_
    refine Ow.callFV rfl Tryz.call19 (fun w' hw'=>wI_ a.k a.t w') ?_
    rw[←kP_,show xS_ a.k a.t=rdK a from rfl]
    with_reducible refine Ow.nil ?_
    refine⟨by intro b hb;simp only[List.mem_cons,List.not_mem_nil,or_false] at hb;(try subst hb);rfl, ?_⟩
    cases hra:rdK a with
    |false=>
     refine kq @xj_ ?_
     try with_reducible refine Ow.nil ?_
     first|with_reducible refine ks [] @xj_ ?_|refine kp @xj_ ?_
     exact Again.mk (k+1) (by omega) ⟨hkt,next fun h=>by have:=h.2.1;rw[hra] at this;cases this⟩ rfl rfl
    |true=>
     refine kq (And.intro @xj_ (And.intro @ixi (And.intro @rd (And.intro @ldi (And.intro @ixk (@ldk)))))) ?_
     refine Ow.soft rfl rfl rfl ?_
     refine Ow.callFV rfl Tryz.call19 (fun w' hw'=>wI_ b.k b.t w') ?_
     rw[←kP_,show xS_ b.k b.t=rdK b from rfl]
     with_reducible refine Ow.nil ?_
     refine⟨by intro b hb;simp only[List.mem_cons,List.not_mem_nil,or_false] at hb;(try subst hb);rfl, ?_⟩
     cases hrb:rdK b with
     |false=>
      refine kq @xj_ ?_
      try with_reducible refine Ow.nil ?_
      first|with_reducible refine ks [] @xj_ ?_|refine kp @xj_ ?_
      exact Again.mk (k+1) (by omega) ⟨hkt,next fun h=>by have:=h.2.2.1;rw[hrb] at this;cases this⟩ rfl rfl
     |true=>
      refine kq (And.intro @xj_ (And.intro @ixi (And.intro @rd (And.intro @ldi (And.intro @ixk (@ldk)))))) ?_
      refine Ow.soft rfl rfl rfl ?_
      refine Ow.callFV rfl Tryz.call20 (fun w' hw'=>VE_ a.k a.t w' (by omega)) ?_
      rw[alU_ hra]
      with_reducible refine Ow.nil ?_
      refine⟨by intro b hb;simp only[List.mem_cons,List.not_mem_nil,or_false] at hb;(try subst hb);rfl, ?_⟩
      refine kq (And.intro @xj_ (And.intro @ixi (And.intro @rd (And.intro @ldi (And.intro @ixk (@ldk)))))) ?_
      refine Ow.soft rfl rfl rfl ?_
      refine Ow.callFV rfl Tryz.call20 (fun w' hw'=>VE_ b.k b.t w' (by omega)) ?_
      rw[alU_ hrb]
      with_reducible refine Ow.nil ?_
      refine⟨by intro b hb;simp only[List.mem_cons,List.not_mem_nil,or_false] at hb;(try subst hb);rfl, ?_⟩
      refine kq @xj_ ?_
      cases hq: ((idK a).l==(idK b).l) with
      |false=>
       try with_reducible refine Ow.nil ?_
       first|with_reducible refine ks [] @xj_ ?_|refine kp @xj_ ?_
       exact Again.mk (k+1) (by omega) ⟨hkt,next fun h=>by rw[h.2.2.2] at hq;simp at hq⟩ rfl rfl
      |true=>
       try with_reducible refine Ow.nil ?_
       first|with_reducible refine ks [] @xj_ ?_|refine kp @xj_ ?_
       refine⟨_,(ke @xj_),trivial, ?_⟩
       exact⟨true,rfl,fun h=>by cases h⟩
  ·obtain rfl:k=i:=by omega
   have hd1:decide ((k:Int)< (k:Int))=false:=by simp
   first|with_reducible refine ks [] (And.intro @xj_ @hd1) ?_|refine kp (And.intro @xj_ @hd1) ?_
   refine Again.mk (k+1) (by omega) ⟨hlt,fun p hp q hq=> ?_⟩ rfl rfl
   by_cases e:p=k
   ·subst e;exact hpk q hq
   ·exact hpi p (by omega) q hq
 ·obtain rfl:i=l.length:=by omega
  have hd0:decide ((l.length:Int)< (l.length:Int))=false:=by simp
  first|with_reducible refine ks [] (And.intro @xj_ (And.intro @ln (@hd0))) ?_|refine kp (And.intro @xj_ (And.intro @ln (@hd0))) ?_
  refine⟨_,(ke @xj_),trivial, ?_⟩
  exact⟨false,rfl,fun _=>amf_ hpi⟩
end Go.Proofs
end
section
open Go Go.Proofs Go.Sx Go.StP Go.RooP
namespace Go.Proofs
set_option maxRecDepth 10000
set_option maxHeartbeats 400000
set_option linter.unusedSimpArgs false
def bO:ObK:=⟨1,[97,98]⟩
def xO:IdL:=idK bO
def tE:EntL:=⟨[102],1,xO⟩
def tO:ObK:=⟨2,qm_ [tE]⟩
def yO:IdL:=idK tO
theorem akY_:rdK bO=true:=by decide
theorem agq_:qO_ [tE]=true:=by decide+kernel
theorem akO_:rdK tO=true:=Wd_ agq_
theorem ajq_:xO≠yO:=by decide+kernel
theorem akJ_:jj_ 2 (qm_ [tE])= [⟨xO,1⟩]:=by
 unfold jj_
 rw[Wd_ agq_,if_pos rfl,if_pos rfl,JQ_ fun x hx=>by
  rw[List.mem_singleton.1 hx];decide]
 rfl
theorem amS_:jj_ 1 [97,98]= []:=by
 unfold jj_
 rw[show xS_ 1 [97,98]=true from akY_];rfl
theorem alY_ {Z:List EntL} (h:SortOf [tE] Z):Z= [tE]:=h.eq ⟨rfl,List.pairwise_singleton _ _,StP.St.refl _ _⟩
theorem al8_ {x y:IdL} (h:x≠y): (xr_ [y,x]).length=2:=by
 show(Qp_ x [y]).length=2
 unfold Qp_
 split
 ·rfl
 ·rw[if_neg (by simp only[beq_iff_eq];exact fun e=>h (IdL.ext2 e.symm))];rfl
theorem agk_ {s:jg_} {x y:IdL} (hxy:x≠y) (hy: (s y).2=true) (hx: (s x).2=true) (hk: (s x).1.k=1) (ky:jX_ s y= [⟨x,1⟩]) (kx:jX_ s x= []) {W:WkS} (h:WkI s [y] W) (hq:W.q= []): (xr_ W.ms).length=2∧jL_ W.lk= []:=by
 have fy:zS_ s ⟨y,0⟩=true:=by unfold zS_;rw[hy];rfl
 have fx:zS_ s ⟨x,1⟩=true:=by unfold zS_;rw[hx,hk];rfl
 have ry:ReachK s [y] ⟨y,0⟩:= .root (List.mem_singleton.2 rfl)
 have rx:ReachK s [y] ⟨x,1⟩:= .kid ry fy (by show _∈jX_ s y;rw[ky];exact List.mem_singleton.2 rfl)
 have hr: ∀c,ReachK s [y] c→c=⟨y,0⟩∨c=⟨x,1⟩:=by
  intro c hc
  induction hc with
  |root hi=>rw[List.mem_singleton] at hi;subst hi;exact .inl rfl
  |kid _ hf hd ih=>
   rcases ih with rfl|rfl
   ·have hd':_∈jX_ s y:=hd
    rw[ky,List.mem_singleton] at hd';exact .inr hd'
   ·have hd':_∈jX_ s x:=hd
    rw[kx] at hd';cases hd'
 constructor
 ·rw[wn_ (b:= [y,x]) fun i=> ?_]
  ·exact al8_ hxy
  ·rw[h.marked hq]
   simp only[List.mem_cons,List.not_mem_nil,or_false]
   constructor
   ·rintro⟨c,h1,h2,rfl⟩
    rcases hr c h1 with rfl|rfl
    ·exact .inl rfl
    ·exact .inr rfl
   ·rintro(rfl|rfl)
    ·exact⟨_,ry,fy,rfl⟩
    ·exact⟨_,rx,fx,rfl⟩
 ·have:W.lk= []:=List.eq_nil_iff_forall_not_mem.2 fun c hc=>by
   obtain⟨h1,h2⟩:=(h.missing hq c).1 hc
   rcases hr c h1 with rfl|rfl
   ·rw[fy] at h2;cases h2
   ·rw[fx] at h2;cases h2
  rw[this];rfl
theorem ahE_ {s:jg_} {x y:IdL} (hy: (s y).2=true) (hx: (s x).2=false) (ky:jX_ s y= [⟨x,1⟩]) {W:WkS} (h:WkI s [y] W) (hq:W.q= []): (xr_ W.ms).length=1∧jL_ W.lk= [x]:=by
 have fy:zS_ s ⟨y,0⟩=true:=by unfold zS_;rw[hy];rfl
 have fx:zS_ s ⟨x,1⟩=false:=by unfold zS_;rw[hx];rfl
 have ry:ReachK s [y] ⟨y,0⟩:= .root (List.mem_singleton.2 rfl)
 have rx:ReachK s [y] ⟨x,1⟩:= .kid ry fy (by show _∈jX_ s y;rw[ky];exact List.mem_singleton.2 rfl)
 have hr: ∀c,ReachK s [y] c→c=⟨y,0⟩∨c=⟨x,1⟩:=by
  intro c hc
  induction hc with
  |root hi=>rw[List.mem_singleton] at hi;subst hi;exact .inl rfl
  |kid _ hf hd ih=>
   rcases ih with rfl|rfl
   ·have hd':_∈jX_ s y:=hd
    rw[ky,List.mem_singleton] at hd';exact .inr hd'
   ·rw[fx] at hf;cases hf
 constructor
 ·rw[wn_ (b:= [y]) fun i=> ?_]
  ·rfl
  ·rw[h.marked hq,List.mem_singleton]
   constructor
   ·rintro⟨c,h1,h2,rfl⟩
    rcases hr c h1 with rfl|rfl
    ·rfl
    ·rw[fx] at h2;cases h2
   ·rintro rfl
    exact⟨_,ry,fy,rfl⟩
 ·unfold jL_
  rw[wn_ (b:= [x]) fun i=> ?_]
  ·rfl
  ·rw[List.mem_map,List.mem_singleton]
   constructor
   ·rintro⟨c,h1,rfl⟩
    obtain⟨h2,h3⟩:=(h.missing hq c).1 h1
    rcases hr c h2 with rfl|rfl
    ·rw[fy] at h3;cases h3
    ·rfl
   ·rintro rfl
    exact⟨_,(h.missing hq _).2 ⟨rx,fx⟩,rfl⟩
theorem VM_:NoCl [bO,tO]:=by
 intro a ha b hb _ _ he
 simp only[List.mem_cons,List.not_mem_nil,or_false] at ha hb
 rcases ha with rfl|rfl<;>rcases hb with rfl|rfl
 ·rfl
 ·exact absurd he ajq_
 ·exact absurd he.symm ajq_
 ·rfl
theorem adW_:NoCl [tO]:=by
 intro a ha b hb _ _ _
 rw[List.mem_singleton] at ha hb
 rw[ha,hb]
theorem alj_:zN_ (qK_ [bO,tO]) xO=(bO,true)∧zN_ (qK_ [bO,tO]) yO=(tO,true):=by
 rw[ZF_ VM_]
 exact⟨acZ_ VM_ (by simp) akY_,acZ_ VM_ (by simp) akO_⟩
theorem akZ_: (zN_ (qK_ [tO]) xO).2=false∧zN_ (qK_ [tO]) yO=(tO,true):=by
 rw[ZF_ adW_]
 refine⟨?_,acZ_ adW_ (by simp) akO_⟩
 cases h: (ZL_ [tO] xO).2 with
 |false=>rfl
 |true=>
  obtain⟨o,h1,-,h3,-⟩:=ak0_ h
  rw[List.mem_singleton] at h1
  subst h1
  exact absurd h3.symm ajq_
theorem ZV_ {W:WkS} (h:WkI (zN_ (qK_ [bO,tO])) [yO] W) (hq:W.q= []): (xr_ W.ms).length=2∧jL_ W.lk= []:=by
 obtain⟨h1,h2⟩:=alj_
 refine agk_ ajq_ (by rw[h2]) (by rw[h1]) (by rw[h1];rfl) ?_ ?_ h hq
 ·unfold jX_;rw[h2];exact akJ_
 ·unfold jX_;rw[h1];exact amS_
theorem ZU_ {W:WkS} (h:WkI (zN_ (qK_ [tO])) [yO] W) (hq:W.q= []): (xr_ W.ms).length=1∧jL_ W.lk= [xO]:=by
 obtain⟨h1,h2⟩:=akZ_
 refine ahE_ (by rw[h2]) h1 ?_ h hq
 unfold jX_;rw[h2];exact akJ_
theorem KD_ (k k':Int) (t t':List UInt8):kU_ Tryz.prog 22 2 [(0,obV k t),(1,obV k' t')]=some (35, #[vi k,vs t,vi k',vs t']):=id (by kernel_rfl)
theorem KM_ {w:World} {b:Nat} {k k':Int} {t t':List UInt8} (h:w.heap[b]? =some (.cells #[vi k,vs t,vi k',vs t'] 35 (0,0))):RowX 2 kl_ jU_ w (vsl b 0 2 2) [⟨k,t⟩,⟨k',t'⟩] []:=by
 have hs:SlV 2 kl_ jU_ w (vsl b 0 2 2) [⟨k,t⟩,⟨k',t'⟩]:=SlV.sl (l:=([⟨k,t⟩,⟨k',t'⟩]:List ObK)) h (fun i hi j hj=>by
  have h2:i=0∨i=1:=by simp at hi;omega
  have h3:j=0∨j=1:=by omega
  rcases h2 with rfl|rfl<;>rcases h3 with rfl|rfl<;>rfl) (by simp) (by simp)
 exact SlV.rowX hs
theorem KX_ {w:World} {b:Nat} {k:Int} {t:List UInt8} (h:w.heap[b]? =some (.cells #[vi k,vs t] 35 (0,0))):RowX 2 kl_ jU_ w (vsl b 0 1 1) [⟨k,t⟩] []:=by
 have hs:SlV 2 kl_ jU_ w (vsl b 0 1 1) [⟨k,t⟩]:=SlV.sl (l:=([⟨k,t⟩]:List ObK)) h (fun i hi j hj=>by
  obtain rfl:i=0:=by simp at hi;omega
  have h3:j=0∨j=1:=by omega
  rcases h3 with rfl|rfl<;>rfl) (by simp) (by simp)
 exact SlV.rowX hs
theorem ZP_ {w:World} {b:Nat} {x:IdL} (h:w.heap[b]? =some (.cells (z4_ x).toArray 24 (0,0))):RowX 32 z4_ id0 w (vsl b 0 1 1) [x] []:=
 SlV.rowX (SlV.sl (l:= [x]) h (fun i hi j hj=>by
  obtain rfl:i=0:=by simp at hi;omega
  simp) (by simp) (by simp[z0_]))
theorem aix_ {w:World} {b:Nat} {x:EntL} (h:w.heap[b]? =some (.cells (zR_ x).toArray 117 (0,0))):EntS w (vsl b 0 1 1) [x]:=
 SlV.sl (l:= [x]) h (fun i hi j hj=>by
  obtain rfl:i=0:=by simp at hi;omega
  simp) (by simp) (by simp[zZ_])
theorem afc_ (x:EntL):kU_ Tryz.prog 122 1 [(0, .agg (zR_ x).toArray)]=some (117,(zR_ x).toArray):=qu_ Tryz.underlying122 Jr_ vM_ (by decide) (zZ_ x)
theorem aah_ (k:Int) (t:List UInt8):kU_ Tryz.prog 22 1 [(0,obV k t)]=some (35, #[vi k,vs t]):=W9_ ⟨k,t⟩
set_option linter.defProp false
def j2_:=And.intro (And.intro (And.intro (@qw_) (@qg_)) (And.intro (@qf_) (And.intro (@qd_) (@ke_)))) (And.intro (And.intro (@Sx.tup2_0) (And.intro (@Sx.tup2_1) (@zJ_))) (And.intro (@zI_) (And.intro (@q4_) (@aeJ_))))
theorem jS_ {D:zi_} {E:TypeId} {m n:Nat} {v:Value} {cs:List Value} (h:GrI D E m v n cs) (x:Bool×Nat):QV_ (.sl x) v=some (vi n):=by
 obtain⟨X,-,h⟩:=h;exact h.len x
def RowOne (G:zi_) (v:Value) (x:IdL):Prop:= ∃bb off arr E,(bb,Obj.cells arr E (0,0))∈G∧(∀a,zK_ (.sl (a,32)) v (some 0)=some (vp bb off))∧zA_ (some (true,32)) (some (.cells arr E (0,0))) off=some (.agg (a8 x.l))
theorem RowOne.mono {G G':zi_} {v:Value} {x:IdL} (h:RowOne G v x) (hG: ∀p,p∈G→p∈G'):RowOne G' v x:=by
 obtain⟨bb,off,arr,E,h1,h2⟩:=h
 exact⟨bb,off,arr,E,hG _ h1,h2⟩
theorem abK_ {D:zi_} {v:Value} {x:IdL} {n:Nat} {cs:List Value} (h:GrI D 24 32 v n cs) (hn:n=1) (hc:cs=z4_ x):RowOne D v x:=by
 subst hn hc
 obtain⟨X,hX,h⟩:=h
 rcases h with h| ⟨h,-⟩
 ·rcases h.inv with⟨-,h,-⟩ | ⟨b,c,rest,rfl,hl,-⟩
  ·omega
  ·refine⟨b,0,_,_,hX _ (zF_ hl),fun a=> ?_, ?_⟩
   ·have:=qn_ (a,32) b 0 1 c 0 ⟨by omega,by omega⟩
    simpa using this
   ·have:=xV_ [] (z4_ x) rest 24 (0,0) rfl (z0_ x)
    rw[ZM_] at this
    simpa using this
 ·omega
structure AlG where
 a:Value
 b:Value
 G:zi_
theorem W0_ (w:World) (hG:GlobE w):Rets Tryz.prog 13 #[] w (fun v D=>v= .bool true∧D= []):=by
 refine Rets.enterV Tryz.func13 rfl (rs:= [.tmp 0]) Tryz.results13 Tryz.ntmps13 ?_
 refine kf ?_
 first|with_reducible refine ks [1000005,1000006] @j2_ ?_|refine kp @j2_ ?_
 refine Ow.callFV rfl Tryz.call65 (fun w' hw'=>ahC_ [97,98] w') ?_
 rw[show ab0_ 1 [97,98] true=1 from rfl,show ab9_ 1 [97,98] true= [97,98] from rfl,show abS_ 1 [97,98] true=0 from rfl]
 refine ko @j2_ ?_
 refine Ow.alloc rfl rfl Xl_ fun b1 hb1 hw1=> ?_
 simp only[ze_,List.nil_append,List.cons_append]
 refine ko @j2_ ?_
 first|with_reducible refine ks [] @j2_ ?_|refine kp @j2_ ?_
 refine Ow.callFV rfl Tryz.call66 (fun w' hw'=>Vy_ 1 [97,98] w' (hG.new hw' ⟨hw1,trivial⟩)) ?_
 rw[show idV 1 [97,98]=xO from rfl,show xS_ 1 [97,98]=true from akY_]
 have hxh:=xO.h
 have hyh:=yO.h
 have hi0:=id0.h
 generalize hx:xO=x at*
 refine ko @j2_ ?_
 refine Ow.alloc rfl rfl Qz_ fun b3 hb3 hw3=> ?_
 simp only[ze_,List.nil_append,List.cons_append]
 have h13:b1<b3:=zf_ hb3 (by simp[keys])
 refine Ow.permL (M:= [(b3, .cells (a8 id0.l) 24 (0,0)),(b1, .cells #[vi 1,vs [97,98]] 35 (0,0))]) (by classical exact List.perm_iff_count.2 fun a=>by simp only[List.count_append,List.count_cons,List.count_nil]<;>omega) ?_
 refine ko @j2_ ?_
 have htE:tE=⟨[102],1,x⟩:=by rw[←hx];rfl
 first|with_reducible refine ks [] @j2_ ?_|refine kp @j2_ ?_
 refine Ow.build (.agg (zR_ tE).toArray) rfl (by rw[htE];exact aia_ ⟨[102],1,x⟩) ?_
 refine ko @j2_ ?_
 refine Ow.buildSlice (e:=117) (zR_ tE).toArray rfl rfl (afc_ tE) fun be hbe hwe=> ?_
 refine ko @j2_ ?_
 refine Ow.callC rfl rfl Tryz.call67 (fun w' hw'=>afa_ _ [tE] w' (aix_ (hw'.has be (.cells (zR_ tE).toArray 117 (0,0)) (by simp))) (by simp) (by rw[htE];intro e he;obtain rfl:=List.mem_singleton.1 he;show 1<10000;omega)) (fun B2 v2 D2 hA2 hB2 hN2 hS2=> ?_)
 obtain⟨Z,hZ,rfl⟩:=hS2
 rw[alY_ hZ]
 obtain⟨T,hT⟩: ∃T,T=qm_ [tE]:=⟨_,rfl⟩
 rw[←hT]
 have hTr:xS_ 2 T=true:=by rw[hT];exact akO_
 rw[show ab0_ 2 T (qO_ [tE])=2 by unfold ab0_;rw[agq_,hTr];rfl,show ab9_ 2 T (qO_ [tE])=T by unfold ab9_;rw[agq_,hTr];rfl,show abS_ 2 T (qO_ [tE])=0 by unfold abS_;rw[agq_,hTr];rfl]
 have htO:tO=⟨2,T⟩:=by rw[hT];rfl
 have hyT:idV 2 T=yO:=by rw[hT];rfl
 refine ko @j2_ ?_
 refine Ow.alloc rfl rfl Xl_ fun b5 hb5 hw5=> ?_
 simp only[ze_,List.nil_append,List.cons_append]
 have h15:b1<b5:=zf_ hb5 (by simp[keys])
 have h35:b3<b5:=zf_ hb5 (by simp[keys])
 have hNg:New w.heap.size ((be,Obj.cells (zR_ tE).toArray 117 (0,0))::D2):=⟨hwe,hN2.mono hB2⟩
 refine Ow.permL (M:=(b5, .cells #[vi 0,vs []] 35 (0,0)):: (b3, .cells (a8 x.l) 24 (0,0)):: (b1, .cells #[vi 1,vs [97,98]] 35 (0,0)):: ((be,Obj.cells (zR_ tE).toArray 117 (0,0))::D2)) (by classical exact List.perm_iff_count.2 fun a=>by simp only[List.count_append,List.count_cons,List.count_nil]<;>omega) ?_
 generalize (be,Obj.cells (zR_ tE).toArray 117 (0,0))::D2=G at*
 refine ko @j2_ ?_
 first|with_reducible refine ks [] @j2_ ?_|refine kp @j2_ ?_
 refine Ow.callFV rfl Tryz.call66 (fun w' hw'=>Vy_ 2 T w' (hG.new hw' ⟨hw5,hw3,hw1,hNg⟩)) ?_
 rw[hyT,hTr]
 generalize hy:yO=y at*
 refine ko @j2_ ?_
 refine Ow.alloc rfl rfl Qz_ fun b7 hb7 hw7=> ?_
 simp only[ze_,List.nil_append,List.cons_append]
 have h17:b1<b7:=zf_ hb7 (by simp[keys])
 have h37:b3<b7:=zf_ hb7 (by simp[keys])
 have h57:b5<b7:=zf_ hb7 (by simp[keys])
 refine Ow.permL (M:=(b7, .cells (a8 id0.l) 24 (0,0)):: (b5, .cells #[vi 2,vs T] 35 (0,0)):: (b3, .cells (a8 x.l) 24 (0,0)):: (b1, .cells #[vi 1,vs [97,98]] 35 (0,0))::G) (by classical exact List.perm_iff_count.2 fun a=>by simp only[List.count_append,List.count_cons,List.count_nil]<;>omega) ?_
 refine ko @j2_ ?_
 refine Cw.cutO (G:=AlG) [34,35,36,37,38,39,40,41,42,43,9,10] (fun g=> [(9,g.a),(10,g.b)]) (fun g=>(b7, .cells (a8 y.l) 24 (0,0)):: (b5, .cells #[vi 2,vs T] 35 (0,0)):: (b3, .cells (a8 x.l) 24 (0,0)):: (b1, .cells #[vi 1,vs [97,98]] 35 (0,0))::g.G) (fun g=>New w.heap.size g.G∧(∀x,QV_ (.sl x) g.a=some (vi 2))∧(∀x,QV_ (.sl x) g.b=some (vi 0))) ?_ ?_
 ·have hN7:New w.heap.size ((b7, .cells (a8 y.l) 24 (0,0)):: (b5, .cells #[vi 2,vs T] 35 (0,0)):: (b3, .cells (a8 x.l) 24 (0,0)):: (b1, .cells #[vi 1,vs [97,98]] 35 (0,0))::G):=⟨hw7,hw5,hw3,hw1,hNg⟩
  have m7: ∀r,r∈ [b1,b5,b7]→r∈keys ((b7, .cells (a8 y.l) 24 (0,0)):: (b5, .cells #[vi 2,vs T] 35 (0,0)):: (b3, .cells (a8 x.l) 24 (0,0)):: (b1, .cells #[vi 1,vs [97,98]] 35 (0,0))::G):=fun r hr=>by
   simp only[List.mem_cons,List.not_mem_nil,or_false] at hr
   rcases hr with rfl|rfl|rfl<;>simp[keys]
  have r1:zv_ w ((b7, .cells (a8 y.l) 24 (0,0)):: (b5, .cells #[vi 2,vs T] 35 (0,0)):: (b3, .cells (a8 x.l) 24 (0,0)):: (b1, .cells #[vi 1,vs [97,98]] 35 (0,0))::G) b1=some (.cells #[vi 1,vs [97,98]] 35 (0,0)):=by rw[zx_ _ _ _ _ _ (by omega),zx_ _ _ _ _ _ (by omega),zx_ _ _ _ _ _ (by omega)];exact zV_ _ _ _ _
  have r5:zv_ w ((b7, .cells (a8 y.l) 24 (0,0)):: (b5, .cells #[vi 2,vs T] 35 (0,0)):: (b3, .cells (a8 x.l) 24 (0,0)):: (b1, .cells #[vi 1,vs [97,98]] 35 (0,0))::G) b5=some (.cells #[vi 2,vs T] 35 (0,0)):=by rw[zx_ _ _ _ _ _ (by omega)];exact zV_ _ _ _ _
  have r7:zv_ w ((b7, .cells (a8 y.l) 24 (0,0)):: (b5, .cells #[vi 2,vs T] 35 (0,0)):: (b3, .cells (a8 x.l) 24 (0,0)):: (b1, .cells #[vi 1,vs [97,98]] 35 (0,0))::G) b7=some (.cells (a8 y.l) 24 (0,0)):=zV_ _ _ _ _
  have hp7: ∀D Z:zi_,D.Perm (((b7, .cells (a8 y.l) 24 (0,0)):: (b5, .cells #[vi 2,vs T] 35 (0,0)):: (b3, .cells (a8 x.l) 24 (0,0)):: (b1, .cells #[vi 1,vs [97,98]] 35 (0,0))::G)++Z)→(D.Perm ((b7, .cells (a8 y.l) 24 (0,0)):: (b5, .cells #[vi 2,vs T] 35 (0,0)):: (b3, .cells (a8 x.l) 24 (0,0)):: (b1, .cells #[vi 1,vs [97,98]] 35 (0,0)):: (G++Z))):=fun D Z h=>h.trans (by simp)
  obtain⟨L7,hL7⟩: ∃L7,L7=(b7, .cells (a8 y.l) 24 (0,0)):: (b5, .cells #[vi 2,vs T] 35 (0,0)):: (b3, .cells (a8 x.l) 24 (0,0)):: (b1, .cells #[vi 1,vs [97,98]] 35 (0,0))::G:=⟨_,rfl⟩
  rw[←hL7] at hN7 m7 r1 r5 r7 hp7 ⊢
  refine Cw.regionG [b1,b5,b7] [] 12 (by kernel_rfl) rfl ?_
  simp only[List.replicate_succ,List.replicate_zero]
  refine OwG.run [0,1,4] [true,true,false,false,true,false,false,false,false,false,false,false] 9 rfl (by kernel_rfl) (by kernel_rfl) fun k hk=> ?_
  simp only[zh_, ↓zc_, ↓za_, ↓zk_, ↓zj_,zb_]
  simp(disch:=(first|assumption|omega| (simp only[qF_,qC_,UInt64.reduceToNat];try omega))) only[↓Sx.S0,Sx.S1,Tryz.fx,j2_,Nat.reduceAdd,Nat.reducePow,Int.reducePow,Nat.reduceBEq, ↓reduceIte,UInt8.reduceToNat,UInt16.reduceToNat,UInt32.reduceToNat,UInt64.reduceToNat,Int.reduceToNat,Md.next_sofnil,r1,r5,r7]
  (with_reducible refine hk _ _ _ ?_);clear hk k
  refine OwG.two 2 5 _ _ (by kernel_rfl) rfl rfl ?_ ?_
  ·refine Ow.buildSlice (e:=35) #[vi 1,vs [97,98],vi 2,vs T] rfl rfl (KD_ 1 2 [97,98] T) fun bo hbo hwo=> ?_
   with_reducible refine Ow.nil ?_
   refine⟨(zq_ (fun r hr=>by(try simp only[zd_,List.mem_append]);(first|exact m7 r hr|simp only[m7 r hr,true_or]))), ?_⟩
   simp only[List.set_cons_zero,List.set_cons_succ,zl_,zy_,zz_]
   have hNo:New w.heap.size [(bo,Obj.cells #[vi 1,vs [97,98],vi 2,vs T] 35 (0,0))]:=⟨hwo,trivial⟩
   refine OwG.two 3 5 _ _ (by kernel_rfl) rfl rfl ?_ ?_
   ·refine Ow.callC rfl rfl Tryz.call16 (fun w' hw'=>xU_ _ [⟨1,[97,98]⟩,⟨2,T⟩] w' (hG.new hw' (hN7.app hNo)) (KM_ (hw'.has bo (.cells #[vi 1,vs [97,98],vi 2,vs T] 35 (0,0)) (by simp))) (by simp)) (fun B8 v8 D8 hA8 hB8 hN8 hS8=> ?_)
    have hN8':=hN8.mono hB8
    with_reducible refine Ow.nil ?_
    refine⟨(zq_ (fun r hr=>by(try simp only[zd_,List.mem_append]);(first|exact m7 r hr|simp only[m7 r hr,true_or]))), ?_⟩
    simp only[List.set_cons_zero,List.set_cons_succ,zl_,zy_,zz_]
    refine OwG.one 5 _ (by kernel_rfl) rfl ?_
    refine Ow.buildSlice (e:=24) (z4_ y).toArray rfl rfl (xq_ y) fun bi hbi hwi=> ?_
    with_reducible refine Ow.nil ?_
    refine⟨(zq_ (fun r hr=>by(try simp only[zd_,List.mem_append]);(first|exact m7 r hr|simp only[m7 r hr,true_or]))), ?_⟩
    simp only[List.set_cons_zero,List.set_cons_succ,zl_,zy_,zz_]
    have hNi:New w.heap.size [(bi,Obj.cells (z4_ y).toArray 24 (0,0))]:=⟨hwi,trivial⟩
    refine OwG.one 6 _ (by kernel_rfl) rfl ?_
    refine Ow.callC rfl rfl Tryz.call29 (fun w' hw'=>jT_ v8 (qK_ [⟨1,[97,98]⟩,⟨2,T⟩]) _ [y] w' ((hS8.mono (fun p hp=>by simp[hp])).W hw') (ZP_ (hw'.has bi (.cells (z4_ y).toArray 24 (0,0)) (by simp))) (by simp) (Nat.le_trans (jv_ _) (by simp))) (fun B9 v9 D9 hA9 hB9 hN9 hS9=> ?_)
    have hN9':=hN9.mono hB9
    obtain⟨Wf,va,vb,hWf,hqf,-,-,rfl,hga,hgb⟩:=hS9
    obtain⟨hla,hlb⟩:=ZV_ (by rw[hy,htO];exact hWf) hqf
    rw[hla] at hga
    rw[hlb] at hgb
    with_reducible refine Ow.nil ?_
    refine⟨(zq_ (fun r hr=>by(try simp only[zd_,List.mem_append]);(first|exact m7 r hr|simp only[m7 r hr,true_or]))), ?_⟩
    simp only[List.set_cons_zero,List.set_cons_succ,zl_,zy_,zz_]
    refine OwG.rest [7,8,9,10,11] rfl (by kernel_rfl) (by kernel_rfl) ?_
    simp only[zh_, ↓zc_, ↓za_, ↓zk_, ↓zj_,zb_]
    refine kq @j2_ ?_
    subst hL7
    exact CutO.mk ⟨va,vb,G++ [(bo,Obj.cells #[vi 1,vs [97,98],vi 2,vs T] 35 (0,0))]++D8++ [(bi,Obj.cells (z4_ y).toArray 24 (0,0))]++D9⟩ ⟨(((hNg.app hNo).app hN8').app hNi).app hN9',jS_ hga,jS_ hgb⟩ rfl rfl
   ·refine Ow.buildSlice (e:=24) (z4_ y).toArray rfl rfl (xq_ y) fun bi hbi hwi=> ?_
    with_reducible refine Ow.nil ?_
    refine⟨(zq_ (fun r hr=>by(try simp only[zd_,List.mem_append]);(first|exact m7 r hr|simp only[m7 r hr,true_or]))), ?_⟩
    simp only[List.set_cons_zero,List.set_cons_succ,zl_,zy_,zz_]
    have hNi:New w.heap.size [(bi,Obj.cells (z4_ y).toArray 24 (0,0))]:=⟨hwi,trivial⟩
    refine OwG.one 3 _ (by kernel_rfl) rfl ?_
    refine Ow.callC rfl rfl Tryz.call16 (fun w' hw'=>xU_ _ [⟨1,[97,98]⟩,⟨2,T⟩] w' (hG.new hw' ((hN7.app hNo).app hNi)) (KM_ (hw'.has bo (.cells #[vi 1,vs [97,98],vi 2,vs T] 35 (0,0)) (by simp))) (by simp)) (fun B8 v8 D8 hA8 hB8 hN8 hS8=> ?_)
    have hN8':=hN8.mono hB8
    with_reducible refine Ow.nil ?_
    refine⟨(zq_ (fun r hr=>by(try simp only[zd_,List.mem_append]);(first|exact m7 r hr|simp only[m7 r hr,true_or]))), ?_⟩
    simp only[List.set_cons_zero,List.set_cons_succ,zl_,zy_,zz_]
    refine OwG.one 6 _ (by kernel_rfl) rfl ?_
    refine Ow.callC rfl rfl Tryz.call29 (fun w' hw'=>jT_ v8 (qK_ [⟨1,[97,98]⟩,⟨2,T⟩]) _ [y] w' ((hS8.mono (fun p hp=>by simp[hp])).W hw') (ZP_ (hw'.has bi (.cells (z4_ y).toArray 24 (0,0)) (by simp))) (by simp) (Nat.le_trans (jv_ _) (by simp))) (fun B9 v9 D9 hA9 hB9 hN9 hS9=> ?_)
    have hN9':=hN9.mono hB9
    obtain⟨Wf,va,vb,hWf,hqf,-,-,rfl,hga,hgb⟩:=hS9
    obtain⟨hla,hlb⟩:=ZV_ (by rw[hy,htO];exact hWf) hqf
    rw[hla] at hga
    rw[hlb] at hgb
    with_reducible refine Ow.nil ?_
    refine⟨(zq_ (fun r hr=>by(try simp only[zd_,List.mem_append]);(first|exact m7 r hr|simp only[m7 r hr,true_or]))), ?_⟩
    simp only[List.set_cons_zero,List.set_cons_succ,zl_,zy_,zz_]
    refine OwG.rest [7,8,9,10,11] rfl (by kernel_rfl) (by kernel_rfl) ?_
    simp only[zh_, ↓zc_, ↓za_, ↓zk_, ↓zj_,zb_]
    refine kq @j2_ ?_
    subst hL7
    exact CutO.mk ⟨va,vb,G++ [(bo,Obj.cells #[vi 1,vs [97,98],vi 2,vs T] 35 (0,0))]++ [(bi,Obj.cells (z4_ y).toArray 24 (0,0))]++D8++D9⟩ ⟨(((hNg.app hNo).app hNi).app hN8').app hN9',jS_ hga,jS_ hgb⟩ rfl rfl
  ·refine Ow.buildSlice (e:=24) (z4_ y).toArray rfl rfl (xq_ y) fun bi hbi hwi=> ?_
   with_reducible refine Ow.nil ?_
   refine⟨(zq_ (fun r hr=>by(try simp only[zd_,List.mem_append]);(first|exact m7 r hr|simp only[m7 r hr,true_or]))), ?_⟩
   simp only[List.set_cons_zero,List.set_cons_succ,zl_,zy_,zz_]
   have hNi:New w.heap.size [(bi,Obj.cells (z4_ y).toArray 24 (0,0))]:=⟨hwi,trivial⟩
   refine OwG.one 2 _ (by kernel_rfl) rfl ?_
   refine Ow.buildSlice (e:=35) #[vi 1,vs [97,98],vi 2,vs T] rfl rfl (KD_ 1 2 [97,98] T) fun bo hbo hwo=> ?_
   with_reducible refine Ow.nil ?_
   refine⟨(zq_ (fun r hr=>by(try simp only[zd_,List.mem_append]);(first|exact m7 r hr|simp only[m7 r hr,true_or]))), ?_⟩
   simp only[List.set_cons_zero,List.set_cons_succ,zl_,zy_,zz_]
   have hNo:New w.heap.size [(bo,Obj.cells #[vi 1,vs [97,98],vi 2,vs T] 35 (0,0))]:=⟨hwo,trivial⟩
   refine OwG.one 3 _ (by kernel_rfl) rfl ?_
   refine Ow.callC rfl rfl Tryz.call16 (fun w' hw'=>xU_ _ [⟨1,[97,98]⟩,⟨2,T⟩] w' (hG.new hw' ((hN7.app hNi).app hNo)) (KM_ (hw'.has bo (.cells #[vi 1,vs [97,98],vi 2,vs T] 35 (0,0)) (by simp))) (by simp)) (fun B8 v8 D8 hA8 hB8 hN8 hS8=> ?_)
   have hN8':=hN8.mono hB8
   with_reducible refine Ow.nil ?_
   refine⟨(zq_ (fun r hr=>by(try simp only[zd_,List.mem_append]);(first|exact m7 r hr|simp only[m7 r hr,true_or]))), ?_⟩
   simp only[List.set_cons_zero,List.set_cons_succ,zl_,zy_,zz_]
   refine OwG.one 6 _ (by kernel_rfl) rfl ?_
   refine Ow.callC rfl rfl Tryz.call29 (fun w' hw'=>jT_ v8 (qK_ [⟨1,[97,98]⟩,⟨2,T⟩]) _ [y] w' ((hS8.mono (fun p hp=>by simp[hp])).W hw') (ZP_ (hw'.has bi (.cells (z4_ y).toArray 24 (0,0)) (by simp))) (by simp) (Nat.le_trans (jv_ _) (by simp))) (fun B9 v9 D9 hA9 hB9 hN9 hS9=> ?_)
   have hN9':=hN9.mono hB9
   obtain⟨Wf,va,vb,hWf,hqf,-,-,rfl,hga,hgb⟩:=hS9
   obtain⟨hla,hlb⟩:=ZV_ (by rw[hy,htO];exact hWf) hqf
   rw[hla] at hga
   rw[hlb] at hgb
   with_reducible refine Ow.nil ?_
   refine⟨(zq_ (fun r hr=>by(try simp only[zd_,List.mem_append]);(first|exact m7 r hr|simp only[m7 r hr,true_or]))), ?_⟩
   simp only[List.set_cons_zero,List.set_cons_succ,zl_,zy_,zz_]
   refine OwG.rest [7,8,9,10,11] rfl (by kernel_rfl) (by kernel_rfl) ?_
   simp only[zh_, ↓zc_, ↓za_, ↓zk_, ↓zj_,zb_]
   refine kq @j2_ ?_
   subst hL7
   exact CutO.mk ⟨va,vb,G++ [(bi,Obj.cells (z4_ y).toArray 24 (0,0))]++ [(bo,Obj.cells #[vi 1,vs [97,98],vi 2,vs T] 35 (0,0))]++D8++D9⟩ ⟨(((hNg.app hNi).app hNo).app hN8').app hN9',jS_ hga,jS_ hgb⟩ rfl rfl
 intro g j hg
 refine kv ?_
 obtain⟨va1,vb1,G1⟩:=g
 simp only at hg ⊢
 obtain⟨hNg1,hl1,hl2⟩:=hg
 refine Cw.cutO (G:=AlG) [44,45,46,47,48,49,50,51,52,11,12] (fun g=> [(11,g.a),(12,g.b)]) (fun g=>(b7, .cells (a8 y.l) 24 (0,0)):: (b5, .cells #[vi 2,vs T] 35 (0,0)):: (b3, .cells (a8 x.l) 24 (0,0)):: (b1, .cells #[vi 1,vs [97,98]] 35 (0,0))::g.G) (fun g=>New w.heap.size g.G∧(∀x,QV_ (.sl x) g.a=some (vi 1))∧(∀x,QV_ (.sl x) g.b=some (vi 1))∧RowOne g.G g.b x) ?_ ?_
 ·have hN7:New w.heap.size ((b7, .cells (a8 y.l) 24 (0,0)):: (b5, .cells #[vi 2,vs T] 35 (0,0)):: (b3, .cells (a8 x.l) 24 (0,0)):: (b1, .cells #[vi 1,vs [97,98]] 35 (0,0))::G1):=⟨hw7,hw5,hw3,hw1,hNg1⟩
  have m7: ∀r,r∈ [b5,b7]→r∈keys ((b7, .cells (a8 y.l) 24 (0,0)):: (b5, .cells #[vi 2,vs T] 35 (0,0)):: (b3, .cells (a8 x.l) 24 (0,0)):: (b1, .cells #[vi 1,vs [97,98]] 35 (0,0))::G1):=fun r hr=>by
   simp only[List.mem_cons,List.not_mem_nil,or_false] at hr
   rcases hr with rfl|rfl<;>simp[keys]
  have r5:zv_ w ((b7, .cells (a8 y.l) 24 (0,0)):: (b5, .cells #[vi 2,vs T] 35 (0,0)):: (b3, .cells (a8 x.l) 24 (0,0)):: (b1, .cells #[vi 1,vs [97,98]] 35 (0,0))::G1) b5=some (.cells #[vi 2,vs T] 35 (0,0)):=by rw[zx_ _ _ _ _ _ (by omega)];exact zV_ _ _ _ _
  have r7:zv_ w ((b7, .cells (a8 y.l) 24 (0,0)):: (b5, .cells #[vi 2,vs T] 35 (0,0)):: (b3, .cells (a8 x.l) 24 (0,0)):: (b1, .cells #[vi 1,vs [97,98]] 35 (0,0))::G1) b7=some (.cells (a8 y.l) 24 (0,0)):=zV_ _ _ _ _
  obtain⟨L7,hL7⟩: ∃L7,L7=(b7, .cells (a8 y.l) 24 (0,0)):: (b5, .cells #[vi 2,vs T] 35 (0,0)):: (b3, .cells (a8 x.l) 24 (0,0)):: (b1, .cells #[vi 1,vs [97,98]] 35 (0,0))::G1:=⟨_,rfl⟩
  rw[←hL7] at hN7 m7 r5 r7 ⊢
  refine Cw.regionG [b5,b7] [] 11 (by kernel_rfl) rfl ?_
  simp only[List.replicate_succ,List.replicate_zero]
  refine OwG.run [0,3] [true,false,false,true,false,false,false,false,false,false,false] 9 rfl (by kernel_rfl) (by kernel_rfl) fun k hk=> ?_
  simp only[zh_, ↓zc_, ↓za_, ↓zk_, ↓zj_,zb_]
  simp(disch:=(first|assumption|omega| (simp only[qF_,qC_,UInt64.reduceToNat];try omega))) only[↓Sx.S0,Sx.S1,Tryz.fx,j2_,Nat.reduceAdd,Nat.reducePow,Int.reducePow,Nat.reduceBEq, ↓reduceIte,UInt8.reduceToNat,UInt16.reduceToNat,UInt32.reduceToNat,UInt64.reduceToNat,Int.reduceToNat,Md.next_sofnil,r5,r7]
  (with_reducible refine hk _ _ _ ?_);clear hk k
  refine OwG.two 1 4 _ _ (by kernel_rfl) rfl rfl ?_ ?_
  ·refine Ow.buildSlice (e:=35) #[vi 2,vs T] rfl rfl (aah_ 2 T) fun bo hbo hwo=> ?_
   with_reducible refine Ow.nil ?_
   refine⟨(zq_ (fun r hr=>by(try simp only[zd_,List.mem_append]);(first|exact m7 r hr|simp only[m7 r hr,true_or]))), ?_⟩
   simp only[List.set_cons_zero,List.set_cons_succ,zl_,zy_,zz_]
   have hNo:New w.heap.size [(bo,Obj.cells #[vi 2,vs T] 35 (0,0))]:=⟨hwo,trivial⟩
   refine OwG.two 2 4 _ _ (by kernel_rfl) rfl rfl ?_ ?_
   ·refine Ow.callC rfl rfl Tryz.call16 (fun w' hw'=>xU_ _ [⟨2,T⟩] w' (hG.new hw' (hN7.app hNo)) (KX_ (hw'.has bo (.cells #[vi 2,vs T] 35 (0,0)) (by simp))) (by simp)) (fun B8 v8 D8 hA8 hB8 hN8 hS8=> ?_)
    have hN8':=hN8.mono hB8
    with_reducible refine Ow.nil ?_
    refine⟨(zq_ (fun r hr=>by(try simp only[zd_,List.mem_append]);(first|exact m7 r hr|simp only[m7 r hr,true_or]))), ?_⟩
    simp only[List.set_cons_zero,List.set_cons_succ,zl_,zy_,zz_]
    refine OwG.one 4 _ (by kernel_rfl) rfl ?_
    refine Ow.buildSlice (e:=24) (z4_ y).toArray rfl rfl (xq_ y) fun bi hbi hwi=> ?_
    with_reducible refine Ow.nil ?_
    refine⟨(zq_ (fun r hr=>by(try simp only[zd_,List.mem_append]);(first|exact m7 r hr|simp only[m7 r hr,true_or]))), ?_⟩
    simp only[List.set_cons_zero,List.set_cons_succ,zl_,zy_,zz_]
    have hNi:New w.heap.size [(bi,Obj.cells (z4_ y).toArray 24 (0,0))]:=⟨hwi,trivial⟩
    refine OwG.one 5 _ (by kernel_rfl) rfl ?_
    refine Ow.callC rfl rfl Tryz.call29 (fun w' hw'=>jT_ v8 (qK_ [⟨2,T⟩]) _ [y] w' ((hS8.mono (fun p hp=>by simp[hp])).W hw') (ZP_ (hw'.has bi (.cells (z4_ y).toArray 24 (0,0)) (by simp))) (by simp) (Nat.le_trans (jv_ _) (by simp))) (fun B9 v9 D9 hA9 hB9 hN9 hS9=> ?_)
    have hN9':=hN9.mono hB9
    obtain⟨Wf,va,vb,hWf,hqf,-,-,rfl,hga,hgb⟩:=hS9
    obtain⟨hla,hlb⟩:=ZU_ (by rw[hy,htO];exact hWf) hqf
    rw[hla] at hga
    rw[hlb] at hgb
    with_reducible refine Ow.nil ?_
    refine⟨(zq_ (fun r hr=>by(try simp only[zd_,List.mem_append]);(first|exact m7 r hr|simp only[m7 r hr,true_or]))), ?_⟩
    simp only[List.set_cons_zero,List.set_cons_succ,zl_,zy_,zz_]
    refine OwG.rest [6,7,8,9,10] rfl (by kernel_rfl) (by kernel_rfl) ?_
    simp only[zh_, ↓zc_, ↓za_, ↓zk_, ↓zj_,zb_]
    refine kq @j2_ ?_
    subst hL7
    exact CutO.mk ⟨va,vb,G1++ [(bo,Obj.cells #[vi 2,vs T] 35 (0,0))]++D8++ [(bi,Obj.cells (z4_ y).toArray 24 (0,0))]++D9⟩ ⟨(((hNg1.app hNo).app hN8').app hNi).app hN9',jS_ hga,jS_ hgb,(abK_ hgb rfl (by simp[hx])).mono (fun p hp=>by simp[hp])⟩ rfl rfl
   ·refine Ow.buildSlice (e:=24) (z4_ y).toArray rfl rfl (xq_ y) fun bi hbi hwi=> ?_
    with_reducible refine Ow.nil ?_
    refine⟨(zq_ (fun r hr=>by(try simp only[zd_,List.mem_append]);(first|exact m7 r hr|simp only[m7 r hr,true_or]))), ?_⟩
    simp only[List.set_cons_zero,List.set_cons_succ,zl_,zy_,zz_]
    have hNi:New w.heap.size [(bi,Obj.cells (z4_ y).toArray 24 (0,0))]:=⟨hwi,trivial⟩
    refine OwG.one 2 _ (by kernel_rfl) rfl ?_
    refine Ow.callC rfl rfl Tryz.call16 (fun w' hw'=>xU_ _ [⟨2,T⟩] w' (hG.new hw' ((hN7.app hNo).app hNi)) (KX_ (hw'.has bo (.cells #[vi 2,vs T] 35 (0,0)) (by simp))) (by simp)) (fun B8 v8 D8 hA8 hB8 hN8 hS8=> ?_)
    have hN8':=hN8.mono hB8
    with_reducible refine Ow.nil ?_
    refine⟨(zq_ (fun r hr=>by(try simp only[zd_,List.mem_append]);(first|exact m7 r hr|simp only[m7 r hr,true_or]))), ?_⟩
    simp only[List.set_cons_zero,List.set_cons_succ,zl_,zy_,zz_]
    refine OwG.one 5 _ (by kernel_rfl) rfl ?_
    refine Ow.callC rfl rfl Tryz.call29 (fun w' hw'=>jT_ v8 (qK_ [⟨2,T⟩]) _ [y] w' ((hS8.mono (fun p hp=>by simp[hp])).W hw') (ZP_ (hw'.has bi (.cells (z4_ y).toArray 24 (0,0)) (by simp))) (by simp) (Nat.le_trans (jv_ _) (by simp))) (fun B9 v9 D9 hA9 hB9 hN9 hS9=> ?_)
    have hN9':=hN9.mono hB9
    obtain⟨Wf,va,vb,hWf,hqf,-,-,rfl,hga,hgb⟩:=hS9
    obtain⟨hla,hlb⟩:=ZU_ (by rw[hy,htO];exact hWf) hqf
    rw[hla] at hga
    rw[hlb] at hgb
    with_reducible refine Ow.nil ?_
    refine⟨(zq_ (fun r hr=>by(try simp only[zd_,List.mem_append]);(first|exact m7 r hr|simp only[m7 r hr,true_or]))), ?_⟩
    simp only[List.set_cons_zero,List.set_cons_succ,zl_,zy_,zz_]
    refine OwG.rest [6,7,8,9,10] rfl (by kernel_rfl) (by kernel_rfl) ?_
    simp only[zh_, ↓zc_, ↓za_, ↓zk_, ↓zj_,zb_]
    refine kq @j2_ ?_
    subst hL7
    exact CutO.mk ⟨va,vb,G1++ [(bo,Obj.cells #[vi 2,vs T] 35 (0,0))]++ [(bi,Obj.cells (z4_ y).toArray 24 (0,0))]++D8++D9⟩ ⟨(((hNg1.app hNo).app hNi).app hN8').app hN9',jS_ hga,jS_ hgb,(abK_ hgb rfl (by simp[hx])).mono (fun p hp=>by simp[hp])⟩ rfl rfl
  ·refine Ow.buildSlice (e:=24) (z4_ y).toArray rfl rfl (xq_ y) fun bi hbi hwi=> ?_
   with_reducible refine Ow.nil ?_
   refine⟨(zq_ (fun r hr=>by(try simp only[zd_,List.mem_append]);(first|exact m7 r hr|simp only[m7 r hr,true_or]))), ?_⟩
   simp only[List.set_cons_zero,List.set_cons_succ,zl_,zy_,zz_]
   have hNi:New w.heap.size [(bi,Obj.cells (z4_ y).toArray 24 (0,0))]:=⟨hwi,trivial⟩
   refine OwG.one 1 _ (by kernel_rfl) rfl ?_
   refine Ow.buildSlice (e:=35) #[vi 2,vs T] rfl rfl (aah_ 2 T) fun bo hbo hwo=> ?_
   with_reducible refine Ow.nil ?_
   refine⟨(zq_ (fun r hr=>by(try simp only[zd_,List.mem_append]);(first|exact m7 r hr|simp only[m7 r hr,true_or]))), ?_⟩
   simp only[List.set_cons_zero,List.set_cons_succ,zl_,zy_,zz_]
   have hNo:New w.heap.size [(bo,Obj.cells #[vi 2,vs T] 35 (0,0))]:=⟨hwo,trivial⟩
   refine OwG.one 2 _ (by kernel_rfl) rfl ?_
   refine Ow.callC rfl rfl Tryz.call16 (fun w' hw'=>xU_ _ [⟨2,T⟩] w' (hG.new hw' ((hN7.app hNi).app hNo)) (KX_ (hw'.has bo (.cells #[vi 2,vs T] 35 (0,0)) (by simp))) (by simp)) (fun B8 v8 D8 hA8 hB8 hN8 hS8=> ?_)
   have hN8':=hN8.mono hB8
   with_reducible refine Ow.nil ?_
   refine⟨(zq_ (fun r hr=>by(try simp only[zd_,List.mem_append]);(first|exact m7 r hr|simp only[m7 r hr,true_or]))), ?_⟩
   simp only[List.set_cons_zero,List.set_cons_succ,zl_,zy_,zz_]
   refine OwG.one 5 _ (by kernel_rfl) rfl ?_
   refine Ow.callC rfl rfl Tryz.call29 (fun w' hw'=>jT_ v8 (qK_ [⟨2,T⟩]) _ [y] w' ((hS8.mono (fun p hp=>by simp[hp])).W hw') (ZP_ (hw'.has bi (.cells (z4_ y).toArray 24 (0,0)) (by simp))) (by simp) (Nat.le_trans (jv_ _) (by simp))) (fun B9 v9 D9 hA9 hB9 hN9 hS9=> ?_)
   have hN9':=hN9.mono hB9
   obtain⟨Wf,va,vb,hWf,hqf,-,-,rfl,hga,hgb⟩:=hS9
   obtain⟨hla,hlb⟩:=ZU_ (by rw[hy,htO];exact hWf) hqf
   rw[hla] at hga
   rw[hlb] at hgb
   with_reducible refine Ow.nil ?_
   refine⟨(zq_ (fun r hr=>by(try simp only[zd_,List.mem_append]);(first|exact m7 r hr|simp only[m7 r hr,true_or]))), ?_⟩
   simp only[List.set_cons_zero,List.set_cons_succ,zl_,zy_,zz_]
   refine OwG.rest [6,7,8,9,10] rfl (by kernel_rfl) (by kernel_rfl) ?_
   simp only[zh_, ↓zc_, ↓za_, ↓zk_, ↓zj_,zb_]
   refine kq @j2_ ?_
   subst hL7
   exact CutO.mk ⟨va,vb,G1++ [(bi,Obj.cells (z4_ y).toArray 24 (0,0))]++ [(bo,Obj.cells #[vi 2,vs T] 35 (0,0))]++D8++D9⟩ ⟨(((hNg1.app hNi).app hNo).app hN8').app hN9',jS_ hga,jS_ hgb,(abK_ hgb rfl (by simp[hx])).mono (fun p hp=>by simp[hp])⟩ rfl rfl
 intro g j hg
 refine kv ?_
 obtain⟨va2,vb2,G2⟩:=g
 simp only at hg ⊢
 obtain⟨hNg2,hl3,hl4,bb,off,arr,E,hbm,hbi,hbl⟩:=hg
 refine Cw.world fun wz hwz=> ?_
 have hnd:=hwz.nodup
 clear hwz wz
 have rbb:zv_ w ((b7, .cells (a8 y.l) 24 (0,0)):: (b5, .cells #[vi 2,vs T] 35 (0,0)):: (b3, .cells (a8 x.l) 24 (0,0)):: (b1, .cells #[vi 1,vs [97,98]] 35 (0,0))::G2) bb=some (.cells arr E (0,0)):=jb_ hnd (by simp[hbm])
 have r3:zv_ w ((b7, .cells (a8 y.l) 24 (0,0)):: (b5, .cells #[vi 2,vs T] 35 (0,0)):: (b3, .cells (a8 x.l) 24 (0,0)):: (b1, .cells #[vi 1,vs [97,98]] 35 (0,0))::G2) b3=some (.cells (a8 x.l) 24 (0,0)):=jb_ hnd (by simp)
 first|with_reducible refine ks [] @j2_ ?_|refine kp @j2_ ?_
 refine Cw.regionS [b3,bb] [0,1,2,3,4,5,6,7,8,9,10,11,12,13,14,15,16,17,18,19,20,21,22,23,24,25] [] (by kernel_rfl) (by kernel_rfl) (by kernel_rfl) ?_
 simp only[zh_, ↓zc_, ↓za_, ↓zk_, ↓zj_,zb_]
 refine kq (And.intro @j2_ (And.intro @hl1 (And.intro @hl2 (And.intro @hl3 (And.intro @hl4 (And.intro @hbi (And.intro @hbl (And.intro @rbb (@r3))))))))) ?_
 refine⟨_,(ke @j2_),⟨hw7,hw5,hw3,hw1,hNg2⟩, ?_⟩
 rfl
end Go.Proofs
end
section
open Go Go.Proofs Go.Sx Go.StP Go.RooP
namespace Go.Proofs
set_option maxRecDepth 10000
set_option maxHeartbeats 400000
set_option linter.unusedSimpArgs false
theorem xF_ {D:zi_} {v:Value} {l:List IdL} {w:World} (h:GrI D 24 32 v l.length (l.map z4_).flatten) (hD: ∀b o,(b,o)∈D→w.heap[b]? =some o):SlV 32 z4_ id0 w v l:=by
 obtain⟨X,hX,h⟩:=h
 exact h.slM (fun b o hm=>hD b o (hX _ hm)) rfl rfl z0_
set_option linter.defProp false
end Go.Proofs
end
section
open Go Go.Proofs Go.Sx Go.StP Go.RooP
namespace Go.Proofs
set_option maxRecDepth 10000
set_option maxHeartbeats 400000
set_option linter.unusedSimpArgs false
theorem ZG_ {X L Y:zi_} (h: (keys (X++L)).Nodup) (hY: ∀p,p∈Y→p∈L): ∀c,c∈keys Y→c∉keys X:=by
 intro c hc hx
 rw[zd_,List.nodup_append] at h
 obtain⟨p,hp,rfl⟩:=List.mem_map.1 hc
 exact h.2.2 _ hx _ (List.mem_map_of_mem (hY p hp)) rfl
theorem SrcK.WX {w0 w:World} {L Y X:zi_} {v:Value} {m:List (IdL×ObK)} (h:SrcK Y v m) (hw:Hp w0 L w) (hY: ∀p,p∈Y→p∈L) (hd: ∀c,c∈keys Y→c∉keys X):SrcW w v m X:=by
 obtain⟨bx,bm,om,h1,h2,h3,h4⟩:=h
 exact⟨bx,bm,om,⟨h1,hw.has _ _ (hY _ h2),hw.has _ _ (hY _ h3),h4⟩,hd _ (List.mem_map_of_mem h2),hd _ (List.mem_map_of_mem h3)⟩
theorem xJ_ {α:Type} {m:Nat} {enc:α→List Value} (z:α) {w:World} {v:Value} {l:List α} {D X:zi_} {E:TypeId} (h:GrI D E m v l.length (l.map enc).flatten) (hD: ∀b o,(b,o)∈D→w.heap[b]? =some o) (hm: ∀x,(enc x).length=m) (hd: ∀c,c∈keys D→c∉keys X):RowX m enc z w v l X:=by
 obtain⟨Y,hY,h⟩:=h
 obtain⟨b,off,c,arr,F,fz,hr,hc,⟨rfl,rfl,rfl⟩ | ⟨rfl,hb,hsz⟩⟩:=h.slM (z:=z) (fun b o hm=>hD b o (hY _ hm)) rfl rfl hm
 ·exact⟨b,off,arr,F,fz,hr,fun h0=>absurd h0 (by simp)⟩
 ·refine⟨b,off,arr,F,fz,hr,fun _=>hd _ ?_⟩
  obtain⟨p,hp,rfl⟩:=List.mem_map.1 (h.key (b:=b) rfl)
  exact List.mem_map_of_mem (hY p hp)
set_option linter.defProp false
end Go.Proofs
end
section
open Go Go.Proofs Go.Sx Go.StP Go.RooP
namespace Go.Proofs
set_option maxRecDepth 10000
set_option maxHeartbeats 400000
set_option linter.unusedSimpArgs false
theorem anh_ (a:Bool):q9_ Tryz.prog .neq 4 (.bool a) (.bool a)=some (.bool false):=by
 cases a<;>simp[q9_,eqX,qX_,jr_,Tryz.underlying4]
set_option linter.defProp false
end Go.Proofs
end
