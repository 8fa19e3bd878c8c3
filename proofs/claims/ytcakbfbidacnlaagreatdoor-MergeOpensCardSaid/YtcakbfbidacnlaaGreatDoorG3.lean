/-
  Part 3 of the walk: contracts of the functions that the law reaches, and the calculus they stand on.
  No conditions.
-/
import Derived.Test.YtcakbfbidacnlaaGreatDoorG2
import Derived.Shelf.SlLaysF0
import Derived.Ground.SlsfProg
import Derived.Maps.RangeRun
import Derived.ProofKit
import Derived.OpenShut
import Derived.WideKeyArgs
import Derived.ChangeSame
import Derived.ChangeMaps5
import Derived.Lib.LaidTab
import Derived.SliceStrings
import Derived.DataReads
section
open Go Go.Proofs Go.Sx Go.StP Go.Flo
namespace Go.Proofs
set_option maxRecDepth 10000
set_option maxHeartbeats 1000000
set_option linter.unusedSimpArgs false
theorem JK_ (r:LnL):ql_ (vo_ Tryz.prog 89) (zZ_ Tryz.prog 89) [(0,Value.agg (a8 r.id.l))]=some (.agg (lnC ⟨r.id,0,0,0⟩).toArray):=by
 have hp:vo_ Tryz.prog 89=some [(0,32),(32,1),(33,1),(34,1)]:=id (by kernel_rfl)
 rw[hp,J7_]
 have e0: (lnC ln0).toArray=(([]:List Value)++ ((ln0.id.l.map v8)++ ([vi ln0.share]++ ([vi ln0.place]++ ([vi ln0.spot]))))).toArray:=by congr 1<;>simp only[lnC,List.append_assoc,List.nil_append,List.append_nil]
 have q0:x8_ (([]:List Value)++ ((ln0.id.l.map v8)++ ([vi ln0.share]++ ([vi ln0.place]++ ([vi ln0.spot]))))).toArray 0 (r.id.l.map v8)=(([]:List Value)++ ((r.id.l.map v8)++ ([vi ln0.share]++ ([vi ln0.place]++ ([vi ln0.spot]))))).toArray:=jc_ _ _ _ _ (by simp) (by simp[ln0.id.h,r.id.h])
 have s0: (([]:List Value)++ ((ln0.id.l.map v8)++ ([vi ln0.share]++ ([vi ln0.place]++ ([vi ln0.spot]))))).toArray.size=35:=by simp[r.id.h,ln0.id.h]
 have z0: (Value.cells (Value.agg (a8 r.id.l))).toList=r.id.l.map v8:=by rw[zg_];rfl
 have y0: (Value.cells (Value.agg (a8 r.id.l))).size=32:=by rw[←Array.length_toList,z0];simp[r.id.h]
 have eZ: (([]:List Value)++ ((r.id.l.map v8)++ ([vi ln0.share]++ ([vi ln0.place]++ ([vi ln0.spot]))))).toArray=(lnC ⟨r.id,0,0,0⟩).toArray:=by congr 1
 simp only[ql_]
 rw[e0]
 unfold Sx.fillV
 simp only[List.getElem?_cons_zero,List.getElem?_cons_succ,z0,y0]
 rw[if_pos ⟨trivial,by rw[s0];decide⟩,q0]
 rw[eZ];rfl
theorem zrMg:zZ_ Tryz.prog 141=some (.agg #[.slice none 0 0, .slice none 0 0, .slice none 0 0]):=id (by kernel_rfl)
theorem aat_:ql_ (vo_ Tryz.prog 141) (zZ_ Tryz.prog 141) []=some (.agg #[.slice none 0 0, .slice none 0 0, .slice none 0 0]):=by
 rw[show vo_ Tryz.prog 141=some [(0,1),(1,1),(2,1)] from id (by kernel_rfl),zrMg];rfl
theorem Wq_ (v0 v1 v2 q:Value) (a:Bool) (hq:Value.oneCell' q=true∧q.cells= #[q]):zn_ (some (a,1)) (some (mgO v0 v1 v2)) 0 q=some (mgO q v1 v2):=
 z4_ [] [v0] [q] [v1,v2] a _ 141 rfl rfl hq.2 rfl (by simp[hq.1])
theorem VH_ (v0 v1 v2 q:Value) (a:Bool) (hq:Value.oneCell' q=true∧q.cells= #[q]):zn_ (some (a,1)) (some (mgO v0 v1 v2)) 1 q=some (mgO v0 q v2):=
 z4_ [v0] [v1] [q] [v2] a _ 141 rfl rfl hq.2 rfl (by simp[hq.1])
theorem aar_ (v0 v1 v2 q:Value) (a:Bool) (hq:Value.oneCell' q=true∧q.cells= #[q]):zn_ (some (a,1)) (some (mgO v0 v1 v2)) 2 q=some (mgO v0 v1 q):=
 z4_ [v0,v1] [v2] [q] [] a _ 141 rfl rfl hq.2 rfl (by simp[hq.1])
def MgD (D:zc_) (b:Nat) (names sums:List (List UInt8)) (lines:List LnL):Prop:= ∃v0 v1 v2,(b,mgO v0 v1 v2)∈D∧GrI D 9 1 v0 names.length (names.map kU_).flatten∧GrI D 9 1 v1 sums.length (sums.map kU_).flatten∧GrI D 89 35 v2 lines.length (lines.map lnC).flatten
theorem MgD.mono {D D':zc_} {b:Nat} {names sums:List (List UInt8)} {lines:List LnL} (h:MgD D b names sums lines) (hD: ∀p,p∈D→p∈D'):MgD D' b names sums lines:=by
 obtain⟨v0,v1,v2,h1,h2,h3,h4⟩:=h;exact⟨v0,v1,v2,hD _ h1,h2.mono hD,h3.mono hD,h4.mono hD⟩
theorem qy_ (s:List UInt8): (kU_ s).length=1:=rfl
theorem MgD.inW {w0 w:World} {D:zc_} {b:Nat} {names sums:List (List UInt8)} {lines:List LnL} (h:MgD D b names sums lines) (hw:Hp w0 D w):MgIn w b names sums lines:=by
 obtain⟨v0,v1,v2,h1,h2,h3,h4⟩:=h;exact⟨v0,v1,v2,hw.has _ _ h1,h2.slV hw rfl rfl qy_,h3.slV hw rfl rfl qy_,h4.slV hw rfl rfl zq_⟩
def acX_ (b:List UInt8) (v:Value) (D:zc_):Prop:=match Jj_ b with
 |some q=> ∃bm,v= .tuple #[vp bm 0,vi 0]∧MgD D bm q.1 q.2.1 q.2.2
 |none=>v= .tuple #[.pointer none,vi 2]
structure OmG where
 l:List (List UInt8)
 u:List (List UInt8)
 q:Ps
 v0:Value
 v1:Value
 D1:zc_
 D2:zc_
 DG:zc_
structure OmL where
 l:List LnL
 q:Ps
 v:Value
 D3:zc_
 DG:zc_
set_option linter.defProp false
def zN_:=And.intro (And.intro (And.intro (And.intro (@zf_) (@ze_)) (And.intro (@wb_) (@wY_))) (And.intro (And.intro (@wk_) (@z3_)) (And.intro (@xX_) (@jK_)))) (And.intro (And.intro (And.intro (@j7_) (@xz_)) (And.intro (@km_) (@js_))) (And.intro (And.intro (@WQ_) (@WH_)) (And.intro (@aae_) (And.intro (@Sx.tup2_0) (@Sx.tup2_1)))))
theorem X7_ (b:List UInt8) (w:World) (hC:GlobC w) (hb:b.length<1099511627776):
  Rets Tryz.prog 36 #[vs b] w (XS w [] (acX_ b)):=by
 refine Rets.enterX Tryz.func36 rfl (rs:= [.tmp 2, .tmp 3]) Tryz.results36 Tryz.ntmps36 (fun p hp=>by cases hp) (by simp[keys]) ?_
 refine kf ?_
 first|with_reducible refine ks [1000016] @zN_ ?_|refine kp @zN_ ?_
 refine Ow.callFV rfl Tryz.call86 (fun w' hw'=>Qq_ b w' (hC.newP hw' trivial) (by omega)) ?_
 have hun: (zi_ b).1.length≤b.length:=kZ_ b
 obtain⟨u,hu⟩: ∃u,u=zi_ b:=⟨_,rfl⟩
 obtain⟨s,ok⟩:=u
 have hus: (zi_ b).1=s:=by rw[←hu]
 rw[hus] at hun
 rw[←hu]
 obtain⟨r,hr⟩: ∃r,vd_ s (qw_ s 0 0 4).2=r:=⟨_,rfl⟩
 obtain⟨rn,rs,rl,rq⟩:=r
 obtain⟨hyes,hno⟩:=QM_ hus hr
 unfold acX_
 refine ko @zN_ ?_
 refine Ow.callF rfl rfl Tryz.call87 (S:=fun B v D=> ∃b',B≤b'∧v=vp b' 0∧D= [(b',wrO s 0 0)]) (fun w' hw'=>aam_ s w') ?_
 rintro B v D hab hB ⟨bw,hbw,rfl,rfl⟩
 have hww:w.heap.size≤bw:=by omega
 refine⟨_,Mrg.fresh (by intro q hq;simp only[keys,List.map_cons,List.map_nil,List.mem_singleton] at hq;omega), ?_⟩
 rw[List.nil_append]
 refine ko @zN_ ?_
 refine Ow.build (.agg #[.slice none 0 0, .slice none 0 0, .slice none 0 0]) rfl aat_ ?_
 refine ko @zN_ ?_
 refine Ow.box rfl rfl fun bm hbm hwm=> ?_
 simp only[jt_,jm_,jn_,zg_]
 have hwbm:bw<bm:=zs_ hbm (by simp[keys])
 refine Ow.permL (M:= [(bm,mgO (.slice none 0 0) (.slice none 0 0) (.slice none 0 0)),(bw,wrO s 0 0)]) (List.Perm.swap _ _ _) ?_
 refine ko @zN_ ?_
 refine Ow.callM rfl rfl Tryz.call88 (by simp[keys]) (fun w' hw'=>ZK_ bw s 0 0 4 w' (Nat.zero_le _) (by omega) (hw'.has _ _ (List.mem_cons_of_mem _ List.mem_cons_self))) ?_
 have r1:=vL_ (s:=s) (a:=0) (e:=0) (n:=4) (Nat.zero_le _)
 unfold vd_ at hr
 generalize qw_ s 0 0 4=p at*
 obtain⟨hd,a1,e1⟩:=p
 simp only at r1 hr ⊢
 refine kn ?_
 refine ko @zN_ ?_
 refine Ow.callM rfl rfl Tryz.call89 (by simp[keys]) (fun w' hw'=>qq_ bw s a1 e1 40 w' r1.2 (by omega) (hw'.has _ _ (List.mem_cons_of_mem _ List.mem_cons_self))) ?_
 have r2:=qx_ (s:=s) (a:=a1) (e:=e1) (most:=40) r1.2
 have m2:=j1_ (s:=s) (a:=a1) (e:=e1) (most:=40) (by omega)
 have hnm:Qd_ s (a1,e1)=kX_ s (zx_ s a1 e1 40).1.toNat (zx_ s a1 e1 40).2:=rfl
 generalize zx_ s a1 e1 40=p at*
 obtain⟨n0,a2,e2⟩:=p
 simp only at r2 m2 hnm ⊢
 obtain⟨n,rfl⟩: ∃n:Nat,n0=(n:Int):=⟨n0.toNat,by omega⟩
 rw[Int.toNat_natCast] at hnm
 refine kn ?_
 refine ko @zN_ ?_
 refine Cw.permL (M:=(bm,mgO (.slice none 0 0) (.slice none 0 0) (.slice none 0 0)):: (bw,wrO s a2 e2):: ([]++ ([]++ []))) (List.Perm.refl _) ?_
 refine Cw.loopG (G:=OmG) [23,24,25,26,27,28,29,30,31,32,33,34,35,36,37,38,39,40,41,42,43,44,45,46,22] (fun g=> [(22,vi g.l.length)]) (fun g=>(bm,mgO g.v0 g.v1 (.slice none 0 0)):: (bw,wrO s g.q.1 g.q.2):: (g.D1++ (g.D2++g.DG))) (fun g=>g.l.length≤n∧g.u.length=g.l.length∧g.q.1≤s.length∧New w.heap.size g.D1∧New w.heap.size g.D2∧New w.heap.size g.DG∧Gr g.D1 9 1 g.v0 g.l.length (g.l.map kU_).flatten∧Gr g.D2 9 1 g.v1 g.u.length (g.u.map kU_).flatten∧kX_ s n (a2,e2)=(g.l++ (kX_ s (n - g.l.length) g.q).1,g.u++ (kX_ s (n - g.l.length) g.q).2.1,(kX_ s (n - g.l.length) g.q).2.2)) (fun g=>n - g.l.length) ⟨[],[],(a2,e2), .slice none 0 0, .slice none 0 0,[],[],[]⟩ rfl rfl ?_ ?_
 ·exact⟨Nat.zero_le _,rfl,r2.2,trivial,trivial,trivial,Gr.nl,Gr.nl,rfl⟩
 intro g j hg
 refine kv ?_
 obtain⟨l,u,⟨a,e⟩,v0,v1,D1,D2,DG⟩:=g
 simp only at hg ⊢
 obtain⟨hln,hul,hal,hN1,hN2,hNG,hG1,hG2,hrr⟩:=hg
 by_cases hlt:l.length<n
 ·have d1:decide ((l.length:Int)< (n:Int))=true:=decide_eq_true (by omega)
  have hpr:kX_ s n (a2,e2)=(l++ [(nmR s (a,e)).1]++ (kX_ s (n - (l++ [(nmR s (a,e)).1]).length) (nmR s (a,e)).2.2).1,u++ [(nmR s (a,e)).2.1]++ (kX_ s (n - (l++ [(nmR s (a,e)).1]).length) (nmR s (a,e)).2.2).2.1,(kX_ s (n - (l++ [(nmR s (a,e)).1]).length) (nmR s (a,e)).2.2).2.2):=by
   rw[hrr,show n - l.length=(n - (l++ [(nmR s (a,e)).1]).length)+1 by simp;omega]
   generalize n - (l++ [(nmR s (a,e)).1]).length=m
   show(l++ ((nmR s (a,e)).1:: (kX_ s m (nmR s (a,e)).2.2).1),u++ ((nmR s (a,e)).2.1:: (kX_ s m (nmR s (a,e)).2.2).2.1),(kX_ s m (nmR s (a,e)).2.2).2.2)=_
   rw[List.append_assoc,List.append_assoc];rfl
  have hrow:nmR s (a,e)=((zY_ s a e 40).1,(qw_ s (zY_ s a e 40).2.1 (zY_ s a e 40).2.2 4).1,(qw_ s (zY_ s a e 40).2.1 (zY_ s a e 40).2.2 4).2):=rfl
  first|with_reducible refine ks [] (And.intro @zN_ @d1) ?_|refine kp (And.intro @zN_ @d1) ?_
  refine Cw.regionS [bm] [0,1,2,3,5,4,6,7,8,9,10,11] [11] (by kernel_rfl) (by kernel_rfl) (by kernel_rfl) ?_
  simp only[zh_, ↓zd_, ↓zb_, ↓zl_, ↓zm_,za_]
  refine kq @zN_ ?_
  refine Ow.soft rfl rfl rfl ?_
  refine Ow.callM rfl rfl Tryz.call90 (by simp[keys]) (fun w' hw'=>abm_ bw s a e 40 w' hal (by omega) (hw'.has _ _ (List.mem_cons_of_mem _ List.mem_cons_self))) ?_
  have t1:=(QB_ (s:=s) (a:=a) (e:=e) (most:=40) hal).2
  generalize zY_ s a e 40=p at*
  obtain⟨x,a3,e3⟩:=p
  simp only at hrow t1 ⊢
  refine kn ?_
  with_reducible refine Ow.nil ?_
  refine⟨(fun r hr=>by rw[List.mem_singleton] at hr;subst hr;simp(disch:=omega) only[List.cons_append,List.nil_append,z2_,zH_]), ?_⟩
  refine kq @zN_ ?_
  refine Ow.soft rfl rfl rfl ?_
  refine Ow.buildSlice (e:=9) #[vs x] rfl rfl (by kernel_rfl) fun ba hba hwa=> ?_
  with_reducible refine Ow.nil ?_
  refine⟨(fun r hr=>by rw[List.mem_singleton] at hr;subst hr;simp(disch:=omega) only[List.cons_append,List.nil_append,z2_,zH_]), ?_⟩
  refine kq @zN_ ?_
  refine Ow.soft rfl rfl rfl ?_
  refine Ow.permL (M:=D1++ ((bm,mgO v0 v1 (.slice none 0 0)):: (bw,wrO s a3 e3):: (D2++ (DG++ [(ba, .cells #[vs x] 9 (0,0))])))) (by classical exact List.perm_iff_count.2 fun a=>by simp only[List.count_append,List.count_cons,List.count_nil]<;>omega) ?_
  refine Ow.appendXG (e:=9) (k:=1) (new:=kU_ x) (X:=D1) v0 rfl rfl rfl rfl Tryz.underlying68 (id (by kernel_rfl):zP_ Tryz.prog 9=some (false,1)) (by kernel_rfl) (id (by kernel_rfl):zZ_ Tryz.prog 9=some (vs [])) rfl Tryz.underlying68 (by intro k h;cases h) hG1 (fun w' hw'=>AppX.one1 (hw'.has ba (.cells #[vs x] 9 (0,0)) (by simp)) rfl rfl) (by omega) (fun B4 v4 D4 hA4 hB4 hG4 hk41 hk42 hlk4=> ?_)
  have hN4:New w.heap.size D4:=New.of_le fun q hq=>by
   rcases hk42 q hq with h|h
   ·exact hN1.le q h
   ·omega
  refine Ow.permL (M:=(bm,mgO v0 v1 (.slice none 0 0)):: (bw,wrO s a3 e3):: (D4++ (D2++ (DG++ [(ba, .cells #[vs x] 9 (0,0))])))) (by classical exact List.perm_iff_count.2 fun a=>by simp only[List.count_append,List.count_cons,List.count_nil]<;>omega) ?_
  with_reducible refine Ow.nil ?_
  refine⟨(fun r hr=>by rw[List.mem_singleton] at hr;subst hr;simp(disch:=omega) only[List.cons_append,List.nil_append,z2_,zH_]), ?_⟩
  have st4: ∀a,zn_ (some (a,1)) (some (mgO v0 v1 (.slice none 0 0))) 0 v4=some (mgO v4 v1 (.slice none 0 0)):=fun a=>Wq_ v0 v1 _ v4 a hG4.cell
  refine kq @zN_ ?_
  refine Ow.store rfl rfl rfl (ke (And.intro @zN_ @st4)) ?_
  refine ko @zN_ ?_
  refine Cw.regionS [bm] [0,1,2,3,5,4,6,7,8,9,10,11] [11] (by kernel_rfl) (by kernel_rfl) (by kernel_rfl) ?_
  simp only[zh_, ↓zd_, ↓zb_, ↓zl_, ↓zm_,za_]
  refine kq @zN_ ?_
  refine Ow.soft rfl rfl rfl ?_
  refine Ow.callM rfl rfl Tryz.call88 (by simp[keys]) (fun w' hw'=>ZK_ bw s a3 e3 4 w' t1 (by omega) (hw'.has _ _ (List.mem_cons_of_mem _ List.mem_cons_self))) ?_
  have t2:=(vL_ (s:=s) (a:=a3) (e:=e3) (n:=4) t1).2
  generalize qw_ s a3 e3 4=p at*
  obtain⟨y,a4,e4⟩:=p
  simp only at hrow t2 ⊢
  rw[hrow] at hpr
  simp only at hpr
  refine kn ?_
  with_reducible refine Ow.nil ?_
  refine⟨(fun r hr=>by rw[List.mem_singleton] at hr;subst hr;simp(disch:=omega) only[List.cons_append,List.nil_append,z2_,zH_]), ?_⟩
  refine kq @zN_ ?_
  refine Ow.soft rfl rfl rfl ?_
  refine Ow.buildSlice (e:=9) #[vs y] rfl rfl (by kernel_rfl) fun bc hbc hwc=> ?_
  with_reducible refine Ow.nil ?_
  refine⟨(fun r hr=>by rw[List.mem_singleton] at hr;subst hr;simp(disch:=omega) only[List.cons_append,List.nil_append,z2_,zH_]), ?_⟩
  refine kq @zN_ ?_
  refine Ow.soft rfl rfl rfl ?_
  refine Ow.permL (M:=D2++ ((bm,mgO v4 v1 (.slice none 0 0)):: (bw,wrO s a4 e4):: (D4++ (DG++ [(ba, .cells #[vs x] 9 (0,0)),(bc, .cells #[vs y] 9 (0,0))])))) (by classical exact List.perm_iff_count.2 fun a=>by simp only[List.count_append,List.count_cons,List.count_nil]<;>omega) ?_
  refine Ow.appendXG (e:=9) (k:=1) (new:=kU_ y) (X:=D2) v1 rfl rfl rfl rfl Tryz.underlying68 (id (by kernel_rfl):zP_ Tryz.prog 9=some (false,1)) (by kernel_rfl) (id (by kernel_rfl):zZ_ Tryz.prog 9=some (vs [])) rfl Tryz.underlying68 (by intro k h;cases h) hG2 (fun w' hw'=>AppX.one1 (hw'.has bc (.cells #[vs y] 9 (0,0)) (by simp)) rfl rfl) (by omega) (fun B5 v5 D5 hA5 hB5 hG5 hk51 hk52 hlk5=> ?_)
  have hN5:New w.heap.size D5:=New.of_le fun q hq=>by
   rcases hk52 q hq with h|h
   ·exact hN2.le q h
   ·omega
  refine Ow.permL (M:=(bm,mgO v4 v1 (.slice none 0 0)):: (bw,wrO s a4 e4):: (D4++ (D5++ (DG++ [(ba, .cells #[vs x] 9 (0,0)),(bc, .cells #[vs y] 9 (0,0))])))) (by classical exact List.perm_iff_count.2 fun a=>by simp only[List.count_append,List.count_cons,List.count_nil]<;>omega) ?_
  with_reducible refine Ow.nil ?_
  refine⟨(fun r hr=>by rw[List.mem_singleton] at hr;subst hr;simp(disch:=omega) only[List.cons_append,List.nil_append,z2_,zH_]), ?_⟩
  have st5: ∀a,zn_ (some (a,1)) (some (mgO v4 v1 (.slice none 0 0))) 1 v5=some (mgO v4 v5 (.slice none 0 0)):=fun a=>VH_ v4 v1 _ v5 a hG5.cell
  refine kq @zN_ ?_
  refine Ow.store rfl rfl rfl (ke (And.intro @zN_ @st5)) ?_
  refine ko @zN_ ?_
  have hl1: (l++ [x]).length=l.length+1:=by simp
  refine Again.mk ⟨l++ [x],u++ [y],(a4,e4),v4,v5,D4,D5,DG++ [(ba, .cells #[vs x] 9 (0,0)),(bc, .cells #[vs y] 9 (0,0))]⟩ (by show n - (l++ [x]).length<n - l.length;omega) ⟨by show(l++ [x]).length≤n;omega,by show(u++ [y]).length=(l++ [x]).length;simp[hul],t2,hN4,hN5,hNG.app ⟨hwa,hwc,trivial⟩,by simpa using hG4,by simpa using hG5,hpr⟩ rfl (by simp only[hl1];rfl)
 ·obtain rfl:n=l.length:=by omega
  have d1:decide ((l.length:Int)< (l.length:Int))=false:=decide_eq_false (by omega)
  rw[Nat.sub_self] at hrr
  simp only[kX_,List.append_nil] at hrr
  rw[hrr] at hnm
  rw[hnm] at hr
  simp only at hr
  have hmo:=Js_ s l.length (a2,e2)
  rw[hrr] at hmo
  simp only at hmo
  clear hrr hnm
  first|with_reducible refine ks [] (And.intro @zN_ @d1) ?_|refine kp (And.intro @zN_ @d1) ?_
  refine Ow.callM rfl rfl Tryz.call89 (by simp[keys]) (fun w' hw'=>qq_ bw s a e 8000 w' hal (by omega) (hw'.has _ _ (List.mem_cons_of_mem _ List.mem_cons_self))) ?_
  have r5:=(qx_ (s:=s) (a:=a) (e:=e) (most:=8000) hal).2
  have m5:=j1_ (s:=s) (a:=a) (e:=e) (most:=8000) (by omega)
  have hlm:V5_ s (a,e)=Qa_ s (zx_ s a e 8000).1.toNat (zx_ s a e 8000).2:=rfl
  generalize zx_ s a e 8000=p at*
  obtain⟨n0,a5,e5⟩:=p
  simp only at r5 m5 hlm ⊢
  obtain⟨n,rfl⟩: ∃n:Nat,n0=(n:Int):=⟨n0.toNat,by omega⟩
  rw[Int.toNat_natCast] at hlm
  refine kn ?_
  refine ko @zN_ ?_
  refine Cw.permL (M:=(bm,mgO v0 v1 (.slice none 0 0)):: (bw,wrO s a5 e5):: (D1++ (D2++ ([]++DG)))) (by classical exact List.perm_iff_count.2 fun a=>by simp only[List.count_append,List.count_cons,List.count_nil]<;>omega) ?_
  refine Cw.loopG (G:=OmL) [50,51,52,53,8,54,55,56,57,58,59,60,61,62,63,64,65,66,67,68,69,70,71,72,73,49] (fun q=> [(49,vi q.l.length)]) (fun q=>(bm,mgO v0 v1 q.v):: (bw,wrO s q.q.1 q.q.2):: (D1++ (D2++ (q.D3++q.DG)))) (fun q=>q.l.length≤n∧q.q.1≤s.length∧New w.heap.size q.D3∧New w.heap.size q.DG∧Gr q.D3 89 35 q.v q.l.length (q.l.map lnC).flatten∧Qa_ s n (a5,e5)=(q.l++ (Qa_ s (n - q.l.length) q.q).1,(Qa_ s (n - q.l.length) q.q).2)) (fun q=>n - q.l.length) ⟨[],(a5,e5), .slice none 0 0,[],DG⟩ rfl rfl ?_ ?_
  ·exact⟨Nat.zero_le _,r5,trivial,hNG,Gr.nl,rfl⟩
  intro q jq hq
  refine kv ?_
  clear hNG
  obtain⟨m,⟨a,e⟩,v,D3,DG⟩:=q
  simp only at hq ⊢
  obtain⟨hmn,hal,hN3,hNG,hG3,hrr⟩:=hq
  by_cases hlt:m.length<n
  ·have d1:decide ((m.length:Int)< (n:Int))=true:=decide_eq_true (by omega)
   have hpr:Qa_ s n (a5,e5)=(m++ [(lnR s (a,e)).1]++ (Qa_ s (n - (m++ [(lnR s (a,e)).1]).length) (lnR s (a,e)).2).1,(Qa_ s (n - (m++ [(lnR s (a,e)).1]).length) (lnR s (a,e)).2).2):=by
    rw[hrr,show n - m.length=(n - (m++ [(lnR s (a,e)).1]).length)+1 by simp;omega]
    generalize n - (m++ [(lnR s (a,e)).1]).length=j
    show(m++ ((lnR s (a,e)).1:: (Qa_ s j (lnR s (a,e)).2).1),(Qa_ s j (lnR s (a,e)).2).2)=_
    rw[List.append_assoc];rfl
   have hrow:lnR s (a,e)=(⟨vv_ (idR s a e).1,(zx_ s (idR s a e).2.1 (idR s a e).2.2 40).1,(wF_ s (zx_ s (idR s a e).2.1 (idR s a e).2.2 40).2).1,(wF_ s (wF_ s (zx_ s (idR s a e).2.1 (idR s a e).2.2 40).2).2).1⟩,(wF_ s (wF_ s (zx_ s (idR s a e).2.1 (idR s a e).2.2 40).2).2).2):=rfl
   have hNr:New w.heap.size ((bm,mgO v0 v1 v):: (bw,wrO s a e):: (D1++ (D2++ (D3++DG)))):=⟨hwm,hww,hN1.app (hN2.app (hN3.app hNG))⟩
   first|with_reducible refine ks [15] (And.intro @zN_ @d1) ?_|refine kp (And.intro @zN_ @d1) ?_
   refine Ow.callM rfl rfl Tryz.call91 (by simp[keys]) (fun w' hw'=>Wr_ bw s a e w' hal (by omega) (hw'.has _ _ (List.mem_cons_of_mem _ List.mem_cons_self))) ?_
   obtain⟨i,hi⟩: ∃i,i=vv_ (idR s a e).1:=⟨_,rfl⟩
   have hil: (idR s a e).1=i.l:=by rw[hi];exact(QA_ (Vr_ s a e)).symm
   have hle1:=KC_ (e:=e) hal
   rw[←hi] at hrow
   generalize idR s a e=p at*
   obtain⟨p1,a3,e3⟩:=p
   simp only at hil hrow hle1 ⊢
   subst hil
   clear hi
   refine kn ?_
   refine ko @zN_ ?_
   refine Ow.build (.agg (lnC ⟨i,0,0,0⟩).toArray) rfl (JK_ ⟨i,0,0,0⟩) ?_
   refine ko @zN_ ?_
   refine Ow.alloc rfl rfl J7_ fun b8 hb8 hw8=> ?_
   simp only[zg_,List.nil_append,List.cons_append]
   have h8m:bm<b8:=zs_ hb8 (by simp[keys])
   have h8w:bw<b8:=zs_ hb8 (by simp[keys])
   refine Ow.permL (M:=(b8, .cells (lnC Go.Proofs.ln0).toArray 89 (0,0)):: (bm,mgO v0 v1 v):: (bw,wrO s a3 e3):: (D1++ (D2++ (D3++DG)))) (by classical exact List.perm_iff_count.2 fun a=>by simp only[List.count_append,List.count_cons,List.count_nil]<;>omega) ?_
   refine ko @zN_ ?_
   first|with_reducible refine ks [] @zN_ ?_|refine kp @zN_ ?_
   refine Ow.callM rfl rfl Tryz.call89 (by simp[keys]) (fun w' hw'=>qq_ bw s a3 e3 40 w' hle1 (by omega) (hw'.has _ _ (List.mem_cons_of_mem _ (List.mem_cons_of_mem _ List.mem_cons_self)))) ?_
   have hle2:=(qx_ (e:=e3) (most:=40) hle1).2
   generalize zx_ s a3 e3 40=p at*
   obtain⟨x1,a4,e4⟩:=p
   simp only at hrow hle2 ⊢
   refine kn ?_
   refine ko @zN_ ?_
   refine Ow.callM rfl rfl Tryz.call89 (by simp[keys]) (fun w' hw'=>qq_ bw s a4 e4 1099511627775 w' hle2 (by omega) (hw'.has _ _ (List.mem_cons_of_mem _ (List.mem_cons_of_mem _ List.mem_cons_self)))) ?_
   have hle3:=(qx_ (e:=e4) (most:=1099511627775) hle2).2
   have hrow2:lnR s (a,e)=(⟨i,x1,(zx_ s a4 e4 1099511627775).1,(wF_ s (zx_ s a4 e4 1099511627775).2).1⟩,(wF_ s (zx_ s a4 e4 1099511627775).2).2):=hrow
   clear hrow
   generalize zx_ s a4 e4 1099511627775=p at*
   obtain⟨x2,a6,e6⟩:=p
   simp only at hrow2 hle3 ⊢
   refine kn ?_
   refine ko @zN_ ?_
   refine Ow.callM rfl rfl Tryz.call89 (by simp[keys]) (fun w' hw'=>qq_ bw s a6 e6 1099511627775 w' hle3 (by omega) (hw'.has _ _ (List.mem_cons_of_mem _ (List.mem_cons_of_mem _ List.mem_cons_self)))) ?_
   have hle4:=(qx_ (e:=e6) (most:=1099511627775) hle3).2
   have hrow3:lnR s (a,e)=(⟨i,x1,x2,(zx_ s a6 e6 1099511627775).1⟩,(zx_ s a6 e6 1099511627775).2):=hrow2
   clear hrow2
   generalize zx_ s a6 e6 1099511627775=p at*
   obtain⟨x3,a7,e7⟩:=p
   simp only at hrow3 hle4 ⊢
   rw[hrow3] at hpr
   simp only at hpr
   refine kn ?_
   refine ko @zN_ ?_
   generalize (LnL.mk i x1 x2 x3)=r at*
   have l3:=hG3.len
   first|with_reducible refine ks [] @zN_ ?_|refine kp @zN_ ?_
   refine Cw.regionS [bm,b8] [0,1,2,3,4,5,6,7,8,9,10] [10] (by kernel_rfl) (by kernel_rfl) (by kernel_rfl) ?_
   simp only[zh_, ↓zd_, ↓zb_, ↓zl_, ↓zm_,za_]
   refine kq @zN_ ?_
   refine Ow.soft rfl rfl rfl ?_
   refine Ow.buildSlice (e:=89) (lnC r).toArray rfl rfl (q8_ Tryz.underlying82 ai2_ J7_ (by decide) (zq_ _)) fun ba hba hwa=> ?_
   with_reducible refine Ow.nil ?_
   refine⟨(fun r hr=>by simp only[List.mem_cons,List.not_mem_nil,or_false] at hr;rcases hr with rfl|rfl<;>simp(disch:=omega) only[List.cons_append,List.nil_append,z2_,zH_]), ?_⟩
   refine kq @zN_ ?_
   refine Ow.soft rfl rfl rfl ?_
   refine Ow.permL (M:=D3++ ((b8, .cells (lnC r).toArray 89 (0,0)):: (bm,mgO v0 v1 v):: (bw,wrO s a7 e7):: (D1++ (D2++ (DG++ [(ba, .cells (lnC r).toArray 89 (0,0))]))))) (by classical exact List.perm_iff_count.2 fun a=>by simp only[List.count_append,List.count_cons,List.count_nil]<;>omega) ?_
   refine Ow.appendXG (e:=89) (k:=1) (new:=lnC r) (X:=D3) v rfl rfl rfl rfl Tryz.underlying82 ai2_ (by kernel_rfl) J7_ (by rw[z3_,List.size_toArray,zq_]) Tryz.underlying82 (by intro k h;cases h) hG3 (fun w' hw'=>AppX.one1 (hw'.has ba (.cells (lnC r).toArray 89 (0,0)) (by simp)) (zq_ _) (xn_ _)) (by omega) (fun B4 v4 D4 hA4 hB4 hG4 hk41 hk42 hlk4=> ?_)
   have hN4:New w.heap.size D4:=New.of_le fun q hq=>by
    rcases hk42 q hq with h|h
    ·exact hN3.le q h
    ·omega
   refine Ow.permL (M:=(b8, .cells (lnC r).toArray 89 (0,0)):: (bm,mgO v0 v1 v):: (bw,wrO s a7 e7):: (D1++ (D2++ (D4++ (DG++ [(ba, .cells (lnC r).toArray 89 (0,0))]))))) (by classical exact List.perm_iff_count.2 fun a=>by simp only[List.count_append,List.count_cons,List.count_nil]<;>omega) ?_
   with_reducible refine Ow.nil ?_
   refine⟨(fun r hr=>by simp only[List.mem_cons,List.not_mem_nil,or_false] at hr;rcases hr with rfl|rfl<;>simp(disch:=omega) only[List.cons_append,List.nil_append,z2_,zH_]), ?_⟩
   have st6: ∀a,zn_ (some (a,1)) (some (mgO v0 v1 v)) 2 v4=some (mgO v0 v1 v4):=fun a=>aar_ v0 v1 v v4 a hG4.cell
   refine kq @zN_ ?_
   refine Ow.store rfl rfl rfl (ke (And.intro @zN_ @st6)) ?_
   refine ko @zN_ ?_
   refine Cw.permL (M:=(bm,mgO v0 v1 v4):: (bw,wrO s a7 e7):: (D1++ (D2++ (D4++ ((b8, .cells (lnC r).toArray 89 (0,0)):: (DG++ [(ba, .cells (lnC r).toArray 89 (0,0))])))))) (by classical exact List.perm_iff_count.2 fun a=>by simp only[List.count_append,List.count_cons,List.count_nil]<;>omega) ?_
   first|with_reducible refine ks [] @zN_ ?_|refine kp @zN_ ?_
   have hl1: (m++ [r]).length=m.length+1:=by simp
   refine Again.mk ⟨m++ [r],(a7,e7),v4,D4,(b8, .cells (lnC r).toArray 89 (0,0)):: (DG++ [(ba, .cells (lnC r).toArray 89 (0,0))])⟩ (by show n - (m++ [r]).length<n - m.length;omega) ⟨by show(m++ [r]).length≤n;omega,hle4,hN4,⟨hw8,hNG.app ⟨hwa,trivial⟩⟩,by simpa using hG4,hpr⟩ rfl (by simp only[hl1];rfl)
  ·obtain rfl:n=m.length:=by omega
   have d1:decide ((m.length:Int)< (m.length:Int))=false:=decide_eq_false (by omega)
   rw[Nat.sub_self] at hrr
   rw[hrr] at hlm
   rw[hlm] at hr
   simp only[Qa_,List.append_nil,Prod.mk.injEq] at hr
   obtain⟨hr1,hr2,hr3,hr4⟩:=hr
   subst hr1 hr2 hr3 hr4
   simp only at hyes hno
   have hNr:New w.heap.size ((bm,mgO v0 v1 v):: (bw,wrO s a e):: (D1++ (D2++ (D3++DG)))):=⟨hwm,hww,hN1.app (hN2.app (hN3.app hNG))⟩
   have hMD:MgD ((bm,mgO v0 v1 v):: (bw,wrO s a e):: (D1++ (D2++ (D3++DG)))) bm l u m:=⟨v0,v1,v,by simp,Gr.i hG1 fun p hp=>by simp[hp],Gr.i hG2 fun p hp=>by simp[hp],Gr.i hG3 fun p hp=>by simp[hp]⟩
   have hnl:l.length≤40:=by omega
   have hll:m.length≤8000:=by omega
   clear hrr hlm
   first|with_reducible refine ks [] (And.intro @zN_ @d1) ?_|refine kp (And.intro @zN_ @d1) ?_
   refine Cw.rebaseX (S1:=fun v D=>((vU_ s a e=0∧zC_ l m=true∧z5_ (xZ_ l u m)=b)→v= .tuple #[vp bm 0,vi 0])∧(¬ (vU_ s a e=0∧zC_ l m=true∧z5_ (xZ_ l u m)=b)→v= .tuple #[.pointer none,vi 2])) (by rfl) (fun w1 hw1=> ?_) (fun v' D' hD' hv'=> ?_)
   ·have hC1:=hC.newP hw1 hNr
    have hM1:=hMD.inW hw1
    have hb1:w1.heap[bw]? =some (wrO s a e):=hw1.has _ _ (by simp)
    have hbl:=(Array.getElem?_eq_some_iff.1 hb1).1
    clear hw1 hMD hNr
    first|with_reducible refine ks [] @zN_ ?_|refine kp @zN_ ?_
    refine Ow.callFV rfl Tryz.call92 (fun w' hw'=>Kf_ bw s a e w' (by rw[hw'.old bw hbl (by simp[keys])];exact hb1)) ?_
    by_cases he:vU_ s a e=0
    ·have e1': (vU_ s a e !=0)=false:=by rw[he];rfl
     refine ko (And.intro @zN_ @e1') ?_
     refine Ow.callFV rfl Tryz.call73 (fun w' hw'=>wK_ bm l u m w' (hM1.old hw' trivial) (by omega) (by omega) (hmo.1.short (by decide))) ?_
     cases hri:zC_ l m with
     |false=>
      refine ko @zN_ ?_
      first|with_reducible refine ks [] @zN_ ?_|refine kp @zN_ ?_
      refine⟨_,(ke @zN_), ?_⟩
      exact⟨Ext.refl w1 [],⟨fun h=>(by have:=h.2.1;cases this),fun _=>rfl⟩⟩
     |true=>
      refine ko @zN_ ?_
      refine Ow.callFV rfl Tryz.call77 (fun w' hw'=>JL_ bm l u m w' (hC1.newP hw' trivial) (hM1.old hw' trivial) hul hnl hll (hmo.1.mono (by decide)) (hmo.2.mono (by decide))) ?_
      by_cases hbb:z5_ (xZ_ l u m)=b
      ·have d5: (z5_ (xZ_ l u m) !=b)=false:=bne_eq_false_iff_eq.2 hbb
       refine ko (And.intro @zN_ @d5) ?_
       first|with_reducible refine ks [] @zN_ ?_|refine kp @zN_ ?_
       refine⟨_,(ke @zN_), ?_⟩
       exact⟨Ext.refl w1 [],⟨fun _=>rfl,fun h=>absurd ⟨he,rfl,hbb⟩ h⟩⟩
      ·have d5: (z5_ (xZ_ l u m) !=b)=true:=bne_iff_ne.2 hbb
       refine ko (And.intro @zN_ @d5) ?_
       first|with_reducible refine ks [] @zN_ ?_|refine kp @zN_ ?_
       refine⟨_,(ke @zN_), ?_⟩
       exact⟨Ext.refl w1 [],⟨fun h=>absurd h.2.2 hbb,fun _=>rfl⟩⟩
    ·have e1': (vU_ s a e !=0)=true:=bne_iff_ne.2 he
     refine ko (And.intro @zN_ @e1') ?_
     first|with_reducible refine ks [] @zN_ ?_|refine kp @zN_ ?_
     refine⟨_,(ke @zN_), ?_⟩
     exact⟨Ext.refl w1 [],⟨fun h=>absurd h.1 he,fun _=>rfl⟩⟩
   ·refine⟨Ext.of_new (hNr.app hD'), ?_⟩
    by_cases hc:vU_ s a e=0∧zC_ l m=true∧z5_ (xZ_ l u m)=b
    ·rw[hyes hc]
     exact⟨bm,hv'.1 hc,hMD.mono fun p hp=>List.mem_append_left _ hp⟩
    ·rw[hno hc]
     exact hv'.2 hc
end Go.Proofs
end
section
open Go Go.Proofs Go.Sx Go.StP Go.Flo
namespace Go.Proofs
set_option maxRecDepth 10000
set_option maxHeartbeats 1000000
set_option linter.unusedSimpArgs false
theorem akZ_ (b o:Nat):qE_ Tryz.prog .eql 76 (vp b o) (.pointer none)=some (.bool false):=by
 simp[qE_,eqX,qu_,qz_,Tryz.underlying76,vp]
theorem agh_:qE_ Tryz.prog .eql 76 (.pointer none) (.pointer none)=some (.bool true):=by
 simp[qE_,eqX,qu_,qz_,Tryz.underlying76]
theorem K3_ (b o n c:Nat):qE_ Tryz.prog .eql 68 (vsl b o n c) (.slice none 0 0)=some (.bool false):=by
 simp[qE_,eqX,qu_,qz_,Tryz.underlying68,vsl]
theorem QL_:qE_ Tryz.prog .eql 68 (.slice none 0 0) (.slice none 0 0)=some (.bool true):=by
 simp[qE_,eqX,qu_,qz_,Tryz.underlying68]
theorem ai7_ (ls:List UInt8): (kU_ ls).all Value.oneCell'=true:=rfl
set_option linter.defProp false
def kA_:=And.intro (@zf_) (@ze_)
theorem ZA_ (v:Value) (ls:List (List UInt8)) (w:World) (hv:Zu_ w v ls) (hl:ls.length<1000000):
  Rets Tryz.prog 99 #[v] w (XS w [] (fun v D=>Gr D 9 1 v ls.length (ls.map kU_).flatten)):=by
 obtain⟨b,off,c,arr,E,fz,hr,hc,⟨rfl,rfl,rfl⟩ | ⟨rfl,hb,hsz⟩⟩:=hv
 ·refine Rets.enterX Tryz.func99 rfl (rs:= [.tmp 2]) Tryz.results99 Tryz.ntmps99 (fun p hp=>by cases hp) (by simp[keys]) ?_
  refine kf ?_
  first|with_reducible refine ks [] (And.intro @kA_ (And.intro @K3_ (@QL_))) ?_|refine kp (And.intro @kA_ (And.intro @K3_ (@QL_))) ?_
  refine⟨_,(ke @kA_), ?_⟩
  exact⟨Ext.refl _ _,Gr.nl⟩
 ·have hbl:=(Array.getElem?_eq_some_iff.1 hb).1
  have hv:Zu_ w (vsl b off ls.length c) ls:=⟨b,off,c,arr,E,fz,hr,hc, .inr ⟨rfl,hb,hsz⟩⟩
  refine Rets.enterX Tryz.func99 rfl (rs:= [.tmp 2]) Tryz.results99 Tryz.ntmps99 (fun p hp=>by cases hp) (by simp[keys]) ?_
  refine kf ?_
  first|with_reducible refine ks [] (And.intro @kA_ (And.intro @K3_ (@QL_))) ?_|refine kp (And.intro @kA_ (And.intro @K3_ (@QL_))) ?_
  refine Ow.buildSlice (e:=9) #[] rfl rfl (by kernel_rfl) fun b1 hb1 hw1=> ?_
  refine ko @kA_ ?_
  refine Ow.appendG (e:=9) (k:=ls.length) (new:=(ls.map kU_).flatten) (vsl b1 0 0 0) rfl rfl rfl Tryz.underlying68 (id (by kernel_rfl):zP_ Tryz.prog 9=some (false,1)) (by kernel_rfl) (id (by kernel_rfl):zZ_ Tryz.prog 9=some (vs [])) rfl Tryz.underlying68 (by intro k h;cases h) (.inr ⟨rfl,rfl,b1,rfl,k0_ hb1⟩) (fun w' hw'=>(hv.oldN hw' ⟨hw1,trivial⟩).appX qy_ ai7_) (kp_ qy_ ls) (by omega) (fun v2 L2 hB hB2 hG hS=> ?_)
  rw[Nat.zero_add,List.nil_append] at hB
  refine ko @kA_ ?_
  first|with_reducible refine ks [] @kA_ ?_|refine kp @kA_ ?_
  refine⟨_,(ke @kA_), ?_⟩
  exact⟨((Ext.refl w []).app (o:=Obj.cells #[] 9 (0,0)) hw1).grew hG,hB⟩
theorem adB_ (b o n c:Nat):qE_ Tryz.prog .eql 82 (vsl b o n c) (.slice none 0 0)=some (.bool false):=by
 simp[qE_,eqX,qu_,qz_,Tryz.underlying82,vsl]
theorem KW_:qE_ Tryz.prog .eql 82 (.slice none 0 0) (.slice none 0 0)=some (.bool true):=by
 simp[qE_,eqX,qu_,qz_,Tryz.underlying82]
theorem VC_ (v:Value) (ls:List LnL) (w:World) (hv:LnSl w v ls) (hl:ls.length<1000000):
  Rets Tryz.prog 100 #[v] w (XS w [] (fun v D=>Gr D 89 35 v ls.length (ls.map lnC).flatten)):=by
 obtain⟨b,off,c,arr,E,fz,hr,hc,⟨rfl,rfl,rfl⟩ | ⟨rfl,hb,hsz⟩⟩:=hv
 ·refine Rets.enterX Tryz.func100 rfl (rs:= [.tmp 2]) Tryz.results100 Tryz.ntmps100 (fun p hp=>by cases hp) (by simp[keys]) ?_
  refine kf ?_
  first|with_reducible refine ks [] (And.intro @kA_ (And.intro @adB_ (@KW_))) ?_|refine kp (And.intro @kA_ (And.intro @adB_ (@KW_))) ?_
  refine⟨_,(ke @kA_), ?_⟩
  exact⟨Ext.refl _ _,Gr.nl⟩
 ·have hbl:=(Array.getElem?_eq_some_iff.1 hb).1
  have hv:LnSl w (vsl b off ls.length c) ls:=⟨b,off,c,arr,E,fz,hr,hc, .inr ⟨rfl,hb,hsz⟩⟩
  refine Rets.enterX Tryz.func100 rfl (rs:= [.tmp 2]) Tryz.results100 Tryz.ntmps100 (fun p hp=>by cases hp) (by simp[keys]) ?_
  refine kf ?_
  first|with_reducible refine ks [] (And.intro @kA_ (And.intro @adB_ (@KW_))) ?_|refine kp (And.intro @kA_ (And.intro @adB_ (@KW_))) ?_
  refine Ow.buildSlice (e:=89) #[] rfl rfl (by kernel_rfl) fun b1 hb1 hw1=> ?_
  refine ko @kA_ ?_
  refine Ow.appendG (e:=89) (k:=ls.length) (new:=(ls.map lnC).flatten) (vsl b1 0 0 0) rfl rfl rfl Tryz.underlying82 Tryz.ag89 (by kernel_rfl) J7_ (by rw[z3_,List.size_toArray,zq_]) Tryz.underlying82 (by intro k h;cases h) (.inr ⟨rfl,rfl,b1,rfl,k0_ hb1⟩) (fun w' hw'=>(hv.oldN hw' ⟨hw1,trivial⟩).appX zq_ xn_) (kp_ zq_ ls) (by omega) (fun v2 L2 hB hB2 hG hS=> ?_)
  rw[Nat.zero_add,List.nil_append] at hB
  refine ko @kA_ ?_
  first|with_reducible refine ks [] @kA_ ?_|refine kp @kA_ ?_
  refine⟨_,(ke @kA_), ?_⟩
  exact⟨((Ext.refl w []).app (o:=Obj.cells #[] 89 (0,0)) hw1).grew hG,hB⟩
set_option linter.defProp false
def jY_:=And.intro (And.intro (@zf_) (And.intro (@ze_) (@wb_))) (And.intro (And.intro (@wY_) (@wk_)) (And.intro (@akZ_) (@agh_)))
theorem abf_ (b:Nat) (names sums:List (List UInt8)) (lines:List LnL) (w:World) (h:MgIn w b names sums lines) (hl:names.length<1000000):
  Rets Tryz.prog 38 #[vp b 0] w (XS w [] (fun v D=>GrI D 9 1 v names.length (names.map kU_).flatten)):=by
 obtain⟨v0,v1,v2,h1,h2,h3,h4⟩:=id h
 refine Rets.enterX Tryz.func38 rfl (rs:= [.tmp 2]) Tryz.results38 Tryz.ntmps38 (fun p hp=>by cases hp) (by simp[keys]) ?_
 refine kf ?_
 first|with_reducible refine ks [] (And.intro @jY_ @h1) ?_|refine kp (And.intro @jY_ @h1) ?_
 refine Ow.callX (Y:= []) (by simp) rfl rfl Tryz.call99 (fun w' hw' hX hn=>ZA_ _ names w' (h2.oldN hw' trivial) hl) (fun v2 D2 hC2 hS2=> ?_)
 rw[List.append_nil]
 refine ko @jY_ ?_
 first|with_reducible refine ks [] @jY_ ?_|refine kp @jY_ ?_
 refine⟨_,(ke @jY_), ?_⟩
 exact⟨Ext.of_new (New.of_le fun c hc=>(hC2.new c hc).elim (fun h=>by cases h) fun h=>h.2),Gr.i hS2 fun p hp=>hp⟩
theorem Kk_ (w:World):Rets Tryz.prog 38 #[.pointer none] w (fun v D=>v= .slice none 0 0∧D= []):=by
 refine Rets.enterV Tryz.func38 rfl (rs:= [.tmp 2]) Tryz.results38 Tryz.ntmps38 ?_
 refine kf ?_
 first|with_reducible refine ks [] @jY_ ?_|refine kp @jY_ ?_
 refine⟨_,(ke @jY_),trivial, ?_⟩
 rfl
theorem aeE_ (b:Nat) (names sums:List (List UInt8)) (lines:List LnL) (w:World) (h:MgIn w b names sums lines) (hl:sums.length<1000000):
  Rets Tryz.prog 39 #[vp b 0] w (XS w [] (fun v D=>GrI D 9 1 v sums.length (sums.map kU_).flatten)):=by
 obtain⟨v0,v1,v2,h1,h2,h3,h4⟩:=id h
 refine Rets.enterX Tryz.func39 rfl (rs:= [.tmp 2]) Tryz.results39 Tryz.ntmps39 (fun p hp=>by cases hp) (by simp[keys]) ?_
 refine kf ?_
 first|with_reducible refine ks [] (And.intro @jY_ @h1) ?_|refine kp (And.intro @jY_ @h1) ?_
 refine Ow.callX (Y:= []) (by simp) rfl rfl Tryz.call99 (fun w' hw' hX hn=>ZA_ _ sums w' (h3.oldN hw' trivial) hl) (fun v2 D2 hC2 hS2=> ?_)
 rw[List.append_nil]
 refine ko @jY_ ?_
 first|with_reducible refine ks [] @jY_ ?_|refine kp @jY_ ?_
 refine⟨_,(ke @jY_), ?_⟩
 exact⟨Ext.of_new (New.of_le fun c hc=>(hC2.new c hc).elim (fun h=>by cases h) fun h=>h.2),Gr.i hS2 fun p hp=>hp⟩
theorem aaa_ (w:World):Rets Tryz.prog 39 #[.pointer none] w (fun v D=>v= .slice none 0 0∧D= []):=by
 refine Rets.enterV Tryz.func39 rfl (rs:= [.tmp 2]) Tryz.results39 Tryz.ntmps39 ?_
 refine kf ?_
 first|with_reducible refine ks [] @jY_ ?_|refine kp @jY_ ?_
 refine⟨_,(ke @jY_),trivial, ?_⟩
 rfl
theorem QZ_ (b:Nat) (names sums:List (List UInt8)) (lines:List LnL) (w:World) (h:MgIn w b names sums lines) (hl:lines.length<1000000):
  Rets Tryz.prog 40 #[vp b 0] w (XS w [] (fun v D=>GrI D 89 35 v lines.length (lines.map lnC).flatten)):=by
 obtain⟨v0,v1,v2,h1,h2,h3,h4⟩:=id h
 refine Rets.enterX Tryz.func40 rfl (rs:= [.tmp 2]) Tryz.results40 Tryz.ntmps40 (fun p hp=>by cases hp) (by simp[keys]) ?_
 refine kf ?_
 first|with_reducible refine ks [] (And.intro @jY_ @h1) ?_|refine kp (And.intro @jY_ @h1) ?_
 refine Ow.callX (Y:= []) (by simp) rfl rfl Tryz.call100 (fun w' hw' hX hn=>VC_ _ lines w' (h4.oldN hw' trivial) hl) (fun v2 D2 hC2 hS2=> ?_)
 rw[List.append_nil]
 refine ko @jY_ ?_
 first|with_reducible refine ks [] @jY_ ?_|refine kp @jY_ ?_
 refine⟨_,(ke @jY_), ?_⟩
 exact⟨Ext.of_new (New.of_le fun c hc=>(hC2.new c hc).elim (fun h=>by cases h) fun h=>h.2),Gr.i hS2 fun p hp=>hp⟩
theorem X8_ (w:World):Rets Tryz.prog 40 #[.pointer none] w (fun v D=>v= .slice none 0 0∧D= []):=by
 refine Rets.enterV Tryz.func40 rfl (rs:= [.tmp 2]) Tryz.results40 Tryz.ntmps40 ?_
 refine kf ?_
 first|with_reducible refine ks [] @jY_ ?_|refine kp @jY_ ?_
 refine⟨_,(ke @jY_),trivial, ?_⟩
 rfl
def xc_ (l:List LnL) (x:IdL):LnL×Bool:=match l.find? (fun r=>r.id.l==x.l) with
 |some r=>(r,true)
 |none=>(Go.Proofs.ln0,false)
theorem Qm_ {l:List LnL} {i:Nat} (h:i<l.length):l.getD i Go.Proofs.ln0=l[i]:=by rw[List.getD_eq_getElem?_getD,List.getElem?_eq_getElem h];rfl
theorem abc_ {l:List LnL} {n:Nat} (h:vs_ (kv_ l) n=true) {i:Nat}: ∀ {j:Nat},i<j→j<n→ltB (l.getD i Go.Proofs.ln0).id.l (l.getD j Go.Proofs.ln0).id.l=true
 |0,hij,_=>absurd hij (Nat.not_lt_zero _)
 |j+1,hij,hj=>by
  have h2:ltB (l.getD j Go.Proofs.ln0).id.l (l.getD (j+1) Go.Proofs.ln0).id.l=true:=by
   have h3:=vw_ (k:=j+2) (by omega) h
   unfold vs_ at h3
   rw[Bool.and_eq_true,Bool.or_eq_true,decide_eq_true_eq,decide_eq_true_eq] at h3
   rcases h3.2 with h4|h4
   ·omega
   ·exact cmpI_lt.1 h4
  by_cases e:i=j
  ·subst e;exact h2
  ·exact xS_ (abc_ h (by omega) (by omega)) h2
theorem akH_ {l:List LnL} (h:vs_ (kv_ l) l.length=true) (x:IdL) {p:Nat} (h2:p≤l.length) (h3:p=0∨ltB (l.getD (p - 1) Go.Proofs.ln0).id.l x.l=true) (h4:p=l.length∨ltB (l.getD p Go.Proofs.ln0).id.l x.l=false):
  xc_ l x=if p<l.length∧(l.getD p Go.Proofs.ln0).id.l=x.l then(l.getD p Go.Proofs.ln0,true) else(Go.Proofs.ln0,false):=by
 have key: ∀j,j<l.length→(l.getD j Go.Proofs.ln0).id.l=x.l→j=p:=by
  intro j hj e
  rcases Nat.lt_trichotomy j p with hlt|e'|hlt
  ·rcases h3 with h3|h3
   ·omega
   ·by_cases e2:j=p - 1
    ·subst e2;rw[e,jA_] at h3;cases h3
    ·have:=abc_ h (show j<p - 1 by omega) (by omega)
     rw[e] at this
     have:=xS_ this h3
     rw[jA_] at this;cases this
  ·exact e'
  ·rcases h4 with h4|h4
   ·omega
   ·have:=abc_ h hlt hj
    rw[e,h4] at this;cases this
 unfold xc_
 by_cases hc:p<l.length∧(l.getD p Go.Proofs.ln0).id.l=x.l
 ·rw[if_pos hc]
  have hm:l.getD p Go.Proofs.ln0∈l:=by rw[Qm_ hc.1];exact List.getElem_mem hc.1
  cases hf:l.find? (fun r=>r.id.l==x.l) with
  |none=>
   have:=List.find?_eq_none.1 hf _ hm
   rw[hc.2] at this
   exact absurd (beq_self_eq_true x.l) this
  |some r=>
   have h5:=List.find?_some hf
   obtain⟨j,hj,rfl⟩:=List.getElem_of_mem (List.mem_of_find?_eq_some hf)
   rw[←Qm_ hj] at h5 ⊢
   have:=key j hj (by simpa using h5)
   subst this;rfl
 ·rw[if_neg hc]
  cases hf:l.find? (fun r=>r.id.l==x.l) with
  |none=>rfl
  |some r=>
   have h5:=List.find?_some hf
   obtain⟨j,hj,rfl⟩:=List.getElem_of_mem (List.mem_of_find?_eq_some hf)
   rw[←Qm_ hj] at h5
   have h6:=key j hj (by simpa using h5)
   refine absurd ⟨by omega, ?_⟩ hc
   rw[←h6];simpa using h5
theorem agU_ (a b:IdL): (wQ_ a b==0)=(a.l==b.l):=by
 unfold wQ_ cmpS
 cases h:ltB a.l b.l with
 |true=>
  have:=agn_ h
  rw[if_pos rfl,beq_eq_false_iff_ne.2 this];rfl
 |false=>
  rw[if_neg (by simp)]
  cases h2:ltB b.l a.l with
  |true=>
   have:=agn_ h2
   rw[if_pos rfl,beq_eq_false_iff_ne.2 (Ne.symm this)];rfl
  |false=>
   rw[if_neg (by simp)]
   have:a.l=b.l:=Decidable.byContradiction fun hne=>by rw[x2_ h hne] at h2;cases h2
   rw[this];exact(beq_self_eq_true _).symm
def askM (l:List LnL) (x:IdL) (k:Nat):Bool:=decide (0≤wQ_ (l.getD k Go.Proofs.ln0).id x)
set_option linter.defProp false
def jX_:=And.intro (And.intro (@zf_) (@ze_)) (And.intro (@Ze_) (And.intro (@z3_) (@xX_)))
theorem ag4_ (v:Value) (l:List LnL) (y:LnL) (w:World) (hv:LnSl w v l) (hl:l.length<1000000):Rets Tryz.prog 101 #[v, .agg (lnC y).toArray, .func (.func 102) #[] #[]] w (fun v' D=>v'= .tuple #[vi (Vy_ (askM l y.id) 0 l.length:Nat), .bool (decide (Vy_ (askM l y.id) 0 l.length<l.length)&& ((l.getD (Vy_ (askM l y.id) 0 l.length) Go.Proofs.ln0).id.l==y.id.l))]∧D= []):=by
 obtain⟨rb,off,arr,E,fz,hr⟩:=hv.row
 have ln:=hv.len
 refine Rets.enterV Tryz.func101 rfl (rs:= [.tmp 6, .tmp 7]) Tryz.results101 Tryz.ntmps101 ?_
 refine kf ?_
 obtain⟨R,hR⟩: ∃r,r=Vy_ (askM l y.id) 0 l.length:=⟨_,rfl⟩
 have hRn:R≤l.length:=by rw[hR];exact(wS_ (askM l y.id) _ 0 l.length (Nat.le_refl _) (Nat.zero_le _)).2.1
 rw[←hR]
 first|with_reducible refine ks [] @jX_ ?_|refine kp @jX_ ?_
 refine Ow.box rfl rfl fun b4 hb4 hw4=> ?_
 simp only[jt_,jm_,jn_,zg_,List.nil_append,List.cons_append]
 refine Ow.go rfl ?_
 simp(disch:=(first|assumption|omega| (simp only[kd_,kc_,UInt64.reduceToNat];try omega))) only[↓Sx.S0,Sx.S1,Tryz.fx,jX_,Nat.reduceAdd,Nat.reducePow,Int.reducePow,Nat.reduceBEq, ↓reduceIte,UInt8.reduceToNat,UInt16.reduceToNat,UInt32.reduceToNat,UInt64.reduceToNat,Int.reduceToNat]
 have hN:New w.heap.size [(b4,Obj.cells (lnC y).toArray 89 (0,0))]:=⟨hw4,trivial⟩
 first|with_reducible refine ks [] (And.intro @jX_ @ln) ?_|refine kp (And.intro @jX_ @ln) ?_
 refine Cw.loopG (G:=SrG) [15,16,17,18,19,20,21,22,23,11,24,25,26,27,28,29,30,31,32,33,9,34,10] (fun g=> [(6,vi 0),(7, .bool false),(9,vi g.i),(10,vi g.j)]) (fun g=> [(b4, .cells (lnC y).toArray 89 (0,0))]) (fun g=>g.i≤g.j∧g.j≤l.length∧R=Vy_ (askM l y.id) g.i g.j) (fun g=>g.j - g.i) ⟨0,l.length⟩ rfl rfl ?_ ?_
 ·exact⟨Nat.zero_le _,Nat.le_refl _,hR⟩
 intro g j hg
 refine kv ?_
 obtain⟨i,j⟩:=g
 simp only at hg ⊢
 obtain⟨h1,h2,h3⟩:=hg
 by_cases hlt:i<j
 ·have d1:decide ((i:Int)< (j:Int))=true:=decide_eq_true (by omega)
  rw[Vy_,if_pos hlt] at h3
  have hm: (i+j) / 2<l.length:=by omega
  have hb:=hr.has (by omega)
  have hrl:=hr.lt (by omega)
  have hn4:b4≠rb:=by omega
  have ix:=hr.idx true ((i+j) / 2) hm
  have ld:=hr.load zq_ (by omega) hm
  first|with_reducible refine ks [] (And.intro @jX_ @d1) ?_|refine kp (And.intro @jX_ @d1) ?_
  refine Cw.regionS [b4,rb] [0,1,2,3,4,5,6,7] [] (by kernel_rfl) (by kernel_rfl) (by kernel_rfl) ?_
  simp only[zh_, ↓zd_, ↓zb_, ↓zl_, ↓zm_,za_]
  refine kq (And.intro @jX_ (And.intro @hb (And.intro @ix (@ld)))) ?_
  refine Ow.soft rfl rfl rfl ?_
  refine Ow.callFn2 (v:=vi (wQ_ (l.getD ((i+j) / 2) Go.Proofs.ln0).id y.id)) rfl rfl rfl rfl Tryz.call102 (fun w' hw'=>wD_ _ y w') ?_
  with_reducible refine Ow.nil ?_
  refine⟨by intro b hb;simp only[List.mem_cons,List.not_mem_nil,or_false] at hb;(try subst hb);rfl, ?_⟩
  cases hp:askM l y.id ((i+j) / 2) with
  |true=>
   rw[hp,if_pos rfl] at h3
   have hc:decide (wQ_ (l.getD ((i+j) / 2) Go.Proofs.ln0).id y.id<0)=false:=decide_eq_false (by have:=of_decide_eq_true (show decide _=true from hp);omega)
   refine kq (And.intro @jX_ @hc) ?_
   try with_reducible refine Ow.nil ?_
   first|with_reducible refine ks [] @jX_ ?_|refine kp @jX_ ?_
   exact Again.mk ⟨i,(i+j) / 2⟩ (by show(i+j) / 2 - i<j - i;omega) ⟨by show i≤ (i+j) / 2;omega,by show(i+j) / 2≤l.length;omega,h3⟩ rfl rfl
  |false=>
   rw[hp,if_neg (by simp)] at h3
   have hc:decide (wQ_ (l.getD ((i+j) / 2) Go.Proofs.ln0).id y.id<0)=true:=decide_eq_true (by have:=of_decide_eq_false (show decide _=false from hp);omega)
   refine kq (And.intro @jX_ @hc) ?_
   try with_reducible refine Ow.nil ?_
   first|with_reducible refine ks [] @jX_ ?_|refine kp @jX_ ?_
   exact Again.mk ⟨(i+j) / 2+1,j⟩ (by show j - ((i+j) / 2+1)<j - i;omega) ⟨by show(i+j) / 2+1≤j;omega,h2,h3⟩ rfl rfl
 ·have d1:decide ((i:Int)< (j:Int))=false:=decide_eq_false (by omega)
  rw[Vy_,if_neg hlt] at h3
  subst h3
  by_cases hk:R<l.length
  ·have d2:decide ((R:Int)< (l.length:Int))=true:=decide_eq_true (by omega)
   have hb:=hr.has (by omega)
   have hrl:=hr.lt (by omega)
   have hn4:b4≠rb:=by omega
   have ix:=hr.idx true R hk
   have ld:=hr.load zq_ (by omega) hk
   rw[decide_eq_true hk,Bool.true_and,←agU_]
   first|with_reducible refine ks [] (And.intro @jX_ @d1) ?_|refine kp (And.intro @jX_ @d1) ?_
   refine Cw.regionS [b4,rb] [0,1,2,3,4,5,6,7,8,9,10,11,12,13,14,15] [] (by kernel_rfl) (by kernel_rfl) (by kernel_rfl) ?_
   simp only[zh_, ↓zd_, ↓zb_, ↓zl_, ↓zm_,za_]
   refine kq (And.intro @jX_ (And.intro @d2 (And.intro @hb (And.intro @ix (@ld))))) ?_
   refine Ow.soft rfl rfl rfl ?_
   refine Ow.callFn2 (v:=vi (wQ_ (l.getD R Go.Proofs.ln0).id y.id)) rfl rfl rfl rfl Tryz.call102 (fun w' hw'=>wD_ _ y w') ?_
   with_reducible refine Ow.nil ?_
   refine⟨by intro b hb;simp only[List.mem_cons,List.not_mem_nil,or_false] at hb;(try subst hb);rfl, ?_⟩
   refine kq @jX_ ?_
   try with_reducible refine Ow.nil ?_
   first|with_reducible refine ks [] @jX_ ?_|refine kp @jX_ ?_
   refine⟨_,(ke @jX_),hN, ?_⟩
   rfl
  ·have d2:decide ((R:Int)< (l.length:Int))=false:=decide_eq_false (by omega)
   rw[decide_eq_false hk,Bool.false_and]
   first|with_reducible refine ks [] (And.intro @jX_ @d1) ?_|refine kp (And.intro @jX_ @d1) ?_
   refine Cw.regionS [b4] [0,1,2,3,4,5,6,7,8,9,10,11,12,13,14,15] [] (by kernel_rfl) (by kernel_rfl) (by kernel_rfl) ?_
   simp only[zh_, ↓zd_, ↓zb_, ↓zl_, ↓zm_,za_]
   refine kq (And.intro @jX_ @d2) ?_
   try with_reducible refine Ow.nil ?_
   first|with_reducible refine ks [] @jX_ ?_|refine kp @jX_ ?_
   refine⟨_,(ke @jX_),hN, ?_⟩
   rfl
end Go.Proofs
end
section
open Go Go.Proofs Go.Sx Go.StP Go.Flo
namespace Go.Proofs
set_option maxRecDepth 10000
set_option maxHeartbeats 1000000
set_option linter.unusedSimpArgs false
def aiW_ (names:List (List UInt8)) (r:LnL×Bool):List UInt8:=if r.2 then names.getD r.1.share.toNat [] else []
def WZ_ (names:List (List UInt8)) (lines:List LnL) (x:IdL):Value:= .tuple #[vs (aiW_ names (xc_ lines x)), .agg (lnC (xc_ lines x).1).toArray, .bool (xc_ lines x).2]
set_option linter.defProp false
def q7_:=And.intro (And.intro (And.intro (@qY_) (And.intro (@zf_) (@ze_))) (And.intro (And.intro (@Ze_) (@z3_)) (And.intro (@xX_) (@jK_)))) (And.intro (And.intro (And.intro (@j7_) (@js_)) (And.intro (@wb_) (@wk_))) (And.intro (And.intro (@akZ_) (@agh_)) (And.intro (@Sx.tup2_0) (@Sx.tup2_1))))
theorem afb_ (x:IdL) (w:World):Rets Tryz.prog 42 #[.pointer none, .agg (a8 x.l)] w (fun v D=>v= .tuple #[vs [], .agg (lnC Go.Proofs.ln0).toArray, .bool false]∧D= []):=by
 refine Rets.enterV Tryz.func42 rfl (rs:= [.tmp 4, .cell 5 89, .tmp 6]) Tryz.results42 Tryz.ntmps42 ?_
 refine kf ?_
 first|with_reducible refine ks [] @q7_ ?_|refine kp @q7_ ?_
 refine Ow.box rfl rfl fun b2 hb2 hw2=> ?_
 simp only[jt_,jm_,jn_,zg_,List.nil_append,List.cons_append]
 refine Ow.go rfl ?_
 simp(disch:=(first|assumption|omega| (simp only[kd_,kc_,UInt64.reduceToNat];try omega))) only[↓Sx.S0,Sx.S1,Tryz.fx,q7_,Nat.reduceAdd,Nat.reducePow,Int.reducePow,Nat.reduceBEq, ↓reduceIte,UInt8.reduceToNat,UInt16.reduceToNat,UInt32.reduceToNat,UInt64.reduceToNat,Int.reduceToNat]
 refine Ow.alloc rfl rfl J7_ fun b3 hb3 hw3=> ?_
 simp only[zg_,List.nil_append,List.cons_append]
 obtain⟨h23,-⟩:=hb3
 refine Ow.permL (M:= [(b3, .cells (lnC Go.Proofs.ln0).toArray 89 (0,0)),(b2, .cells (a8 x.l) 86 (0,0))]) (by classical exact List.perm_iff_count.2 fun a=>by simp only[List.count_append,List.count_cons,List.count_nil]<;>omega) ?_
 refine ko @q7_ ?_
 first|with_reducible refine ks [] @q7_ ?_|refine kp @q7_ ?_
 refine Ow.build (.agg (lnC Go.Proofs.ln0).toArray) rfl (by rw[show vo_ Tryz.prog 89=some [(0,32),(32,1),(33,1),(34,1)] from id (by kernel_rfl),J7_];simp[ql_,Sx.fillV]) ?_
 refine ko @q7_ ?_
 first|with_reducible refine ks [] @q7_ ?_|refine kp @q7_ ?_
 refine⟨_,(ke @q7_),⟨hw3,hw2,trivial⟩, ?_⟩
 rfl
theorem Ke_ (b:Nat) (names sums:List (List UInt8)) (lines:List LnL) (x:IdL) (w:World) (h:MgIn w b names sums lines) (hok:zC_ names lines=true) (hn:names.length<1000000) (hl:lines.length<1000000):
  Rets Tryz.prog 42 #[vp b 0, .agg (a8 x.l)] w (fun v D=>v=WZ_ names lines x∧D= []):=by
 obtain⟨v0,v1,v2,h1,h2,h3,h4⟩:=id h
 obtain⟨rb,off,arr,E,fz,hr⟩:=h4.row
 obtain⟨sb,soff,sarr,SE,sfz,hsr⟩:=h2.row
 have hbil:=(Array.getElem?_eq_some_iff.1 h1).1
 unfold zC_ at hok
 rw[Bool.and_eq_true,Bool.and_eq_true,Bool.and_eq_true] at hok
 obtain⟨⟨-,hris⟩,hall⟩:=hok
 rw[Bool.and_eq_true] at hall
 have hlin:=hall.1
 have hbs:=wS_ (askM lines x) _ 0 lines.length (Nat.le_refl _) (Nat.zero_le _)
 generalize hat:Vy_ (askM lines x) 0 lines.length=R at hbs
 have hfa:=akH_ hris x (p:=R) hbs.2.1 (by
  rcases hbs.2.2.1 with e|e
  ·left;omega
  ·by_cases h0:R=0
   ·left;omega
   ·right
    unfold askM at e
    rw[decide_eq_false_iff_not] at e
    exact cmpI_lt.1 (Int.not_le.1 e)) (by
  rcases hbs.2.2.2 with e|e
  ·left;omega
  ·right
   unfold askM at e
   rw[decide_eq_true_eq] at e
   exact cmpI_ge.1 e)
 unfold WZ_
 rw[hfa]
 refine Rets.enterV Tryz.func42 rfl (rs:= [.tmp 4, .cell 5 89, .tmp 6]) Tryz.results42 Tryz.ntmps42 ?_
 refine kf ?_
 first|with_reducible refine ks [] @q7_ ?_|refine kp @q7_ ?_
 refine Ow.box rfl rfl fun b2 hb2 hw2=> ?_
 simp only[jt_,jm_,jn_,zg_,List.nil_append,List.cons_append]
 refine Ow.go rfl ?_
 simp(disch:=(first|assumption|omega| (simp only[kd_,kc_,UInt64.reduceToNat];try omega))) only[↓Sx.S0,Sx.S1,Tryz.fx,q7_,Nat.reduceAdd,Nat.reducePow,Int.reducePow,Nat.reduceBEq, ↓reduceIte,UInt8.reduceToNat,UInt16.reduceToNat,UInt32.reduceToNat,UInt64.reduceToNat,Int.reduceToNat]
 refine Ow.alloc rfl rfl J7_ fun b3 hb3 hw3=> ?_
 simp only[zg_,List.nil_append,List.cons_append]
 obtain⟨h23,-⟩:=hb3
 refine Ow.permL (M:= [(b3, .cells (lnC Go.Proofs.ln0).toArray 89 (0,0)),(b2, .cells (a8 x.l) 86 (0,0))]) (by classical exact List.perm_iff_count.2 fun a=>by simp only[List.count_append,List.count_cons,List.count_nil]<;>omega) ?_
 refine ko @q7_ ?_
 have hN3:New w.heap.size [(b3,Obj.cells (lnC Go.Proofs.ln0).toArray 89 (0,0)),(b2, .cells (a8 x.l) 86 (0,0))]:=⟨hw3,hw2,trivial⟩
 have hn2b:b2≠b:=by omega
 have hn3b:b3≠b:=by omega
 first|with_reducible refine ks [] @q7_ ?_|refine kp @q7_ ?_
 refine Cw.regionS [b2,b] [0,1,2,3,4,5,6,7,8,9,10,11] [] (by kernel_rfl) (by kernel_rfl) (by kernel_rfl) ?_
 simp only[zh_, ↓zd_, ↓zb_, ↓zl_, ↓zm_,za_]
 refine kq (And.intro @q7_ @h1) ?_
 refine Ow.build (.agg (lnC ⟨x,0,0,0⟩).toArray) rfl (JK_ ⟨x,0,0,0⟩) ?_
 refine kq @q7_ ?_
 refine Ow.soft rfl rfl rfl ?_
 refine Ow.callFV rfl Tryz.call101 (fun w' hw'=>ag4_ v2 lines ⟨x,0,0,0⟩ w' (h4.oldN hw' hN3) hl) ?_
 rw[hat]
 with_reducible refine Ow.nil ?_
 refine⟨by intro b hb;simp only[List.mem_cons,List.not_mem_nil,or_false] at hb;(try subst hb);rfl, ?_⟩
 refine kq @q7_ ?_
 try with_reducible refine Ow.nil ?_
 by_cases hc:R<lines.length∧(lines.getD R Go.Proofs.ln0).id.l=x.l
 ·rw[if_pos hc]
  obtain⟨hRl,hRe⟩:=hc
  have hb:=hr.has (by omega)
  have hrl:=hr.lt (by omega)
  have ix:=hr.idx true R hRl
  have ld:=hr.load zq_ (by omega) hRl
  have hmem:lines.getD R Go.Proofs.ln0∈lines:=by rw[Qm_ hRl];exact List.getElem_mem hRl
  have hln:=List.all_eq_true.1 hlin _ hmem
  rw[decide_eq_true hRl,Bool.true_and,show((lines.getD R Go.Proofs.ln0).id.l==x.l)=true from by rw[hRe];exact beq_self_eq_true _]
  generalize lines.getD R Go.Proofs.ln0=r at*
  unfold qg_ at hln
  rw[Bool.and_eq_true,Bool.and_eq_true,Bool.and_eq_true,Bool.not_eq_true',Bool.not_eq_true',decide_eq_false_iff_not,decide_eq_false_iff_not] at hln
  obtain⟨i,sh,pl,sp⟩:=r
  simp only at hln hRe
  obtain⟨sn,rfl⟩: ∃sn:Nat,sh=(sn:Int):=⟨sh.toNat,by omega⟩
  have hsn:sn<names.length:=by omega
  have hsb:=hsr.has (by omega)
  have hsl:=hsr.lt (by omega)
  have isx:=hsr.idx false sn hsn
  have sd:=fun n=>jV_ hsr hsn n
  have hn2:b2≠rb:=by omega
  have hn3:b3≠rb:=by omega
  first|with_reducible refine ks [] (And.intro @q7_ (And.intro @h1 (And.intro @ix (And.intro @hb (@ld))))) ?_|refine kp (And.intro @q7_ (And.intro @h1 (And.intro @ix (And.intro @hb (@ld))))) ?_
  refine Ow.alloc rfl rfl J7_ fun b9 hb9 hw9=> ?_
  simp only[zg_,List.nil_append,List.cons_append]
  obtain⟨h92,h93,-⟩:=hb9
  refine Ow.permL (M:= [(b9, .cells (lnC Go.Proofs.ln0).toArray 89 (0,0)),(b3, .cells (lnC Go.Proofs.ln0).toArray 89 (0,0)),(b2, .cells (a8 x.l) 86 (0,0))]) (by classical exact List.perm_iff_count.2 fun a=>by simp only[List.count_append,List.count_cons,List.count_nil]<;>omega) ?_
  refine ko @q7_ ?_
  have hn9:b9≠rb:=by omega
  have hn9b:b9≠b:=by omega
  have hn9s:b9≠sb:=by omega
  have hn3s:b3≠sb:=by omega
  have hn2s:b2≠sb:=by omega
  first|with_reducible refine ks [] @q7_ ?_|refine kp @q7_ ?_
  refine Cw.regionS [b9,b2,b3,b,sb] [0,1,2,4,3,5,6,7,9,8,10,11] [10] (by kernel_rfl) (by kernel_rfl) (by kernel_rfl) ?_
  simp only[zh_, ↓zd_, ↓zb_, ↓zl_, ↓zm_,za_]
  refine kq (And.intro @q7_ (And.intro @h1 (And.intro @isx (And.intro @hsb (@sd))))) ?_
  refine Ow.store rfl rfl rfl (ke @q7_) ?_
  refine ko @q7_ ?_
  first|with_reducible refine ks [] @q7_ ?_|refine kp @q7_ ?_
  refine⟨_,(ke @q7_),⟨hw9,hw3,hw2,trivial⟩, ?_⟩
  (unfold aiW_;rfl)
 ·rw[if_neg hc]
  have hf: (decide (R<lines.length)&& ((lines.getD R Go.Proofs.ln0).id.l==x.l))=false:=by
   rw[Bool.and_eq_false_iff,decide_eq_false_iff_not,beq_eq_false_iff_ne]
   exact Decidable.not_and_iff_or_not.1 hc
  rw[hf]
  first|with_reducible refine ks [] @q7_ ?_|refine kp @q7_ ?_
  refine Ow.build (.agg (lnC Go.Proofs.ln0).toArray) rfl (by rw[show vo_ Tryz.prog 89=some [(0,32),(32,1),(33,1),(34,1)] from id (by kernel_rfl),J7_];simp[ql_,Sx.fillV]) ?_
  refine ko @q7_ ?_
  first|with_reducible refine ks [] @q7_ ?_|refine kp @q7_ ?_
  refine⟨_,(ke @q7_),hN3, ?_⟩
  rfl
def k9_ (a b:ShL):Int:=cmpS a.name b.name
theorem xy_ (a b:ShL) (w:World):Rets Tryz.prog 71 #[.agg (shC a).toArray, .agg (shC b).toArray] w (fun v D=>v=vi (k9_ a b)∧D= []):=adW_ a b w
end Go.Proofs
end
section
open Go Go.Proofs Go.Sx Go.StP
namespace Go.Proofs
set_option maxRecDepth 10000
set_option maxHeartbeats 4000000
set_option linter.unusedSimpArgs false
abbrev zB_ (rest:List Value) (d:List ShL):Obj:=rowO shC 135 rest d
theorem xA_ {rest:List Value} {d:List ShL} (k:Nat) (hk:k<d.length):zp_ (some (true,2)) (some (zB_ rest d)) (k*2)=some (.agg (shC (d.getD k sh0)).toArray):=Vu_ (z:=sh0) zF_ k hk
theorem j6_ {rest:List Value} {d:List ShL} (k:Nat) (x:ShL) (a:Bool) (hk:k<d.length):zn_ (some (a,2)) (some (zB_ rest d)) (k*2) (.agg (shC x).toArray)=some (zB_ rest (d.set k x)):=QW_ zF_ vO_ k x a hk
set_option linter.defProp false
def kb_:=And.intro (And.intro (@xA_) (@j6_)) (And.intro (@wE_) (And.intro (@kJ_) (@qJ_)))
theorem jL_ (rb n c:Nat) (A X M Y C:List ShL) (rest:List Value) (fv:Value) (a b k:Nat) (w:World) (hX:X.length=k) (hY:Y.length=k) (ha:A.length=a) (hb:b=a+k+M.length) (hn:n=a+k+M.length+k+C.length) (hs:n<1000000)
  (ho:w.heap[rb]? =some (zB_ rest (A++ (X++ (M++ (Y++C)))))):
  Rets Tryz.prog 216 #[vsl rb 0 n c,vi a,vi b,vi k,fv] w (fun v D=> ∃o,D= [(rb,o)]∧v= .tuple #[]∧o=zB_ rest (A++ (Y++ (M++ (X++C))))):=by
 refine Rets.enterM Tryz.func216 rfl (rs:= []) Tryz.results216 Tryz.ntmps216 ho ?_
 refine kf ?_
 first|with_reducible refine ks [] @kb_ ?_|refine kp @kb_ ?_
 subst ha hb hn
 refine Cw.loopG (G:=Nat) [11,12,13,16,17,18,19,20,21,22,23,24,25,26,27,28,29,30,31,32,33,34,35,36,37,14,15,10] (fun g=> [(10,vi g)]) (fun g=> [(rb,zB_ rest (swp A X M Y C g))]) (fun g=>g≤k) (fun g=>k - g) 0 rfl rfl ?_ ?_
 ·exact Nat.zero_le _
 ·intro g j hg
  refine kv ?_
  by_cases hlt:g<k
  ·first|with_reducible refine ks [] @kb_ ?_|refine kp @kb_ ?_
   have hl:=afJ_ (a:=A) (m:=M) (c:=C) hX hY hg
   have h1:=am1_ (a:=A) (m:=M) (c:=C) (z:=sh0) hX hY hlt rfl
   have h2:=amb_ (a:=A) (m:=M) (c:=C) (z:=sh0) hX hY hlt rfl
   refine Cw.regionS [rb] [0,1,2,3,4,5,6,7,8,9,10,11,12,14,15,16,17,18,13,19,20,21,22,23] [21,23] (by kernel_rfl) (by kernel_rfl) (by kernel_rfl) ?_
   simp only[zh_, ↓zd_, ↓zb_, ↓zl_, ↓zm_,za_]
   refine kq @kb_ ?_
   refine Ow.store rfl rfl rfl (ke @kb_) ?_
   refine ko @kb_ ?_
   rw[h1,h2]
   refine Again.mk (g+1) (by omega) (by omega) ?_ rfl
   rw[adg_ hX hY hlt rfl rfl]
  ·obtain rfl:g=k:=by omega
   first|with_reducible refine ks [] @kb_ ?_|refine kp @kb_ ?_
   refine⟨_,_,_,(ke @kb_),rfl,trivial, ?_⟩
   exact⟨rfl,by unfold swp;rw[List.take_of_length_le (by omega),List.take_of_length_le (by omega),List.drop_eq_nil_of_le (by omega),List.drop_eq_nil_of_le (by omega),List.append_nil,List.append_nil]⟩
structure shs_RotG where
 A:List ShL
 U:List ShL
 V:List ShL
 B:List ShL
theorem JQ_ (rb n c:Nat) (A U V B:List ShL) (rest:List Value) (fv:Value) (a m b:Nat) (w:World) (hU:0<U.length) (hV:0<V.length) (ha:A.length=a) (hm:m=a+U.length) (hb:b=m+V.length) (hn:n=b+B.length) (hs:n<1000000)
  (ho:w.heap[rb]? =some (zB_ rest (A++ (U++ (V++B))))):
  Rets Tryz.prog 187 #[vsl rb 0 n c,vi a,vi m,vi b,fv] w (fun v D=> ∃o,D= [(rb,o)]∧v= .tuple #[]∧o=zB_ rest (A++ (V++ (U++B)))):=by
 have e1: (m:Int) - a=(U.length:Nat):=by omega
 have e2: (b:Int) - m=(V.length:Nat):=by omega
 refine Rets.enterM Tryz.func187 rfl (rs:= []) Tryz.results187 Tryz.ntmps187 ho ?_
 refine kf ?_
 first|with_reducible refine ks [] (And.intro @kb_ (And.intro @e1 (@e2))) ?_|refine kp (And.intro @kb_ (And.intro @e1 (@e2))) ?_
 refine Cw.loopG (G:=shs_RotG) [18,19,20,21,22,23,24,25,26,27,28,29,30,31,32,33,34,10,35,36,37,38,39,40,41,42,43,44,45,46,47,48,49,11] (fun g=> [(10,vi g.U.length),(11,vi g.V.length)]) (fun g=> [(rb,zB_ rest (g.A++ (g.U++ (g.V++g.B))))]) (fun g=>0<g.U.length∧0<g.V.length∧g.A.length+g.U.length=m∧g.A++ (g.V++ (g.U++g.B))=A++ (V++ (U++B))∧m+g.V.length+g.B.length=n) (fun g=>g.U.length+g.V.length) ⟨A,U,V,B⟩ rfl rfl ?_ ?_
 ·exact⟨hU,hV,by show A.length+U.length=m;omega,rfl,by show m+V.length+B.length=n;omega⟩
 ·intro g j hg
  refine kv ?_
  obtain⟨A',U',V',B'⟩:=g
  obtain⟨hu,hv,hA,hT,hN⟩:=hg
  dsimp only at hu hv hA hT hN ⊢
  have e3: (m:Int) - U'.length=(A'.length:Nat):=by omega
  by_cases h1:U'.length=V'.length
  ·first|with_reducible refine ks [] (And.intro @kb_ @e3) ?_|refine kp (And.intro @kb_ @e3) ?_
   refine Ow.callM rfl rfl Tryz.call216 (by simp[keys]) (fun w' hw'=>jL_ rb n c A' U' [] V' B' rest fv A'.length m U'.length w' rfl h1.symm rfl (by simp only[List.length_nil];omega) (by simp only[List.length_nil];omega) hs (hw'.has _ _ List.mem_cons_self)) ?_
   refine ko @kb_ ?_
   refine⟨_,_,_,(ke @kb_),rfl,trivial, ?_⟩
   exact⟨rfl,congrArg (zB_ rest) hT⟩
  ·by_cases h2:V'.length<U'.length
   ·obtain⟨U1,U2,rfl,hU1⟩:=Kn_ U' (Nat.le_of_lt h2)
    rw[List.length_append] at hA h2 hu h1
    have e4: (m:Int) - (U1++U2).length=(A'.length:Nat):=by rw[List.length_append];omega
    first|with_reducible refine ks [] (And.intro @kb_ @e4) ?_|refine kp (And.intro @kb_ @e4) ?_
    refine Ow.callM rfl rfl Tryz.call216 (by simp[keys]) (fun w' hw'=>jL_ rb n c A' U1 U2 V' B' rest fv A'.length m V'.length w' hU1 rfl rfl (by omega) (by omega) hs (by rw[←List.append_assoc U1];exact hw'.has _ _ List.mem_cons_self)) ?_
    have e5: ((U1++U2).length:Int) - (V'.length:Int)=(U2.length:Nat):=by rw[List.length_append];omega
    refine ko (And.intro @kb_ @e5) ?_
    refine Again.mk ⟨A'++V',U2,U1,B'⟩ (by simp only[List.length_append];omega) ⟨by show 0<U2.length;omega,by show 0<U1.length;omega,by simp only[List.length_append];omega, ?_,by show m+U1.length+B'.length=n;omega⟩ ?_ ?_
    ·rw[←hT];simp only[List.append_assoc]
    ·simp only[List.append_assoc]
    ·dsimp only;rw[hU1];rfl
   ·obtain⟨V1,V2,rfl,hV1⟩:=Kn_ V' (show V'.length - U'.length≤V'.length by omega)
    rw[List.length_append] at hN h2 hv h1 hV1
    have e4: (m:Int)+ (V1++V2).length - U'.length=((A'.length+U'.length+V1.length:Nat):Int):=by rw[List.length_append];omega
    first|with_reducible refine ks [] (And.intro @kb_ (And.intro @e3 (@e4))) ?_|refine kp (And.intro @kb_ (And.intro @e3 (@e4))) ?_
    refine Ow.callM rfl rfl Tryz.call216 (by simp[keys]) (fun w' hw'=>jL_ rb n c A' U' V1 V2 B' rest fv A'.length (A'.length+U'.length+V1.length) U'.length w' rfl (by omega) rfl (by omega) (by omega) hs (by rw[←List.append_assoc V1];exact hw'.has _ _ List.mem_cons_self)) ?_
    have e5: ((V1++V2).length:Int) - (U'.length:Int)=(V1.length:Nat):=by rw[List.length_append];omega
    have e6:V2.length=U'.length:=by omega
    refine ko (And.intro @kb_ @e5) ?_
    refine Again.mk ⟨A',V2,V1,U'++B'⟩ (by simp only[List.length_append];omega) ⟨by show 0<V2.length;omega,by show 0<V1.length;omega,by show A'.length+V2.length=m;omega, ?_,by simp only[List.length_append];omega⟩ ?_ ?_
    ·rw[←hT];simp only[List.append_assoc]
    ·simp only[List.append_assoc]
    ·dsimp only;rw[e6];rfl
end Go.Proofs
end
section
open Go Go.Proofs Go.Sx Go.StP
namespace Go.Proofs
set_option maxRecDepth 10000
set_option maxHeartbeats 4000000
set_option linter.unusedSimpArgs false
abbrev je_ (a b:ShL):Bool:=StP.lt (fun r:ShL=>r.name) a b
abbrev zD_ (l:List ShL):Prop:=StP.Sorted (fun r:ShL=>r.name) l
abbrev jz_ (l l':List ShL):Prop:=StP.St (fun r:ShL=>r.name) l l'
theorem wB_ (a b:ShL):decide (k9_ a b<0)=je_ a b:=by
 unfold k9_ cmpS je_ StP.lt
 cases h:ltB a.name b.name
 ·rw[if_neg (by simp)]
  split<;>rfl
 ·rw[if_pos rfl];rfl
structure shs_InsG where
 S:List ShL
 R:List ShL
set_option linter.defProp false
def xf_:=And.intro (And.intro (@xA_) (And.intro (@j6_) (@wE_))) (And.intro (@kJ_) (And.intro (@qJ_) (@wB_)))
theorem kn_ (rb n c:Nat) (A M B:List ShL) (rest:List Value) (a b:Nat) (w:World) (ha:A.length=a) (hb:b=a+M.length) (hn:n=b+B.length) (hs:n<1000000)
  (ho:w.heap[rb]? =some (zB_ rest (A++ (M++B)))):
  Rets Tryz.prog 166 #[vsl rb 0 n c,vi a,vi b, .func (.func 71) #[] #[]] w (fun v D=> ∃o,D= [(rb,o)]∧v= .tuple #[]∧ ∃M',o=zB_ rest (A++ (M'++B))∧M'.length=M.length∧zD_ M'∧jz_ M M'):=by
 cases M with
 |nil=>
  simp only[List.length_nil,Nat.add_zero] at hb
  subst hb
  refine Rets.enterM Tryz.func166 rfl (rs:= []) Tryz.results166 Tryz.ntmps166 ho ?_
  refine kf ?_
  first|with_reducible refine ks [] @xf_ ?_|refine kp @xf_ ?_
  refine Cw.loopG (G:=Unit) [12,13,14,17,9,18,19,20,21,22,23,24,25,26,27,28,29,30,31,32,33,34,37,38,39,40,41,42,43,44,45,46,47,48,49,50,51,52,35,36,15,16,8] (fun g=> [(8,vi (b+1))]) (fun g=> [(rb,zB_ rest (A++ ([]++B)))]) (fun g=>True) (fun g=>0) () rfl rfl ?_ ?_
  ·trivial
  ·intro g j hg
   refine kv ?_
   first|with_reducible refine ks [] @xf_ ?_|refine kp @xf_ ?_
   refine⟨_,_,_,(ke @xf_),rfl,trivial, ?_⟩
   exact⟨rfl,[],rfl,rfl,List.Pairwise.nil,StP.St.refl _ _⟩
 |cons x0 M=>
  refine Rets.enterM Tryz.func166 rfl (rs:= []) Tryz.results166 Tryz.ntmps166 ho ?_
  refine kf ?_
  first|with_reducible refine ks [] @xf_ ?_|refine kp @xf_ ?_
  have e0: (a:Int)+1=((a+ [x0].length:Nat):Int):=by simp
  rw[e0]
  refine Cw.loopG (G:=shs_InsG) [12,13,14,17,9,18,19,20,21,22,23,24,25,26,27,28,29,30,31,32,33,34,37,38,39,40,41,42,43,44,45,46,47,48,49,50,51,52,35,36,15,16,8] (fun g=> [(8,vi (a+g.S.length:Nat))]) (fun g=> [(rb,zB_ rest (A++ (g.S++ (g.R++B))))]) (fun g=> ∃M1,x0::M=M1++g.R∧g.S.length=M1.length∧zD_ g.S∧jz_ M1 g.S) (fun g=>g.R.length) ⟨[x0],M⟩ rfl rfl ?_ ?_
  ·exact⟨[x0],rfl,rfl,List.pairwise_singleton _ _,StP.St.refl _ _⟩
  ·intro g j hg
   refine kv ?_
   obtain⟨S,R⟩:=g
   obtain⟨M1,hM,hS1,hS2,hS3⟩:=hg
   dsimp only at hM hS1 hS2 hS3 ⊢
   have hlen:=congrArg List.length hM
   rw[List.length_cons,List.length_append] at hlen
   rw[List.length_cons] at hb
   cases R with
   |nil=>
    rw[List.length_nil] at hlen
    first|with_reducible refine ks [] @xf_ ?_|refine kp @xf_ ?_
    refine⟨_,_,_,(ke @xf_),rfl,trivial, ?_⟩
    exact⟨rfl,S,rfl,by show S.length=M.length+1;omega,hS2,by rw[show x0::M=M1 from by rw[hM,List.append_nil]];exact hS3⟩
   |cons x R=>
    rw[List.length_cons] at hlen
    have e1:A++ (S++ (x::R++B))=z9_ A S x (R++B) S.length:=by rw[Zf_ _ _ _ _ (Nat.le_refl _)];simp only[List.append_assoc,List.cons_append,List.nil_append]
    rw[e1]
    first|with_reducible refine ks [] @xf_ ?_|refine kp @xf_ ?_
    refine Cw.loopG (G:=Nat) [18,19,20,21,22,23,24,25,26,27,28,29,30,31,32,33,34,37,38,39,40,41,42,43,44,45,46,47,48,49,50,51,52,35,36,9] (fun g=> [(9,vi (a+g:Nat))]) (fun g=> [(rb,zB_ rest (z9_ A S x (R++B) g))]) (fun g=>g≤S.length∧(S.length≤g∨je_ x (S.getD g sh0)=true)) (fun g=>g) S.length rfl rfl ?_ ?_
    ·exact⟨Nat.le_refl _, .inl (Nat.le_refl _)⟩
    ·intro k jk hk
     refine kv ?_
     obtain⟨hk1,hk2⟩:=hk
     have hl:=jv_ A S x (R++B) k
     rw[List.length_append] at hl
     have done: (k=0∨je_ x (S.getD (k - 1) sh0)=false)→jz_ (M1++ [x]) (S.take k++x::S.drop k)∧zD_ (S.take k++x::S.drop k):=fun h=>by
      obtain⟨q1,q2⟩:=jB_ (z:=sh0) hS2 hk1 h hk2
      exact⟨(StP.St.app hS3 (StP.St.refl _ _)).trans q2,q1⟩
     first|with_reducible refine ks [] @xf_ ?_|refine kp @xf_ ?_
     by_cases hk0:k=0
     ·have e2:decide ((a:Int)< ((a+k:Nat):Int))=false:=decide_eq_false (by omega)
      refine Cw.regionS [rb] [0,1,2,3,4,5,6,7,9,10,11,12,8,13,14,15,16] [] (by kernel_rfl) (by kernel_rfl) (by kernel_rfl) ?_
      simp only[zh_, ↓zd_, ↓zb_, ↓zl_, ↓zm_,za_]
      refine kq (And.intro @xf_ @e2) ?_
      first|with_reducible refine ks [] @xf_ ?_|refine kp @xf_ ?_
      obtain⟨d1,d2⟩:=done (.inl hk0)
      refine Again.mk ⟨S.take k++x::S.drop k,R⟩ (by show R.length< (x::R).length;simp) ⟨M1++ [x],by rw[hM];simp,by simp only[List.length_append,List.length_cons,List.length_nil,List.length_take,List.length_drop];omega,d2,d1⟩ ?_ ?_
      ·rw[xa_]
      ·dsimp only
       rw[show(S.take k++x::S.drop k).length=S.length+1 by simp only[List.length_append,List.length_cons,List.length_take,List.length_drop];omega]
       rfl
     ·have e2:decide ((a:Int)< ((a+k:Nat):Int))=true:=decide_eq_true (by omega)
      refine Cw.regionS [rb] [0,1,2,3,4,5,6,7,9,10,11,12,8,13,14,15,16] [] (by kernel_rfl) (by kernel_rfl) (by kernel_rfl) ?_
      simp only[zh_, ↓zd_, ↓zb_, ↓zl_, ↓zm_,za_]
      refine kq (And.intro @xf_ @e2) ?_
      refine Ow.callFn2 (v:=vi (k9_ x (S.getD (k - 1) sh0))) rfl rfl (by
       show Value.agg _=Value.agg (shC x).toArray
       rw[xp_ (z:=sh0) hk1 (by rw[ha])]) (by
       show Value.agg _=Value.agg (shC (S.getD (k - 1) sh0)).toArray
       rw[show k=(k - 1)+1 by omega,Z0_ (z:=sh0) (k:=k - 1) (by omega) (by rw[ha];omega)];rfl) Tryz.call71 (fun w' hw'=>xy_ x (S.getD (k - 1) sh0) w') ?_
      refine kq @xf_ ?_
      cases hc:je_ x (S.getD (k - 1) sh0)
      ·first|with_reducible refine ks [] @xf_ ?_|refine kp @xf_ ?_
       obtain⟨d1,d2⟩:=done (.inr hc)
       refine Again.mk ⟨S.take k++x::S.drop k,R⟩ (by show R.length< (x::R).length;simp) ⟨M1++ [x],by rw[hM];simp,by simp only[List.length_append,List.length_cons,List.length_nil,List.length_take,List.length_drop];omega,d2,d1⟩ ?_ ?_
       ·rw[xa_]
       ·dsimp only
        rw[show(S.take k++x::S.drop k).length=S.length+1 by simp only[List.length_append,List.length_cons,List.length_take,List.length_drop];omega]
        rfl
      ·first|with_reducible refine ks [] @xf_ ?_|refine kp @xf_ ?_
       obtain⟨k,rfl⟩: ∃q,k=q+1:=⟨k - 1,by omega⟩
       have h1:=xp_ (z:=sh0) (a:=A) (b:=R++B) (x:=x) hk1 (show a+ (k+1)=A.length+ (k+1) by omega)
       have h2:=Z0_ (z:=sh0) (a:=A) (b:=R++B) (x:=x) (k:=k) (s:=S) (by omega) (show a+k=A.length+k by omega)
       have e3:a+ (k+1) - 1=a+k:=by omega
       refine Cw.regionS [rb] [0,1,2,3,4,5,6,7,8,10,11,12,9,13,14,15,16,17] [15,17] (by kernel_rfl) (by kernel_rfl) (by kernel_rfl) ?_
       simp only[zh_, ↓zd_, ↓zb_, ↓zl_, ↓zm_,za_]
       refine kq (And.intro @xf_ (And.intro @e3 (And.intro @h1 (@h2)))) ?_
       refine Ow.store rfl rfl rfl (ke (And.intro @xf_ (And.intro @e3 (And.intro @h1 (@h2))))) ?_
       refine ko (And.intro @xf_ (And.intro @e3 (And.intro @h1 (@h2)))) ?_
       rw[w8_ (by omega),←Nat.add_assoc,v3_ (z:=sh0) (by omega) (by rw[ha])]
       refine Again.mk k (by omega) ⟨by omega, .inr hc⟩ rfl ?_
       rw[show(((a+k+1:Nat):Int)) - 1=((a+k:Nat):Int) by omega]
       rfl
end Go.Proofs
end
section
open Go Go.Proofs Go.Sx Go.StP
namespace Go.Proofs
set_option maxRecDepth 10000
set_option maxHeartbeats 4000000
set_option linter.unusedSimpArgs false
abbrev qT_:Value:= .func (.func 71) #[] #[]
def Z3_ (rb:Nat) (A X Y B:List ShL) (rest:List Value) (v:Value) (D:zc_):Prop:=
 ∃o,D= [(rb,o)]∧v= .tuple #[]∧ ∃Z,o=zB_ rest (A++ (Z++B))∧Z.length=X.length+Y.length∧zD_ Z∧jz_ (X++Y) Z
set_option linter.defProp false
def kH_:=And.intro (And.intro (@xA_) (And.intro (@j6_) (@wE_))) (And.intro (And.intro (@kJ_) (@qJ_)) (And.intro (@wB_) (@Ze_)))
theorem Vi_ (rb n c:Nat) (A:List ShL) (x:ShL) (Y B:List ShL) (rest:List Value) (a m b:Nat) (w:World) (ha:A.length=a) (hm:m=a+1) (hb:b=m+Y.length) (hn:n=b+B.length) (hs:n<1000000) (hY:zD_ Y)
  (ho:w.heap[rb]? =some (zB_ rest (A++ ([x]++ (Y++B))))):
  Rets Tryz.prog 167 #[vsl rb 0 n c,vi a,vi m,vi b,qT_] w (Z3_ rb A [x] Y B rest):=by
 subst hb
 refine Rets.enterM Tryz.func167 rfl (rs:= []) Tryz.results167 Tryz.ntmps167 ho ?_
 refine kf ?_
 first|with_reducible refine ks [] @kH_ ?_|refine kp @kH_ ?_
 have e0:A++x:: (Y++B)=z9_ A Y x B 0:=by rw[XY_];simp only[List.append_assoc,List.cons_append,List.nil_append]
 rw[e0]
 refine Cw.loopG (G:=BsG) [31,32,33,34,35,36,37,38,39,12,40,41,42,43,44,45,46,47,48,49,50,51,52,10,53,11] (fun g=> [(10,vi (m+g.i:Nat)),(11,vi (m+g.j:Nat))]) (fun g=> [(rb,zB_ rest (z9_ A Y x B 0))]) (fun g=>g.i≤g.j∧g.j≤Y.length∧(g.i=0∨je_ (Y.getD (g.i - 1) sh0) x=true)∧(Y.length≤g.j∨je_ (Y.getD g.j sh0) x=false)) (fun g=>g.j - g.i) ⟨0,Y.length⟩ rfl rfl ?_ ?_
 ·exact⟨Nat.zero_le _,Nat.le_refl _, .inl rfl, .inl (Nat.le_refl _)⟩
 ·intro g j hg
  refine kv ?_
  obtain⟨i,j⟩:=g
  obtain⟨h1,h2,h3,h4⟩:=hg
  dsimp only at h1 h2 h3 h4 ⊢
  by_cases hij:i<j
  ·have e1: (m+i+ (m+j)) / 2=m+ (i+j) / 2:=by omega
   have hl:=jv_ A Y x B 0
   first|with_reducible refine ks [] (And.intro @kH_ @e1) ?_|refine kp (And.intro @kH_ @e1) ?_
   have g1: (z9_ A Y x B 0).getD (m+ (i+j) / 2) sh0=Y.getD ((i+j) / 2) sh0:=ac7_ (Nat.zero_le _) (by omega) (by omega)
   have g2: (z9_ A Y x B 0).getD a sh0=x:=xp_ (Nat.zero_le _) (by omega)
   refine Cw.regionS [rb] [0,1,2,3,5,6,7,4,8,9,10] [] (by kernel_rfl) (by kernel_rfl) (by kernel_rfl) ?_
   simp only[zh_, ↓zd_, ↓zb_, ↓zl_, ↓zm_,za_]
   refine kq (And.intro @kH_ (And.intro @g1 (@g2))) ?_
   refine Ow.callFn2 (v:=vi (k9_ (Y.getD ((i+j) / 2) sh0) x)) rfl rfl rfl rfl Tryz.call71 (fun w' hw'=>xy_ _ _ w') ?_
   refine kq @kH_ ?_
   cases hc:je_ (Y.getD ((i+j) / 2) sh0) x
   ·first|with_reducible refine ks [] @kH_ ?_|refine kp @kH_ ?_
    refine Again.mk ⟨i,(i+j) / 2⟩ (by show(i+j) / 2 - i<j - i;omega) ⟨by show i≤ (i+j) / 2;omega,by show(i+j) / 2≤Y.length;omega,h3, .inr hc⟩ rfl rfl
   ·first|with_reducible refine ks [] @kH_ ?_|refine kp @kH_ ?_
    refine Again.mk ⟨(i+j) / 2+1,j⟩ (by show j - ((i+j) / 2+1)<j - i;omega) ⟨by show(i+j) / 2+1≤j;omega,h2, .inr hc,h4⟩ rfl rfl
  ·obtain rfl:i=j:=by omega
   first|with_reducible refine ks [] @kH_ ?_|refine kp @kH_ ?_
   refine Cw.loopG (G:=Nat) [55,56,57,58,61,62,63,64,65,66,67,68,69,70,71,72,73,74,75,76,59,60,13] (fun g=> [(13,vi (a+g:Nat))]) (fun g=> [(rb,zB_ rest (z9_ A Y x B g))]) (fun g=>g≤i) (fun g=>i - g) 0 rfl rfl ?_ ?_
   ·exact Nat.zero_le _
   ·intro k jk hk
    refine kv ?_
    by_cases hk1:k<i
    ·first|with_reducible refine ks [] @kH_ ?_|refine kp @kH_ ?_
     have hl:=jv_ A Y x B k
     have g1: (z9_ A Y x B k).getD (a+k) sh0=x:=xp_ (by omega) (by omega)
     have g2: (z9_ A Y x B k).getD (a+k+1) sh0=Y.getD k sh0:=ahl_ (by omega) (by omega)
     refine Cw.regionS [rb] [0,1,2,3,4,5,6,7,8,10,11,12,9,13,14,15,16,17] [15,17] (by kernel_rfl) (by kernel_rfl) (by kernel_rfl) ?_
     simp only[zh_, ↓zd_, ↓zb_, ↓zl_, ↓zm_,za_]
     refine kq (And.intro @kH_ (And.intro @g1 (@g2))) ?_
     refine Ow.store rfl rfl rfl (ke (And.intro @kH_ (And.intro @g1 (@g2)))) ?_
     refine ko (And.intro @kH_ (And.intro @g1 (@g2))) ?_
     rw[adp_ (z:=sh0) (by omega) (by omega)]
     exact Again.mk (k+1) (by omega) (by omega) rfl rfl
    ·obtain rfl:k=i:=by omega
     first|with_reducible refine ks [] @kH_ ?_|refine kp @kH_ ?_
     have hz:=Za_ (z:=sh0) hY h2 h3 h4
     refine⟨_,_,_,(ke @kH_),rfl,trivial, ?_⟩
     exact⟨rfl,_,by rw[xa_],by simp only[List.length_append,List.length_cons,List.length_nil,List.length_take,List.length_drop];omega,hz.1,hz.2⟩
end Go.Proofs
end
section
open Go Go.Proofs Go.Sx Go.StP
namespace Go.Proofs
set_option maxRecDepth 10000
set_option maxHeartbeats 4000000
set_option linter.unusedSimpArgs false
set_option linter.defProp false
def zW_:=And.intro (And.intro (@xA_) (And.intro (@j6_) (@wE_))) (And.intro (And.intro (@kJ_) (@qJ_)) (And.intro (@wB_) (@Ze_)))
theorem Xd_ (rb n c:Nat) (A X:List ShL) (y:ShL) (B:List ShL) (rest:List Value) (a m b:Nat) (w:World) (ha:A.length=a) (hm:m=a+X.length) (hX2:X.length≠1) (hb:b=m+1) (hn:n=b+B.length) (hs:n<1000000) (hX:zD_ X)
  (ho:w.heap[rb]? =some (zB_ rest (A++ (X++ ([y]++B))))):
  Rets Tryz.prog 167 #[vsl rb 0 n c,vi a,vi m,vi b,qT_] w (Z3_ rb A X [y] B rest):=by
 subst hm
 refine Rets.enterM Tryz.func167 rfl (rs:= []) Tryz.results167 Tryz.ntmps167 ho ?_
 refine kf ?_
 first|with_reducible refine ks [] @zW_ ?_|refine kp @zW_ ?_
 have e0:A++ (X++y::B)=z9_ A X y B X.length:=by rw[Zf_ _ _ _ _ (Nat.le_refl _)];simp only[List.append_assoc,List.cons_append,List.nil_append]
 rw[e0]
 refine Cw.loopG (G:=BsG) [83,84,85,86,87,88,89,90,91,16,92,93,94,95,96,97,98,99,100,101,102,103,104,105,14,106,15] (fun g=> [(14,vi (a+g.i:Nat)),(15,vi (a+g.j:Nat))]) (fun g=> [(rb,zB_ rest (z9_ A X y B X.length))]) (fun g=>g.i≤g.j∧g.j≤X.length∧(g.i=0∨je_ y (X.getD (g.i - 1) sh0)=false)∧(X.length≤g.j∨je_ y (X.getD g.j sh0)=true)) (fun g=>g.j - g.i) ⟨0,X.length⟩ rfl rfl ?_ ?_
 ·exact⟨Nat.zero_le _,Nat.le_refl _, .inl rfl, .inl (Nat.le_refl _)⟩
 ·intro g j hg
  refine kv ?_
  obtain⟨i,j⟩:=g
  obtain⟨h1,h2,h3,h4⟩:=hg
  dsimp only at h1 h2 h3 h4 ⊢
  by_cases hij:i<j
  ·have e1: (a+i+ (a+j)) / 2=a+ (i+j) / 2:=by omega
   have hl:=jv_ A X y B X.length
   first|with_reducible refine ks [] (And.intro @zW_ @e1) ?_|refine kp (And.intro @zW_ @e1) ?_
   have g1: (z9_ A X y B X.length).getD (a+ (i+j) / 2) sh0=X.getD ((i+j) / 2) sh0:=ac5_ (by omega) (by omega) (by omega)
   have g2: (z9_ A X y B X.length).getD (a+X.length) sh0=y:=xp_ (Nat.le_refl _) (by omega)
   refine Cw.regionS [rb] [0,1,2,3,5,6,7,4,8,9,10,11] [] (by kernel_rfl) (by kernel_rfl) (by kernel_rfl) ?_
   simp only[zh_, ↓zd_, ↓zb_, ↓zl_, ↓zm_,za_]
   refine kq (And.intro @zW_ (And.intro @g1 (@g2))) ?_
   refine Ow.callFn2 (v:=vi (k9_ y (X.getD ((i+j) / 2) sh0))) rfl rfl rfl rfl Tryz.call71 (fun w' hw'=>xy_ _ _ w') ?_
   refine kq @zW_ ?_
   cases hc:je_ y (X.getD ((i+j) / 2) sh0)
   ·first|with_reducible refine ks [] @zW_ ?_|refine kp @zW_ ?_
    refine Again.mk ⟨(i+j) / 2+1,j⟩ (by show j - ((i+j) / 2+1)<j - i;omega) ⟨by show(i+j) / 2+1≤j;omega,h2, .inr hc,h4⟩ rfl rfl
   ·first|with_reducible refine ks [] @zW_ ?_|refine kp @zW_ ?_
    refine Again.mk ⟨i,(i+j) / 2⟩ (by show(i+j) / 2 - i<j - i;omega) ⟨by show i≤ (i+j) / 2;omega,by show(i+j) / 2≤X.length;omega,h3, .inr hc⟩ rfl rfl
  ·obtain rfl:i=j:=by omega
   first|with_reducible refine ks [] @zW_ ?_|refine kp @zW_ ?_
   refine Cw.loopG (G:=Nat) [108,109,110,113,114,115,116,117,118,119,120,121,122,123,124,125,126,127,128,111,112,17] (fun g=> [(17,vi (a+g:Nat))]) (fun g=> [(rb,zB_ rest (z9_ A X y B g))]) (fun g=>i≤g∧g≤X.length) (fun g=>g) X.length rfl rfl ?_ ?_
   ·exact⟨h2,Nat.le_refl _⟩
   ·intro k jk hk
    refine kv ?_
    obtain⟨hk1,hk2⟩:=hk
    by_cases hk:i<k
    ·obtain⟨k,rfl⟩: ∃q,k=q+1:=⟨k - 1,by omega⟩
     first|with_reducible refine ks [] @zW_ ?_|refine kp @zW_ ?_
     have hl:=jv_ A X y B (k+1)
     have g1: (z9_ A X y B (k+1)).getD (a+ (k+1)) sh0=y:=xp_ (by omega) (by omega)
     have g2: (z9_ A X y B (k+1)).getD (a+k) sh0=X.getD k sh0:=Z0_ (by omega) (by omega)
     have e3:a+ (k+1) - 1=a+k:=by omega
     refine Cw.regionS [rb] [0,1,2,3,4,5,6,7,8,10,11,12,9,13,14,15,16,17] [15,17] (by kernel_rfl) (by kernel_rfl) (by kernel_rfl) ?_
     simp only[zh_, ↓zd_, ↓zb_, ↓zl_, ↓zm_,za_]
     refine kq (And.intro @zW_ (And.intro @e3 (And.intro @g1 (@g2)))) ?_
     refine Ow.store rfl rfl rfl (ke (And.intro @zW_ (And.intro @e3 (And.intro @g1 (@g2))))) ?_
     refine ko (And.intro @zW_ (And.intro @e3 (And.intro @g1 (@g2)))) ?_
     rw[w8_ (by omega),←Nat.add_assoc,v3_ (z:=sh0) (by omega) (by omega)]
     refine Again.mk k (by omega) ⟨by omega,by omega⟩ rfl ?_
     rw[show(((a+k+1:Nat):Int)) - 1=((a+k:Nat):Int) by omega]
     rfl
    ·obtain rfl:k=i:=by omega
     first|with_reducible refine ks [] @zW_ ?_|refine kp @zW_ ?_
     have hz:=jB_ (z:=sh0) hX h2 h3 h4
     refine⟨_,_,_,(ke @zW_),rfl,trivial, ?_⟩
     exact⟨rfl,_,by rw[xa_],by simp only[List.length_append,List.length_cons,List.length_nil,List.length_take,List.length_drop];omega,hz.1,hz.2⟩
theorem afg_ {A X C:List ShL} {h i:Nat} (hh:h<X.length) (e:i=A.length+h): (A++ (X++C)).getD i sh0=X.getD h sh0:=by
 subst e
 rw[qH_ (by omega),Nat.add_sub_cancel_left,qQ_ hh]
theorem afw_ {A X Y C:List ShL} {h i:Nat} (hh:h<Y.length) (e:i=A.length+X.length+h): (A++ (X++ (Y++C))).getD i sh0=Y.getD h sh0:=by
 subst e
 rw[qH_ (by omega),qH_ (by omega),qQ_ (by omega)]
 congr 1;omega
theorem kG_ (q:Nat): ∀ (rb n c:Nat) (A X Y B:List ShL) (rest:List Value) (a m b:Nat) (w:World) (_ha:A.length=a) (_hm:m=a+X.length) (_hb:b=m+Y.length) (_hn:n=b+B.length) (_hs:n<1000000) (_hX:zD_ X) (_hY:zD_ Y) (_hx0:0<X.length) (_hy0:0<Y.length) (_hq:X.length+Y.length≤q)
  (_ho:w.heap[rb]? =some (zB_ rest (A++ (X++ (Y++B))))),
  Rets Tryz.prog 167 #[vsl rb 0 n c,vi a,vi m,vi b,qT_] w (Z3_ rb A X Y B rest):=by
 induction q with
 |zero=>intros;omega
 |succ q ih=>
  intro rb n c A X Y B rest a m b w ha hm hb hn hs hX hY hx0 hy0 hq ho
  by_cases hX1:X.length=1
  ·obtain⟨x,rfl⟩:=List.length_eq_one_iff.1 hX1
   exact Vi_ rb n c A x Y B rest a m b w ha hm hb hn hs hY ho
  by_cases hY1:Y.length=1
  ·obtain⟨y,rfl⟩:=List.length_eq_one_iff.1 hY1
   exact Xd_ rb n c A X y B rest a m b w ha hm hX1 hb hn hs hX ho
  have e1: (m:Int) - a=(X.length:Nat):=by omega
  have e2: (b:Int) - m=(Y.length:Nat):=by omega
  refine Rets.enterM Tryz.func167 rfl (rs:= []) Tryz.results167 Tryz.ntmps167 ho ?_
  refine kf ?_
  obtain⟨mid,hmd⟩: ∃q,q=(a+b) / 2:=⟨_,rfl⟩
  obtain⟨nn,hnn⟩: ∃q,q=mid+m:=⟨_,rfl⟩
  have e3: (mid:Int)+ (m:Int)=(nn:Nat):=by omega
  have e5: (nn:Int) - 1=((nn - 1:Nat):Int):=by omega
  have hl: (A++ (X++ (Y++B))).length=n:=by simp only[List.length_append];omega
  ((try with_reducible refine Cw.go [1000027] ?_);(try simp(disch:=(first|assumption|omega| (simp only[kd_,kc_,UInt64.reduceToNat];try omega))) only[↓Sx.S0,Sx.S1,Tryz.fx,zW_,Nat.reduceAdd,Nat.reducePow,Int.reducePow,Nat.reduceBEq, ↓reduceIte,UInt8.reduceToNat,UInt16.reduceToNat,UInt32.reduceToNat,UInt64.reduceToNat,Int.reduceToNat,e1,e2,←hmd,e3,e5]))
  refine Cw.cut (G:=BsG) 220 (fun g=> [(0,vsl rb 0 n c),(1,vi a),(2,vi m),(3,vi b),(4,qT_),(18,vi mid),(19,vi nn),(20,vi g.i),(21,vi g.j)]) (fun g=> [(rb,zB_ rest (A++ (X++ (Y++B))))]) (fun g=>g.i≤g.j∧g.j≤m∧nn≤b+g.i∧m+g.j≤nn∧a≤g.i∧(g.i=a∨nn=b+g.i)∧(g.j=m∨m+g.j=nn)) ?_ ?_
  ·by_cases hmid:mid<m
   ·have e4: (nn:Int) - (b:Int)=((nn - b:Nat):Int):=by omega
    first|with_reducible refine ks [] (And.intro @zW_ @e4) ?_|refine kp (And.intro @zW_ @e4) ?_
    exact CutM.mk ⟨nn - b,mid⟩ ⟨by show nn - b≤mid;omega,by show mid≤m;omega,by show nn≤b+ (nn - b);omega,by show m+mid≤nn;omega,by show a≤nn - b;omega, .inr (by show nn=b+ (nn - b);omega), .inr (by show m+mid=nn;omega)⟩ rfl rfl
   ·first|with_reducible refine ks [] @zW_ ?_|refine kp @zW_ ?_
    exact CutM.mk ⟨a,m⟩ ⟨by show a≤m;omega,by show m≤m;omega,by show nn≤b+a;omega,by show m+m≤nn;omega,by show a≤a;omega, .inl rfl, .inl rfl⟩ rfl rfl
  ·intro g j hg
   simp only[X5_,Kj_,pin,Z7_,Qc_,Nat.reduceAdd]
   obtain⟨s0,r0⟩:=g
   obtain⟨f1,f2,f3,f4,f5,f6,f7⟩:=hg
   dsimp only at f1 f2 f3 f4 f5 f6 f7 ⊢
   first|with_reducible refine ks [1000039,1000041] (And.intro @zW_ @e5) ?_|refine kp (And.intro @zW_ @e5) ?_
   refine Cw.loopG (G:=BsG) [149,150,151,152,153,154,155,156,157,23,158,159,160,161,162,163,164,165,166,167,168,169,170,171,172,173,20,174,21] (fun g=> [(20,vi g.i),(21,vi g.j)]) (fun g=> [(rb,zB_ rest (A++ (X++ (Y++B))))]) (fun g=>s0≤g.i∧g.i≤g.j∧g.j≤r0∧(g.i=s0∨je_ ((A++ (X++ (Y++B))).getD (nn - g.i) sh0) ((A++ (X++ (Y++B))).getD (g.i - 1) sh0)=false)∧(g.j=r0∨je_ ((A++ (X++ (Y++B))).getD (nn - 1 - g.j) sh0) ((A++ (X++ (Y++B))).getD g.j sh0)=true)) (fun g=>g.j - g.i) ⟨s0,r0⟩ rfl rfl ?_ ?_
   ·exact⟨Nat.le_refl _,f1,Nat.le_refl _, .inl rfl, .inl rfl⟩
   ·intro g j hg
    refine kv ?_
    obtain⟨i,j⟩:=g
    obtain⟨h1,h2,h3,h4,h5⟩:=hg
    dsimp only at h1 h2 h3 h4 h5 ⊢
    by_cases hij:i<j
    ·obtain⟨h,hh⟩: ∃q,q=(i+j) / 2:=⟨_,rfl⟩
     have e6: ((nn - 1:Nat):Int) - (h:Int)=((nn - 1 - h:Nat):Int):=by omega
     ((try with_reducible refine Cw.go [] ?_);(try simp(disch:=(first|assumption|omega| (simp only[kd_,kc_,UInt64.reduceToNat];try omega))) only[↓Sx.S0,Sx.S1,Tryz.fx,zW_,Nat.reduceAdd,Nat.reducePow,Int.reducePow,Nat.reduceBEq, ↓reduceIte,UInt8.reduceToNat,UInt16.reduceToNat,UInt32.reduceToNat,UInt64.reduceToNat,Int.reduceToNat,←hh]))
     refine Cw.regionS [rb] [0,1,2,3,4,5,7,8,9,6,10,11,12,13] [] (by kernel_rfl) (by kernel_rfl) (by kernel_rfl) ?_
     simp only[zh_, ↓zd_, ↓zb_, ↓zl_, ↓zm_,za_]
     refine kq (And.intro @zW_ @e6) ?_
     refine Ow.callFn2 (v:=vi (k9_ ((A++ (X++ (Y++B))).getD (nn - 1 - h) sh0) ((A++ (X++ (Y++B))).getD h sh0))) rfl rfl rfl rfl Tryz.call71 (fun w' hw'=>xy_ _ _ w') ?_
     refine kq @zW_ ?_
     cases hc:je_ ((A++ (X++ (Y++B))).getD (nn - 1 - h) sh0) ((A++ (X++ (Y++B))).getD h sh0)
     ·first|with_reducible refine ks [] @zW_ ?_|refine kp @zW_ ?_
      refine Again.mk ⟨h+1,j⟩ (by show j - (h+1)<j - i;omega) ⟨by show s0≤h+1;omega,by show h+1≤j;omega,h3, .inr ?_,h5⟩ rfl rfl
      show je_ ((A++ (X++ (Y++B))).getD (nn - (h+1)) sh0) ((A++ (X++ (Y++B))).getD (h+1 - 1) sh0)=false
      rw[show nn - (h+1)=nn - 1 - h by omega,Nat.add_sub_cancel];exact hc
     ·first|with_reducible refine ks [] @zW_ ?_|refine kp @zW_ ?_
      refine Again.mk ⟨i,h⟩ (by show h - i<j - i;omega) ⟨h1,by show i≤h;omega,by show h≤r0;omega,h4, .inr hc⟩ rfl rfl
    ·obtain rfl:i=j:=by omega
     obtain⟨ix,hix⟩: ∃q,q=i - a:=⟨_,rfl⟩
     obtain⟨jy,hjy⟩: ∃q,q=nn - i - m:=⟨_,rfl⟩
     have q1:jy=0∨X.length≤ix∨je_ (Y.getD (jy - 1) sh0) (X.getD ix sh0)=true:=by
      by_cases c1:jy=0
      ·exact .inl c1
      by_cases c2:X.length≤ix
      ·exact .inr (.inl c2)
      rcases h5 with h5|h5
      ·omega
      ·rw[afw_ (h:=jy - 1) (by omega) (by omega),afg_ (h:=ix) (by omega) (by omega)] at h5
       exact .inr (.inr h5)
     have q2:ix=0∨Y.length≤jy∨je_ (Y.getD jy sh0) (X.getD (ix - 1) sh0)=false:=by
      by_cases c1:ix=0
      ·exact .inl c1
      by_cases c2:Y.length≤jy
      ·exact .inr (.inl c2)
      rcases h4 with h4|h4
      ·omega
      ·rw[afw_ (h:=jy) (by omega) (by omega),afg_ (h:=ix - 1) (by omega) (by omega)] at h4
       exact .inr (.inr h4)
     have hmc:=fun x1 x2=>Wl_ (z:=sh0) (x1:=x1) (x2:=x2) hX hY (show ix≤X.length by omega) (show jy≤Y.length by omega) q1 q2
     have sX1:zD_ (X.take ix):=StP.Sorted.left (b:=X.drop ix) (by rw[List.take_append_drop];exact hX)
     have sX2:zD_ (X.drop ix):=StP.Sorted.right (a:=X.take ix) (by rw[List.take_append_drop];exact hX)
     have sY1:zD_ (Y.take jy):=StP.Sorted.left (b:=Y.drop jy) (by rw[List.take_append_drop];exact hY)
     have sY2:zD_ (Y.drop jy):=StP.Sorted.right (a:=Y.take jy) (by rw[List.take_append_drop];exact hY)
     have hrow:A++ (X++ (Y++B))=A++ (X.take ix++ (X.drop ix++ (Y.take jy++ (Y.drop jy++B)))):=by
      rw[←List.append_assoc (X.take ix),List.take_append_drop,←List.append_assoc (Y.take jy),List.take_append_drop]
     have lX1: (X.take ix).length=ix:=by rw[List.length_take];omega
     have lX2: (X.drop ix).length=m - i:=by rw[List.length_drop];omega
     have lY1: (Y.take jy).length=jy:=by rw[List.length_take];omega
     have lY2: (Y.drop jy).length=b - m - jy:=by rw[List.length_drop];omega
     have e7: (nn:Int) - (i:Int)=((m+jy:Nat):Int):=by omega
     first|with_reducible refine ks [] (And.intro @zW_ @e7) ?_|refine kp (And.intro @zW_ @e7) ?_
     rw[hrow]
     generalize X.take ix=X1 at*
     generalize X.drop ix=X2 at*
     generalize Y.take jy=Y1 at*
     generalize Y.drop jy=Y2 at*
     have em:mid=i+jy:=by omega
     refine Cw.cut (G:=Unit) 220 (fun g=> [(0,vsl rb 0 n c),(1,vi a),(2,vi m),(3,vi b),(4,qT_),(18,vi mid),(20,vi i),(24,vi (m+jy:Nat))]) (fun g=> [(rb,zB_ rest (A++ (X1++ (Y1++ (X2++ (Y2++B))))))]) (fun g=>True) ?_ ?_
     ·by_cases c1:i<m
      ·have d1:decide ((i:Int)< (m:Int))=true:=decide_eq_true (by omega)
       by_cases c2:0<jy
       ·have d2:decide ((m:Int)< ((m+jy:Nat):Int))=true:=decide_eq_true (by omega)
        first|with_reducible refine ks [] (And.intro @zW_ (And.intro @d1 (@d2))) ?_|refine kp (And.intro @zW_ (And.intro @d1 (@d2))) ?_
        refine Ow.callM rfl rfl Tryz.call187 (by simp[keys]) (fun w' hw'=>JQ_ rb n c (A++X1) X2 Y1 (Y2++B) rest qT_ i m (m+jy) w' (by omega) (by omega) (by rw[List.length_append];omega) (by omega) (by omega) (by rw[List.length_append];omega) hs (by rw[List.append_assoc];exact hw'.has _ _ List.mem_cons_self)) ?_
        refine ko @zW_ ?_
        exact CutM.mk () trivial (by simp only[List.append_assoc]) rfl
       ·have d2:decide ((m:Int)< ((m+jy:Nat):Int))=false:=decide_eq_false (by omega)
        first|with_reducible refine ks [] (And.intro @zW_ (And.intro @d1 (@d2))) ?_|refine kp (And.intro @zW_ (And.intro @d1 (@d2))) ?_
        obtain rfl:Y1= []:=List.eq_nil_of_length_eq_zero (by omega)
        exact CutM.mk () trivial (by simp only[List.nil_append]) rfl
      ·have d1:decide ((i:Int)< (m:Int))=false:=decide_eq_false (by omega)
       first|with_reducible refine ks [] (And.intro @zW_ @d1) ?_|refine kp (And.intro @zW_ @d1) ?_
       obtain rfl:X2= []:=List.eq_nil_of_length_eq_zero (by omega)
       exact CutM.mk () trivial (by simp only[List.nil_append]) rfl
     ·intro u ju hu
      simp only[X5_,Kj_,pin,Z7_,Qc_,Nat.reduceAdd]
      first|with_reducible refine ks [1000041,1000043] @zW_ ?_|refine kp @zW_ ?_
      refine Cw.cut (G:=(List ShL)) 220 (fun g=> [(0,vsl rb 0 n c),(3,vi b),(4,qT_),(18,vi mid),(24,vi (m+jy:Nat))]) (fun g=> [(rb,zB_ rest (A++ (g++ (X2++ (Y2++B)))))]) (fun g=>g.length=ix+jy∧zD_ g∧jz_ (X1++Y1) g) ?_ ?_
      ·by_cases c1:a<i
       ·have d1:decide ((a:Int)< (i:Int))=true:=decide_eq_true (by omega)
        by_cases c2:0<jy
        ·have d2:decide ((i:Int)< (mid:Int))=true:=decide_eq_true (by omega)
         first|with_reducible refine ks [] (And.intro @zW_ (And.intro @d1 (@d2))) ?_|refine kp (And.intro @zW_ (And.intro @d1 (@d2))) ?_
         refine Ow.callE rfl rfl Tryz.call167 (by simp[keys]) (fun w' hw'=>ih rb n c A X1 Y1 (X2++ (Y2++B)) rest a i mid w' ha (by omega) (by omega) (by simp only[List.length_append];omega) hs sX1 sY1 (by omega) (by omega) (by omega) (hw'.has _ _ List.mem_cons_self)) (fun v1 o1 hS1=> ?_)
         obtain⟨rfl,Z1,rfl,z1,z2,z3⟩:=hS1
         refine ko @zW_ ?_
         exact CutM.mk Z1 ⟨by omega,z2,z3⟩ rfl rfl
        ·have d2:decide ((i:Int)< (mid:Int))=false:=decide_eq_false (by omega)
         first|with_reducible refine ks [] (And.intro @zW_ (And.intro @d1 (@d2))) ?_|refine kp (And.intro @zW_ (And.intro @d1 (@d2))) ?_
         obtain rfl:Y1= []:=List.eq_nil_of_length_eq_zero (by omega)
         exact CutM.mk X1 ⟨by omega,sX1,by rw[List.append_nil];exact StP.St.refl _ _⟩ rfl rfl
       ·have d1:decide ((a:Int)< (i:Int))=false:=decide_eq_false (by omega)
        first|with_reducible refine ks [] (And.intro @zW_ @d1) ?_|refine kp (And.intro @zW_ @d1) ?_
        obtain rfl:X1= []:=List.eq_nil_of_length_eq_zero (by omega)
        exact CutM.mk Y1 ⟨by omega,sY1,StP.St.refl _ _⟩ (by simp only[List.nil_append]) rfl
      ·intro Z1 jZ1 hZ1
       simp only[X5_,Kj_,pin,Z7_,Qc_,Nat.reduceAdd]
       obtain⟨z1,z2,z3⟩:=hZ1
       by_cases c1:i<m
       ·have d1:decide ((mid:Int)< ((m+jy:Nat):Int))=true:=decide_eq_true (by omega)
        by_cases c2:m+jy<b
        ·have d2:decide (((m+jy:Nat):Int)< (b:Int))=true:=decide_eq_true (by omega)
         first|with_reducible refine ks [] (And.intro @zW_ (And.intro @d1 (@d2))) ?_|refine kp (And.intro @zW_ (And.intro @d1 (@d2))) ?_
         refine Ow.callE rfl rfl Tryz.call167 (by simp[keys]) (fun w' hw'=>ih rb n c (A++Z1) X2 Y2 B rest mid (m+jy) b w' (by rw[List.length_append];omega) (by omega) (by omega) hn hs sX2 sY2 (by omega) (by omega) (by omega) (by rw[List.append_assoc];exact hw'.has _ _ List.mem_cons_self)) (fun v2 o2 hS2=> ?_)
         obtain⟨rfl,Z2,rfl,y1,y2,y3⟩:=hS2
         obtain⟨r1,r2⟩:=hmc Z1 Z2 z2 z3 y2 y3
         refine ko @zW_ ?_
         refine⟨_,_,_,(ke @zW_),rfl,trivial, ?_⟩
         exact⟨rfl,Z1++Z2,by simp only[List.append_assoc],by rw[List.length_append];omega,r1,r2⟩
        ·have d2:decide (((m+jy:Nat):Int)< (b:Int))=false:=decide_eq_false (by omega)
         first|with_reducible refine ks [] (And.intro @zW_ (And.intro @d1 (@d2))) ?_|refine kp (And.intro @zW_ (And.intro @d1 (@d2))) ?_
         obtain rfl:Y2= []:=List.eq_nil_of_length_eq_zero (by omega)
         obtain⟨r1,r2⟩:=hmc Z1 X2 z2 z3 sX2 (by rw[List.append_nil];exact StP.St.refl _ _)
         refine⟨_,_,_,(ke @zW_),rfl,trivial, ?_⟩
         exact⟨rfl,Z1++X2,by simp only[List.append_assoc,List.nil_append],by rw[List.length_append];omega,r1,r2⟩
       ·have d1:decide ((mid:Int)< ((m+jy:Nat):Int))=false:=decide_eq_false (by omega)
        first|with_reducible refine ks [] (And.intro @zW_ @d1) ?_|refine kp (And.intro @zW_ @d1) ?_
        obtain rfl:X2= []:=List.eq_nil_of_length_eq_zero (by omega)
        obtain⟨r1,r2⟩:=hmc Z1 Y2 z2 z3 sY2 (StP.St.refl _ _)
        refine⟨_,_,_,(ke @zW_),rfl,trivial, ?_⟩
        exact⟨rfl,Z1++Y2,by simp only[List.append_assoc,List.nil_append],by rw[List.length_append];omega,r1,r2⟩
end Go.Proofs
end
section
open Go Go.Proofs Go.Sx Go.StP
namespace Go.Proofs
set_option maxRecDepth 10000
set_option maxHeartbeats 4000000
set_option linter.unusedSimpArgs false
def shs_Blks (k:Nat) (ls:List (List ShL)):Prop:= ∀x,x∈ls→x.length=k∧zD_ x
theorem shs_Blks.snoc {k:Nat} {ls:List (List ShL)} {x:List ShL} (h:shs_Blks k ls) (hx:x.length=k) (hs:zD_ x):shs_Blks k (ls++ [x]):=by
 intro y hy
 rcases List.mem_append.1 hy with hy|hy
 ·exact h y hy
 ·rw[List.mem_singleton] at hy;subst hy;exact⟨hx,hs⟩
structure shs_StG where
 k:Nat
 ls:List (List ShL)
 r:List ShL
structure shs_StH where
 l2:List (List ShL)
 ls:List (List ShL)
theorem Jc_ (rb n c:Nat) (d:List ShL) (rest:List Value) (w:World) (hn:n=d.length) (hs:n<1000000)
  (ho:w.heap[rb]? =some (zB_ rest d)):
  Rets Tryz.prog 128 #[vsl rb 0 n c,vi n,qT_] w (fun v D=> ∃o,D= [(rb,o)]∧v= .tuple #[]∧ ∃Z,o=zB_ rest Z∧Z.length=d.length∧zD_ Z∧jz_ d Z):=by
 refine Rets.enterM Tryz.func128 rfl (rs:= []) Tryz.results128 Tryz.ntmps128 ho ?_
 refine kf ?_
 first|with_reducible refine ks [1000006] @Nat.add_zero ?_|refine kp @Nat.add_zero ?_
 refine Cw.loopG (G:=shs_StG) [11,12,13,14,15,16,17,18,19,7,20,21,22,8] (fun g=> [(7,vi g.ls.flatten.length),(8,vi (g.ls.flatten.length+20:Nat))]) (fun g=> [(rb,zB_ rest (g.ls.flatten++g.r))]) (fun g=>shs_Blks 20 g.ls∧jz_ d (g.ls.flatten++g.r)∧g.ls.flatten.length+g.r.length=n) (fun g=>g.r.length) ⟨20,[],d⟩ rfl rfl ?_ ?_
 ·refine⟨fun x hx=> ?_,StP.St.refl _ _,by show 0+d.length=n;omega⟩
  exact absurd hx (by simp)
 ·intro g j hg
  refine kv ?_
  obtain⟨_,ls,r⟩:=g
  obtain⟨h1,h2,h3⟩:=hg
  dsimp only at h1 h2 h3 ⊢
  by_cases hb:ls.flatten.length+20≤n
  ·obtain⟨M,R,rfl,hM⟩:=Kn_ r (show 20≤r.length by omega)
   rw[List.length_append] at h3
   first|with_reducible refine ks [] @Nat.add_zero ?_|refine kp @Nat.add_zero ?_
   refine Ow.callE rfl rfl Tryz.call166 (by simp[keys]) (fun w' hw'=>kn_ rb n c ls.flatten M R rest ls.flatten.length (ls.flatten.length+20) w' rfl (by omega) (by omega) hs (hw'.has _ _ List.mem_cons_self)) (fun v1 o1 hS1=> ?_)
   obtain⟨rfl,M',rfl,l1,s1,t1⟩:=hS1
   refine ko @Nat.add_zero ?_
   have e1: (ls++ [M']).flatten=ls.flatten++M':=by simp
   refine Again.mk ⟨20,ls++ [M'],R⟩ (by show R.length< (M++R).length;rw[List.length_append];omega) ⟨h1.snoc (by omega) s1, ?_, ?_⟩ ?_ ?_
   ·show jz_ d ((ls++ [M']).flatten++R)
    rw[e1,List.append_assoc]
    exact h2.trans (StP.St.app (StP.St.refl _ _) (StP.St.app t1 (StP.St.refl _ _)))
   ·show(ls++ [M']).flatten.length+R.length=n
    rw[e1,List.length_append];omega
   ·rw[e1,List.append_assoc]
   ·dsimp only
    rw[e1,show(ls.flatten++M').length=ls.flatten.length+20 by rw[List.length_append];omega]
    rfl
  ·first|with_reducible refine ks [] @Nat.add_zero ?_|refine kp @Nat.add_zero ?_
   have e0:ls.flatten++r=ls.flatten++ (r++ []):=by rw[List.append_nil]
   rw[e0]
   first|with_reducible refine ks [1000007] @Nat.add_zero ?_|refine kp @Nat.add_zero ?_
   refine Ow.callE rfl rfl Tryz.call166 (by simp[keys]) (fun w' hw'=>kn_ rb n c ls.flatten r [] rest ls.flatten.length n w' rfl (by omega) (by simp) hs (hw'.has _ _ List.mem_cons_self)) (fun v1 o1 hS1=> ?_)
   obtain⟨rfl,r',rfl,l1,s1,t1⟩:=hS1
   rw[show r'++ []=r' from List.append_nil r']
   refine ko @Nat.add_zero ?_
   refine Cw.loopG (G:=shs_StG) [28,29,30,31,32,7,8,33,34,35,36,37,38,39,40,41,42,43,44,45,46,47,48,49,50,51,9,52,53,54,55,56,57,58,59,60,61,62,6] (fun g=> [(6,vi g.k)]) (fun g=> [(rb,zB_ rest (g.ls.flatten++g.r))]) (fun g=>0<g.k∧shs_Blks g.k g.ls∧zD_ g.r∧g.r.length<g.k∧jz_ d (g.ls.flatten++g.r)∧g.ls.flatten.length+g.r.length=n) (fun g=>n - g.k) ⟨20,ls,r'⟩ rfl rfl ?_ ?_
   ·exact⟨by show 0<20;omega,h1,s1,by show r'.length<20;omega,h2.trans (StP.St.app (StP.St.refl _ _) t1),by show ls.flatten.length+r'.length=n;omega⟩
   ·intro g j hg
    refine kv ?_
    clear h1 h2 h3 hb e0 l1 s1 t1
    obtain⟨k,ls,r⟩:=g
    obtain⟨h0,h1,h2,h3,h4,h5⟩:=hg
    dsimp only at h0 h1 h2 h3 h4 h5 ⊢
    by_cases hk:k<n
    ·have e1:2* (k:Int)=((2*k:Nat):Int):=by omega
     first|with_reducible refine ks [1000013] @e1 ?_|refine kp @e1 ?_
     refine Cw.loopG (G:=shs_StH) [33,34,35,36,37,38,39,40,41,42,43,44,7,45,46,47,48,8] (fun g=> [(7,vi g.l2.flatten.length),(8,vi (2*k+g.l2.flatten.length:Nat))]) (fun g=> [(rb,zB_ rest (g.l2.flatten++ (g.ls.flatten++r)))]) (fun g=>shs_Blks (2*k) g.l2∧shs_Blks k g.ls∧jz_ d (g.l2.flatten++ (g.ls.flatten++r))∧g.l2.flatten.length+ (g.ls.flatten.length+r.length)=n) (fun g=>g.ls.length) ⟨[],ls⟩ rfl rfl ?_ ?_
     ·refine⟨fun x hx=> ?_,h1,h4,by show 0+ (ls.flatten.length+r.length)=n;omega⟩
      exact absurd hx (by simp)
     ·clear h1 h4 h5
      intro g j hg
      refine kv ?_
      obtain⟨l2,ls⟩:=g
      obtain⟨g1,g2,g3,g4⟩:=hg
      dsimp only at g1 g2 g3 g4 ⊢
      by_cases hb:2*k+l2.flatten.length≤n
      ·have hls: ∃x y t,ls=x::y::t:=by
        cases ls with
        |nil=>rw[List.flatten_nil,List.length_nil] at g4;omega
        |cons x t=>
         have hx:=(g2 x List.mem_cons_self).1
         cases t with
         |nil=>rw[List.flatten_cons,List.flatten_nil,List.append_nil] at g4;omega
         |cons y t=>exact⟨x,y,t,rfl⟩
       obtain⟨x,y,t,rfl⟩:=hls
       have hx:=g2 x List.mem_cons_self
       have hy:=g2 y (by simp)
       have ht:shs_Blks k t:=fun u hu=>g2 u (by simp[hu])
       rw[List.flatten_cons,List.flatten_cons] at g3 g4
       simp only[List.length_append,List.append_assoc] at g3 g4
       have e2: (x::y::t).flatten++r=x++ (y++ (t.flatten++r)):=by simp
       rw[e2]
       have e3: (l2.flatten.length:Int)+ (k:Int)=((l2.flatten.length+k:Nat):Int):=by omega
       first|with_reducible refine ks [] @e3 ?_|refine kp @e3 ?_
       refine Ow.callE rfl rfl Tryz.call167 (by simp[keys]) (fun w' hw'=>kG_ (2*k) rb n c l2.flatten x y (t.flatten++r) rest l2.flatten.length (l2.flatten.length+k) (2*k+l2.flatten.length) w' rfl (by omega) (by omega) (by rw[List.length_append];omega) hs hx.2 hy.2 (by omega) (by omega) (by omega) (hw'.has _ _ List.mem_cons_self)) (fun v1 o1 hS1=> ?_)
       obtain⟨rfl,Z,rfl,z1,z2,z3⟩:=hS1
       have e4: ((2*k+l2.flatten.length:Nat):Int)+ ((2*k:Nat):Int)=((2*k+ (l2.flatten.length+2*k):Nat):Int):=by omega
       refine ko (And.intro @e1 @e4) ?_
       have e5: (l2++ [Z]).flatten=l2.flatten++Z:=by simp
       have e6: (l2.flatten++Z).length=2*k+l2.flatten.length:=by rw[List.length_append];omega
       refine Again.mk ⟨l2++ [Z],t⟩ (by show t.length< (x::y::t).length;simp only[List.length_cons];omega) ⟨g1.snoc (by omega) z2,ht, ?_, ?_⟩ ?_ ?_
       ·show jz_ d ((l2++ [Z]).flatten++ (t.flatten++r))
        rw[e5,List.append_assoc]
        refine g3.trans (StP.St.app (StP.St.refl _ _) ?_)
        rw[←List.append_assoc]
        exact StP.St.app z3 (StP.St.refl _ _)
       ·show(l2++ [Z]).flatten.length+ (t.flatten.length+r.length)=n
        rw[e5,e6];omega
       ·rw[e5,List.append_assoc]
       ·dsimp only
        rw[e5,e6,show l2.flatten.length+2*k=2*k+l2.flatten.length by omega]
        rfl
      ·have e7: (k:Int)*2=((2*k:Nat):Int):=by omega
       have e3: (l2.flatten.length:Int)+ (k:Int)=((l2.flatten.length+k:Nat):Int):=by omega
       have hls:ls= []∨ ∃x,ls= [x]:=by
        cases ls with
        |nil=>exact .inl rfl
        |cons x t=>
         have hx:=(g2 x List.mem_cons_self).1
         cases t with
         |nil=>exact .inr ⟨x,rfl⟩
         |cons y t=>
          have hy:=(g2 y (by simp)).1
          rw[List.flatten_cons,List.flatten_cons,List.length_append,List.length_append] at g4
          omega
       have fin: ∀r',(ls.flatten++r).length=r'.length→jz_ (ls.flatten++r) r'→jz_ d (l2.flatten++r')∧l2.flatten.length+r'.length=n:=by
        intro r' hl ht'
        rw[List.length_append] at hl
        exact⟨g3.trans (StP.St.app (StP.St.refl _ _) ht'),by omega⟩
       rcases hls with rfl| ⟨x,rfl⟩
       ·rw[List.flatten_nil,List.length_nil] at g4
        first|with_reducible refine ks [] @Nat.add_zero ?_|refine kp @Nat.add_zero ?_
        first|with_reducible refine ks [] (And.intro @e3 @e7) ?_|refine kp (And.intro @e3 @e7) ?_
        obtain⟨w1,w2⟩:=fin r rfl (StP.St.refl _ _)
        refine Again.mk ⟨2*k,l2,r⟩ (by show n - 2*k<n - k;omega) ⟨by show 0<2*k;omega,g1,h2,by show r.length<2*k;omega,w1,w2⟩ rfl rfl
       ·have hx:=g2 x List.mem_cons_self
        rw[List.flatten_cons,List.flatten_nil,List.append_nil] at g4 fin
        rw[List.flatten_cons,List.flatten_nil,List.append_nil]
        by_cases hr:r.length=0
        ·obtain rfl:r= []:=List.eq_nil_of_length_eq_zero hr
         first|with_reducible refine ks [] @Nat.add_zero ?_|refine kp @Nat.add_zero ?_
         first|with_reducible refine ks [] (And.intro @e3 @e7) ?_|refine kp (And.intro @e3 @e7) ?_
         obtain⟨w1,w2⟩:=fin x (by rw[List.append_nil]) (by rw[List.append_nil];exact StP.St.refl _ _)
         refine Again.mk ⟨2*k,l2,x⟩ (by show n - 2*k<n - k;omega) ⟨by show 0<2*k;omega,g1,hx.2,by show x.length<2*k;omega,w1,w2⟩ ?_ rfl
         rw[List.append_nil]
        ·have e8:x++r=x++ (r++ []):=by rw[List.append_nil]
         rw[e8]
         first|with_reducible refine ks [] @Nat.add_zero ?_|refine kp @Nat.add_zero ?_
         first|with_reducible refine ks [] (And.intro @e3 @e7) ?_|refine kp (And.intro @e3 @e7) ?_
         refine Ow.callE rfl rfl Tryz.call167 (by simp[keys]) (fun w' hw'=>kG_ (2*k) rb n c l2.flatten x r [] rest l2.flatten.length (l2.flatten.length+k) n w' rfl (by omega) (by omega) (by simp) hs hx.2 h2 (by omega) (by omega) (by omega) (hw'.has _ _ List.mem_cons_self)) (fun v1 o1 hS1=> ?_)
         obtain⟨rfl,Z,rfl,z1,z2,z3⟩:=hS1
         rw[show Z++ []=Z from List.append_nil Z]
         refine ko @e7 ?_
         obtain⟨w1,w2⟩:=fin Z (by rw[List.length_append];omega) z3
         refine Again.mk ⟨2*k,l2,Z⟩ (by show n - 2*k<n - k;omega) ⟨by show 0<2*k;omega,g1,z2,by show Z.length<2*k;omega,w1,w2⟩ rfl rfl
    ·first|with_reducible refine ks [] @Nat.add_zero ?_|refine kp @Nat.add_zero ?_
     have hZ:zD_ (ls.flatten++r):=by
      cases ls with
      |nil=>exact h2
      |cons x ls=>
       have hx:=h1 x List.mem_cons_self
       rw[List.flatten_cons,List.length_append] at h5
       obtain rfl:r= []:=List.eq_nil_of_length_eq_zero (by omega)
       cases ls with
       |nil=>simpa using hx.2
       |cons y ls=>
        have hy:=h1 y (by simp)
        rw[List.flatten_cons,List.length_append] at h5
        omega
     have hZl: (ls.flatten++r).length=d.length:=by rw[List.length_append];omega
     refine⟨_,_,_,(ke @Nat.add_zero),rfl,trivial, ?_⟩
     exact⟨rfl,_,rfl,hZl,hZ,h4⟩
end Go.Proofs
end
section
open Go Go.Proofs Go.Sx Go.StP
namespace Go.Proofs
set_option maxRecDepth 10000
set_option maxHeartbeats 4000000
set_option linter.unusedSimpArgs false
theorem ZN_ (w:World):Rets Tryz.prog 166 #[.slice none 0 0,vi 0,vi 0,qT_] w (fun v D=>v= .tuple #[]∧D= []):=by
 refine Rets.enterV Tryz.func166 rfl (rs:= []) Tryz.results166 Tryz.ntmps166 ?_
 refine kf ?_
 first|with_reducible refine ks [] @Nat.add_zero ?_|refine kp @Nat.add_zero ?_
 refine Cw.loopG (G:=Unit) [12,13,14,17,9,18,19,20,21,22,23,24,25,26,27,28,29,30,31,32,33,34,37,38,39,40,41,42,43,44,45,46,47,48,49,50,51,52,35,36,15,16,8] (fun g=> [(8,vi 1)]) (fun g=> []) (fun g=>True) (fun g=>0) () rfl rfl ?_ ?_
 ·trivial
 ·intro g j hg
  refine kv ?_
  first|with_reducible refine ks [] @Nat.add_zero ?_|refine kp @Nat.add_zero ?_
  refine⟨_,(ke @Nat.add_zero),trivial, ?_⟩
  rfl
theorem XO_ (w:World):Rets Tryz.prog 128 #[.slice none 0 0,vi 0,qT_] w (fun v D=>v= .tuple #[]∧D= []):=by
 refine Rets.enterV Tryz.func128 rfl (rs:= []) Tryz.results128 Tryz.ntmps128 ?_
 refine kf ?_
 first|with_reducible refine ks [] @Nat.add_zero ?_|refine kp @Nat.add_zero ?_
 refine Cw.loopG (G:=Unit) [11,12,13,14,15,16,17,18,19,7,20,21,22,8] (fun g=> [(7,vi 0),(8,vi 20)]) (fun g=> []) (fun g=>True) (fun g=>0) () rfl rfl ?_ ?_
 ·trivial
 ·intro g j hg
  refine kv ?_
  first|with_reducible refine ks [] @Nat.add_zero ?_|refine kp @Nat.add_zero ?_
  refine Ow.callFV rfl Tryz.call166 (fun w' hw'=>ZN_ w') ?_
  refine ko @Nat.add_zero ?_
  refine Cw.loopG (G:=Unit) [28,29,30,31,32,7,8,33,34,35,36,37,38,39,40,41,42,43,44,45,46,47,48,49,50,51,9,52,53,54,55,56,57,58,59,60,61,62,6] (fun g=> [(6,vi 20)]) (fun g=> []) (fun g=>True) (fun g=>0) () rfl rfl ?_ ?_
  ·trivial
  ·intro u ju hu
   refine kv ?_
   first|with_reducible refine ks [] @Nat.add_zero ?_|refine kp @Nat.add_zero ?_
   refine⟨_,(ke @Nat.add_zero),trivial, ?_⟩
   rfl
theorem wR_ (w:World):Rets Tryz.prog 70 #[.slice none 0 0,qT_] w (fun v D=>v= .tuple #[]∧D= []):=by
 refine Rets.enterV Tryz.func70 rfl (rs:= []) Tryz.results70 Tryz.ntmps70 ?_
 refine kf ?_
 first|with_reducible refine ks [] @kr_ ?_|refine kp @kr_ ?_
 refine Ow.callFV rfl Tryz.call128 (fun w' hw'=>XO_ w') ?_
 refine ko @Nat.add_zero ?_
 refine⟨_,(ke @Nat.add_zero),trivial, ?_⟩
 rfl
theorem xP_ (rb n c:Nat) (d:List ShL) (rest:List Value) (w:World) (hn:n=d.length) (hs:n<1000000) (ho:w.heap[rb]? =some (zB_ rest d)):
  Rets Tryz.prog 70 #[vsl rb 0 n c,qT_] w (fun v D=> ∃o,D= [(rb,o)]∧v= .tuple #[]∧ ∃Z,o=zB_ rest Z∧Z.length=d.length∧zD_ Z∧jz_ d Z):=by
 refine Rets.enterM Tryz.func70 rfl (rs:= []) Tryz.results70 Tryz.ntmps70 ho ?_
 refine kf ?_
 first|with_reducible refine ks [] @Nat.add_zero ?_|refine kp @Nat.add_zero ?_
 refine Ow.callE rfl rfl Tryz.call128 (by simp[keys]) (fun w' hw'=>Jc_ rb n c d rest w' hn hs (hw'.has _ _ List.mem_cons_self)) (fun v1 o1 hS1=> ?_)
 obtain⟨rfl,Z,rfl,z1,z2,z3⟩:=hS1
 refine ko @Nat.add_zero ?_
 refine⟨_,_,_,(ke @Nat.add_zero),rfl,trivial, ?_⟩
 exact⟨rfl,Z,rfl,z1,z2,z3⟩
def shs_SortOf (l Z:List ShL):Prop:=Z.length=l.length∧zD_ Z∧jz_ l Z
theorem shs_SortOf.eq {l Z Z':List ShL} (h:shs_SortOf l Z) (h':shs_SortOf l Z'):Z=Z':=StP.St.eq h.2.1 h'.2.1 (h.2.2.symm.trans h'.2.2)
end Go.Proofs
end
section
namespace Go.Proofs
open Go Go.Shelf
set_option maxRecDepth 100000
def Tryz.sortLn_ren:Go.Shelf.Ren:=⟨fun|6=>136|15=>169|14=>168|28=>196|29=>197|20=>188|21=>189|22=>190|23=>191|24=>192|25=>193|26=>194|27=>195|46=>217|47=>218|48=>219|49=>220|50=>221|57=>228|n=>n,fun|22=>82|24=>89|25=>171|3=>3|39=>223|0=>0|53=>218|55=>283|4=>4|46=>276|45=>275|50=>169|5=>5|9=>9|66=>301|70=>305|76=>314|77=>315|n=>n,fun|n=>n⟩
theorem Tryz.sortLn:Go.Proofs.SlLaysF0.n6 Tryz.prog Tryz.sortLn_ren:={
 mixed:=by kernel_rfl
 f6:=⟨Tryz.f136.name,by decide,Tryz.func136.trans (congrArg some (by kernel_rfl))⟩
 f14:=⟨Tryz.f168.name,by decide,Tryz.func168.trans (congrArg some (by kernel_rfl))⟩
 f15:=Tryz.func169.trans (congrArg some (by kernel_rfl))
 f20:=⟨Tryz.f188.name,by decide,Tryz.func188.trans (congrArg some (by kernel_rfl))⟩
 f21:=⟨Tryz.f189.name,by decide,Tryz.func189.trans (congrArg some (by kernel_rfl))⟩
 f22:=⟨Tryz.f190.name,by decide,Tryz.func190.trans (congrArg some (by kernel_rfl))⟩
 f23:=⟨Tryz.f191.name,by decide,Tryz.func191.trans (congrArg some (by kernel_rfl))⟩
 f24:=⟨Tryz.f192.name,by decide,Tryz.func192.trans (congrArg some (by kernel_rfl))⟩
 f25:=⟨Tryz.f193.name,by decide,Tryz.func193.trans (congrArg some (by kernel_rfl))⟩
 f26:=⟨Tryz.f194.name,by decide,Tryz.func194.trans (congrArg some (by kernel_rfl))⟩
 f27:=⟨Tryz.f195.name,by decide,Tryz.func195.trans (congrArg some (by kernel_rfl))⟩
 f28:=Tryz.func196.trans (congrArg some (by kernel_rfl))
 f29:=Tryz.func197.trans (congrArg some (by kernel_rfl))
 f46:=⟨Tryz.f217.name,by decide,Tryz.func217.trans (congrArg some (by kernel_rfl))⟩
 f47:=Tryz.func218.trans (congrArg some (by kernel_rfl))
 f48:=Tryz.func219.trans (congrArg some (by kernel_rfl))
 f49:=⟨Tryz.f220.name,by decide,Tryz.func220.trans (congrArg some (by kernel_rfl))⟩
 f50:=⟨Tryz.f221.name,by decide,Tryz.func221.trans (congrArg some (by kernel_rfl))⟩
 f57:=⟨Tryz.f228.name,by decide,Tryz.func228.trans (congrArg some (by kernel_rfl))⟩
 t0:=Tryz.underlying0
 a0:=Tryz.isAgg0
 z0:=Tryz.sizeOf0
 v0:=Tryz.zeroValue0
 t3:=Tryz.underlying3
 a3:=Tryz.isAgg3
 z3:=Tryz.sizeOf3
 v3:=Tryz.zeroValue3
 t4:=Tryz.underlying4
 a4:=Tryz.isAgg4
 z4:=Tryz.sizeOf4
 v4:=Tryz.zeroValue4
 t5:=Tryz.underlying5
 a5:=Tryz.isAgg5
 z5:=Tryz.sizeOf5
 v5:=Tryz.zeroValue5
 t9:=Tryz.underlying9
 a9:=Tryz.isAgg9
 z9:=Tryz.sizeOf9
 v9:=Tryz.zeroValue9
 t22:=Tryz.underlying82
 a22:=Tryz.isAgg82
 z22:=Tryz.sizeOf82
 v22:=Tryz.zeroValue82
 t25:=Tryz.underlying171
 a25:=Tryz.isAgg171
 z25:=Tryz.sizeOf171
 v25:=Tryz.zeroValue171
 t39:=Tryz.underlying223
 a39:=Tryz.isAgg223
 z39:=Tryz.sizeOf223
 v39:=Tryz.zeroValue223
 t45:=Tryz.underlying275
 a45:=Tryz.isAgg275
 z45:=Tryz.sizeOf275
 v45:=Tryz.zeroValue275
 t46:=Tryz.underlying276
 a46:=Tryz.isAgg276
 z46:=Tryz.sizeOf276
 v46:=Tryz.zeroValue276
 t50:=Tryz.underlying169
 a50:=Tryz.isAgg169
 z50:=Tryz.sizeOf169
 v50:=Tryz.zeroValue169
 t53:=Tryz.underlying218
 a53:=Tryz.isAgg218
 z53:=Tryz.sizeOf218
 v53:=Tryz.zeroValue218
 t55:=Tryz.underlying283
 a55:=Tryz.isAgg283
 z55:=Tryz.sizeOf283
 v55:=Tryz.zeroValue283
 t66:=Tryz.underlying301
 a66:=Tryz.isAgg301
 z66:=Tryz.sizeOf301
 v66:=Tryz.zeroValue301
 t70:=Tryz.underlying305
 a70:=Tryz.isAgg305
 z70:=Tryz.sizeOf305
 v70:=Tryz.zeroValue305
 t76:=Tryz.underlying314
 a76:=Tryz.isAgg314
 z76:=Tryz.sizeOf314
 v76:=Tryz.zeroValue314
 t77:=Tryz.underlying315
 a77:=Tryz.isAgg315
 z77:=Tryz.sizeOf315
 v77:=Tryz.zeroValue315}
end Go.Proofs
end
namespace Go.Sx
open Go
def kv (e:MapEntry):Value×Value:=(e.key,e.val)
def ItR (o:Obj) (bm:Nat) (om:Obj) (m dn lf:VN_):Prop:=
 ∃es clock,∃ds:List MapEntry,om= .map es clock∧(es.toList.map (·.born)++ [clock]).Pairwise (· < ·)∧o= .mapIter (some bm) clock (ds.map (·.born)).toArray clock∧
  ds.map kv=dn.map wr_∧(∀d,d∈ds→d∈es.toList)∧((es.toList.filter fun e=> !(ds.map (·.born)).contains e.born).map kv=lf.map wr_)∧(dn++lf).Perm m
theorem ZX_ {l:List MapEntry} {c:Nat} (h: (l.map (·.born)++ [c]).Pairwise (· < ·)): (l.map (·.born)).Nodup:=
 ((List.pairwise_append.1 h).1).imp fun h=>Nat.ne_of_lt h
theorem akx_ {l:List MapEntry} {c:Nat} (h: (l.map (·.born)++ [c]).Pairwise (· < ·)): ∀x,x∈l→x.born<c:=fun x hx=>
 (List.pairwise_append.1 h).2.2 _ (List.mem_map.2 ⟨x,hx,rfl⟩) c (List.mem_singleton.2 rfl)
theorem Wk_ (es:Array MapEntry) (ds:List MapEntry): (leftOf es (ds.map (·.born)).toArray).toList=es.toList.filter fun e=> !(ds.map (·.born)).contains e.born:=by
 unfold leftOf
 rw[Array.toList_filter]
 simp
theorem ItR.start {bm:Nat} {om:Obj} {m:VN_} (h:MapR om m): ∃es clock,om= .map es clock∧ItR (.mapIter (some bm) clock #[] clock) bm om m [] m:=by
 obtain⟨es,clock,rfl,h1,h2⟩:=h
 refine⟨es,clock,rfl,es,clock,[],rfl,h2,rfl,rfl,(fun d hd=>by cases hd), ?_,by rw[List.nil_append]⟩
 rw[show(es.toList.filter fun e=> !(([]:List MapEntry).map (·.born)).contains e.born)=es.toList from List.filter_eq_self.2 (fun _ _=>rfl)]
 exact h1
theorem ItR.step {bm:Nat} {om:Obj} {m dn lf:VN_} {es:Array MapEntry} {clock:Nat} {ds:List MapEntry} {e:MapEntry} (hb: (es.toList.map (·.born)++ [clock]).Pairwise (· < ·))
  (hd:ds.map kv=dn.map wr_) (hm: ∀d,d∈ds→d∈es.toList) (hl: (es.toList.filter fun e=> !(ds.map (·.born)).contains e.born).map kv=lf.map wr_) (hp: (dn++lf).Perm m)
  (he:e∈es.toList.filter fun e=> !(ds.map (·.born)).contains e.born) (hom:om= .map es clock):
  ∃p lf',kv e=wr_ p∧lf.length=lf'.length+1∧ItR (.mapIter (some bm) clock ((ds.map (·.born)).toArray.push e.born) clock) bm om m (dn++ [p]) lf':=by
 obtain⟨A,C,hAC⟩:=List.append_of_mem he
 rw[hAC,List.map_append,List.map_cons] at hl
 obtain⟨l1,l2,rfl,h1,h2⟩:=List.append_eq_map_iff.1 hl
 obtain⟨p,l3,rfl,h3,h4⟩:=(List.map_eq_cons_iff.1 h2)
 refine⟨p,l1++l3,h3.symm,by simp;omega,es,clock,ds++ [e],hom,hb,by simp,by simp[hd,h3], ?_, ?_, ?_⟩
 ·intro d hd'
  rcases List.mem_append.1 hd' with h|h
  ·exact hm d h
  ·rw[List.mem_singleton] at h;subst h;exact(List.mem_filter.1 he).1
 ·have hnd: ((A++e::C).map (·.born)).Nodup:=by
   rw[←hAC]
   exact(ZX_ hb).sublist ((List.filter_sublist).map _)
  have e1: (es.toList.filter fun x=> !((ds++ [e]).map (·.born)).contains x.born)=(A++e::C).filter fun x=> !(x.born==e.born):=by
   rw[←hAC,List.filter_filter]
   refine List.filter_congr fun x hx=> ?_
   simp only[List.map_append,List.map_cons,List.map_nil,List.contains_append,List.contains_cons,List.contains_nil,Bool.or_false,Bool.not_or]
   rw[Bool.and_comm]
  rw[List.map_append,List.map_cons,List.nodup_append] at hnd
  obtain⟨-,hn2,hn3⟩:=hnd
  rw[List.nodup_cons] at hn2
  have e2: ((A++e::C).filter fun x=> !(x.born==e.born))=A++C:=by
   rw[List.filter_append,List.filter_cons]
   simp only[beq_self_eq_true,Bool.not_true,Bool.false_eq_true, ↓reduceIte]
   congr 1
   ·refine List.filter_eq_self.2 fun x hx=> ?_
    have:=hn3 x.born (List.mem_map.2 ⟨x,hx,rfl⟩) e.born List.mem_cons_self
    simpa using this
   ·refine List.filter_eq_self.2 fun x hx=> ?_
    have:x.born≠e.born:=fun h=>hn2.1 (h▸List.mem_map.2 ⟨x,hx,rfl⟩)
    simpa using this
  rw[e1,e2,List.map_append,List.map_append,h1,h4]
 ·refine List.Perm.trans ?_ hp
  rw[List.append_assoc]
  refine List.Perm.append_left dn ?_
  rw[List.singleton_append]
  exact List.perm_middle.symm
section
variable {P:Program} {w0:World} {f:Fr} {L:zc_} {N:Fr→zc_→Prop} {ops:Array Oper} {rest:List Oper} {md:Md}
 {d:Option Tmp} {ty:TypeId} {ps:String} {af:Array Edge} {g:Option (Nat×Bool)}
def itv (b:Nat):Value:= .pointer (some ⟨b,0,none⟩)
end
end Go.Sx
namespace Go.Sx
open Go
def ItG {α β:Type} (encK:α→Value) (encV:β→Value) (o:Obj) (bm:Nat) (om:Obj) (m dn lf:List (α×β)):Prop:=
 ∃es clock,∃ds:List MapEntry,om= .map es clock∧(es.toList.map (·.born)++ [clock]).Pairwise (· < ·)∧o= .mapIter (some bm) clock (ds.map (·.born)).toArray clock∧
  ds.map kv=dn.map (kT_ encK encV)∧(∀d,d∈ds→d∈es.toList)∧((es.toList.filter fun e=> !(ds.map (·.born)).contains e.born).map kv=lf.map (kT_ encK encV))∧(dn++lf).Perm m
theorem ItG.start {α β:Type} {encK:α→Value} {encV:β→Value} {bm:Nat} {om:Obj} {m:List (α×β)} (h:MapG encK encV om m): ∃es clock,om= .map es clock∧ItG encK encV (.mapIter (some bm) clock #[] clock) bm om m [] m:=by
 obtain⟨es,clock,rfl,h1,h2⟩:=h
 refine⟨es,clock,rfl,es,clock,[],rfl,h2,rfl,rfl,(fun d hd=>by cases hd), ?_,by rw[List.nil_append]⟩
 rw[show(es.toList.filter fun e=> !(([]:List MapEntry).map (·.born)).contains e.born)=es.toList from List.filter_eq_self.2 (fun _ _=>rfl)]
 exact h1
theorem ItG.step {α β:Type} {encK:α→Value} {encV:β→Value} {bm:Nat} {om:Obj} {m dn lf:List (α×β)} {es:Array MapEntry} {clock:Nat} {ds:List MapEntry} {e:MapEntry} (hb: (es.toList.map (·.born)++ [clock]).Pairwise (· < ·))
  (hd:ds.map kv=dn.map (kT_ encK encV)) (hm: ∀d,d∈ds→d∈es.toList) (hl: (es.toList.filter fun e=> !(ds.map (·.born)).contains e.born).map kv=lf.map (kT_ encK encV)) (hp: (dn++lf).Perm m)
  (he:e∈es.toList.filter fun e=> !(ds.map (·.born)).contains e.born) (hom:om= .map es clock):
  ∃p lf',kv e=kT_ encK encV p∧lf.length=lf'.length+1∧ItG encK encV (.mapIter (some bm) clock ((ds.map (·.born)).toArray.push e.born) clock) bm om m (dn++ [p]) lf':=by
 obtain⟨A,C,hAC⟩:=List.append_of_mem he
 rw[hAC,List.map_append,List.map_cons] at hl
 obtain⟨l1,l2,rfl,h1,h2⟩:=List.append_eq_map_iff.1 hl
 obtain⟨p,l3,rfl,h3,h4⟩:=(List.map_eq_cons_iff.1 h2)
 refine⟨p,l1++l3,h3.symm,by simp;omega,es,clock,ds++ [e],hom,hb,by simp,by simp[hd,h3], ?_, ?_, ?_⟩
 ·intro d hd'
  rcases List.mem_append.1 hd' with h|h
  ·exact hm d h
  ·rw[List.mem_singleton] at h;subst h;exact(List.mem_filter.1 he).1
 ·have hnd: ((A++e::C).map (·.born)).Nodup:=by
   rw[←hAC]
   exact(ZX_ hb).sublist ((List.filter_sublist).map _)
  have e1: (es.toList.filter fun x=> !((ds++ [e]).map (·.born)).contains x.born)=(A++e::C).filter fun x=> !(x.born==e.born):=by
   rw[←hAC,List.filter_filter]
   refine List.filter_congr fun x hx=> ?_
   simp only[List.map_append,List.map_cons,List.map_nil,List.contains_append,List.contains_cons,List.contains_nil,Bool.or_false,Bool.not_or]
   rw[Bool.and_comm]
  rw[List.map_append,List.map_cons,List.nodup_append] at hnd
  obtain⟨-,hn2,hn3⟩:=hnd
  rw[List.nodup_cons] at hn2
  have e2: ((A++e::C).filter fun x=> !(x.born==e.born))=A++C:=by
   rw[List.filter_append,List.filter_cons]
   simp only[beq_self_eq_true,Bool.not_true,Bool.false_eq_true, ↓reduceIte]
   congr 1
   ·refine List.filter_eq_self.2 fun x hx=> ?_
    have:=hn3 x.born (List.mem_map.2 ⟨x,hx,rfl⟩) e.born List.mem_cons_self
    simpa using this
   ·refine List.filter_eq_self.2 fun x hx=> ?_
    have:x.born≠e.born:=fun h=>hn2.1 (h▸List.mem_map.2 ⟨x,hx,rfl⟩)
    simpa using this
  rw[e1,e2,List.map_append,List.map_append,h1,h4]
 ·refine List.Perm.trans ?_ hp
  rw[List.append_assoc]
  refine List.Perm.append_left dn ?_
  rw[List.singleton_append]
  exact List.perm_middle.symm
section
variable {α β:Type} {encK:α→Value} {encV:β→Value} {P:Program} {w0:World} {f:Fr} {L:zc_} {N:Fr→zc_→Prop} {ops:Array Oper} {rest:List Oper} {md:Md}
 {d:Option Tmp} {ty:TypeId} {ps:String} {af:Array Edge} {g:Option (Nat×Bool)}
theorem Ow.rangeMapG {t kt vt:TypeId} {x:Operand} {bm:Nat} {om:Obj} {m:List (α×β)} {md':Md} (he:md.turn=some md') (hs:zo_ ops f ⟨d, .range t x,ty,ps,af,g⟩=false) (hu:P.underlying t=some (.map kt vt))
  (hx:ev f x=vm bm) (hl:zv_ w0 L bm=some om) (hm:MapG encK encV om m)
  (hn: ∀b o,xt_ L b→w0.heap.size≤b→ItG encK encV o bm om m [] m→Ow P w0 ops md' rest (qU_ f d (itv b)) (L++ [(b,o)]) N):
  Ow P w0 ops md (⟨d, .range t x,ty,ps,af,g⟩::rest) f L N:=by
 obtain⟨es,clock,rfl,hI⟩:=ItG.start (bm:=bm) hm
 refine Ow.step he rfl hs fun w hw=> .inl ⟨itv w.heap.size,w.alloc (.mapIter (some bm) clock #[] clock),_, ?_,hw.alloc _,hn _ _ (qO_ fun b hb=>hw.lt hb) hw.size hI⟩
 have hb:=hw.read hl
 have: (Instr.range t (vm bm)).run P w= .ok (itv w.heap.size) (w.alloc (.mapIter (some bm) clock #[] clock)):=by
  simp only[Instr.range,vm,Sem.run_bind,run_underlying hu w,Result.andThen_ok,jT_ hb]
  rfl
 simp only[execOp,Sem.run_bind,hx]
 rw[this];rfl
theorem Ow.nextMapG {x:Operand} {r bm:Nat} {o om:Obj} {m dn lf:List (α×β)} {md':Md} (he:md.turn=some md') (hs:zo_ ops f ⟨d, .next x false,ty,ps,af,g⟩=false)
  (hx:ev f x=itv r) (hl:look L r=some o) (hlm:zv_ w0 L bm=some om) (hI:ItG encK encV o bm om m dn lf)
  (h0:lf= []→Ow P w0 ops md' rest (qU_ f d (.tuple #[.bool false])) L N)
  (h1: ∀p o' lf',lf.length=lf'.length+1→ItG encK encV o' bm om m (dn++ [p]) lf'→Ow P w0 ops md' rest (qU_ f d (.tuple #[.bool true,encK p.1,encV p.2])) (setB L r o') N):
  Ow P w0 ops md (⟨d, .next x false,ty,ps,af,g⟩::rest) f L N:=by
 refine Ow.step he rfl hs fun w hw=> ?_
 have hr:=hw.has _ _ (zL_ hl)
 have hb:=hw.read hlm
 obtain⟨es,clock,ds,rfl,hbo,rfl,hd,hm,hlf,hp⟩:=hI
 rcases run_next_at (P:=P) w ty r bm clock clock (ds.map (·.born)).toArray es clock hr hb (akx_ hbo) (Nat.le_refl _) with⟨hz,hrun⟩ | ⟨e,hem,w1,hw1,hrun⟩
 ·refine .inl ⟨.tuple #[.bool false],w,L, ?_,hw,h0 ?_⟩
  ·simp only[execOp,Sem.run_bind,hx,itv]
   rw[hrun];rfl
  ·have: (leftOf es (ds.map (·.born)).toArray).toList= []:=by
    rw[Array.toList_eq_nil_iff];exact Array.eq_empty_of_size_eq_zero hz
   rw[Wk_] at this
   rw[this] at hlf
   exact(List.map_eq_nil_iff.1 hlf.symm)
 ·rw[Wk_] at hem
  obtain⟨p,lf',hk,hlen,hI'⟩:=ItG.step (bm:=bm) hbo hd hm hlf hp hem rfl
  simp only[kv,kT_,Prod.mk.injEq] at hk
  have hw1':Hp w0 L w1:=by rcases hw1 with rfl|rfl;exact hw;exact hw.drew
  refine .inl ⟨.tuple #[.bool true,encK p.1,encV p.2],ChangeMaps.setBlock w1 r (.mapIter (some bm) clock ((ds.map (·.born)).toArray.push e.born) clock),_, ?_,hw1'.set (zr_ hl) rfl rfl rfl rfl,h1 p _ lf' hlen hI'⟩
  simp only[execOp,Sem.run_bind,hx,itv]
  rw[hrun,hk.1,hk.2];rfl
theorem Ow.entryMapG {x:Operand} {r bm:Nat} {o om:Obj} {m dn lf:List (α×β)} {p:α×β} {md':Md} (he:md.turn=some md') (hs:zo_ ops f ⟨d, .entry x,ty,ps,af,g⟩=false)
  (hx:ev f x=itv r) (hl:zv_ w0 L r=some o) (hlm:zv_ w0 L bm=some om) (hI:ItG encK encV o bm om m (dn++ [p]) lf)
  (hn:Ow P w0 ops md' rest (qU_ f d (.tuple #[encK p.1,encV p.2])) L N):
  Ow P w0 ops md (⟨d, .entry x,ty,ps,af,g⟩::rest) f L N:=by
 refine Ow.step he rfl hs fun w hw=> .inl ⟨_,w,L, ?_,hw,hn⟩
 have hr:=hw.read hl
 have hb:=hw.read hlm
 obtain⟨es,clock,ds,rfl,hbo,rfl,hd,hm,hlf,hp⟩:=hI
 rw[List.map_append,List.map_cons,List.map_nil] at hd
 obtain⟨d1,d2,rfl,-,h2⟩:=List.map_eq_append_iff.1 hd
 obtain⟨e,d3,rfl,h3,h4⟩:=List.map_eq_cons_iff.1 h2
 obtain rfl:=List.map_eq_nil_iff.1 h4
 simp only[kv,kT_,Prod.mk.injEq] at h3
 have hs': ((d1++ [e]).map (·.born)).toArray=(d1.map (·.born)).toArray.push e.born:=by simp
 rw[hs'] at hr
 have hrun:=run_entry_at (P:=P) w r bm clock (d1.map (·.born)).toArray es clock e hr hb (hm e (by simp)) (ZX_ hbo)
 simp only[execOp,Sem.run_bind,hx,itv]
 rw[hrun,h3.1,h3.2];rfl
end
theorem acn_ (l:List UInt8):Instr.sameBits 10000 (.agg (a8 l)) (.agg (a8 l))=true:=by
 show Instr.sameBits (9999+1) _ _=true
 unfold Instr.sameBits
 simp only[beq_self_eq_true,Bool.true_and,List.all_eq_true]
 intro p hp
 obtain⟨i,hi,rfl⟩:=List.getElem_of_mem hp
 rw[List.getElem_zip]
 simp[a8,Instr.sameBits]
theorem V8_ {P:Program} {t e:TypeId} {n:Nat} (hu:P.underlying t=some (.array n e)) (he:P.underlying e=some (.int .u8)) (hm:zP_ P e=some (false,1)) (l l':List UInt8) (hl:l.length=n) (hl':l'.length=n) (w:World):
  (Op.equal t (.agg (a8 l)) (.agg (a8 l'))).run P w= .ok (l==l') w:=
 ae5_ P 8 9992 t _ _ _ (Wh_ (d:=6) hu he hm l l' hl hl') w
theorem Jv_ {P:Program} {t e:TypeId} {n:Nat} (hu:P.underlying t=some (.array n e)) (he:P.underlying e=some (.int .u8)) (hm:zP_ P e=some (false,1)) (l:List UInt8) (hl:l.length=n) (em:Bool) (w:World):
  (Instr.checkKey em 10000 t (.agg (a8 l))).run P w= .ok () w:=by
 show(Instr.checkKey em (9999+1) t (.agg (a8 l))).run P w= .ok () w
 rw[Instr.checkKey]
 simp only[Sem.run_bind,run_underlying hu,Result.andThen_ok]
 simp only[Std.Legacy.Range.forIn_eq_forIn_range',Std.Legacy.Range.size,Nat.sub_zero,Nat.add_one_sub_one,Nat.div_one]
 have each: ∀j,j∈List.range' 0 n→j<l.length:=by
  intro j hj
  rw[List.mem_range'] at hj
  obtain⟨i,hi,rfl⟩:=hj
  omega
 generalize List.range' 0 n=is at each
 induction is with
 |nil=>simp
 |cons j is ih=>
  have hj:=each j (by simp)
  have p1: (part e (a8 l) (j*1)).run P w= .ok (v8 (l.getD j 0)) w:=by
   refine jO_ hm ?_ w
   simp[partV,a8,v8,hj]
  have p2: (Instr.checkKey em 9999 e (v8 (l.getD j 0))).run P w= .ok () w:=by
   show(Instr.checkKey em (9998+1) e (v8 (l.getD j 0))).run P w= .ok () w
   rw[Instr.checkKey]
   simp only[Sem.run_bind,run_underlying he,Result.andThen_ok,v8]
   rfl
  simp only[List.forIn_cons,Sem.run_bind,zz_ hm w,Result.andThen_ok,p1,p2,Sem.run_pure]
  exact ih (fun y hy=>each y (by simp[hy]))
theorem adP_ {n:Nat} {e:TypeId} (x:Value): ∀ (es:List MapEntry) (i:Nat),es≠ []→Instr.findNow (.array n e) x es i=none
 | [],_,h=>absurd rfl h
 |_::_,_,_=>by cases x<;>rfl
theorem Ql_ {α β:Type} [BEq α] {P:Program} {kt:TypeId} {encK:α→Value} {encV:β→Value} (he: ∀a b w,(Op.equal kt (encK a) (encK b)).run P w= .ok (a==b) w) (w:World) (k:α): ∀ (es:List MapEntry) (m:List (α×β)) (i:Nat),es.map (fun e=>(e.key,e.val))=m.map (kT_ encK encV)→
  (Instr.findAsking kt (encK k) es i).run P w= .ok ((fndG k m i).map fun p=>(p.1,encV p.2)) w
 | [],[],_,_=>rfl
 | [],_::_,_,h=>by cases h
 |_::_,[],_,h=>by cases h
 |e::es,p::m,i,h=>by
  simp only[List.map_cons,List.cons.injEq,kT_,Prod.mk.injEq] at h
  obtain⟨⟨h1,h2⟩,h3⟩:=h
  unfold Instr.findAsking fndG
  rw[Sem.run_bind,h1,he]
  simp only[Result.andThen_ok]
  cases hk: (k==p.1)
  ·simp only[Bool.false_eq_true, ↓reduceIte]
   exact Ql_ he w k es m (i+1) h3
  ·simp[h2]
theorem KeyOk.arr {α:Type} [BEq α] {P:Program} {kt e:TypeId} {n:Nat} (hu:P.underlying kt=some (.array n e)) (he:P.underlying e=some (.int .u8)) (hm:zP_ P e=some (false,1)) (bs:α→List UInt8) (hb: ∀a,(bs a).length=n) (hq: ∀a b,(bs a==bs b)=(a==b)):
  KeyOk P kt (fun a:α=> .agg (a8 (bs a))) where
 find encV w k es m h:=by
  cases es with
  |nil=>
   cases m with
   |nil=>simp only[Instr.findKey,Sem.run_bind,run_underlying hu w,Result.andThen_ok];rfl
   |cons=>cases h
  |cons e0 es=>
   simp only[Instr.findKey,Sem.run_bind,run_underlying hu w,Result.andThen_ok]
   rw[adP_ _ _ _ (by simp)]
   exact Ql_ (encK:=fun a:α=> .agg (a8 (bs a))) (fun a b w=>by rw[V8_ hu he hm _ _ (hb a) (hb b) w,hq]) w k _ m 0 h
 check w e k:=Jv_ hu he hm _ (hb k) e w
 bits k:=acn_ _
section
variable {α β:Type} [BEq α] [LawfulBEq α] {encK:α→Value} {encV:β→Value} {P:Program} {w0:World} {f:Fr} {L:zc_} {N:Fr→zc_→Prop} {ops:Array Oper} {rest:List Oper} {md:Md}
 {d:Option Tmp} {ty:TypeId} {ps:String} {af:Array Edge} {g:Option (Nat×Bool)}
def Vz_ (k:α) (m:List (α×β)):Bool:=m.any fun p=>k==p.1
omit [LawfulBEq α] in
theorem Ow.mapGet2G {t kt vt:TypeId} {x y:Operand} {b:Nat} {o:Obj} {m:List (α×β)} {k:α} {z:β} {md':Md} (he:md.turn=some md') (hs:zo_ ops f ⟨d, .lookup t x y true,ty,ps,af,g⟩=false) (hu:P.underlying t=some (.map kt vt)) (hk:KeyOk P kt encK)
  (hz:zZ_ P vt=some (encV z)) (hx:ev f x=vm b) (hy:ev f y=encK k) (hl:zv_ w0 L b=some o) (hm:MapG encK encV o m)
  (hn:Ow P w0 ops md' rest (qU_ f d (.tuple #[encV (getG k z m), .bool (Vz_ k m)])) L N):
  Ow P w0 ops md (⟨d, .lookup t x y true,ty,ps,af,g⟩::rest) f L N:=by
 obtain⟨es,c,rfl,hes,-⟩:=hm
 refine Ow.step he rfl hs fun w hw=> ?_
 have hb:=hw.read hl
 have hfk:=hk.find encV w k es.toList m hes
 refine .inl ⟨.tuple #[encV (getG k z m), .bool (Vz_ k m)],w,L, ?_,hw,hn⟩
 have hff:=aal_ k m 0
 have hh:Vz_ k m=(m.find? fun p=>k==p.1).isSome:=by
  unfold Vz_;rw[Bool.eq_iff_iff,List.find?_isSome,List.any_eq_true]
 have: (Instr.lookup t (vm b) (encK k) true).run P w= .ok (.tuple #[encV (getG k z m), .bool (Vz_ k m)]) w:=by
  cases hf:fndG k m 0 with
  |none=>
   rw[hf] at hfk hff
   cases h:m.find? fun p=>k==p.1 with
   |some q=>rw[h] at hff;cases hff
   |none=>
    have hg:getG k z m=z:=by unfold getG;rw[h]
    rw[h] at hh
    simp only[Instr.lookup,vm,Sem.run_bind,run_underlying hu w,Result.andThen_ok,jT_ hb,Sem.run_pure,hk.check,hfk,Option.map_none,xb_ hz w,hg,hh, ↓reduceIte,Option.isSome_none]
  |some p=>
   obtain⟨j,a⟩:=p
   rw[hf] at hfk hff
   cases h:m.find? fun p=>k==p.1 with
   |none=>rw[h] at hff;cases hff
   |some q=>
    have hg:getG k z m=a:=by
     unfold getG
     rw[h] at hff ⊢
     simp only[Option.map_some,Option.some.injEq] at hff;exact hff.symm
    rw[h] at hh
    simp only[Instr.lookup,vm,Sem.run_bind,run_underlying hu w,Result.andThen_ok,jT_ hb,Sem.run_pure,hk.check,hfk,Option.map_some,hg,hh, ↓reduceIte,Option.isSome_some]
 simp only[execOp,Sem.run_bind,hx,hy]
 rw[this];rfl
end
end Go.Sx
section
open Go Go.Proofs Go.Sx Go.StP Go.Flo Go.Shelf Go.Sort
namespace Go.Proofs
set_option maxRecDepth 10000
set_option maxHeartbeats 1000000
set_option linter.unusedSimpArgs false
theorem amv_ {b o1 k1 c o2 k2:Nat} {x y:IdL} {a1 a2:Array Value} {E E2:TypeId} {f1 f2:Nat×Nat} {w:World} (hb:w.heap[b]? =some (.cells a1 E f1)) (h1:xm_ a1 o1 x.l) (hc:w.heap[c]? =some (.cells a2 E2 f2)) (h2:xm_ a2 o2 y.l):
  Calls Tryz.prog 146 #[vsl b o1 32 k1,vsl c o2 32 k2] w fun e w'=>e= .returned (vi (wQ_ x y))∧w'=w:=by
 have hr:=Wj_ (k1:=k1) (k2:=k2) hb h1 hc h2
 rw[x.h,y.h] at hr
 have e:Lib.compareBytes x.l y.l=wQ_ x y:=aaB_ _ _
 rw[e] at hr
 clear e
 generalize wQ_ x y=r at hr ⊢
 generalize vsl b o1 32 k1=u at hr ⊢
 generalize vsl c o2 32 k2=v at hr ⊢
 go_enter Tryz.func146,Tryz.ntmps146
 go_wp2
 go_ret
 exact⟨rfl,rfl⟩
theorem aeF_ (x y:LnL) (W:World):Calls Tryz.prog 102 #[.agg (lnC x).toArray, .agg (lnC y).toArray] W fun e w'=>e= .returned (.int .i64 (wQ_ x.id y.id))∧ ∃q os',w'=Go.Sort.grow (W.drewN q) os':=by
 have hx: (Value.agg (lnC x).toArray).cells=(lnC x).toArray:=rfl
 have hy: (Value.agg (lnC y).toArray).cells=(lnC y).toArray:=rfl
 go_enter Tryz.func102,Tryz.ntmps102
 go_wp2
 have h0: ((W.alloc (Obj.cells (lnC x).toArray 89)).alloc (Obj.cells (lnC y).toArray 89)).heap[W.heap.size]? =some (.cells (lnC x).toArray 89 (0,0)):=by
  show((W.heap.push _).push _)[W.heap.size]? =_
  rw[Array.getElem?_push,if_neg (by simp),Array.getElem?_push,if_pos rfl]
 have h1: ((W.alloc (Obj.cells (lnC x).toArray 89)).alloc (Obj.cells (lnC y).toArray 89)).heap[W.heap.size+1]? =some (.cells (lnC y).toArray 89 (0,0)):=by
  show((W.heap.push _).push _)[W.heap.size+1]? =_
  rw[Array.getElem?_push,if_pos (by simp)]
 refine wp_region_quiet_lit (by kernel_rfl) (by kernel_rfl) ?_
 quiet_step (skip)
 quiet_step (skip)
 quiet_step (skip)
 quiet_step (skip)
 refine wpQuiet_step (fun K hK=> ?_)
 go_simp
 refine⟨.int .i64 (wQ_ x.id y.id),fun n=>Calls.quiet_of_same (amv_ h0 (QI_ x) h1 (QI_ y)),hK _ ?_⟩
 clear hK K
 quiet_step (skip)
 refine wpQuiet_nil ?_
 intro _ hw'
 obtain⟨nq,rfl⟩:=hw'
 go_wp2
 go_ret
 exact⟨rfl,nq,_,by rw[Go.Sort.alloc_eq_grow,Go.Sort.alloc_eq_grow,Go.Sort.grow_grow];rfl⟩
theorem ltLn (x y:LnL):ltOf (fun x y:LnL=>wQ_ x.id y.id) x y=ltB x.id.l y.id.l:=by
 unfold ltOf
 rw[Bool.eq_iff_iff,decide_eq_true_eq,cmpI_lt]
theorem anM_:SWO (ltOf fun x y:LnL=>wQ_ x.id y.id) where
 irrefl x:=by rw[ltLn];exact jA_ x.id.l
 trans x y z h1 h2:=by rw[ltLn] at*;exact xS_ h1 h2
 ntrans x y z h1 h2:=by
  rw[ltLn] at*
  cases h:ltB x.id.l z.id.l
  ·rfl
  ·by_cases hxy:x.id.l=y.id.l
   ·rw[hxy,h2] at h;cases h
   ·rw[xS_ (x2_ h1 fun e=>hxy e) h] at h2
    cases h2
theorem agG_ (x:LnL): ∀v∈lnC x,v.oneCell'=true:=fun v hv=>List.all_eq_true.1 (xn_ x) v hv
def wm_ (l Z:List LnL):Prop:=Z.Perm l∧Z.Pairwise (fun x y=>ltB y.id.l x.id.l=false)
theorem aa8_ {b c:Nat} {l:List LnL} {rest:List Value} {E:TypeId} (w:World) (hb:w.heap[b]? =some (rowO lnC E rest l)) (hsz:l.length<4611686018427387904):
  Rets Tryz.prog 136 #[vsl b 0 l.length c, .func (.func 102) #[] #[]] w
   (fun v D=> ∃o,D= [(b,o)]∧v= .tuple #[]∧ ∃Z:List LnL,wm_ l Z∧o=rowO lnC E rest Z):=by
 have h:= @agr_ LnL ⟨Go.Proofs.ln0⟩ lnC 35 Tryz.prog Tryz.sortLn_ren Tryz.sortLn Tryz.isAgg89 Tryz.sizeOf89 zq_ agG_ (fun x y=>wQ_ x.id y.id) anM_ 102 Tryz.call102 aeF_ w b c E l rest hb hsz
 refine Rets.mono h ?_
 rintro v D ⟨o,rfl,rfl,l',hp,hs,rfl⟩
 exact⟨_,rfl,rfl,l',⟨hp,hs.imp fun{x y} h=>(ltLn y x).symm.trans h⟩,rfl⟩
theorem QY_ (p:Option Addr) (c:Nat) (fv:Value) (w:World):Rets Tryz.prog 136 #[.slice p 0 c,fv] w (fun v D=>v= .tuple #[]∧D= []):=
 @afG_ Tryz.prog Tryz.sortLn_ren Tryz.sortLn p c fv w
theorem akc_ (v:Value) (X:zc_) (l:List LnL) (w:World) (hG:Gr X 89 35 v l.length (l.map lnC).flatten) (hX: ∀p,p∈X→w.heap[p.1]? =some p.2) (hn: (keys X).Nodup) (hl:l.length<1000000):
  Rets Tryz.prog 136 #[v, .func (.func 102) #[] #[]] w (XS w X (fun v' D=>v'= .tuple #[]∧ ∃Z,wm_ l Z∧Gr D 89 35 v l.length (Z.map lnC).flatten)):=by
 rcases hG with hS| ⟨h0,h1,rb,rfl,hlk⟩
 ·rcases hS.inv with⟨rfl,h0,h1⟩ | ⟨rb,c,rest,rfl,hlk,-,hc,hc0,hr⟩
  ·obtain rfl:l= []:=List.eq_nil_of_length_eq_zero h0
   refine(Rets.chunkV hX hn (QY_ none 0 _ w)).mono ?_
   rintro v' D ⟨hE,rfl,hv⟩
   exact⟨hE,hv,[],⟨List.Perm.nil,List.Pairwise.nil⟩,Gr.nl⟩
  ·refine(Rets.chunk hX hn (zr_ hlk) (aa8_ (c:=c) w (hX _ (zL_ hlk)) (by omega))).mono ?_
   rintro v' D ⟨hE,o,rfl,hv,Z,hZ,rfl⟩
   refine⟨hE,hv,Z,hZ, .inl ?_⟩
   have z1:=hZ.1.length_eq
   rw[←z1]
   exact Buf.at_ (ju_ hlk) (by rw[kp_ zq_]) (by rw[z1];exact hr) (by omega) hc0
 ·obtain rfl:l= []:=List.eq_nil_of_length_eq_zero h0
  refine(Rets.chunkV hX hn (QY_ (some ⟨rb,0,none⟩) 0 _ w)).mono ?_
  rintro v' D ⟨hE,rfl,hv⟩
  exact⟨hE,hv,[],⟨List.Perm.nil,List.Pairwise.nil⟩, .inr ⟨rfl,rfl,rb,rfl,hlk⟩⟩
abbrev MpL:=List (IdL×LnL)
abbrev keyI (x:IdL):Value:= .agg (a8 x.l)
abbrev valL (r:LnL):Value:= .agg (lnC r).toArray
def vp_ (k:Nat) (m:MpL) (r:RwL):MpL:=if Vz_ r.id m then m else updG r.id ⟨r.id,(k:Int),r.place,r.spot⟩ m
def jR_ (k:Nat) (m:MpL) (l:List RwL):MpL:=l.foldl (vp_ k) m
def qD_ (ls:List (List UInt8×List RwL)):Nat→MpL
 |0=> []
 |n+1=>jR_ n (qD_ ls n) (ls.getD n ([],[])).2
theorem agb_ (k:Nat) (m:MpL) (r:RwL): (vp_ k m r).length≤m.length+1:=by
 unfold vp_
 split
 ·omega
 ·have: ∀ (x:IdL) (v:LnL) (m:MpL),(updG x v m).length≤m.length+1:=by
   intro x v m
   induction m with
   |nil=>exact Nat.le_refl _
   |cons p q ih=>
    unfold updG
    split
    ·simp
    ·simp only[List.length_cons];omega
  exact this _ _ _
theorem Jz_ (k:Nat): ∀ (l:List RwL) (m:MpL),(jR_ k m l).length≤m.length+l.length
 | [],m=>Nat.le_refl _
 |r::l,m=>by
  have h1:=Jz_ k l (vp_ k m r)
  have h2:=agb_ k m r
  show(jR_ k (vp_ k m r) l).length≤_
  rw[List.length_cons];omega
theorem X3_ (k:Nat) (m:MpL) (l:List RwL) {j:Nat} (h:j<l.length):jR_ k m (l.take (j+1))=vp_ k (jR_ k m (l.take j)) (l.getD j rw0):=by
 unfold jR_
 rw[StP.take_snoc (z:=rw0) h,List.foldl_append];rfl
theorem vP_ (ls:List (List UInt8×List RwL)) (hs: ∀p,p∈ls→p.2.length≤10000): ∀n,n≤ls.length→(qD_ ls n).length≤n*10000
 |0,_=>Nat.le_refl _
 |n+1,h=>by
  have h1:=vP_ ls hs n (by omega)
  have h2:=Jz_ n (ls.getD n ([],[])).2 (qD_ ls n)
  have h3: (ls.getD n ([],[])).2.length≤10000:=hs _ (by rw[List.getD_eq_getElem?_getD,List.getElem?_eq_getElem (show n<ls.length by omega)];exact List.getElem_mem _)
  show(jR_ n (qD_ ls n) (ls.getD n ([],[])).2).length≤_
  omega
def ptC (p:Nat):List Value:= [vp p 0]
def PkIn (w:World) (v:Value) (ls:List (List UInt8×List RwL)):Prop:= ∃ps:List Nat,ps.length=ls.length∧SlV 1 ptC 0 w v ps∧ ∀k,k<ls.length→IxIn w (ps.getD k 0) (ls.getD k ([],[])).1 (ls.getD k ([],[])).2
end Go.Proofs
end
section
open Go Go.Proofs Go.Sx Go.StP Go.Flo
namespace Go.Proofs
set_option maxRecDepth 10000
set_option maxHeartbeats 1000000
set_option linter.unusedSimpArgs false
def aoc_ (ls:List (List UInt8×List RwL)) (v:Value) (D:zc_):Prop:= ∃Z,wm_ ((qD_ ls ls.length).map Prod.snd) Z∧GrI D 89 35 v Z.length (Z.map lnC).flatten
structure Ga1 where
 k:Nat
 o:Obj
 D:zc_
structure Ga2 where
 dn:MpL
 lf:MpL
 it:Obj
 v:Value
 D1:zc_
 DG:zc_
theorem agN_:KeyOk Tryz.prog 86 keyI:=KeyOk.arr Tryz.underlying86 Tryz.underlying5 (id (by kernel_rfl):zP_ Tryz.prog 5=some (false,1)) IdL.l (fun a=>a.h) (fun a b=>by
 rw[Bool.eq_iff_iff,beq_iff_eq,beq_iff_eq]
 exact⟨fun h=>by cases a;cases b;simp only at h;subst h;rfl,fun h=>by rw[h]⟩)
theorem tuq1 (a:Value): (#[a]:Array Value)[0]? =some a:=(rfl)
set_option linter.defProp false
def qb_:=And.intro (And.intro (And.intro (And.intro (@tuq1) (@Sx.tup3_0)) (And.intro (@Sx.tup3_1) (And.intro (@Sx.tup3_2) (@zf_)))) (And.intro (And.intro (@ze_) (@qY_)) (And.intro (@z3_) (And.intro (@xX_) (@jK_))))) (And.intro (And.intro (And.intro (@j7_) (@js_)) (And.intro (@xk_) (And.intro (@xF_) (@ke_)))) (And.intro (And.intro (@kh_) (@qB_)) (And.intro (@q1_) (And.intro (@Sx.tup2_0) (@Sx.tup2_1)))))
theorem aaC_ (v:Value) (ls:List (List UInt8×List RwL)) (w:World) (hv:PkIn w v ls) (hl:ls.length≤50) (hr: ∀p,p∈ls→p.2.length≤10000):
  Rets Tryz.prog 76 #[v] w (XS w [] (aoc_ ls)):=by
 obtain⟨ps,hpl,hps,hix⟩:=hv
 have ln:=hps.len
 rw[hpl] at ln
 obtain⟨pb,poff,parr,PE,pfz,hpr⟩:=hps.row
 refine Rets.enterX Tryz.func76 rfl (rs:= [.tmp 2]) Tryz.results76 Tryz.ntmps76 (fun p hp=>by cases hp) (by simp[keys]) ?_
 refine kf ?_
 first|with_reducible refine ks [] @qb_ ?_|refine kp @qb_ ?_
 refine Ow.makeMapG (encK:=keyI) (encV:=valL) rfl rfl fun bm o hbm hwm hm0=> ?_
 refine ko @qb_ ?_
 first|with_reducible refine ks [] (And.intro @qb_ @ln) ?_|refine kp (And.intro @qb_ @ln) ?_
 refine Cw.loopG (G:=Ga1) [17,18,19,20,4,5,21,22,23,24,25,26,27,7,29,30,31,32,28,33,34,8,9,35,36,37,38,39,40,41,42,43,44,45,46,47,48,49,16] (fun g=> [(16,vi g.k)]) (fun g=>(bm,g.o)::g.D) (fun g=>g.k≤ls.length∧MapG keyI valL g.o (qD_ ls g.k)∧New w.heap.size g.D) (fun g=>ls.length - g.k) ⟨0,o,[]⟩ rfl rfl ?_ ?_
 ·exact⟨Nat.zero_le _,hm0,trivial⟩
 intro g j hg
 refine kv ?_
 obtain⟨k,om,DG⟩:=g
 simp only at hg ⊢
 obtain⟨hk,hM,hNG⟩:=hg
 by_cases hlt:k<ls.length
 ·have d1:decide ((k:Int)< (ls.length:Int))=true:=decide_eq_true (by omega)
  have ix:=hpr.idx false k (by omega)
  have ld: ∀n,zp_ (some (false,n)) (some (.cells parr PE pfz)) (poff+k)=some (vp (ps.getD k 0) 0):=fun n=>by
   have:=hpr.cell (j:=0) (n:=n) (k:=k) (by omega) (by omega)
   rwa [Nat.mul_one,Nat.add_zero] at this
  have hpb:=hpr.has (by omega)
  have hii:=hix k hlt
  have hlen: (ls.getD k ([],[])).2.length≤10000:=hr _ (by rw[List.getD_eq_getElem?_getD,List.getElem?_eq_getElem hlt];exact List.getElem_mem _)
  have hsn:qD_ ls (k+1)=jR_ k (qD_ ls k) (ls.getD k ([],[])).2:=rfl
  generalize ls.getD k ([],[])=q at*
  obtain⟨qs,ql⟩:=q
  simp only at hii hlen hsn
  have hN0:New w.heap.size ((bm,om)::DG):=⟨hwm,hNG⟩
  have hpl':=hpr.lt (by omega)
  have rdp:zv_ w ((bm,om)::DG) pb=some (.cells parr PE pfz):=by
   rw[zH_ _ _ _ _ _ (by omega),z8_ (hNG.not hpl')];exact hpb
  first|with_reducible refine ks [] (And.intro @qb_ (And.intro @d1 (And.intro @ix (And.intro @rdp (@ld))))) ?_|refine kp (And.intro @qb_ (And.intro @d1 (And.intro @ix (And.intro @rdp (@ld))))) ?_
  refine Ow.callC rfl rfl Tryz.call135 (fun w' hw'=>aeC_ (ps.getD k 0) qs ql w' (hii.old hw' hN0) (by omega)) (fun B1 v9 D9 hA9 hB9 hN9 hS9=> ?_)
  have hN:New w.heap.size D9:=hN9.mono hB9
  have ln9:=aaG_ hS9
  refine ko (And.intro @qb_ @ln9) ?_
  refine Cw.world fun w1 hw1=> ?_
  obtain⟨rb,off,arr,E,fz,hr9,hlk⟩:=hS9.rowL (z:=rw0) rfl ((hw1.perm (M:=D9++ ((bm,om)::DG)) List.perm_append_comm).part) zT_
  have hbB:bm<B1:=zs_ hA9 (by simp[keys])
  have hlk': ∀ (o':Obj) (G:zc_),0<ql.length→zv_ w ((bm,o'):: (D9++G)) rb=some (.cells arr E fz):=by
   intro o' G h0
   have h1:=hlk h0
   have h2:=hN9.le rb (zr_ h1)
   rw[zH_ _ _ _ _ _ (by omega)]
   exact jJ_ (j2_ h1)
  clear hw1 hS9 hN9 hA9 hbB hlk
  refine Cw.permL (M:=(bm,om):: (D9++DG)) (by classical exact List.perm_iff_count.2 fun a=>by simp only[List.count_append,List.count_cons,List.count_nil]<;>omega) ?_
  refine Cw.loopG (G:=Ga1) [25,26,27,7,29,30,31,32,28,33,34,8,9,35,36,37,38,39,40,41,42,43,44,45,46,47,48,24] (fun g=> [(24,vi g.k)]) (fun g=>(bm,g.o):: (D9++g.D)) (fun g=>g.k≤ql.length∧MapG keyI valL g.o (jR_ k (qD_ ls k) (ql.take g.k))∧New w.heap.size g.D) (fun g=>ql.length - g.k) ⟨0,om,DG⟩ rfl rfl ?_ ?_
  ·exact⟨Nat.zero_le _,hM,hNG⟩
  intro g j hg
  refine kv ?_
  clear hM hNG hN0
  obtain⟨j,o1,DG1⟩:=g
  simp only at hg ⊢
  obtain⟨hj,hM,hNG⟩:=hg
  by_cases hjt:j<ql.length
  ·have d2:decide ((j:Int)< (ql.length:Int))=true:=decide_eq_true (by omega)
   have ix9:=hr9.idx true j hjt
   have ld9:=hr9.load zT_ (by omega) hjt
   have rd9:=hlk' o1 DG1 (by omega)
   have hts:=X3_ k (qD_ ls k) ql hjt
   generalize ql.getD j rw0=r at*
   first|with_reducible refine ks [11] (And.intro @qb_ (And.intro @d2 (And.intro @ix9 (And.intro @ld9 (@rd9))))) ?_|refine kp (And.intro @qb_ (And.intro @d2 (And.intro @ix9 (And.intro @ld9 (@rd9))))) ?_
   refine Ow.alloc rfl rfl zrRw fun b7 hb7 hw7=> ?_
   simp only[zg_,List.nil_append,List.cons_append]
   have h7m:bm<b7:=zs_ hb7 (by simp[keys])
   refine Ow.permL (M:=(b7, .cells (rwC rw0).toArray 132 (0,0)):: ((bm,o1):: (D9++DG1))) (by classical exact List.perm_iff_count.2 fun a=>by simp only[List.count_append,List.count_cons,List.count_nil]<;>omega) ?_
   refine ko @qb_ ?_
   first|with_reducible refine ks [] @qb_ ?_|refine kp @qb_ ?_
   refine Ow.mapGet2G (encK:=keyI) (encV:=valL) (k:=r.id) (z:=Go.Proofs.ln0) rfl rfl Tryz.underlying211 agN_ J7_ rfl rfl (by rw[zH_ _ _ _ _ _ (by omega)];exact z2_ _ _ _ _) hM ?_
   refine ko @qb_ ?_
   first|with_reducible refine ks [] @qb_ ?_|refine kp @qb_ ?_
   refine Ow.alloc rfl rfl J7_ fun b8 hb8 hw8=> ?_
   simp only[zg_,List.nil_append,List.cons_append]
   refine Ow.permL (M:=(b8, .cells (lnC Go.Proofs.ln0).toArray 89 (0,0)):: ((b7, .cells (rwC r).toArray 132 (0,0)):: ((bm,o1):: (D9++DG1)))) (by classical exact List.perm_iff_count.2 fun a=>by simp only[List.count_append,List.count_cons,List.count_nil]<;>omega) ?_
   refine ko @qb_ ?_
   have h87:b7<b8:=zs_ hb8 (by simp[keys])
   cases hh:Vz_ r.id (jR_ k (qD_ ls k) (ql.take j)) with
   |true=>
    have hg1:jR_ k (qD_ ls k) (ql.take (j+1))=jR_ k (qD_ ls k) (ql.take j):=by rw[hts];unfold vp_;rw[if_pos hh]
    first|with_reducible refine ks [] @qb_ ?_|refine kp @qb_ ?_
    refine Cw.permL (M:=(bm,o1):: (D9++ ((b8, .cells (lnC (getG r.id Go.Proofs.ln0 (jR_ k (qD_ ls k) (ql.take j)))).toArray 89 (0,0)):: ((b7, .cells (rwC r).toArray 132 (0,0))::DG1)))) (by classical exact List.perm_iff_count.2 fun a=>by simp only[List.count_append,List.count_cons,List.count_nil]<;>omega) ?_
    first|with_reducible refine ks [] @qb_ ?_|refine kp @qb_ ?_
    exact Again.mk ⟨j+1,o1,((b8, .cells (lnC (getG r.id Go.Proofs.ln0 (jR_ k (qD_ ls k) (ql.take j)))).toArray 89 (0,0)):: ((b7, .cells (rwC r).toArray 132 (0,0))::DG1))⟩ (by show ql.length - (j+1)<ql.length - j;omega) ⟨hjt,by rw[hg1];exact hM,⟨hw8,hw7,hNG⟩⟩ rfl rfl
   |false=>
    have hg1:jR_ k (qD_ ls k) (ql.take (j+1))=updG r.id ⟨r.id,(k:Int),r.place,r.spot⟩ (jR_ k (qD_ ls k) (ql.take j)):=by rw[hts];unfold vp_;rw[if_neg (by rw[hh];simp)]
    first|with_reducible refine ks [] @qb_ ?_|refine kp @qb_ ?_
    refine Ow.build (.agg (lnC ⟨r.id,(k:Int),r.place,r.spot⟩).toArray) rfl (QD_ ⟨r.id,(k:Int),r.place,r.spot⟩) ?_
    refine ko @qb_ ?_
    refine Ow.permL (M:=(bm,o1):: (D9++ ((b8, .cells (lnC (getG r.id Go.Proofs.ln0 (jR_ k (qD_ ls k) (ql.take j)))).toArray 89 (0,0)):: ((b7, .cells (rwC r).toArray 132 (0,0))::DG1)))) (by classical exact List.perm_iff_count.2 fun a=>by simp only[List.count_append,List.count_cons,List.count_nil]<;>omega) ?_
    refine Ow.mapUpdateG (encK:=keyI) (encV:=valL) (k:=r.id) (v:=⟨r.id,(k:Int),r.place,r.spot⟩) rfl rfl Tryz.underlying211 agN_ rfl rfl rfl (xj_ _ _ _) hM (fun o2 hM2=> ?_)
    refine kn ?_
    refine ko @qb_ ?_
    first|with_reducible refine ks [] @qb_ ?_|refine kp @qb_ ?_
    exact Again.mk ⟨j+1,o2,((b8, .cells (lnC (getG r.id Go.Proofs.ln0 (jR_ k (qD_ ls k) (ql.take j)))).toArray 89 (0,0)):: ((b7, .cells (rwC r).toArray 132 (0,0))::DG1))⟩ (by show ql.length - (j+1)<ql.length - j;omega) ⟨hjt,by rw[hg1];exact hM2,⟨hw8,hw7,hNG⟩⟩ rfl rfl
  ·obtain rfl:j=ql.length:=by omega
   have d2:decide ((ql.length:Int)< (ql.length:Int))=false:=decide_eq_false (by omega)
   rw[List.take_length] at hM
   first|with_reducible refine ks [] (And.intro @qb_ @d2) ?_|refine kp (And.intro @qb_ @d2) ?_
   exact Again.mk ⟨k+1,o1,D9++DG1⟩ (by show ls.length - (k+1)<ls.length - k;omega) ⟨hlt,by rw[hsn];exact hM,hN.app hNG⟩ rfl rfl
 ·obtain rfl:k=ls.length:=by omega
  have d1:decide ((ls.length:Int)< (ls.length:Int))=false:=decide_eq_false (by omega)
  have hml:=vP_ ls hr ls.length (Nat.le_refl _)
  generalize hmm:qD_ ls ls.length=m at*
  first|with_reducible refine ks [] (And.intro @qb_ @d1) ?_|refine kp (And.intro @qb_ @d1) ?_
  refine Ow.rangeMapG (encK:=keyI) (encV:=valL) rfl rfl Tryz.underlying211 rfl (z2_ _ _ _ _) hM fun bi oi hbi hwi hI=> ?_
  have him:bm<bi:=zs_ hbi (by simp[keys])
  refine Ow.permL (M:=(bi,oi):: (bm,om):: ([]++DG)) (by classical exact List.perm_iff_count.2 fun a=>by simp only[List.count_append,List.count_cons,List.count_nil]<;>omega) ?_
  refine ko @qb_ ?_
  first|with_reducible refine ks [] @qb_ ?_|refine kp @qb_ ?_
  refine Cw.loopG (G:=Ga2) [52,53,54,55,12,56,57,58,59,10] (fun g=> [(10,g.v)]) (fun g=>(bi,g.it):: (bm,om):: (g.D1++g.DG)) (fun g=>New w.heap.size g.D1∧New w.heap.size g.DG∧Gr g.D1 89 35 g.v (g.dn.map Prod.snd).length ((g.dn.map Prod.snd).map lnC).flatten∧ItG keyI valL g.it bm om m g.dn g.lf∧g.dn.length+g.lf.length=m.length) (fun g=>g.lf.length) ⟨[],m,oi, .slice none 0 0,[],DG⟩ rfl rfl ?_ ?_
  ·exact⟨trivial,hNG,Gr.nl,hI,by simp⟩
  intro g j hg
  refine kv ?_
  obtain⟨dn,lf,it,v1,D1,DG1⟩:=g
  simp only at hg ⊢
  obtain⟨hN1,hN2,hG1,hI,hdl⟩:=hg
  have rdm: ∀x (Y:zc_),zv_ w ((bi,x):: ((bm,om)::Y)) bm=some om:=fun x Y=>by
   rw[zH_ _ _ _ _ _ (by omega)];exact z2_ _ _ _ _
  first|with_reducible refine ks [] @qb_ ?_|refine kp @qb_ ?_
  refine Ow.nextMapG rfl rfl rfl (xj_ _ _ _) (rdm _ _) hI (fun hlf=> ?_) (fun p it' lf' hl' hI'=> ?_)
  ·subst hlf
   have hoo:dn.Perm m:=by
    obtain⟨es,clock,ds,-,-,-,-,-,-,hperm⟩:=hI
    rw[List.append_nil] at hperm;exact hperm
   refine Ow.permL (M:=D1++ ((bi,it):: (bm,om)::DG1)) (by classical exact List.perm_iff_count.2 fun a=>by simp only[List.count_append,List.count_cons,List.count_nil]<;>omega) ?_
   refine ko @qb_ ?_
   first|with_reducible refine ks [] @qb_ ?_|refine kp @qb_ ?_
   refine Ow.callX (Y:=(bi,it):: (bm,om)::DG1) (by simp) rfl rfl Tryz.call136 (fun w' hw' hX hn=>akc_ v1 D1 (dn.map Prod.snd) w' hG1 hX hn (by rw[List.length_map,hoo.length_eq];omega)) (fun v14 D14 hC14 hS14=> ?_)
   obtain⟨rfl,Z,hZ,hG⟩:=hS14
   have hN14:New w.heap.size D14:=z1_ hC14 hN1
   refine ko @qb_ ?_
   first|with_reducible refine ks [] @qb_ ?_|refine kp @qb_ ?_
   refine⟨_,(ke @qb_), ?_⟩
   refine⟨Ext.of_new (hN14.app ⟨hwi,hwm,hN2⟩),Z, ?_, ?_⟩
   ·rw[hmm]
    exact⟨hZ.1.trans (hoo.map _),hZ.2⟩
   ·rw[←hZ.1.length_eq] at hG
    exact Gr.i hG fun p hp=>List.mem_append_left _ hp
  ·refine kn ?_
   refine ko @qb_ ?_
   first|with_reducible refine ks [] @qb_ ?_|refine kp @qb_ ?_
   refine Ow.entryMapG (encK:=keyI) (encV:=valL) rfl rfl rfl (z2_ _ _ _ _) (rdm _ _) hI' ?_
   refine ko @qb_ ?_
   first|with_reducible refine ks [] @qb_ ?_|refine kp @qb_ ?_
   refine Ow.alloc rfl rfl J7_ fun b12 hb12 hw12=> ?_
   simp only[zg_,List.nil_append,List.cons_append]
   obtain⟨pk,pv⟩:=p
   refine Ow.permL (M:=(b12, .cells (lnC Go.Proofs.ln0).toArray 89 (0,0)):: ((bi,it'):: (bm,om):: (D1++DG1))) (by classical exact List.perm_iff_count.2 fun a=>by simp only[List.count_append,List.count_cons,List.count_nil]<;>omega) ?_
   refine ko @qb_ ?_
   first|with_reducible refine ks [] @qb_ ?_|refine kp @qb_ ?_
   refine Ow.buildSlice (e:=89) (lnC pv).toArray rfl rfl (q8_ Tryz.underlying82 ai2_ J7_ (by decide) (zq_ _)) fun ba hba hwa=> ?_
   refine Ow.permL (M:=D1++ ((b12, .cells (lnC pv).toArray 89 (0,0)):: ((bi,it'):: (bm,om):: (DG1++ [(ba, .cells (lnC pv).toArray 89 (0,0))])))) (by classical exact List.perm_iff_count.2 fun a=>by simp only[List.count_append,List.count_cons,List.count_nil]<;>omega) ?_
   refine Ow.appendXG (e:=89) (k:=1) (new:=lnC pv) (X:=D1) v1 rfl rfl rfl rfl Tryz.underlying82 ai2_ (by kernel_rfl) J7_ (by rw[z3_,List.size_toArray,zq_]) Tryz.underlying82 (by intro k h;cases h) hG1 (fun w' hw'=>AppX.one1 (hw'.has ba (.cells (lnC pv).toArray 89 (0,0)) (by simp)) (zq_ _) (xn_ _)) (by rw[List.length_map];omega) (fun B4 v4 D4 hA4 hB4 hG4 hk41 hk42 hlk4=> ?_)
   have hN4:New w.heap.size D4:=New.of_le fun q hq=>by
    rcases hk42 q hq with h|h
    ·exact hN1.le q h
    ·omega
   refine Ow.permL (M:=(bi,it'):: (bm,om):: (D4++ ((b12, .cells (lnC pv).toArray 89 (0,0)):: (DG1++ [(ba, .cells (lnC pv).toArray 89 (0,0))])))) (by classical exact List.perm_iff_count.2 fun a=>by simp only[List.count_append,List.count_cons,List.count_nil]<;>omega) ?_
   refine ko @qb_ ?_
   first|with_reducible refine ks [] @qb_ ?_|refine kp @qb_ ?_
   refine Again.mk ⟨dn++ [(pk,pv)],lf',it',v4,D4,(b12, .cells (lnC pv).toArray 89 (0,0)):: (DG1++ [(ba, .cells (lnC pv).toArray 89 (0,0))])⟩ (by show lf'.length<lf.length;omega) ⟨hN4,⟨hw12,hN2.app ⟨hwa,trivial⟩⟩, ?_,hI',by show(dn++ [(pk,pv)]).length+lf'.length=m.length;rw[List.length_append,List.length_singleton];omega⟩ rfl rfl
   show Gr D4 89 35 v4 ((dn++ [(pk,pv)]).map Prod.snd).length (((dn++ [(pk,pv)]).map Prod.snd).map lnC).flatten
   rw[List.map_append,List.length_append,show([(pk,pv)].map Prod.snd).length=1 from rfl]
   simpa only[List.map_append,List.map_cons,List.map_nil,List.flatten_append,List.flatten_cons,List.flatten_nil,List.append_nil] using hG4
end Go.Proofs
end
section
open Go Go.Proofs Go.Sx Go.StP Go.Flo
namespace Go.Proofs
set_option maxRecDepth 10000
set_option maxHeartbeats 1000000
set_option linter.unusedSimpArgs false
set_option linter.defProp false
def XP_:=And.intro (@zf_) (@ze_)
abbrev ShSl (w:World) (v:Value) (l:List ShL):Prop:=SlV 2 shC sh0 w v l
theorem adA_ (b o n c:Nat):qE_ Tryz.prog .eql 65 (vsl b o n c) (.slice none 0 0)=some (.bool false):=by
 simp[qE_,eqX,qu_,qz_,Tryz.underlying65,vsl]
theorem KL_:qE_ Tryz.prog .eql 65 (.slice none 0 0) (.slice none 0 0)=some (.bool true):=by
 simp[qE_,eqX,qu_,qz_,Tryz.underlying65]
theorem VY_ (v:Value) (ls:List ShL) (w:World) (hv:ShSl w v ls) (hl:ls.length<1000000):
  Rets Tryz.prog 69 #[v] w (XS w [] (fun v D=>Gr D 135 2 v ls.length (ls.map shC).flatten)):=by
 obtain⟨b,off,c,arr,E,fz,hr,hc,⟨rfl,rfl,rfl⟩ | ⟨rfl,hb,hsz⟩⟩:=hv
 ·refine Rets.enterX Tryz.func69 rfl (rs:= [.tmp 2]) Tryz.results69 Tryz.ntmps69 (fun p hp=>by cases hp) (by simp[keys]) ?_
  refine kf ?_
  first|with_reducible refine ks [] (And.intro @XP_ (And.intro @adA_ (@KL_))) ?_|refine kp (And.intro @XP_ (And.intro @adA_ (@KL_))) ?_
  refine⟨_,(ke @XP_), ?_⟩
  exact⟨Ext.refl _ _,Gr.nl⟩
 ·have hbl:=(Array.getElem?_eq_some_iff.1 hb).1
  have hv:ShSl w (vsl b off ls.length c) ls:=⟨b,off,c,arr,E,fz,hr,hc, .inr ⟨rfl,hb,hsz⟩⟩
  refine Rets.enterX Tryz.func69 rfl (rs:= [.tmp 2]) Tryz.results69 Tryz.ntmps69 (fun p hp=>by cases hp) (by simp[keys]) ?_
  refine kf ?_
  first|with_reducible refine ks [] (And.intro @XP_ (And.intro @adA_ (@KL_))) ?_|refine kp (And.intro @XP_ (And.intro @adA_ (@KL_))) ?_
  refine Ow.buildSlice (e:=135) #[] rfl rfl (by kernel_rfl) fun b1 hb1 hw1=> ?_
  refine ko @XP_ ?_
  refine Ow.appendG (e:=135) (k:=ls.length) (new:=(ls.map shC).flatten) (vsl b1 0 0 0) rfl rfl rfl Tryz.underlying65 Tryz.ag135 (by kernel_rfl) zrSh (by rw[qJ_,List.size_toArray,zF_]) Tryz.underlying65 (by intro k h;cases h) (.inr ⟨rfl,rfl,b1,rfl,k0_ hb1⟩) (fun w' hw'=>(hv.oldN hw' ⟨hw1,trivial⟩).appX zF_ vO_) (kp_ zF_ ls) (by omega) (fun v2 L2 hB hB2 hG hS=> ?_)
  rw[Nat.zero_add,List.nil_append] at hB
  refine ko @XP_ ?_
  first|with_reducible refine ks [] @XP_ ?_|refine kp @XP_ ?_
  refine⟨_,(ke @XP_), ?_⟩
  exact⟨((Ext.refl w []).app (o:=Obj.cells #[] 135 (0,0)) hw1).grew hG,hB⟩
theorem agA_ (v:Value) (X:zc_) (l:List ShL) (w:World) (hG:Gr X 135 2 v l.length (l.map shC).flatten) (hX: ∀p,p∈X→w.heap[p.1]? =some p.2) (hn: (keys X).Nodup) (hl:l.length<1000000):
  Rets Tryz.prog 70 #[v,qT_] w (XS w X (fun v' D=>v'= .tuple #[]∧ ∃Z,shs_SortOf l Z∧Gr D 135 2 v l.length (Z.map shC).flatten)):=by
 rcases hG with hS| ⟨h0,h1,rb,rfl,hlk⟩
 ·rcases hS.inv with⟨rfl,h0,h1⟩ | ⟨rb,c,rest,rfl,hlk,-,hc,hc0,hr⟩
  ·obtain rfl:l= []:=List.eq_nil_of_length_eq_zero h0
   refine(Rets.chunkV hX hn (wR_ w)).mono ?_
   rintro v' D ⟨hE,rfl,hv⟩
   exact⟨hE,hv,[],⟨rfl,List.Pairwise.nil,StP.St.refl _ _⟩,Gr.nl⟩
  ·refine(Rets.chunk hX hn (zr_ hlk) (xP_ rb l.length c l rest w rfl hl (hX _ (zL_ hlk)))).mono ?_
   rintro v' D ⟨hE,o,rfl,hv,Z,rfl,z1,z2,z3⟩
   refine⟨hE,hv,Z,⟨z1,z2,z3⟩, .inl ?_⟩
   rw[←z1]
   exact Buf.at_ (ju_ hlk) (by rw[kp_ zF_]) (by rw[z1];exact hr) (by omega) hc0
 ·obtain rfl:l= []:=List.eq_nil_of_length_eq_zero h0
  refine(Rets.chunk hX hn (zr_ hlk) (xP_ rb 0 0 [] [] w rfl (by omega) (hX _ (zL_ hlk)))).mono ?_
  rintro v' D ⟨hE,o,rfl,hv,Z,rfl,z1,z2,z3⟩
  obtain rfl:Z= []:=List.eq_nil_of_length_eq_zero z1
  exact⟨hE,hv,[],⟨rfl,List.Pairwise.nil,StP.St.refl _ _⟩, .inr ⟨rfl,rfl,rb,rfl,ju_ hlk⟩⟩
def jN_ (l:List ShL):Nat→Option (List (List UInt8×List RwL))
 |0=>some []
 |k+1=>match jN_ l k,kt_ (l.getD k sh0).bytes with
  |some q,some p=>some (q++ [p])
  |_,_=>none
theorem ZH_ {l:List ShL} {k:Nat} (h:jN_ l k=none): ∀ {n:Nat},k≤n→jN_ l n=none
 |0,hk=>by
  obtain rfl:k=0:=by omega
  exact h
 |n+1,hk=>by
  by_cases e:k=n+1
  ·subst e;exact h
  ·unfold jN_;rw[ZH_ h (show k≤n by omega)]
theorem Wc_ {l:List ShL}: ∀ {n:Nat} {q:List (List UInt8×List RwL)},jN_ l n=some q→q.length=n
 |0,q,h=>by cases h;rfl
 |n+1,q,h=>by
  unfold jN_ at h
  cases h1:jN_ l n with
  |none=>rw[h1] at h;cases h
  |some q1=>
   rw[h1] at h
   cases h2:kt_ (l.getD n sh0).bytes with
   |none=>rw[h2] at h;cases h
   |some p=>
    rw[h2] at h
    simp only[Option.some.injEq] at h
    subst h
    rw[List.length_append,Wc_ h1];rfl
theorem aah_ {b s:List UInt8} {l:List RwL} (h:kt_ b=some (s,l)):l.length≤200∧s.length=4:=by
 have h1:=(openI_iff.1 h).1
 unfold qF_ at h1
 simp only[Bool.and_eq_true,decide_eq_true_eq] at h1
 exact⟨h1.2.2,h1.2.1⟩
theorem Zc_ {l:List ShL}: ∀ {n:Nat} {q:List (List UInt8×List RwL)},jN_ l n=some q→ ∀p,p∈q→p.2.length≤200∧p.1.length=4
 |0,q,h=>by cases h;intro p hp;cases hp
 |n+1,q,h=>by
  unfold jN_ at h
  cases h1:jN_ l n with
  |none=>rw[h1] at h;cases h
  |some q1=>
   rw[h1] at h
   cases h2:kt_ (l.getD n sh0).bytes with
   |none=>rw[h2] at h;cases h
   |some p=>
    rw[h2] at h
    simp only[Option.some.injEq] at h
    subst h
    intro p' hp'
    rcases List.mem_append.1 hp' with h3|h3
    ·exact Zc_ h1 p' h3
    ·rw[List.mem_singleton] at h3
     subst h3
     exact aah_ (s:=p'.1) (l:=p'.2) h2
def vr_ (Z:List ShL) (L:List LnL):List UInt8×Int:=
 if 40<Z.length then([],4) else if zC_ (Z.map ShL.name) []=false then([],1) else match jN_ Z Z.length with
 |none=>([],2)
 |some q=>if zC_ (Z.map ShL.name) L=false then([],4) else(z5_ (xZ_ (Z.map ShL.name) (q.map Prod.fst) L),0)
def Qo_ (l:List ShL) (v:Value):Prop:=if 40<l.length then v= .tuple #[vs [],vi 4] else∃Z L,shs_SortOf l Z∧(zC_ (Z.map ShL.name) []=true→ ∀q,jN_ Z Z.length=some q→wm_ ((qD_ q q.length).map Prod.snd) L)∧v= .tuple #[vs (vr_ Z L).1,vi (vr_ Z L).2]
theorem qQ_ {α:Type} {a b:List α} (z:α) (k:Nat) (h:k<a.length): (a++b).getD k z=a.getD k z:=by
 rw[List.getD_eq_getElem?_getD,List.getElem?_append_left h,←List.getD_eq_getElem?_getD]
theorem JY_ {α:Type} {a:List α} (z x:α) {k:Nat} (h:a.length=k): (a++ [x]).getD k z=x:=by
 subst h
 rw[List.getD_eq_getElem?_getD,List.getElem?_append_right (Nat.le_refl _),Nat.sub_self];rfl
structure Mk1 where
 k:Nat
 v0:Value
 D1:zc_
 DG:zc_
structure Mk2 where
 q:List (List UInt8×List RwL)
 ps:List Nat
 vp:Value
 v1:Value
 DP:zc_
 D2:zc_
 D3:zc_
 DG:zc_
set_option linter.defProp false
def zJ_:=And.intro (And.intro (And.intro (@zf_) (And.intro (@ze_) (@wb_))) (And.intro (@wY_) (And.intro (@wk_) (@qJ_)))) (And.intro (And.intro (@wE_) (And.intro (@K7_) (@ac6_))) (And.intro (@kJ_) (And.intro (@Sx.tup2_0) (@Sx.tup2_1))))
theorem Kg_ (v:Value) (l:List ShL) (w:World) (hC:GlobC w) (hv:ShSl w v l) (hl:l.length<1000000) (hs: ∀s,s∈l→s.name.length<1099511627776∧s.bytes.length<1099511627776):
  Rets Tryz.prog 32 #[v] w (fun v' D=>Qo_ l v'∧D= []):=by
 have ln:=hv.len
 refine Rets.enterV Tryz.func32 rfl (rs:= [.tmp 2, .tmp 3]) Tryz.results32 Tryz.ntmps32 ?_
 refine kf ?_
 by_cases h4:40<l.length
 ·have d1:decide ((40:Int)< (l.length:Int))=true:=decide_eq_true (by omega)
  first|with_reducible refine ks [] (And.intro @zJ_ (And.intro @ln (@d1))) ?_|refine kp (And.intro @zJ_ (And.intro @ln (@d1))) ?_
  refine⟨_,(ke @zJ_),trivial, ?_⟩
  (unfold Qo_;rw[if_pos h4];rfl)
 ·have d1:decide ((40:Int)< (l.length:Int))=false:=decide_eq_false (by omega)
  first|with_reducible refine ks [1000005] (And.intro @zJ_ (And.intro @ln (@d1))) ?_|refine kp (And.intro @zJ_ (And.intro @ln (@d1))) ?_
  refine Ow.callX (Y:= []) (by simp) rfl rfl Tryz.call69 (fun w' hw' hX hn=>VY_ v l w' (hv.oldN hw' trivial) hl) (fun v12 D12 hC12 hS12=> ?_)
  have hN12:New w.heap.size D12:=z1_ hC12 trivial
  rw[List.append_nil]
  refine ko @zJ_ ?_
  first|with_reducible refine ks [] @zJ_ ?_|refine kp @zJ_ ?_
  refine Ow.callX (Y:= []) (by simp) rfl rfl Tryz.call70 (fun w' hw' hX hn=>agA_ v12 D12 l w' hS12 hX hn hl) (fun v14 D14 hC14 hS14=> ?_)
  obtain⟨rfl,Z,hZ,hG⟩:=hS14
  have hN14:New w.heap.size D14:=z1_ hC14 hN12
  have hZl:=hZ.1
  rw[List.append_nil]
  refine ko @zJ_ ?_
  refine Cw.rebaseV hN14 (by rfl) fun w1 hw1=> ?_
  have hZ1:ShSl w1 v12 Z:=hG.slV hw1 hZl rfl zF_
  have hC1:=hC.newP hw1 hN14
  have hmem: ∀x,x∈Z→x∈l:=fun x hx=>(StP.St.mem hZ.2.2 x).1 hx
  have hZs: ∀s,s∈Z→s.name.length<1099511627776∧s.bytes.length<1099511627776:=fun s hsm=>hs s (hmem s hsm)
  have hZ40:Z.length≤40:=by omega
  have hpost: ∀L (v':Value),(zC_ (Z.map ShL.name) []=true→ ∀q,jN_ Z Z.length=some q→wm_ ((qD_ q q.length).map Prod.snd) L)→v'= .tuple #[vs (vr_ Z L).1,vi (vr_ Z L).2]→Qo_ l v':=by
   intro L v' h1 h2
   unfold Qo_;rw[if_neg h4];exact⟨Z,L,hZ,h1,h2⟩
  clear hw1 hG hN14 hv ln
  have lnz:=hZ1.len
  obtain⟨rb,off,arr,E,fz,hzr⟩:=hZ1.row
  first|with_reducible refine ks [] @zJ_ ?_|refine kp @zJ_ ?_
  refine Ow.build (.agg #[.slice none 0 0, .slice none 0 0, .slice none 0 0]) rfl aat_ ?_
  refine ko @zJ_ ?_
  refine Ow.box rfl rfl fun bm hbm hwm=> ?_
  simp only[jt_,jm_,jn_,zg_]
  rw[List.nil_append]
  refine ko @zJ_ ?_
  first|with_reducible refine ks [] (And.intro @zJ_ @lnz) ?_|refine kp (And.intro @zJ_ @lnz) ?_
  refine Cw.loopG (G:=Mk1) [24,25,26,6,27,28,29,30,31,32,33,34,35,36,37,38,23] (fun g=> [(23,vi g.k)]) (fun g=>(bm,mgO g.v0 (.slice none 0 0) (.slice none 0 0)):: (g.D1++g.DG)) (fun g=>g.k≤Z.length∧New w1.heap.size g.D1∧New w1.heap.size g.DG∧Gr g.D1 9 1 g.v0 g.k (((Z.take g.k).map ShL.name).map kU_).flatten) (fun g=>Z.length - g.k) ⟨0, .slice none 0 0,[],[]⟩ rfl rfl ?_ ?_
  ·exact⟨Nat.zero_le _,trivial,trivial,Gr.nl⟩
  intro g j hg
  refine kv ?_
  obtain⟨k,v0,D1,DG⟩:=g
  simp only at hg ⊢
  obtain⟨hk,hN1,hNG,hG1⟩:=hg
  by_cases hlt:k<Z.length
  ·have d2:decide ((k:Int)< (Z.length:Int))=true:=decide_eq_true (by omega)
   have ixz:=hzr.idx true k hlt
   have ldz:=hzr.load zF_ (by omega) hlt
   have hzb:=hzr.lt (by omega)
   have rdz:zv_ w1 ((bm,mgO v0 (.slice none 0 0) (.slice none 0 0)):: (D1++DG)) rb=some (.cells arr E fz):=by
    rw[zH_ _ _ _ _ _ (by omega),z8_ ((hN1.app hNG).not hzb)];exact hzr.has (by omega)
   have hts: (Z.take (k+1)).map ShL.name=(Z.take k).map ShL.name++ [(Z.getD k sh0).name]:=by
    rw[StP.take_snoc (z:=sh0) hlt,List.map_append];rfl
   generalize Z.getD k sh0=r at*
   first|with_reducible refine ks [10] (And.intro @zJ_ (And.intro @d2 (And.intro @ixz (And.intro @rdz (@ldz))))) ?_|refine kp (And.intro @zJ_ (And.intro @d2 (And.intro @ixz (And.intro @rdz (@ldz))))) ?_
   refine Ow.alloc rfl rfl zrSh fun b6 hb6 hw6=> ?_
   simp only[zg_,List.nil_append,List.cons_append]
   have h6m:bm<b6:=zs_ hb6 (by simp[keys])
   refine Ow.permL (M:=(b6, .cells (shC sh0).toArray 135 (0,0)):: ((bm,mgO v0 (.slice none 0 0) (.slice none 0 0)):: (D1++DG))) (by classical exact List.perm_iff_count.2 fun a=>by simp only[List.count_append,List.count_cons,List.count_nil]<;>omega) ?_
   refine ko @zJ_ ?_
   first|with_reducible refine ks [] @zJ_ ?_|refine kp @zJ_ ?_
   have hb6n:b6≠bm:=by omega
   have hbm6:bm≠b6:=by omega
   refine Cw.regionS [b6,bm] [0,1,2,3,5,4,6,7,8,9,10,11] [11] (by kernel_rfl) (by kernel_rfl) (by kernel_rfl) ?_
   simp only[zh_, ↓zd_, ↓zb_, ↓zl_, ↓zm_,za_]
   refine kq @zJ_ ?_
   refine Ow.soft rfl rfl rfl ?_
   refine Ow.buildSlice (e:=9) #[vs r.name] rfl rfl (by kernel_rfl) fun ba hba hwa=> ?_
   have hba6:b6<ba:=zs_ hba (by simp[keys])
   with_reducible refine Ow.nil ?_
   refine⟨(fun x hx=>by simp only[List.mem_cons,List.not_mem_nil,or_false] at hx;rcases hx with rfl|rfl<;>simp(disch:=omega) only[List.cons_append,List.nil_append,z2_,zH_]), ?_⟩
   refine kq @zJ_ ?_
   refine Ow.soft rfl rfl rfl ?_
   refine Ow.permL (M:=D1++ ((b6, .cells (shC r).toArray 135 (0,0)):: ((bm,mgO v0 (.slice none 0 0) (.slice none 0 0)):: (DG++ [(ba, .cells #[vs r.name] 9 (0,0))])))) (by classical exact List.perm_iff_count.2 fun a=>by simp only[List.count_append,List.count_cons,List.count_nil]<;>omega) ?_
   refine Ow.appendXG (e:=9) (k:=1) (new:=kU_ r.name) (X:=D1) v0 rfl rfl rfl rfl Tryz.underlying68 (id (by kernel_rfl):zP_ Tryz.prog 9=some (false,1)) (by kernel_rfl) (id (by kernel_rfl):zZ_ Tryz.prog 9=some (vs [])) rfl Tryz.underlying68 (by intro k h;cases h) hG1 (fun w' hw'=>AppX.one1 (hw'.has ba (.cells #[vs r.name] 9 (0,0)) (by simp)) rfl rfl) (by omega) (fun B4 v4 D4 hA4 hB4 hG4 hk41 hk42 hlk4=> ?_)
   have hN4:New w1.heap.size D4:=New.of_le fun q hq=>by
    rcases hk42 q hq with h|h
    ·exact hN1.le q h
    ·omega
   refine Ow.permL (M:=(b6, .cells (shC r).toArray 135 (0,0)):: ((bm,mgO v0 (.slice none 0 0) (.slice none 0 0)):: (D4++ (DG++ [(ba, .cells #[vs r.name] 9 (0,0))])))) (by classical exact List.perm_iff_count.2 fun a=>by simp only[List.count_append,List.count_cons,List.count_nil]<;>omega) ?_
   with_reducible refine Ow.nil ?_
   refine⟨(fun x hx=>by simp only[List.mem_cons,List.not_mem_nil,or_false] at hx;rcases hx with rfl|rfl<;>simp(disch:=omega) only[List.cons_append,List.nil_append,z2_,zH_]), ?_⟩
   have st4: ∀a,zn_ (some (a,1)) (some (mgO v0 (.slice none 0 0) (.slice none 0 0))) 0 v4=some (mgO v4 (.slice none 0 0) (.slice none 0 0)):=fun a=>Wq_ v0 _ _ v4 a hG4.cell
   refine kq @zJ_ ?_
   refine Ow.store rfl rfl rfl (ke (And.intro @zJ_ @st4)) ?_
   refine ko @zJ_ ?_
   refine Cw.permL (M:=(bm,mgO v4 (.slice none 0 0) (.slice none 0 0)):: (D4++ ((b6, .cells (shC r).toArray 135 (0,0)):: (DG++ [(ba, .cells #[vs r.name] 9 (0,0))])))) (by classical exact List.perm_iff_count.2 fun a=>by simp only[List.count_append,List.count_cons,List.count_nil]<;>omega) ?_
   first|with_reducible refine ks [] @zJ_ ?_|refine kp @zJ_ ?_
   refine Again.mk ⟨k+1,v4,D4,(b6, .cells (shC r).toArray 135 (0,0)):: (DG++ [(ba, .cells #[vs r.name] 9 (0,0))])⟩ (by show Z.length - (k+1)<Z.length - k;omega) ⟨hlt,hN4,⟨hw6,hNG.app ⟨hwa,trivial⟩⟩, ?_⟩ rfl rfl
   show Gr D4 9 1 v4 (k+1) (((Z.take (k+1)).map ShL.name).map kU_).flatten
   rw[hts]
   simpa only[List.map_append,List.map_cons,List.map_nil,List.flatten_append,List.flatten_cons,List.flatten_nil,List.append_nil] using hG4
  ·obtain rfl:k=Z.length:=by omega
   have d2:decide ((Z.length:Int)< (Z.length:Int))=false:=decide_eq_false (by omega)
   rw[List.take_length] at hG1
   have hNm:New w1.heap.size ((bm,mgO v0 (.slice none 0 0) (.slice none 0 0)):: (D1++DG)):=⟨hwm,hN1.app hNG⟩
   have hshort:aaV_ (Z.map ShL.name):=by
    intro s hs'
    obtain⟨x,hx,rfl⟩:=List.mem_map.1 hs'
    exact(hZs x hx).1
   have hmg:MgD ((bm,mgO v0 (.slice none 0 0) (.slice none 0 0)):: (D1++DG)) bm (Z.map ShL.name) [] []:=⟨v0,_,_,List.mem_cons_self,by rw[List.length_map];exact Gr.i hG1 fun p hp=>List.mem_cons_of_mem _ (List.mem_append_left _ hp),(Gr.nl (L:= [])).i fun q hq=>(by cases hq),(Gr.nl (L:= [])).i fun q hq=>(by cases hq)⟩
   first|with_reducible refine ks [] (And.intro @zJ_ @d2) ?_|refine kp (And.intro @zJ_ @d2) ?_
   refine Ow.callFV rfl Tryz.call73 (fun w' hw'=>wK_ bm (Z.map ShL.name) [] [] w' (hmg.inW hw') (by rw[List.length_map];omega) (by simp) hshort) ?_
   cases hrt:zC_ (Z.map ShL.name) [] with
   |false=>
    refine ko @zJ_ ?_
    first|with_reducible refine ks [] @zJ_ ?_|refine kp @zJ_ ?_
    refine⟨_,(ke @zJ_),hNm, ?_⟩
    skip
    refine hpost [] _ (fun h=>by rw[hrt] at h;cases h) ?_
    unfold vr_
    rw[if_neg (by omega),if_pos hrt];rfl
   |true=>
    refine ko @zJ_ ?_
    first|with_reducible refine ks [] (And.intro @zJ_ @lnz) ?_|refine kp (And.intro @zJ_ @lnz) ?_
    refine Cw.loopG (G:=Mk2) [45,46,47,9,49,50,51,48,52,53,10,11,54,55,56,2,3,57,58,59,60,61,62,63,64,65,66,67,68,69,7,70,71,72,44] (fun g=> [(7,g.vp),(44,vi g.q.length)]) (fun g=>(bm,mgO v0 g.v1 (.slice none 0 0)):: (D1++ (g.DP++ (g.D2++ (g.D3++g.DG))))) (fun g=>g.q.length≤Z.length∧jN_ Z g.q.length=some g.q∧g.ps.length=g.q.length∧New w1.heap.size g.DP∧New w1.heap.size g.D2∧New w1.heap.size g.D3∧New w1.heap.size g.DG∧Gr g.DP 143 1 g.vp g.ps.length (g.ps.map ptC).flatten∧Gr g.D2 9 1 g.v1 g.q.length ((g.q.map Prod.fst).map kU_).flatten∧(∀k,k<g.q.length→IxD g.D3 (g.ps.getD k 0) (g.q.getD k ([],[])).1 (g.q.getD k ([],[])).2)) (fun g=>Z.length - g.q.length) ⟨[],[], .slice none 0 0, .slice none 0 0,[],[],[],DG⟩ rfl rfl ?_ ?_
    ·exact⟨Nat.zero_le _,rfl,rfl,trivial,trivial,trivial,hNG,Gr.nl,Gr.nl,fun k hk=>absurd hk (Nat.not_lt_zero _)⟩
    intro g j hg
    refine kv ?_
    clear hmg hNm hNG
    obtain⟨q,ps,vp',v1,DP,D2,D3,DG2⟩:=g
    simp only at hg ⊢
    obtain⟨hq,hop,hpl,hNP,hN2,hN3,hNG,hGP,hG2,hIx⟩:=hg
    have hNall:New w1.heap.size (D1++ (DP++ (D2++ (D3++DG2)))):=hN1.app (hNP.app (hN2.app (hN3.app hNG)))
    by_cases hlt:q.length<Z.length
    ·have d2:decide ((q.length:Int)< (Z.length:Int))=true:=decide_eq_true (by omega)
     have ixz:=hzr.idx true q.length hlt
     have ldz:=hzr.load zF_ (by omega) hlt
     have hzb:=hzr.lt (by omega)
     have rdz:zv_ w1 ((bm,mgO v0 v1 (.slice none 0 0)):: (D1++ (DP++ (D2++ (D3++DG2))))) rb=some (.cells arr E fz):=by
      rw[zH_ _ _ _ _ _ (by omega),z8_ (hNall.not hzb)];exact hzr.has (by omega)
     have hsb:=hZs (Z.getD q.length sh0) (by rw[List.getD_eq_getElem?_getD,List.getElem?_eq_getElem hlt];exact List.getElem_mem _)
     have hos:jN_ Z (q.length+1)=match some q,kt_ (Z.getD q.length sh0).bytes with|some q,some p=>some (q++ [p]) |_,_=>none:=by rw[←hop];rfl
     generalize Z.getD q.length sh0=r at*
     first|with_reducible refine ks [21] (And.intro @zJ_ (And.intro @d2 (And.intro @ixz (And.intro @rdz (@ldz))))) ?_|refine kp (And.intro @zJ_ (And.intro @d2 (And.intro @ixz (And.intro @rdz (@ldz))))) ?_
     refine Ow.alloc rfl rfl zrSh fun b9 hb9 hw9=> ?_
     simp only[zg_,List.nil_append,List.cons_append]
     have h9m:bm<b9:=zs_ hb9 (by simp[keys])
     refine Ow.permL (M:=(b9, .cells (shC sh0).toArray 135 (0,0)):: ((bm,mgO v0 v1 (.slice none 0 0)):: (D1++ (DP++ (D2++ (D3++DG2)))))) (by classical exact List.perm_iff_count.2 fun a=>by simp only[List.count_append,List.count_cons,List.count_nil]<;>omega) ?_
     refine ko @zJ_ ?_
     first|with_reducible refine ks [] @zJ_ ?_|refine kp @zJ_ ?_
     refine Ow.callC rfl rfl Tryz.call74 (fun w' hw'=>aeG_ r.bytes w' (hC1.newP hw' ⟨hw9,hwm,hNall⟩) (by omega)) (fun B1 vq Dq hAq hBq hNq hSq=> ?_)
     unfold agL_ at hSq
     cases hoi:kt_ r.bytes with
     |none=>
      rw[hoi] at hSq hos
      subst hSq
      have e2: ((2:Int) !=0)=true:=rfl
      refine ko @zJ_ ?_
      first|with_reducible refine ks [] (And.intro @zJ_ @e2) ?_|refine kp (And.intro @zJ_ @e2) ?_
      have hfin:jN_ Z Z.length=none:=ZH_ hos (by omega)
      refine⟨_,(ke @zJ_),(show New w1.heap.size (((b9, .cells (shC r).toArray 135 (0,0)):: ((bm,mgO v0 v1 (.slice none 0 0)):: (D1++ (DP++ (D2++ (D3++DG2))))))++Dq) from New.app ⟨hw9,hwm,hNall⟩ (hNq.mono hBq)), ?_⟩
      skip
      refine hpost [] _ (fun h q1 hq1=>by rw[hfin] at hq1;cases hq1) ?_
      unfold vr_
      rw[if_neg (by omega),if_neg (by rw[hrt];simp),hfin];rfl
     |some p=>
      rw[hoi] at hSq hos
      obtain⟨bi,rfl,hID⟩:=hSq
      obtain⟨psm,prw⟩:=p
      simp only at hID
      have e0: ((0:Int) !=0)=false:=rfl
      have hNq':=hNq.mono hBq
      refine ko @zJ_ ?_
      first|with_reducible refine ks [] (And.intro @zJ_ @e0) ?_|refine kp (And.intro @zJ_ @e0) ?_
      refine Cw.permL (M:=(bm,mgO v0 v1 (.slice none 0 0)):: (D1++ (DP++ (D2++ (Dq++ (D3++ ((b9, .cells (shC r).toArray 135 (0,0))::DG2))))))) (by classical exact List.perm_iff_count.2 fun a=>by simp only[List.count_append,List.count_cons,List.count_nil]<;>omega) ?_
      refine Cw.regionS [bm] [0,1,2,5,6,7,9,8,3,4,10,11,12,13,14,15,16] [16] (by kernel_rfl) (by kernel_rfl) (by kernel_rfl) ?_
      simp only[zh_, ↓zd_, ↓zb_, ↓zl_, ↓zm_,za_]
      refine kq @zJ_ ?_
      refine Ow.soft rfl rfl rfl ?_
      refine Ow.buildSlice (e:=143) #[vp bi 0] rfl rfl (by kernel_rfl) fun ba hba hwa=> ?_
      with_reducible refine Ow.nil ?_
      refine⟨(fun x hx=>by rw[List.mem_singleton] at hx;subst hx;simp(disch:=omega) only[List.cons_append,List.nil_append,z2_,zH_]), ?_⟩
      refine kq @zJ_ ?_
      refine Ow.soft rfl rfl rfl ?_
      refine Ow.permL (M:=DP++ ((bm,mgO v0 v1 (.slice none 0 0)):: (D1++ (D2++ (Dq++ (D3++ ((b9, .cells (shC r).toArray 135 (0,0)):: (DG2++ [(ba, .cells #[vp bi 0] 143 (0,0))])))))))) (by classical exact List.perm_iff_count.2 fun a=>by simp only[List.count_append,List.count_cons,List.count_nil]<;>omega) ?_
      refine Ow.appendXG (e:=143) (k:=1) (new:=ptC bi) (X:=DP) vp' rfl rfl rfl rfl Tryz.underlying142 (id (by kernel_rfl):zP_ Tryz.prog 143=some (false,1)) (by kernel_rfl) (id (by kernel_rfl):zZ_ Tryz.prog 143=some (.pointer none)) rfl Tryz.underlying142 (by intro k h;cases h) hGP (fun w' hw'=>AppX.one1 (hw'.has ba (.cells #[vp bi 0] 143 (0,0)) (by simp)) rfl rfl) (by omega) (fun B4 v4 D4 hA4 hB4 hG4 hk41 hk42 hlk4=> ?_)
      have hN4:New w1.heap.size D4:=New.of_le fun q hq=>by
       rcases hk42 q hq with h|h
       ·exact hNP.le q h
       ·omega
      refine Ow.permL (M:=(bm,mgO v0 v1 (.slice none 0 0)):: (D1++ (D4++ (D2++ (Dq++ (D3++ ((b9, .cells (shC r).toArray 135 (0,0)):: (DG2++ [(ba, .cells #[vp bi 0] 143 (0,0))])))))))) (by classical exact List.perm_iff_count.2 fun a=>by simp only[List.count_append,List.count_cons,List.count_nil]<;>omega) ?_
      with_reducible refine Ow.nil ?_
      refine⟨(fun x hx=>by rw[List.mem_singleton] at hx;subst hx;simp(disch:=omega) only[List.cons_append,List.nil_append,z2_,zH_]), ?_⟩
      refine kq @zJ_ ?_
      refine Ow.soft rfl rfl rfl ?_
      refine Ow.callFV rfl Tryz.call75 (fun w' hw'=>ahd_ bi psm prw w' ((hID.mono (D':=(bm,mgO v0 v1 (.slice none 0 0)):: (D1++ (D4++ (D2++ (Dq++ (D3++ ((b9, .cells (shC r).toArray 135 (0,0)):: (DG2++ [(ba, .cells #[vp bi 0] 143 (0,0))])))))))) fun p hp=>by simp[hp]).inW hw')) ?_
      with_reducible refine Ow.nil ?_
      refine⟨by intro b hb;simp only[List.mem_cons,List.not_mem_nil,or_false] at hb;(try subst hb);rfl, ?_⟩
      refine kq @zJ_ ?_
      refine Ow.soft rfl rfl rfl ?_
      refine Ow.buildSlice (e:=9) #[vs psm] rfl rfl (by kernel_rfl) fun bc hbc hwc=> ?_
      with_reducible refine Ow.nil ?_
      refine⟨(fun x hx=>by rw[List.mem_singleton] at hx;subst hx;simp(disch:=omega) only[List.cons_append,List.nil_append,z2_,zH_]), ?_⟩
      refine kq @zJ_ ?_
      refine Ow.soft rfl rfl rfl ?_
      refine Ow.permL (M:=D2++ ((bm,mgO v0 v1 (.slice none 0 0)):: (D1++ (D4++ (Dq++ (D3++ ((b9, .cells (shC r).toArray 135 (0,0)):: (DG2++ [(ba, .cells #[vp bi 0] 143 (0,0)),(bc, .cells #[vs psm] 9 (0,0))])))))))) (by classical exact List.perm_iff_count.2 fun a=>by simp only[List.count_append,List.count_cons,List.count_nil]<;>omega) ?_
      refine Ow.appendXG (e:=9) (k:=1) (new:=kU_ psm) (X:=D2) v1 rfl rfl rfl rfl Tryz.underlying68 (id (by kernel_rfl):zP_ Tryz.prog 9=some (false,1)) (by kernel_rfl) (id (by kernel_rfl):zZ_ Tryz.prog 9=some (vs [])) rfl Tryz.underlying68 (by intro k h;cases h) hG2 (fun w' hw'=>AppX.one1 (hw'.has bc (.cells #[vs psm] 9 (0,0)) (by simp)) rfl rfl) (by omega) (fun B5 v5 D5 hA5 hB5 hG5 hk51 hk52 hlk5=> ?_)
      have hN5:New w1.heap.size D5:=New.of_le fun q hq=>by
       rcases hk52 q hq with h|h
       ·exact hN2.le q h
       ·omega
      refine Ow.permL (M:=(bm,mgO v0 v1 (.slice none 0 0)):: (D1++ (D4++ (D5++ ((Dq++D3)++ ((b9, .cells (shC r).toArray 135 (0,0)):: (DG2++ [(ba, .cells #[vp bi 0] 143 (0,0)),(bc, .cells #[vs psm] 9 (0,0))]))))))) (by classical exact List.perm_iff_count.2 fun a=>by simp only[List.count_append,List.count_cons,List.count_nil]<;>omega) ?_
      with_reducible refine Ow.nil ?_
      refine⟨(fun x hx=>by rw[List.mem_singleton] at hx;subst hx;simp(disch:=omega) only[List.cons_append,List.nil_append,z2_,zH_]), ?_⟩
      have st4: ∀a,zn_ (some (a,1)) (some (mgO v0 v1 (.slice none 0 0))) 1 v5=some (mgO v0 v5 (.slice none 0 0)):=fun a=>VH_ v0 v1 _ v5 a hG5.cell
      refine kq @zJ_ ?_
      refine Ow.store rfl rfl rfl (ke (And.intro @zJ_ @st4)) ?_
      refine ko @zJ_ ?_
      first|with_reducible refine ks [] @zJ_ ?_|refine kp @zJ_ ?_
      have hlt2: (q++ [(psm,prw)]).length=q.length+1:=by simp
      have hqs:jN_ Z (q++ [(psm,prw)]).length=some (q++ [(psm,prw)]):=by rw[List.length_append];exact hos
      refine Again.mk ⟨q++ [(psm,prw)],ps++ [bi],v4,v5,D4,D5,Dq++D3,((b9, .cells (shC r).toArray 135 (0,0)):: (DG2++ [(ba, .cells #[vp bi 0] 143 (0,0)),(bc, .cells #[vs psm] 9 (0,0))]))⟩ (by show Z.length - (q++ [(psm,prw)]).length<Z.length - q.length;rw[List.length_append,List.length_singleton];omega) ⟨by show(q++ [(psm,prw)]).length≤Z.length;rw[List.length_append,List.length_singleton];omega,hqs,by show(ps++ [bi]).length=(q++ [(psm,prw)]).length;rw[List.length_append,List.length_append,hpl];rfl,hN4,hN5,hNq'.app hN3,⟨hw9,hNG.app ⟨hwa,hwc,trivial⟩⟩, ?_, ?_, ?_⟩ rfl (by simp only[hlt2];rfl)
      ·show Gr D4 143 1 v4 (ps++ [bi]).length ((ps++ [bi]).map ptC).flatten
       rw[List.length_append,List.length_singleton]
       simpa only[List.map_append,List.map_cons,List.map_nil,List.flatten_append,List.flatten_cons,List.flatten_nil,List.append_nil] using hG4
      ·show Gr D5 9 1 v5 (q++ [(psm,prw)]).length (((q++ [(psm,prw)]).map Prod.fst).map kU_).flatten
       rw[hlt2]
       simpa only[List.map_append,List.map_cons,List.map_nil,List.flatten_append,List.flatten_cons,List.flatten_nil,List.append_nil] using hG5
      ·intro k hk
       show IxD (Dq++D3) ((ps++ [bi]).getD k 0) ((q++ [(psm,prw)]).getD k ([],[])).1 ((q++ [(psm,prw)]).getD k ([],[])).2
       have hk':k<q.length+1:=by rw[←hlt2];exact hk
       by_cases he:k<q.length
       ·rw[qQ_ _ _ he,qQ_ _ _ (by omega)]
        exact(hIx k he).mono fun p hp=>List.mem_append_right _ hp
       ·obtain rfl:k=q.length:=by omega
        rw[JY_ _ _ rfl,JY_ _ _ hpl]
        exact hID.mono fun p hp=>List.mem_append_left _ hp
    ·have hql:q.length=Z.length:=by omega
     have d2:decide ((q.length:Int)< (Z.length:Int))=false:=decide_eq_false (by omega)
     have hop':jN_ Z Z.length=some q:=by rw[←hql];exact hop
     have hall:=Zc_ hop
     have hNm:New w1.heap.size ((bm,mgO v0 v1 (.slice none 0 0)):: (D1++ (DP++ (D2++ (D3++DG2))))):=⟨hwm,hNall⟩
     have hpk: ∀w',Hp w1 ((bm,mgO v0 v1 (.slice none 0 0)):: (D1++ (DP++ (D2++ (D3++DG2))))) w'→PkIn w' vp' q:=fun w' hw'=>by
      refine⟨ps,hpl,(Gr.i hGP fun p hp=>by simp[hp]).slV hw' rfl rfl (fun _=>rfl),fun k hk=> ?_⟩
      exact((hIx k hk).mono fun p hp=>by simp[hp]).inW hw'
     first|with_reducible refine ks [23] (And.intro @zJ_ @d2) ?_|refine kp (And.intro @zJ_ @d2) ?_
     refine Ow.callC rfl rfl Tryz.call76 (fun w' hw'=>aaC_ vp' q w' (hpk w' hw') (by omega) (fun p hp=>by have:=hall p hp;omega)) (fun B1 v9 D9 hA9 hB9 hN9 hS9=> ?_)
     obtain⟨L,hL,hGL⟩:=hS9
     have hN9':=hN9.mono hB9
     have st4: ∀a,zn_ (some (a,1)) (some (mgO v0 v1 (.slice none 0 0))) 2 v9=some (mgO v0 v1 v9):=fun a=>aar_ v0 v1 _ v9 a (by obtain⟨X,-,hX⟩:=hGL;exact hX.cell)
     rw[List.cons_append]
     refine ko (And.intro @zJ_ @st4) ?_
     have hNe:New w1.heap.size ((bm,mgO v0 v1 v9):: ((D1++ (DP++ (D2++ (D3++DG2))))++D9)):=⟨hwm,hNall.app hN9'⟩
     have hmg:MgD ((bm,mgO v0 v1 v9):: ((D1++ (DP++ (D2++ (D3++DG2))))++D9)) bm (Z.map ShL.name) (q.map Prod.fst) L:=⟨v0,v1,v9,List.mem_cons_self,by rw[List.length_map];exact Gr.i hG1 fun p hp=>by simp[hp],by rw[List.length_map];exact Gr.i hG2 fun p hp=>by simp[hp],hGL.mono fun p hp=>by simp[hp]⟩
     have hLl:L.length<1000000:=by
      have h1:=hL.1.length_eq
      have h2:=vP_ q (fun p hp=>by have:=hall p hp;omega) q.length (Nat.le_refl _)
      rw[List.length_map] at h1
      omega
     first|with_reducible refine ks [] @zJ_ ?_|refine kp @zJ_ ?_
     refine Ow.callFV rfl Tryz.call73 (fun w' hw'=>wK_ bm (Z.map ShL.name) (q.map Prod.fst) L w' (hmg.inW hw') (by rw[List.length_map];omega) hLl hshort) ?_
     cases hrt2:zC_ (Z.map ShL.name) L with
     |false=>
      refine ko @zJ_ ?_
      first|with_reducible refine ks [] @zJ_ ?_|refine kp @zJ_ ?_
      refine⟨_,(ke @zJ_),hNe, ?_⟩
      skip
      refine hpost L _ (fun _ q1 hq1=>by rw[hop'] at hq1;cases hq1;exact hL) ?_
      unfold vr_
      rw[if_neg (by omega),if_neg (by rw[hrt];simp),hop']
      simp only
      rw[if_pos hrt2];rfl
     |true=>
      have hr2:=hrt2
      unfold zC_ at hr2
      simp only[Bool.and_eq_true,Bool.not_eq_true',decide_eq_false_iff_not] at hr2
      have hns:Most 1000 (Z.map ShL.name):=fun s hs'=>by
       have h3:=List.all_eq_true.1 hr2.2.2 s hs'
       unfold jD_ at h3
       simp only[Bool.and_eq_true,decide_eq_true_eq] at h3
       omega
      have hss:Most 1000 (q.map Prod.fst):=fun s hs'=>by
       obtain⟨p,hp,rfl⟩:=List.mem_map.1 hs'
       have:=hall p hp
       omega
      refine ko @zJ_ ?_
      first|with_reducible refine ks [] @zJ_ ?_|refine kp @zJ_ ?_
      refine Ow.callFV rfl Tryz.call77 (fun w' hw'=>JL_ bm (Z.map ShL.name) (q.map Prod.fst) L w' (hC1.newP hw' hNe) (hmg.inW hw') (by rw[List.length_map,List.length_map];omega) (by rw[List.length_map];omega) (by omega) hns hss) ?_
      refine ko @zJ_ ?_
      first|with_reducible refine ks [] @zJ_ ?_|refine kp @zJ_ ?_
      refine⟨_,(ke @zJ_),hNe, ?_⟩
      skip
      refine hpost L _ (fun _ q1 hq1=>by rw[hop'] at hq1;cases hq1;exact hL) ?_
      unfold vr_
      rw[if_neg (by omega),if_neg (by rw[hrt];simp),hop']
      simp only
      rw[if_neg (by rw[hrt2];simp)];rfl
end Go.Proofs
end
section
open Go Go.Proofs Go.Sx Go.StP Go.Flo
namespace Go.Proofs
set_option maxRecDepth 10000
set_option maxHeartbeats 400000
set_option linter.unusedSimpArgs false
theorem akW_ (A x:List UInt8) {n:Nat} {r:LnL} (hn:n≤40) (h:qg_ n r=true):lnR (A++ (ZJ_ r++x)) (A.length,0)=(r,A.length+ (ZJ_ r).length,0):=by
 obtain⟨i,sh,pl,sp⟩:=r
 unfold qg_ numM at h
 simp only[Bool.and_eq_true,Bool.not_eq_true',decide_eq_false_iff_not,decide_eq_true_eq] at h
 obtain⟨⟨⟨h1,h2⟩,h3⟩,h4⟩:=h
 obtain⟨s,rfl⟩: ∃s:Nat,sh=(s:Int):=⟨sh.toNat,by omega⟩
 obtain⟨p,rfl⟩: ∃s:Nat,pl=(s:Int):=⟨pl.toNat,by omega⟩
 obtain⟨q,rfl⟩: ∃s:Nat,sp=(s:Int):=⟨sp.toNat,by omega⟩
 have e:ZJ_ ⟨i,(s:Int),(p:Int),(q:Int)⟩=i.l++ (qd_ s++ (qd_ p++qd_ q)):=by
  unfold ZJ_;rw[q2_ (show s≤1099511627775 by omega),q2_ (show p≤1099511627775 by omega),q2_ (show q≤1099511627775 by omega)]
 have e2:A++ (ZJ_ ⟨i,(s:Int),(p:Int),(q:Int)⟩++x)=A++ (i.l++ (qd_ s++ (qd_ p++ (qd_ q++x)))):=by rw[e];simp only[List.append_assoc]
 have a1:=adf_ A (qd_ s++ (qd_ p++ (qd_ q++x))) i
 have a2:=jo_ (A++i.l) (qd_ p++ (qd_ q++x)) s 40 (by omega) (by omega)
 have a3:=jo_ (A++ (i.l++qd_ s)) (qd_ q++x) p 1099511627775 (by omega) (by omega)
 have a4:=jo_ (A++ (i.l++ (qd_ s++qd_ p))) x q 1099511627775 (by omega) (by omega)
 simp only[List.append_assoc,List.length_append,i.h] at a2 a3 a4
 unfold lnR wF_
 rw[e2]
 simp only
 rw[a1]
 simp only
 rw[a2]
 simp only
 rw[Nat.add_assoc,a3]
 simp only
 rw[show A.length+ (32+ (qd_ s).length)+ (qd_ p).length=A.length+ (32+ ((qd_ s).length+ (qd_ p).length)) by omega,a4,agg_,e]
 simp only[List.length_append,i.h,Nat.add_assoc]
theorem adn_ (x:List UInt8) {n:Nat} (hn:n≤40): ∀ (l:List LnL) (A:List UInt8),(∀r,r∈l→qg_ n r=true)→Qa_ (A++ (qM_ l++x)) l.length (A.length,0)=(l,A.length+ (qM_ l).length,0)
 | [],A,_=>by simp[Qa_,qM_]
 |r::l,A,h=>by
  have h1:=akW_ A (qM_ l++x) hn (h r List.mem_cons_self)
  have h2:=adn_ x hn l (A++ZJ_ r) fun y hy=>h y (List.mem_cons_of_mem _ hy)
  have e:qM_ (r::l)=ZJ_ r++qM_ l:=by simp[qM_]
  simp only[List.append_assoc,List.length_append] at h2
  rw[List.length_cons,e,List.append_assoc]
  unfold Qa_
  rw[h1]
  simp only
  rw[h2,List.length_append,Nat.add_assoc]
theorem Wf_ (n u:List UInt8) (ns us:List (List UInt8)): ∀k,kV_ (n::ns) (u::us) (k+1)=jQ_ n++ (u++kV_ ns us k)
 |0=>by simp[kV_]
 |k+1=>by
  have h:=Wf_ n u ns us k
  show kV_ (n::ns) (u::us) (k+1)++ (jQ_ ((n::ns).getD (k+1) [])++ (u::us).getD (k+1) [])=_
  rw[h,List.getD_cons_succ,List.getD_cons_succ]
  simp only[kV_,List.append_assoc]
theorem adm_ (x:List UInt8): ∀ (ns us:List (List UInt8)) (A:List UInt8),us.length=ns.length→Most 40 ns→(∀u,u∈us→u.length=4)→kX_ (A++ (kV_ ns us ns.length++x)) ns.length (A.length,0)=(ns,us,A.length+ (kV_ ns us ns.length).length,0)
 | [],[],A,_,_,_=>by simp[kX_,kV_]
 | [],_::_,_,h,_,_=>by cases h
 |_::_,[],_,h,_,_=>by cases h
 |n::ns,u::us,A,h,hn,hu=>by
  have hl:=hn n List.mem_cons_self
  have h4:=hu u List.mem_cons_self
  have a1:=aea_ A n (u++ (kV_ ns us ns.length++x)) 40 (by omega) (by omega)
  have a2:=vV_ (A++jQ_ n) u (kV_ ns us ns.length++x)
  have a3:=adm_ x ns us (A++ (jQ_ n++u)) (by simpa using h) (fun y hy=>hn y (List.mem_cons_of_mem _ hy)) (fun y hy=>hu y (List.mem_cons_of_mem _ hy))
  rw[h4] at a2
  simp only[List.append_assoc,List.length_append,h4] at a2 a3
  rw[List.length_cons,Wf_]
  simp only[List.append_assoc]
  have e:nmR (A++ (jQ_ n++ (u++ (kV_ ns us ns.length++x)))) (A.length,0)=(n,u,A.length+ (jQ_ n).length+4,0):=by
   unfold nmR
   simp only
   rw[a1]
   simp only
   rw[show(4:Int)=((4:Nat):Int) from rfl,a2]
  unfold kX_
  rw[e]
  simp only
  rw[Nat.add_assoc,a3]
  simp only[List.length_append,h4,Nat.add_assoc]
theorem Zx_ {names:List (List UInt8)} {lines:List LnL} (h:zC_ names lines=true):names.length≤40∧lines.length≤8000∧(∀r,r∈lines→qg_ names.length r=true)∧Most 40 names:=by
 unfold zC_ at h
 simp only[Bool.and_eq_true,Bool.not_eq_true',decide_eq_false_iff_not] at h
 refine⟨by omega,by omega,fun r hr=>List.all_eq_true.1 h.2.1 r hr,fun s hs=> ?_⟩
 have h3:=List.all_eq_true.1 h.2.2 s hs
 unfold jD_ at h3
 simp only[Bool.and_eq_true,decide_eq_true_eq] at h3
 exact h3.2.2
theorem agH_ {names sums:List (List UInt8)} {lines:List LnL} (h:zC_ names lines=true) (hs:sums.length=names.length) (hu: ∀u,u∈sums→u.length=4):vd_ (xZ_ names sums lines) (4,0)=(names,sums,lines,(xZ_ names sums lines).length,0):=by
 obtain⟨h1,h2,h3,h4⟩:=Zx_ h
 have e:xZ_ names sums lines=magM++ (qd_ names.length++ (kV_ names sums names.length++ (qd_ lines.length++qM_ lines))):=by
  unfold xZ_;rw[q2_ (show names.length≤1099511627775 by omega),q2_ (show lines.length≤1099511627775 by omega)];simp only[List.append_assoc]
 have a1:=jo_ magM (kV_ names sums names.length++ (qd_ lines.length++qM_ lines)) names.length 40 (by omega) (by omega)
 have a2:=adm_ (qd_ lines.length++qM_ lines) names sums (magM++qd_ names.length) hs h4 hu
 have a3:=jo_ (magM++ (qd_ names.length++kV_ names sums names.length)) (qM_ lines) lines.length 8000 (by omega) (by omega)
 have a4:=adn_ [] h1 lines (magM++ (qd_ names.length++ (kV_ names sums names.length++qd_ lines.length))) h3
 simp only[List.append_assoc,List.length_append,List.append_nil,show magM.length=4 from rfl] at a1 a2 a3 a4
 unfold vd_
 have e1:Qd_ (xZ_ names sums lines) (4,0)=(names,sums,4+ (qd_ names.length).length+ (kV_ names sums names.length).length,0):=by
  unfold Qd_
  simp only
  rw[e,a1]
  simp only[Int.toNat_natCast]
  rw[a2]
 have e2:V5_ (xZ_ names sums lines) (4+ (qd_ names.length).length+ (kV_ names sums names.length).length,0)=(lines,(xZ_ names sums lines).length,0):=by
  unfold V5_
  simp only
  rw[e,show 4+ (qd_ names.length).length+ (kV_ names sums names.length).length=4+ ((qd_ names.length).length+ (kV_ names sums names.length).length) by omega,a3]
  simp only[Int.toNat_natCast]
  rw[show 4+ ((qd_ names.length).length+ (kV_ names sums names.length).length)+ (qd_ lines.length).length=4+ ((qd_ names.length).length+ ((kV_ names sums names.length).length+ (qd_ lines.length).length)) by omega,a4]
  simp only[List.length_append,show magM.length=4 from rfl,Nat.add_assoc]
 rw[e1]
 simp only
 rw[e2]
theorem aaY_ {names sums:List (List UInt8)} {lines:List LnL} (h:zC_ names lines=true) (hs:sums.length=names.length) (hu: ∀u,u∈sums→u.length=4):Jj_ (z5_ (xZ_ names sums lines))=some (names,sums,lines):=by
 have e:qw_ (xZ_ names sums lines) 0 0 4=(magM,4,0):=by
  have:=vV_ [] magM (qd_ (zw_ (names.length:Int))++ (kV_ names sums names.length++ (qd_ (zw_ (lines.length:Int))++qM_ lines)))
  unfold xZ_
  simp only[List.append_assoc]
  rw[List.nil_append,List.length_nil,Nat.zero_add] at this
  exact this
 refine(QM_ (b:=z5_ (xZ_ names sums lines)) (s:=xZ_ names sums lines) (by rw[kl_]) (by rw[e];exact agH_ h hs hu)).1 ⟨abt_ _,h,rfl⟩
end Go.Proofs
end
section
open Go Go.Proofs Go.Sx Go.StP Go.Flo
namespace Go.Proofs
set_option maxRecDepth 10000
set_option maxHeartbeats 1000000
set_option linter.unusedSimpArgs false
def id1:IdL:=⟨1::List.replicate 31 0,by simp⟩
theorem Wi_:ql_ (vo_ Tryz.prog 86) (zZ_ Tryz.prog 86) [(0,v8 1)]=some (.agg (a8 id1.l)):=id (by kernel_rfl)
def am4:List UInt8:= [97,98,99,100]
def amR:RwL:=⟨id1,2,3⟩
def amN:List UInt8:= [112]
def amL:LnL:=⟨id1,0,2,3⟩
theorem ado_:qF_ am4 [amR]=true:=by rfl
theorem agq_ {r:RwL} {Z:List RwL} (h:rws_SortOf [r] Z):Z= [r]:=h.eq ⟨rfl,List.pairwise_singleton _ _,StP.St.refl _ _⟩
theorem afK_ {r:ShL} {Z:List ShL} (h:shs_SortOf [r] Z):Z= [r]:=h.eq ⟨rfl,List.pairwise_singleton _ _,StP.St.refl _ _⟩
theorem Km_:zC_ [amN] []=true:=by rfl
theorem Jq_:zC_ [amN] [amL]=true:=by rfl
theorem akn_:qD_ [(am4,[amR])] 1= [(id1,amL)]:=by rfl
theorem akC_ {w:World} {b:Nat} {p:RwL} (h:w.heap[b]? =some (.cells (rwC p).toArray 132 (0,0))):RwSl w (vsl b 0 1 1) [p]:=
 SlV.sl (l:= [p]) h (fun k hk j hj=>by
  obtain rfl:k=0:=by simpa using hk
  rw[Nat.zero_mul,Nat.zero_add,List.getElem?_toArray];rfl) (Nat.le_refl 1) (by rw[List.size_toArray,zT_];exact Nat.le_refl _)
theorem afB_ {w:World} {b:Nat} {p:ShL} (h:w.heap[b]? =some (.cells (shC p).toArray 135 (0,0))):ShSl w (vsl b 0 1 1) [p]:=
 SlV.sl (l:= [p]) h (fun k hk j hj=>by
  obtain rfl:k=0:=by simpa using hk
  rw[Nat.zero_mul,Nat.zero_add,List.getElem?_toArray];rfl) (Nat.le_refl 1) (by rw[List.size_toArray,zF_];exact Nat.le_refl _)
theorem aj8_ {s:List UInt8} (hs:kt_ s=some (am4,[amR])) {v:Value} (h:Qo_ [⟨amN,s⟩] v):v= .tuple #[vs (z5_ (xZ_ [amN] [am4] [amL])),vi 0]:=by
 unfold Qo_ at h
 rw[if_neg (by simp)] at h
 obtain⟨Z,L,hZ,hL,rfl⟩:=h
 obtain rfl:=afK_ hZ
 have ho:jN_ [⟨amN,s⟩] [(⟨amN,s⟩:ShL)].length=some [(am4,[amR])]:=by
  show(match some [],kt_ s with|some q,some p=>some (q++ [p]) |_,_=>none)=_
  rw[hs];rfl
 have h1:=hL Km_ _ ho
 rw[show [(am4,[amR])].length=1 from rfl,akn_] at h1
 have h2:L= [amL]:=List.perm_singleton.1 h1.1
 subst h2
 unfold vr_
 rw[if_neg (by simp),if_neg (by rw[show [(⟨amN,s⟩:ShL)].map ShL.name= [amN] from rfl,Km_];simp),ho]
 simp only[List.map_cons,List.map_nil]
 rw[if_neg (by rw[Jq_];simp)]
theorem akv_:WZ_ [amN] [amL] id1= .tuple #[vs amN, .agg (lnC amL).toArray, .bool true]:=by
 unfold WZ_
 have:xc_ [amL] id1=(amL,true):=by
  unfold xc_
  rw[List.find?_cons,show(amL.id.l==id1.l)=true from beq_self_eq_true _]
 rw[this];rfl
theorem aj6_:Jj_ (z5_ (xZ_ [amN] [am4] [amL]))=some ([amN],[am4],[amL]):=aaY_ Jq_ rfl (by intro u hu;rw[List.mem_singleton] at hu;subst hu;rfl)
set_option linter.defProp false
def xU_:=And.intro (And.intro (And.intro (@zf_) (@ze_)) (And.intro (@Sx.tup2_0) (And.intro (@Sx.tup2_1) (@Sx.tup3_0)))) (And.intro (And.intro (@Sx.tup3_1) (@Sx.tup3_2)) (And.intro (@z3_) (And.intro (@xz_) (@js_))))
theorem qL_ (w:World) (hC:GlobC w):Rets Tryz.prog 30 #[] w (fun v D=>v= .bool true∧D= []):=by
 have hoi:=ab2_ ado_
 have hwi:vE_ am4 [amR]=(z5_ (vu_ am4 [amR]),0):=by unfold vE_;rw[if_pos ado_]
 have hil: (z5_ (vu_ am4 [amR])).length<1000000:=by
  have h1:=Zn_ [amR] 1 (by decide)
  have h2:=zj_ (([amR].length:Nat):Int)
  have h3:=Zv_ (ZW_ (kw_ [amR]))
  rw[kN_,QH_] at h3
  rw[List.take_of_length_le (by decide)] at h1
  rw[Jx_]
  unfold vu_ xr_
  rw[List.length_append,List.length_append,List.length_append,List.length_append,show am4.length=4 from rfl,show magI.length=4 from rfl]
  omega
 have hml: (z5_ (xZ_ [amN] [am4] [amL])).length<1000000:=by
  have h1:=w4_ (names:= [amN]) (sums:= [am4]) (fun s hs=>by rw[List.mem_singleton] at hs;subst hs;decide) (fun s hs=>by rw[List.mem_singleton] at hs;subst hs;decide) 1
  have h2:=wg_ [amL] 1 (by decide)
  have h3:=zj_ (([amN].length:Nat):Int)
  have h4:=zj_ (([amL].length:Nat):Int)
  rw[List.take_of_length_le (by decide)] at h2
  rw[Jx_]
  unfold xZ_
  rw[List.length_append,List.length_append,List.length_append,List.length_append,show magM.length=4 from rfl]
  rw[show [amN].length=1 from rfl] at*
  omega
 refine Rets.enterV Tryz.func30 rfl (rs:= [.tmp 0]) Tryz.results30 Tryz.ntmps30 ?_
 refine kf ?_
 first|with_reducible refine ks [] @xU_ ?_|refine kp @xU_ ?_
 refine Ow.build (.agg (a8 id1.l)) rfl Wi_ ?_
 refine ko @xU_ ?_
 refine Ow.build (.agg (rwC amR).toArray) rfl (aip_ amR) ?_
 refine ko @xU_ ?_
 refine Ow.buildSlice (e:=132) (rwC amR).toArray rfl rfl (by kernel_rfl) fun b10 hb10 hw10=> ?_
 refine ko @xU_ ?_
 have hN10:New w.heap.size [(b10,Obj.cells (rwC amR).toArray 132 (0,0))]:=⟨hw10,trivial⟩
 refine Ow.callFV rfl Tryz.call68 (fun w' hw'=>(Jt_ am4 (vsl b10 0 1 1) [amR] w' (hC.newP hw' hN10) (akC_ (hw'.has b10 _ List.mem_cons_self)) (by decide) (by decide)).mono (S':=fun v D=>v= .tuple #[vs (z5_ (vu_ am4 [amR])),vi 0]∧D= []) (fun v D h=>by obtain⟨⟨Z,hZ,rfl⟩,rfl⟩:=h;obtain rfl:=agq_ hZ;rw[hwi];exact⟨rfl,rfl⟩)) ?_
 generalize z5_ (vu_ am4 [amR])=s at*
 have hmk:=fun v (h:Qo_ [⟨amN,s⟩] v)=>aj8_ hoi h
 have hop:=aj6_
 generalize z5_ (xZ_ [amN] [am4] [amL])=b at*
 refine ko @xU_ ?_
 refine Ow.build (.agg (shC ⟨amN,s⟩).toArray) rfl (ah2_ ⟨amN,s⟩) ?_
 refine ko @xU_ ?_
 refine Ow.buildSlice (e:=135) (shC ⟨amN,s⟩).toArray rfl rfl (by kernel_rfl) fun b20 hb20 hw20=> ?_
 refine Ow.permL (M:= [(b20, .cells (shC ⟨amN,s⟩).toArray 135 (0,0)),(b10, .cells (rwC amR).toArray 132 (0,0))]) (by classical exact List.perm_iff_count.2 fun a=>by simp only[List.count_append,List.count_cons,List.count_nil]<;>omega) ?_
 refine ko @xU_ ?_
 have hN20:New w.heap.size [(b20,Obj.cells (shC ⟨amN,s⟩).toArray 135 (0,0)),(b10,Obj.cells (rwC amR).toArray 132 (0,0))]:=⟨hw20,hw10,trivial⟩
 refine Ow.callFV rfl Tryz.call32 (fun w' hw'=>(Kg_ (vsl b20 0 1 1) [⟨amN,s⟩] w' (hC.newP hw' hN20) (afB_ (hw'.has b20 _ List.mem_cons_self)) (by simp) (fun x hx=>by rw[List.mem_singleton] at hx;subst hx;exact⟨by show amN.length<_;decide,by show s.length<_;omega⟩)).mono (S':=fun v D=>v= .tuple #[vs b,vi 0]∧D= []) (fun v D h=>⟨hmk v h.1,h.2⟩)) ?_
 refine ko @xU_ ?_
 first|with_reducible refine ks [] @xU_ ?_|refine kp @xU_ ?_
 refine Ow.callC rfl rfl Tryz.call36 (fun w' hw'=>X7_ b w' (hC.newP hw' hN20) (by omega)) (fun B2 v2 D2 hA2 hB2 hN2 hS2=> ?_)
 unfold acX_ at hS2
 rw[hop] at hS2
 obtain⟨bi,rfl,hM⟩:=hS2
 simp only at hM
 have hN:=hN20.app (hN2.mono hB2)
 refine ko @xU_ ?_
 first|with_reducible refine ks [] @xU_ ?_|refine kp @xU_ ?_
 refine Ow.build (.agg (a8 id1.l)) rfl Wi_ ?_
 refine ko @xU_ ?_
 refine Ow.callFV rfl Tryz.call42 (fun w' hw'=>Ke_ bi [amN] [am4] [amL] id1 w' ((hM.mono (fun q hq=>by simp[hq])).inW hw') Jq_ (by simp) (by simp)) ?_
 rw[akv_]
 refine ko @xU_ ?_
 refine Ow.alloc rfl rfl J7_ fun b8 hb8 hw8=> ?_
 simp only[zg_,List.nil_append,List.cons_append]
 refine Ow.permL (M:=(b8, .cells (lnC Go.Proofs.ln0).toArray 89 (0,0)):: ([(b20,Obj.cells (shC ⟨amN,s⟩).toArray 135 (0,0)),(b10,Obj.cells (rwC amR).toArray 132 (0,0))]++D2)) (by classical exact List.perm_iff_count.2 fun a=>by simp only[List.count_append,List.count_cons,List.count_nil]<;>omega) ?_
 have e2: ((2:Int)==2)=true:=rfl
 have e1: ((([amL].length:Nat):Int)==1)=true:=rfl
 have en: (amN== [112])=true:=rfl
 have e0: ((0:Int)==0)=true:=rfl
 have ep:amL.place=2:=rfl
 have hN8:New w.heap.size ((b8,Obj.cells (lnC amL).toArray 89 (0,0)):: ([(b20,Obj.cells (shC ⟨amN,s⟩).toArray 135 (0,0)),(b10,Obj.cells (rwC amR).toArray 132 (0,0))]++D2)):=⟨hw8,hN⟩
 refine ko (And.intro @xU_ (And.intro @e0 (And.intro @e1 (And.intro @e2 (And.intro @en (@ep)))))) ?_
 first|with_reducible refine ks [] (And.intro @xU_ (And.intro @e0 (And.intro @e1 (And.intro @e2 (And.intro @en (@ep)))))) ?_|refine kp (And.intro @xU_ (And.intro @e0 (And.intro @e1 (And.intro @e2 (And.intro @en (@ep)))))) ?_
 refine Ow.callC rfl rfl Tryz.call40 (fun w' hw'=>QZ_ bi [amN] [am4] [amL] w' ((hM.mono (fun q hq=>by simp[hq])).inW hw') (by simp)) (fun B4 v4 D4 hA4 hB4 hN4 hS4=> ?_)
 have ln4:=aaG_ hS4
 refine ko (And.intro @xU_ (And.intro @ln4 (@e1))) ?_
 first|with_reducible refine ks [] @xU_ ?_|refine kp @xU_ ?_
 refine⟨_,(ke @xU_),(hN8.app (hN4.mono hB4)), ?_⟩
 rfl
end Go.Proofs
end
section
open Go Go.Proofs Go.Sx Go.StP Go.Flo
namespace Go.Proofs
set_option maxRecDepth 10000
set_option maxHeartbeats 1000000
set_option linter.unusedSimpArgs false
def BndS (l:List ShL):Prop:= ∀s,s∈l→s.name.length<1099511627776∧s.bytes.length<1099511627776
def Wa_ (l:List ShL):Nat:=(l.map fun s=>s.bytes.length+s.name.length).sum
def grtS (l:List ShL):Bool:=decide (45<l.length) ||decide (20000<Wa_ l)
theorem afq_ (l:List ShL) {k:Nat} (h:k<l.length):Wa_ (l.take (k+1))=Wa_ (l.take k)+ (l.getD k sh0).bytes.length+ (l.getD k sh0).name.length:=by
 unfold Wa_
 rw[StP.take_snoc (z:=sh0) h,List.map_append,List.sum_append,List.map_singleton,List.sum_singleton,Nat.add_assoc]
theorem aj7_ (l:List ShL) (k:Nat):Wa_ (l.take k)≤Wa_ l:=by
 have:Wa_ l=Wa_ (l.take k)+Wa_ (l.drop k):=by
  unfold Wa_
  rw[←List.sum_append,←List.map_append,List.take_append_drop]
 omega
structure GrG where
 k:Nat
 n:Nat
set_option linter.defProp false
def wq_:=And.intro (@zf_) (@ze_)
theorem WA_ (v:Value) (l:List ShL) (w:World) (hv:ShSl w v l) (hb:BndS l):
  Rets Tryz.prog 31 #[v] w (fun v D=>v= .bool (grtS l)∧D= []):=by
 have ln:=hv.len
 obtain⟨rb,off,arr,E,fz,hr⟩:=hv.row
 refine Rets.enterV Tryz.func31 rfl (rs:= [.tmp 2]) Tryz.results31 Tryz.ntmps31 ?_
 refine kf ?_
 by_cases h45:45<l.length
 ·have d1:decide ((45:Int)< (l.length:Int))=true:=decide_eq_true (by omega)
  first|with_reducible refine ks [] (And.intro @wq_ (And.intro @ln (@d1))) ?_|refine kp (And.intro @wq_ (And.intro @ln (@d1))) ?_
  refine⟨_,(ke @wq_),trivial, ?_⟩
  (unfold grtS;rw[decide_eq_true h45];rfl)
 ·have d1:decide ((45:Int)< (l.length:Int))=false:=decide_eq_false (by omega)
  first|with_reducible refine ks [] (And.intro @wq_ (And.intro @ln (@d1))) ?_|refine kp (And.intro @wq_ (And.intro @ln (@d1))) ?_
  refine Cw.loopG (G:=GrG) [8,9,10,11,14,15,16,17,18,19,20,21,22,23,24,25,26,27,28,3,29,30,2,12,13,4] (fun g=> [(3,vi g.n),(4,vi g.k)]) (fun g=> []) (fun g=>g.k≤l.length∧g.n≤20000∧g.n=Wa_ (l.take g.k)) (fun g=>l.length - g.k) ⟨0,0⟩ rfl rfl ?_ ?_
  ·exact⟨Nat.zero_le _,Nat.zero_le _,rfl⟩
  intro g j hg
  refine kv ?_
  obtain⟨k,n⟩:=g
  simp only at hg ⊢
  obtain⟨hk,hn,hs⟩:=hg
  by_cases hlt:k<l.length
  ·have d2:decide ((k:Int)< (l.length:Int))=true:=decide_eq_true (by omega)
   have ix:=hr.idx true k hlt
   have hh:=hr.has (by omega)
   have ld0: ∀n,zp_ (some (false,n)) (some (.cells arr E fz)) (off+k*2)=some (vs (l.getD k sh0).name):=fun n=>QT_ hr hlt n
   have ld1:=fun n=>abo_ hr hlt n
   have hbs:=hb (l.getD k sh0) (by rw[List.getD_eq_getElem?_getD,List.getElem?_eq_getElem hlt];exact List.getElem_mem _)
   have hsn:=afq_ l hlt
   have hsl:=aj7_ l (k+1)
   generalize l.getD k sh0=r at*
   have es: ((n:Int)+ (r.bytes.length:Int))+ (r.name.length:Int)=((n+r.bytes.length+r.name.length:Nat):Int):=by omega
   first|with_reducible refine ks [] (And.intro @wq_ (And.intro @ln (@d2))) ?_|refine kp (And.intro @wq_ (And.intro @ln (@d2))) ?_
   refine Cw.regionS [rb] [0,1,2,3,4,8,9,10,11,5,6,7,12,13,14,15] [] (by kernel_rfl) (by kernel_rfl) (by kernel_rfl) ?_
   simp only[zh_, ↓zd_, ↓zb_, ↓zl_, ↓zm_,za_]
   refine kq (And.intro @wq_ (And.intro @ln (And.intro @ix (And.intro @hh (And.intro @ld0 (And.intro @ld1 (@es))))))) ?_
   by_cases hgt:20000<n+r.bytes.length+r.name.length
   ·have d3:decide ((20000:Int)< ((n+r.bytes.length+r.name.length:Nat):Int))=true:=decide_eq_true (by omega)
    first|with_reducible refine ks [] (And.intro @wq_ @d3) ?_|refine kp (And.intro @wq_ @d3) ?_
    refine⟨_,(ke @wq_),trivial, ?_⟩
    (unfold grtS;rw[decide_eq_true (show 20000<Wa_ l by omega),Bool.or_true];rfl)
   ·have d3:decide ((20000:Int)< ((n+r.bytes.length+r.name.length:Nat):Int))=false:=decide_eq_false (by omega)
    first|with_reducible refine ks [] (And.intro @wq_ @d3) ?_|refine kp (And.intro @wq_ @d3) ?_
    exact Again.mk ⟨k+1,n+r.bytes.length+r.name.length⟩ (by show l.length - (k+1)<l.length - k;omega) ⟨hlt,by show n+r.bytes.length+r.name.length≤20000;omega,by show n+r.bytes.length+r.name.length=Wa_ (l.take (k+1));omega⟩ rfl rfl
  ·have d2:decide ((k:Int)< (l.length:Int))=false:=decide_eq_false (by omega)
   first|with_reducible refine ks [] (And.intro @wq_ (And.intro @ln (@d2))) ?_|refine kp (And.intro @wq_ (And.intro @ln (@d2))) ?_
   rw[show l.take k=l from List.take_of_length_le (by omega)] at hs
   refine⟨_,(ke @wq_),trivial, ?_⟩
   (unfold grtS;rw[decide_eq_false h45,decide_eq_false (show¬20000<Wa_ l by omega)];rfl)
end Go.Proofs
end
section
open Go Go.Proofs Go.Sx Go.StP Go.Flo
namespace Go.Proofs
set_option maxRecDepth 10000
set_option maxHeartbeats 400000
set_option linter.unusedSimpArgs false
theorem afL_ (k:Nat) (m:MpL) (r:RwL) (h:m.map (fun p=>p.2.id)=m.map Prod.fst∧(m.map Prod.fst).Nodup): (vp_ k m r).map (fun p=>p.2.id)=(vp_ k m r).map Prod.fst∧((vp_ k m r).map Prod.fst).Nodup:=by
 unfold vp_
 split
 ·exact h
 ·rename_i hh
  have hf: ∀ (m:MpL),Vz_ r.id m=false→ ∀v:LnL,updG r.id v m=m++ [(r.id,v)]:=by
   intro m
   induction m with
   |nil=>intro _ v;rfl
   |cons p q ih=>
    intro h v
    unfold Vz_ at h
    rw[List.any_cons,Bool.or_eq_false_iff] at h
    unfold updG
    rw[h.1,if_neg (by simp),ih h.2];rfl
  have hh':Vz_ r.id m=false:=by simpa using hh
  rw[hf m hh']
  constructor
  ·rw[List.map_append,List.map_append,h.1];rfl
  ·rw[List.map_append,List.nodup_append]
   refine⟨h.2,by simp,fun a ha b hb=> ?_⟩
   rw[List.map_singleton,List.mem_singleton] at hb
   subst hb
   intro e
   subst e
   obtain⟨p,hp,e⟩:=List.mem_map.1 ha
   unfold Vz_ at hh'
   rw[List.any_eq_false] at hh'
   exact hh' p hp (by rw[e];exact beq_self_eq_true _)
theorem Z1_ (k:Nat): ∀ (l:List RwL) (m:MpL),(m.map (fun p=>p.2.id)=m.map Prod.fst∧(m.map Prod.fst).Nodup)→(jR_ k m l).map (fun p=>p.2.id)=(jR_ k m l).map Prod.fst∧((jR_ k m l).map Prod.fst).Nodup
 | [],_,h=>h
 |r::l,m,h=>Z1_ k l (vp_ k m r) (afL_ k m r h)
theorem ZM_ (ls:List (List UInt8×List RwL)): ∀n,(qD_ ls n).map (fun p=>p.2.id)=(qD_ ls n).map Prod.fst∧((qD_ ls n).map Prod.fst).Nodup
 |0=>⟨rfl,List.nodup_nil⟩
 |n+1=>Z1_ n _ _ (ZM_ ls n)
theorem W6_ {α:Type} {key:α→List UInt8} (k:List UInt8): ∀ (a:List α),(a.map key).Nodup→(StP.of key k a).length≤1
 | [],_=>by simp[StP.of]
 |x::r,h=>by
  rw[List.map_cons,List.nodup_cons] at h
  have ih:=W6_ k r h.2
  unfold StP.of at ih ⊢
  rw[List.filter_cons]
  cases hx: (key x==k) with
  |false=>rw[if_neg (by simp)];exact ih
  |true=>
   rw[if_pos rfl,List.filter_eq_nil_iff.2 fun y hy he=>h.1 (List.mem_map.2 ⟨y,hy,by rw[beq_iff_eq] at hx he;rw[hx,he]⟩)]
   exact Nat.le_refl _
theorem abY_ {α:Type} {key:α→List UInt8} {a b:List α} (hp:a.Perm b) (ha:StP.Sorted key a) (hb:StP.Sorted key b) (hd: (a.map key).Nodup):a=b:=by
 refine StP.St.eq ha hb fun k=> ?_
 have h1: (StP.of key k a).Perm (StP.of key k b):=hp.filter _
 have h2: (StP.of key k a).length≤1:=W6_ k a hd
 match h3:StP.of key k a,h1,h2 with
 | [],h1,_=>exact(List.nil_perm.1 h1)
 | [x],h1,_=>exact(List.singleton_perm.1 h1).symm▸rfl
 |_::_::_,_,h2=>exact absurd h2 (by simp)
theorem aiG_ {ls:List (List UInt8×List RwL)} {n:Nat} {L L':List LnL} (h:wm_ ((qD_ ls n).map Prod.snd) L) (h':wm_ ((qD_ ls n).map Prod.snd) L'):L=L':=by
 refine abY_ (key:=fun r:LnL=>r.id.l) (h.1.trans h'.1.symm) h.2 h'.2 ?_
 have h1:=ZM_ ls n
 have h2: ((qD_ ls n).map Prod.snd).map (fun r:LnL=>r.id.l)=((qD_ ls n).map Prod.fst).map IdL.l:=by
  rw[←h1.1,List.map_map,List.map_map];rfl
 refine((h.1.map (fun r:LnL=>r.id.l)).nodup_iff).2 ?_
 rw[h2]
 exact List.Pairwise.map _ (fun a b hab e=>hab (ajL_ e)) h1.2
theorem cmpS_lt {x y:List UInt8}:cmpS x y<0↔ltB x y=true:=by
 unfold cmpS
 cases h1:ltB x y<;>cases h2:ltB y x<;>simp
end Go.Proofs
end
section
open Go Go.Proofs Go.Sx Go.StP Go.Flo
namespace Go.Proofs
set_option maxRecDepth 10000
set_option maxHeartbeats 1000000
set_option linter.unusedSimpArgs false
def rotS (l:List ShL) (m:Nat):List ShL:=l.drop m++l.take m
structure MoG where
 j:Nat
 v:Value
 D1:zc_
 DG:zc_
set_option linter.defProp false
def apL_:=And.intro (And.intro (@zf_) (And.intro (@ze_) (@qJ_))) (And.intro (And.intro (@wE_) (@kJ_)) (And.intro (@Sx.tup2_0) (@Sx.tup2_1)))
end Go.Proofs
end
namespace Go.Sx
open Go Go.ChangeShapes Go.WideShapes Go.RowKit
theorem Hp.same0 {W W':World} (h:Hp W [] W') {b:Nat} (hb:b<W.heap.size):W'.heap[b]? =W.heap[b]? :=h.old b hb (fun hm=>by cases hm)
theorem Hp.kept {W W':World} (h:Hp W [] W') (may:MemPlace→Prop):W.keptBut W' may:=by
 refine⟨h.os,h.output,fun i hi=> ?_⟩
 rw[h.same0 hi]
 cases ho:W.heap[i]? with
 |none=>rfl
 |some o=>
  cases o<;>first
   |exact⟨rfl,rfl,rfl,fun _ _=>rfl⟩
   |exact .inr ⟨rfl,rfl⟩
   |rfl
theorem Hp.sameAt {W W':World} (h:Hp W [] W') {p:MemPlace} (hp:p.block<W.heap.size):W.sameAt W' p:=by
 cases p with
 |cell b off=>
  have:=h.same0 (b:=b) hp
  simp only[World.sameAt,World.cell?,this]
 |map b=>exact h.same0 hp
theorem Hp.frozen {W W':World} (h:Hp W [] W') {a:Addr} (ha:a.block<W.heap.size):W'.frozen? a=W.frozen? a:=by
 simp only[World.frozen?,h.same0 ha]
section
variable {H:Type} {enc:TypeId×Value→H} {P:Program}
theorem wV_ (hl:laidOutB P=true) {W W':World} {sp:Nat→Bool} (hp:Hp W [] W'): ∀ {ts:List TypeId} {vs:List Value} {ds:List (DataW H)} {ps:List MemPlace},
  (∀t∈ts,P.readableRec t=true∧t<P.types.size)→(∀p∈ps,p.block<W.heap.size)→(∀p∈ps,sp p.block=true)→
  DataW.TrodAll enc P W 0 (fun _=>true) true ts vs ds ps→DataW.TrodAll enc P W' 0 sp true ts vs ds ps
 | [],_,_,_,_,_,_,h=>by
  obtain⟨rfl,rfl,rfl⟩:=trodAll_nil h
  exact trodAll_mk0
 |t::ts,_,_,_,ht,hlt,hs,h=>by
  obtain⟨v,vs,d,ds,p,q,rfl,rfl,rfl,h1,h2⟩:=trodAll_cons h
  have hlt1: ∀x∈p,x.block<W.heap.size:=fun x hx=>hlt x (List.mem_append_left _ hx)
  exact trodAll_cons_mk (WideElems.Trod_stays hl (ht t List.mem_cons_self).1 (ht t List.mem_cons_self).2 h1 (fun x hx=>hp.sameAt (hlt1 x hx)) (fun x hx=>hs x (List.mem_append_left _ hx)))
   (wV_ hl hp (fun u hu=>ht u (List.mem_cons_of_mem _ hu)) (fun x hx=>hlt x (List.mem_append_right _ hx)) (fun x hx=>hs x (List.mem_append_right _ hx)) h2)
theorem WI_ {f:Func} {s:ChangeSpec} {W W':World} {args:Array Value} {ds gs:List (DataW H)} {before:List MemPlace} {tb:TypeId} (hl:laidOutB P=true)
  (hW:DataW.Whole enc P f.params.toList s.vars false W args.toList ds gs before) (hv:s.vars= []) (hpar: ∀t∈f.params.toList,P.readableRec t=true∧t<P.types.size)
  (hr:f.resultTypes= #[tb]) (htb:P.underlying tb=some .bool) (hfn:s.fn H ds={results:= [.lit (.bool true)],args:=ds}) (hp:Hp W [] W'):
  s.post enc P f false true false false W args (.bool true) W':=by
 have hlt:=hW.lt
 have hW0:=hW
 obtain⟨p,q,hA,hV,rfl,hz,hn⟩:=hW
 rw[hv] at hV
 obtain⟨rfl,rfl⟩:=trodVars_none hV
 rw[List.append_nil] at hW0 hlt hz
 have hargs: ∀sp:Nat→Bool,(∀x∈p,sp x.block=true)→DataW.TrodAll enc P W' 0 sp true f.params.toList args.toList (s.fn H (ds++ [])).args p:=fun sp hs=>by
  rw[List.append_nil,hfn]
  exact wV_ hl hp hpar hlt hs hA
 have hvars: ∀sp:Nat→Bool,DataW.TrodVars enc P W' sp s.vars (s.fn H (ds++ [])).vars []:=fun sp=>by
  rw[List.append_nil,hfn,hv];rfl
 have hres: ∀ (b:Nat) (sp:Nat→Bool) (hd:Bool),DataW.TrodAll enc P W' b sp hd f.resultTypes.toList ((Value.bool true).resultList f.resultTypes.size) (s.fn H (ds++ [])).results []:=fun b sp hd=>by
  rw[List.append_nil,hfn,hr]
  exact trodAll_cons_mk (shut_bool htb true) trodAll_mk0
 have hold: ∀x∈p,(fun b=>decide (b<W.heap.size)) x.block=true:=fun x hx=>by simpa using hlt x hx
 refine⟨ds,[],p,[],p,[],hW0,hres _ _ _,hargs _ hold,hvars _,hp.kept _,fun _=> ?_⟩
 refine⟨ok_one hr rfl (okWide_bool_mk htb true),_,_,([]++p)++ [],⟨[]++p,[],trodAll_append (hargs _ (fun _ _=>rfl)) (hres _ _ _),hvars _,rfl, ?_,fun h=>by cases h⟩, ?_⟩
 ·intro b off hx
  have hx':MemPlace.cell b off∈p:=by simpa using hx
  rw[hp.frozen (hlt _ hx')]
  exact hz b off hx'
 ·intro x hx _
  simpa using hx
end
section
variable {P:Program} {W:World} {name:String} {k:IntKind} {zs:List Int}
theorem wJ_ {t e:TypeId} {g n:Nat} (hg:P.globalNamed name=some g) (hty: (P.globals[g]?).map (·.type)=some t) (ht:P.underlying t=some (.array n e)) (he:P.underlying e=some (.int k)) (hce:P.cellsOf e=1) (hct:P.cellsOf t=n):
  ∀ {laid:List (String×DataW Unit)} {ps:List MemPlace},DataW.LaidVars P W laid ps→(name,Lib.tabData k zs)∈laid→Lib.TabIs P W name k zs
 | [],_,_,hm=>by cases hm
 | (n',d')::rest,ps,h,hm=>by
  obtain⟨g',t',cs,fuel,p,q,hg',ht',hvar,hd,hr,-⟩:=h
  rcases List.mem_cons.1 hm with hm|hm
  ·cases hm
   obtain rfl:=Option.some.inj (hg.symm.trans hg')
   obtain rfl:=Option.some.inj (hty.symm.trans ht')
   unfold Lib.TabIs
   rw[hvar,←Lib.cells_of_tab ht he hce hct hd]
  ·exact wJ_ hg hty ht he hce hct hr hm
theorem Jh_ {g:Nat} (hg:P.globalNamed name=some g) (h:Lib.TabIs P W name k zs): ∃e f,W.heap[g]? =some (.cells (zs.map fun z=>Value.int k z).toArray e f):=by
 unfold Lib.TabIs at h
 simp only[World.var?,hg,Option.bind_some] at h
 split at h
 ·rename_i cs e f hb
  cases h
  exact⟨e,f,hb⟩
 ·cases h
end
section
variable {H:Type} {enc:TypeId×Value→H} {P:Program}
end
end Go.Sx
namespace Go.Sx
open Go
section
variable {P:Program}
theorem ajv_ {fits:TypeId→Bool} {d:Nat} {e:TypeId} {count off n:Nat} (h:rowAt P fits d e count off n=true):off≤count*P.cellsOf e:=by
 cases d with
 |zero=>simp[rowAt] at h
 |succ d=>
  unfold rowAt at h
  simp only at h
  split at h
  ·cases h
  ·rename_i hs
   have hs':0<P.cellsOf e:=Nat.pos_of_ne_zero hs
   have hd:=Nat.div_add_mod off (P.cellsOf e)
   have hm:=Nat.mod_lt off hs'
   rw[Bool.or_eq_true] at h
   rcases h with h|h
   ·simp only[Bool.and_eq_true,beq_iff_eq,decide_eq_true_eq] at h
    have:off / P.cellsOf e*P.cellsOf e≤count*P.cellsOf e:=Nat.mul_le_mul_right _ (by omega)
    rw[Nat.mul_comm (P.cellsOf e)] at hd
    omega
   ·simp only[Bool.and_eq_true,decide_eq_true_eq] at h
    have: (off / P.cellsOf e+1)*P.cellsOf e≤count*P.cellsOf e:=Nat.mul_le_mul_right _ (by omega)
    rw[Nat.add_mul,Nat.one_mul] at this
    rw[Nat.mul_comm (P.cellsOf e)] at hd
    omega
theorem Ws_ {e:TypeId} {count off:Nat}: ∀ {d:Nat} {u:TypeId} {n:Nat},liesAt P d e count off u n=true→off≤count*P.cellsOf e
 |0,u,n,h=>by simp[liesAt] at h
 |d+1,u,n,h=>by
  unfold liesAt at h
  rw[Bool.or_eq_true] at h
  rcases h with h|h
  ·exact ajv_ h
  ·split at h
   ·exact Ws_ h
   ·cases h
theorem alX_ {W:World} {r:Reach} {base:Nat} {a:Addr} {e:TypeId} {n:Nat} (h:W.has P r base a e n):a.spot=none∧ ∃arr E fz,W.heap[a.block]? =some (.cells arr E fz)∧a.off≤arr.size:=by
 obtain⟨-,hs,row,cells,hsh,hl⟩:=h
 refine⟨hs, ?_⟩
 unfold World.shape? at hsh
 split at hsh
 ·rename_i c el fz hh
  cases hsh
  refine⟨c,_,fz,hh,Nat.le_trans (Ws_ hl) ?_⟩
  exact Nat.div_mul_le_self _ _
 ·cases hsh
theorem Wu_ {W:World} {r:Reach} {base:Nat} {t e:TypeId} {v:Value} (ht:P.underlying t=some (.slice e)) (h:Value.okWide P W r base t v):
  v= .slice none 0 0∨ ∃b off len cap arr E fz,v=vsl b off len cap∧len≤cap∧W.heap[b]? =some (.cells arr E fz)∧off≤arr.size:=by
 obtain⟨a,len,cap,rfl⟩:=Go.WideShapes.okWide_slice ht h
 unfold Value.okWide at h
 rw[ht] at h
 unfold Cell.okWide at h
 rw[ht] at h
 simp only at h
 unfold Cell.ok at h
 rw[ht] at h
 cases a with
 |none=>
  left
  simp only at h
  split at h
  all_goals first| (cases h;done) |simp_all
 |some a=>
  right
  simp only at h
  obtain⟨hle,-,hh⟩:=h
  obtain⟨hs,arr,E,fz,hb,ho⟩:=alX_ hh
  obtain⟨b,off,sp⟩:=a
  simp only at hs
  subst hs
  exact⟨b,off,len,cap,arr,E,fz,rfl,hle,hb,ho⟩
theorem ajN_ {α:Type} {enc:α→List Value} {z:α} {m:Nat} {W:World} {base b off c:Nat} {l:List α} {arr:Array Value} {E:TypeId} {fz:Nat×Nat} (hm0:0<m) (hm: ∀x,(enc x).length=m)
  (hcells: ∀i,i<l.length→W.cells? base ((Addr.mk b off none).add (i*m)) m=some (enc (l.getD i z))) (hheap:W.heap[b]? =some (.cells arr E fz)) (hoff:off≤arr.size) (hc:l.length≤c):SlV m enc z W (vsl b off l.length c) l:=by
 have get: ∀k,k<l.length→ ∀j,j<m→arr[off+k*m+j]? =(enc (l.getD k z))[j]? :=by
  intro k hk j hj
  obtain⟨-,hl,hg⟩:=World.cells?_some (hcells k hk)
  have:=hg j (by omega)
  rw[q4_,q4_] at this
  simp only[World.cell?,hheap,Option.isSome_none,Bool.false_eq_true,if_false] at this
  exact this
 refine SlV.sl hheap get hc ?_
 by_cases h0:l.length=0
 ·rw[h0];omega
 ·have h1:=get (l.length - 1) (by omega) (m - 1) (by omega)
  rw[List.getElem?_eq_getElem (by rw[hm];omega)] at h1
  have h2:=(Array.getElem?_eq_some_iff.1 h1).1
  have h3: (l.length - 1)*m+m=l.length*m:=by
   rw[←Nat.succ_mul];congr 1;omega
  omega
theorem ajg_ {H:Type} {tell:TypeId×Value→H} {α:Type} {enc:α→List Value} {z:α} {m:Nat} {W:World} {r:Reach} {base b0:Nat} {sp:Nat→Bool} {held:Bool} {fuel:Nat} {t e:TypeId} {v:Value} {x:DataW H×List MemPlace}
  (ht:P.underlying t=some (.slice e)) (he:P.cellsOf e=m) (hm0:0<m) (hm: ∀x,(enc x).length=m) (hval:Value.okWide P W r b0 t v)
  (hdec: ∀n cs y,DataW.trod tell P W base sp held n e cs=some y→ ∃a,cs=enc a) (hd:DataW.trod tell P W base sp held fuel t [v]=some x): ∃l,SlV m enc z W v l:=by
 rcases DataW.trod_slice ht hd with⟨hcs,-⟩ | ⟨a,len,cap,elems,rest,n,-,hcs,-,-,hl,-,hlen,hel,-,-⟩
 ·simp only[List.cons.injEq,and_true] at hcs
  subst hcs
  exact⟨[],SlV.nil W⟩
 ·simp only[List.cons.injEq,and_true] at hcs
  subst hcs
  rcases Wu_ ht hval with h0| ⟨b,off,len',cap',arr,E,fz,h1,-,hb,ho⟩
  ·cases h0
  ·unfold vsl at h1
   cases h1
   rw[he] at hel
   have hex: ∀i,i<len→ ∃q,W.cells? base ((Addr.mk b off none).add (i*m)) m=some (enc q):=by
    intro i hi
    have h2:=hel i hi
    rw[List.getElem?_eq_getElem (by omega)] at h2
    cases hc:W.cells? base ((Addr.mk b off none).add (i*m)) m with
    |none=>rw[hc] at h2;cases h2
    |some cs=>
     rw[hc] at h2
     obtain⟨q,rfl⟩:=hdec _ _ _ h2
     exact⟨q,rfl⟩
   obtain⟨f,hf⟩: ∃f:Nat→α,∀i,i<len→W.cells? base ((Addr.mk b off none).add (i*m)) m=some (enc (f i)):=by
    classical
    refine⟨fun i=>if h:i<len then Classical.choose (hex i h) else z,fun i hi=> ?_⟩
    simp only[dif_pos hi]
    exact Classical.choose_spec (hex i hi)
   have hll: ((List.range len).map f).length=len:=by simp
   refine⟨(List.range len).map f, ?_⟩
   have:=ajN_ (W:=W) (base:=base) (b:=b) (off:=off) (c:=cap) (l:=(List.range len).map f) (z:=z) hm0 hm (fun i hi=>by
    rw[hll] at hi
    rw[hf i hi]
    congr 2
    rw[List.getD_eq_getElem?_getD,List.getElem?_map,List.getElem?_range hi];rfl) hb ho (by rw[hll];exact hl)
   rw[hll] at this
   exact this
end
end Go.Sx
section
open Go Go.Proofs Go.Sx Go.StP Go.Flo
open Go.ChangeShapes Go.WideShapes Go.ChangeAt Go.RowKit Go.ChangeMaps
namespace Go.Proofs
set_option maxRecDepth 10000
set_option maxHeartbeats 1000000
set_option linter.unusedSimpArgs false
theorem aiz_ {H:Type} {tell:TypeId×Value→H} {α:Type} {enc:α→List Value} {z:α} {m:Nat} {W:World} {r:Reach} {base b0:Nat} {sp:Nat→Bool} {held:Bool} {fuel:Nat} {t e:TypeId} {v:Value} {x:DataW H×List MemPlace} {R:α→DataW H→Prop}
  (ht: (Tryz.prog).underlying t=some (.slice e)) (he: (Tryz.prog).cellsOf e=m) (hm0:0<m) (hm: ∀x,(enc x).length=m) (hval:Value.okWide Tryz.prog W r b0 t v)
  (hdec: ∀n cs y,DataW.trod tell Tryz.prog W base sp held n e cs=some y→ ∃a,cs=enc a∧R a y.1) (hd:DataW.trod tell Tryz.prog W base sp held fuel t [v]=some x):
  ∃l,SlV m enc z W v l∧(l= []∨ ∃es sp',x.1= .slice es sp'∧ ∀i,i<l.length→ ∃d,d∈es∧R (l.getD i z) d):=by
 rcases DataW.trod_slice ht hd with⟨hcs,-⟩ | ⟨a,len,cap,elems,rest,n,-,hcs,hx,-,hl,-,hlen,hel,-,-⟩
 ·simp only[List.cons.injEq,and_true] at hcs
  subst hcs
  exact⟨[],SlV.nil W, .inl rfl⟩
 ·simp only[List.cons.injEq,and_true] at hcs
  subst hcs
  rcases Wu_ ht hval with h0| ⟨b,off,len',cap',arr,E,fz,h1,-,hb,ho⟩
  ·cases h0
  ·unfold vsl at h1
   cases h1
   rw[he] at hel
   have hex: ∀i,i<len→ ∃q,W.cells? base ((Addr.mk b off none).add (i*m)) m=some (enc q)∧ ∃d,d∈elems.map (·.1)∧R q d:=by
    intro i hi
    have h2:=hel i hi
    rw[List.getElem?_eq_getElem (by omega)] at h2
    cases hc:W.cells? base ((Addr.mk b off none).add (i*m)) m with
    |none=>rw[hc] at h2;cases h2
    |some cs=>
     rw[hc] at h2
     obtain⟨q,rfl,hR⟩:=hdec _ _ _ h2
     exact⟨q,rfl,_,List.mem_map_of_mem (List.getElem_mem (by omega)),hR⟩
   obtain⟨f,hf⟩: ∃f:Nat→α,∀i,i<len→W.cells? base ((Addr.mk b off none).add (i*m)) m=some (enc (f i))∧ ∃d,d∈elems.map (·.1)∧R (f i) d:=by
    classical
    refine⟨fun i=>if h:i<len then Classical.choose (hex i h) else z,fun i hi=> ?_⟩
    simp only[dif_pos hi]
    exact Classical.choose_spec (hex i hi)
   have hll: ((List.range len).map f).length=len:=by simp
   have hgd: ∀i,i<len→((List.range len).map f).getD i z=f i:=fun i hi=>by
    rw[List.getD_eq_getElem?_getD,List.getElem?_map,List.getElem?_range hi];rfl
   refine⟨(List.range len).map f, ?_, .inr ⟨_,_,by rw[hx],fun i hi=> ?_⟩⟩
   ·have:=ajN_ (W:=W) (base:=base) (b:=b) (off:=off) (c:=cap) (l:=(List.range len).map f) (z:=z) hm0 hm (fun i hi=>by
     rw[hll] at hi
     rw[(hf i hi).1,hgd i hi]) hb ho (by rw[hll];exact hl)
    rw[hll] at this
    exact this
   ·rw[hll] at hi
    rw[hgd i hi]
    exact(hf i hi).2
theorem akT_ {H:Type} {tell:TypeId×Value→H} {W:World} {base:Nat} {sp:Nat→Bool} {held:Bool} (n:Nat) (cs:List Value) (y:DataW H×List MemPlace)
  (h:DataW.trod tell Tryz.prog W base sp held n 135 cs=some y): ∃a:ShL,cs=shC a∧y.1= .agg [.lit (.string a.name), .lit (.string a.bytes)]:=by
 obtain⟨y0,y1,n',hy,hlen,h0,h1⟩:=ChangeShapes.trod_struct2 Tryz.underlying135 h
 have hc: (Tryz.prog).cellsOf 135=2:=by kernel_rfl
 have hc0: (Tryz.prog).cellsOf 9=1:=by kernel_rfl
 simp only at h0 h1
 rw[hc0,List.drop_zero] at h0
 rw[hc0] at h1
 rw[hc] at hlen
 obtain⟨s,hs,hys,-⟩:=DataW.trod_string Tryz.underlying9 h0
 obtain⟨u,hu,hyu,-⟩:=DataW.trod_string Tryz.underlying9 h1
 refine⟨⟨s.data.toList,u.data.toList⟩, ?_,by rw[hy,hys,hyu]⟩
 have hd:cs=cs.take 1++ (cs.drop 1).take 1:=by
  rw[show(cs.drop 1).take 1=cs.drop 1 from List.take_of_length_le (by rw[List.length_drop];omega),List.take_append_drop]
 rw[hd,hs,hu]
 rfl
theorem W9_ {H:Type} {enc:TypeId×Value→H} {W:World} {r:Reach} {b0 base:Nat} {sp:Nat→Bool} {held:Bool} {v:Value} {d:DataW H} {p:List MemPlace}
  (hval:Value.okWide Tryz.prog W r b0 65 v) (hd:DataW.Trod enc Tryz.prog W base sp held 65 v d p):
  ∃l,ShSl W v l∧(l= []∨ ∃es sp',d= .slice es sp'∧ ∀i,i<l.length→ ∃e,e∈es∧e= .agg [.lit (.string (l.getD i sh0).name), .lit (.string (l.getD i sh0).bytes)]):=by
 obtain⟨a0,len,cap,rfl⟩:=WideShapes.okWide_slice Tryz.underlying65 hval
 obtain⟨fu,hf⟩:=hd
 exact aiz_ (z:=sh0) (R:=fun a e=>e= .agg [.lit (.string a.name), .lit (.string a.bytes)]) Tryz.underlying65 (by kernel_rfl) (by decide) zF_ hval akT_ hf
end Go.Proofs
end
section
open Go Go.Proofs Go.Sx Go.StP Go.Flo
namespace Go.Proofs
set_option maxRecDepth 10000
set_option maxHeartbeats 400000
set_option linter.unusedSimpArgs false
structure SvG where
 k:Nat
 out:List ObL
 v6:Value
 D6:zc_
 DG:zc_
set_option linter.defProp false
def ap9_:=And.intro (And.intro (And.intro (@zf_) (@ze_)) (And.intro (@Sx.tup2_0) (@Sx.tup2_1))) (And.intro (And.intro (@qZ_) (@qs_)) (And.intro (@qo_) (@qC_)))
end Go.Proofs
end
section
open Go Go.Proofs Go.Sx Go.StP Go.Flo
namespace Go.Proofs
set_option maxRecDepth 10000
set_option maxHeartbeats 400000
set_option linter.unusedSimpArgs false
def alA_:Nat→List PartL→Nat→Nat
 |_,[],_=>0
 |i,p::r,j=>if(ac0_ i p).length≤j then alA_ (i+1) r (j - (ac0_ i p).length)+1 else 0
def endG (a i:Nat) (l:List PartL) (k:Nat):Nat:=a+ (af7_ i (l.take (k+1))).length
end Go.Proofs
end
section
open Go Go.Proofs Go.Sx Go.StP Go.Flo
namespace Go.Proofs
set_option maxRecDepth 10000
set_option maxHeartbeats 400000
set_option linter.unusedSimpArgs false
def sumX (l:List PartL):Nat:=(l.map fun p=>p.x.length).sum
def sumW (l:List PartL):Nat→Int
 |0=>0
 |k+1=>IntKind.i64.wrap (sumW l k+ (l.getD k ZD_).x.length)
def aoU_ (l:List PartL):Bool:=decide (210<l.length) || (List.range l.length).any fun k=>decide (30000<sumW l (k+1))
set_option linter.defProp false
def apX_:=And.intro (And.intro (@zf_) (And.intro (@ze_) (@jk_))) (And.intro (And.intro (@jj_) (@jf_)) (And.intro (@wf_) (@ald_)))
end Go.Proofs
end
section
open Go Go.Proofs Go.Sx Go.StP Go.Flo
namespace Go.Proofs
set_option maxRecDepth 10000
set_option maxHeartbeats 400000
set_option linter.unusedSimpArgs false
def abS:List UInt8:= [98,2,97,98]
def abP:PartL:=⟨false,0,abS⟩
theorem anC_ (k k':Int) (t t':List UInt8):qE_ Tryz.prog .eql 177 (obV k t) (obV k' t')=some (.bool (decide ((⟨k,t⟩:ObL)=⟨k',t'⟩))):=amX_ ⟨k,t⟩ ⟨k',t'⟩
set_option linter.defProp false
def aqS_:=And.intro (And.intro (And.intro (@zf_) (@ze_)) (And.intro (@Sx.tup2_0) (And.intro (@Sx.tup2_1) (@qZ_)))) (And.intro (And.intro (@qs_) (@qo_)) (And.intro (@qC_) (And.intro (@anC_) (@qR_))))
end Go.Proofs
end
section
open Go Go.Proofs Go.Sx Go.StP Go.Flo
namespace Go.Proofs
set_option maxRecDepth 10000
set_option maxHeartbeats 400000
set_option linter.unusedSimpArgs false
set_option linter.defProp false
def apB_:=And.intro (And.intro (@zf_) (@ze_)) (And.intro (@Sx.tup2_0) (@Sx.tup2_1))
end Go.Proofs
end
section
open Go Go.Proofs Go.Sx Go.StP Go.Flo
namespace Go.Proofs
set_option maxRecDepth 10000
set_option maxHeartbeats 400000
set_option linter.unusedSimpArgs false
def alD_ (sp:List Nat) (ids:List IdL):List RwL:=(List.range ids.length).map fun i=>⟨ids.getD i id0,(i:Int),(sp.getD i 0:Nat)⟩
def aqN_ (b:List UInt8) (v:Value):Prop:=match akI_ b with
 |none=>v= .tuple #[vs [],vi 2]
 |some q=> ∃Z,rws_SortOf (alD_ q.2.1 q.2.2.1) Z∧v= .tuple #[vs (vE_ (b.drop (b.length - 4)) Z).1,vi (vE_ (b.drop (b.length - 4)) Z).2]
structure MkG where
 k:Nat
 v:Value
 D:zc_
set_option linter.defProp false
def aqK_:=And.intro (And.intro (@zf_) (@ze_)) (And.intro (@Sx.tup2_0) (@Sx.tup2_1))
end Go.Proofs
end
section
open Go Go.Proofs Go.Sx Go.StP Go.Flo Go.Dig
namespace Go.Proofs
set_option maxRecDepth 10000
set_option maxHeartbeats 400000
set_option linter.unusedSimpArgs false
def aiR:RwL:=⟨idOf abS,0,5⟩
set_option linter.defProp false
def aqr_:=And.intro (And.intro (@zf_) (@ze_)) (And.intro (@Sx.tup2_0) (And.intro (@Sx.tup2_1) (@qR_)))
end Go.Proofs
end
section
open Go Go.Proofs Go.Sx Go.StP Go.Flo Go.Dig
namespace Go.Proofs
set_option maxRecDepth 10000
set_option maxHeartbeats 1000000
set_option linter.unusedSimpArgs false
structure IbG where
 k:Nat
 DG:zc_
set_option linter.defProp false
def aqq_:=And.intro (And.intro (And.intro (@zf_) (@ze_)) (And.intro (@Sx.tup2_0) (@Sx.tup2_1))) (And.intro (And.intro (@qB_) (@xk_)) (And.intro (@xF_) (@q1_)))
end Go.Proofs
end
section
open Go Go.Proofs Go.Sx Go.StP Go.Flo
namespace Go.Proofs
set_option maxRecDepth 10000
set_option maxHeartbeats 400000
set_option linter.unusedSimpArgs false
set_option linter.defProp false
def apQ_:=And.intro (@zf_) (And.intro (@ze_) (@WR_))
def cpR (p:PcL) (b:Int):Value:=match cpV p b with
 |some q=> .tuple #[vi q.1,vi q.2, .bool true]
 |none=>if(1≤p.n∧p.n≤4099)∧p.x= []∧(p.n:Int)≤b then .tuple #[vi 0,vi p.n, .bool false] else .tuple #[vi 0,vi 0, .bool false]
set_option linter.defProp false
def aqL_:=And.intro (And.intro (And.intro (And.intro (@zf_) (@ze_)) (And.intro (@j8_) (@j5_))) (And.intro (And.intro (@ks_) (@j9_)) (And.intro (@J3_) (@cxz)))) (And.intro (And.intro (And.intro (@Vq_) (@KB_)) (And.intro (@xV_) (@Sx.tup2_0))) (And.intro (And.intro (@Sx.tup2_1) (@Sx.tup3_0)) (And.intro (@Sx.tup3_1) (@Sx.tup3_2))))
end Go.Proofs
end
section
open Go Go.Proofs Go.Sx Go.StP Go.Flo
namespace Go.Proofs
set_option maxRecDepth 10000
set_option maxHeartbeats 400000
set_option linter.unusedSimpArgs false
set_option linter.defProp false
def apk_:=And.intro (And.intro (And.intro (And.intro (@zf_) (@ze_)) (And.intro (@j8_) (@j5_))) (And.intro (And.intro (@ks_) (@j9_)) (And.intro (@J3_) (@cxz)))) (And.intro (And.intro (And.intro (@Vq_) (@KB_)) (And.intro (@xV_) (@Sx.tup2_0))) (And.intro (And.intro (@Sx.tup2_1) (@Sx.tup3_0)) (And.intro (@Sx.tup3_1) (@Sx.tup3_2))))
end Go.Proofs
end
section
open Go Go.Proofs Go.Sx Go.StP Go.Flo
namespace Go.Proofs
set_option maxRecDepth 10000
set_option maxHeartbeats 400000
set_option linter.unusedSimpArgs false
set_option linter.defProp false
def aqP_:=And.intro (And.intro (And.intro (@zf_) (@ze_)) (And.intro (@j8_) (And.intro (@j5_) (@ks_)))) (And.intro (And.intro (@j9_) (And.intro (@Sx.tup2_0) (@Sx.tup2_1))) (And.intro (@Sx.tup3_0) (And.intro (@Sx.tup3_1) (@Sx.tup3_2))))
end Go.Proofs
end
section
open Go Go.Proofs Go.Sx Go.StP Go.Flo
namespace Go.Proofs
set_option maxRecDepth 10000
set_option maxHeartbeats 400000
set_option linter.unusedSimpArgs false
set_option linter.defProp false
def aqQ_:=And.intro (And.intro (And.intro (@zf_) (@ze_)) (And.intro (@j8_) (And.intro (@j5_) (@ks_)))) (And.intro (And.intro (@j9_) (And.intro (@Sx.tup2_0) (@Sx.tup2_1))) (And.intro (@Sx.tup3_0) (And.intro (@Sx.tup3_1) (@Sx.tup3_2))))
end Go.Proofs
end
section
open Go Go.Proofs Go.Sx Go.StP Go.Flo
namespace Go.Proofs
set_option maxRecDepth 10000
set_option maxHeartbeats 400000
set_option linter.unusedSimpArgs false
def rrO (s:List UInt8) (a:Nat) (e:Int):Obj:= .cells #[vs s,vi a,vi e] 166 (0,0)
theorem acS_ (s:List UInt8) (a:Nat) (e:Int) (n:Nat):zp_ (some (false,n)) (some (rrO s a e)) 0=some (vs s):=(rfl)
theorem acJ_ (s:List UInt8) (a:Nat) (e:Int) (n:Nat):zp_ (some (false,n)) (some (rrO s a e)) 1=some (vi a):=(rfl)
theorem adb_ (s:List UInt8) (a:Nat) (e:Int) (n:Nat):zp_ (some (false,n)) (some (rrO s a e)) 2=some (vi e):=(rfl)
theorem W0_ (b:Nat) (s:List UInt8) (a:Nat) (e n:Int) (w:World) (ha:a≤s.length) (hs:s.length<1099511627776) (ho:w.heap[b]? =some (rrO s a e)):
  Rets Tryz.prog 96 #[vp b 0,vi n] w (fun v D=> ∃o,D= [(b,o)]∧v=vs (qw_ s a e n).1∧o=rrO s (qw_ s a e n).2.1 (qw_ s a e n).2.2):=wM_ b s a e n w ha hs ho
theorem z0_ (b:Nat) (s:List UInt8) (a:Nat) (e most:Int) (w:World) (ha:a≤s.length) (hs:s.length<1099511627776) (ho:w.heap[b]? =some (rrO s a e)):
  Rets Tryz.prog 94 #[vp b 0,vi most] w (fun v D=> ∃o,D= [(b,o)]∧v=vi (zx_ s a e most).1∧o=rrO s (zx_ s a e most).2.1 (zx_ s a e most).2.2):=wy_ b s a e most w ha hs ho
theorem zrRR:zZ_ Tryz.prog 166=some (.agg #[vs [],vi 0,vi 0]):=id (by kernel_rfl)
structure RrG where
 a:Nat
 e:Int
 out:List PcL
 v:Value
 D:zc_
 DG:zc_
def RrJ (d:List UInt8) (a0:Nat) (e0:Int) (sz:Nat) (g:RrG):Prop:=
 New sz g.D∧New sz g.DG∧Gr g.D 319 2 g.v g.out.length (g.out.map pcC).flatten∧g.a≤d.length∧BndP g.out∧g.out.length≤g.a+1∧(g.e=0→g.out.length≤g.a)∧
  ((e0≠0∧g.e≠0)∨(e0=0∧((g.e=0∧pcs d a0=(g.out++ (pcs d g.a).1,(pcs d g.a).2))∨(g.e≠0∧pcs d a0=(g.out,g.a,g.e)))))
def aoF_ (d:List UInt8) (v:Value) (D:zc_):Prop:=match aau_ d with
 |some p=> ∃x,v= .tuple #[vi p.1,x, .bool true]∧BndP p.2∧p.2.length≤4099∧p.1≤4099∧GrI D 319 2 x p.2.length (p.2.map pcC).flatten
 |none=>v= .tuple #[vi 0, .slice none 0 0, .bool false]
set_option linter.defProp false
def aqu_:=And.intro (And.intro (And.intro (@zf_) (And.intro (@ze_) (@acS_))) (And.intro (And.intro (@acJ_) (@adb_)) (And.intro (@j8_) (@j5_)))) (And.intro (And.intro (And.intro (@ks_) (@j9_)) (And.intro (@Sx.tup2_0) (@Sx.tup2_1))) (And.intro (And.intro (@Sx.tup3_0) (@Sx.tup3_1)) (And.intro (@Sx.tup3_2) (@xV_))))
end Go.Proofs
end
section
open Go Go.Proofs Go.Sx Go.StP Go.Flo
namespace Go.Proofs
set_option maxRecDepth 10000
set_option maxHeartbeats 400000
set_option linter.unusedSimpArgs false
set_option linter.defProp false
def aq6_:=And.intro (And.intro (And.intro (@zf_) (@ze_)) (And.intro (@j8_) (And.intro (@j5_) (@ks_)))) (And.intro (And.intro (@j9_) (And.intro (@Sx.tup2_0) (@Sx.tup2_1))) (And.intro (@Sx.tup3_0) (And.intro (@Sx.tup3_1) (@Sx.tup3_2))))
structure PrG where
 at_:Nat
 out:List Nat
 v:Value
 D:zc_
 DG:zc_
set_option linter.defProp false
def aqE_:=And.intro (And.intro (And.intro (@zf_) (@ze_)) (And.intro (@jk_) (@jj_))) (And.intro (And.intro (@jf_) (@qR_)) (And.intro (@Sx.tup2_0) (@Sx.tup2_1)))
end Go.Proofs
end
section
open Go Go.Proofs Go.Sx Go.StP Go.Flo
namespace Go.Proofs
set_option maxRecDepth 10000
set_option maxHeartbeats 400000
set_option linter.unusedSimpArgs false
def BndD (l:List PartL):Prop:= ∀g,g<l.length→(l.getD g ZD_).x.length<100000000
structure TrG where
 n:Nat
 s:List UInt8
 DG:zc_
set_option linter.defProp false
def apV_:=And.intro (And.intro (And.intro (@zf_) (@ze_)) (And.intro (@jk_) (@jj_))) (And.intro (And.intro (@jf_) (@qR_)) (And.intro (@Sx.tup2_0) (@Sx.tup2_1)))
end Go.Proofs
end
section
open Go Go.Proofs Go.Sx Go.StP Go.Flo
namespace Go.Proofs
set_option maxRecDepth 10000
set_option maxHeartbeats 400000
set_option linter.unusedSimpArgs false
structure A9G where
 ts:List (List UInt8)
 v:Value
 D:zc_
 DG:zc_
set_option linter.defProp false
def aqd_:=And.intro (And.intro (@zf_) (@ze_)) (And.intro (@Sx.tup2_0) (@Sx.tup2_1))
end Go.Proofs
end
section
open Go Go.Proofs Go.Sx Go.StP Go.Flo
namespace Go.Proofs
set_option maxRecDepth 10000
set_option maxHeartbeats 400000
set_option linter.unusedSimpArgs false
set_option linter.defProp false
def aqA_:=And.intro (And.intro (@zf_) (@ze_)) (And.intro (@qY_) (@aaU_))
end Go.Proofs
end
section
open Go Go.Proofs Go.Sx Go.StP Go.Flo
namespace Go.Proofs
set_option maxRecDepth 10000
set_option maxHeartbeats 1000000
set_option linter.unusedSimpArgs false
def mkV (v0 v1 v2 v3:Value):Value:= .agg #[v0,v1,v2,v3]
abbrev OneC (q:Value):Prop:=Value.oneCell' q=true∧q.cells= #[q]
def OfS (l:List PartL) (v0:Value) (v:Value) (D:zc_):Prop:=match fillV l with
 |some p=> ∃x2 x3,v= .tuple #[mkV v0 (.slice none 0 0) x3 x2, .bool true]∧GrI D 86 32 x2 p.1.length (p.1.map idLC).flatten∧GrI D 177 2 x3 p.2.length (p.2.map obC).flatten
 |none=> ∃x2 x3,v= .tuple #[mkV v0 (.slice none 0 0) x3 x2, .bool false]∧OneC x2∧OneC x3
set_option linter.defProp false
def apZ_:=And.intro (And.intro (And.intro (@zf_) (@ze_)) (And.intro (@Sx.tup2_0) (@Sx.tup2_1))) (And.intro (And.intro (@qZ_) (@qs_)) (And.intro (@qo_) (And.intro (@qC_) (@qY_))))
end Go.Proofs
end
namespace Go.Sx
def kB (c:Bool):BitVec 32:=bif c then 3988292384#32 else 0#32
def stB (x:BitVec 32):BitVec 32:=(x>>>1)^^^kB (x.getLsbD 0)
theorem alC_ (c:Bool) (j:Nat) (h:j<5): (kB c).getLsbD j=false:=by
 have:j=0∨j=1∨j=2∨j=3∨j=4:=by omega
 rcases this with rfl|rfl|rfl|rfl|rfl<;>cases c<;>decide
theorem ZU_ (x:BitVec 32) (j:Nat) (h:j<5): (stB x).getLsbD j=x.getLsbD (j+1):=by
 unfold stB
 rw[BitVec.getLsbD_xor,alC_ _ _ h,BitVec.getLsbD_ushiftRight,Bool.xor_false,Nat.add_comm]
theorem stB4 (x:BitVec 32):stB (stB (stB (stB x)))=(x>>>4)^^^ (kB (x.getLsbD 0)>>>3^^^kB (x.getLsbD 1)>>>2^^^kB (x.getLsbD 2)>>>1^^^kB (x.getLsbD 3)):=by
 have h1: (stB x).getLsbD 0=x.getLsbD 1:=ZU_ x 0 (by omega)
 have h2: (stB (stB x)).getLsbD 0=x.getLsbD 2:=by rw[ZU_ _ 0 (by omega),ZU_ _ 1 (by omega)]
 have h3: (stB (stB (stB x))).getLsbD 0=x.getLsbD 3:=by rw[ZU_ _ 0 (by omega),ZU_ _ 1 (by omega),ZU_ _ 2 (by omega)]
 have e4:stB (stB (stB (stB x)))=(stB (stB (stB x))>>>1)^^^kB (x.getLsbD 3):=by rw[←h3];rfl
 have e3:stB (stB (stB x))=(stB (stB x)>>>1)^^^kB (x.getLsbD 2):=by rw[←h2];rfl
 have e2:stB (stB x)=(stB x>>>1)^^^kB (x.getLsbD 1):=by rw[←h1];rfl
 have e1:stB x=(x>>>1)^^^kB (x.getLsbD 0):=rfl
 rw[e4,e3,e2,e1]
 simp only[BitVec.ushiftRight_xor_distrib,←BitVec.shiftRight_add,BitVec.xor_assoc]
def hvB:List (BitVec 32):= [0x00000000,0x1db71064,0x3b6e20c8,0x26d930ac,0x76dc4190,0x6b6b51f4,0x4db26158,0x5005713c,0xedb88320,0xf00f9344,0xd6d6a3e8,0xcb61b38c,0x9b64c2b0,0x86d3d2d4,0xa00ae278,0xbdbdf21c]
theorem tabB: ∀a b c d:Bool,(kB a>>>3^^^kB b>>>2^^^kB c>>>1^^^kB d)=hvB.getD (a.toNat+2*b.toNat+4*c.toNat+8*d.toNat) 0:=by decide
theorem lowB (x:BitVec 32):x.toNat%16=(x.getLsbD 0).toNat+2* (x.getLsbD 1).toNat+4* (x.getLsbD 2).toNat+8* (x.getLsbD 3).toNat:=by
 have e: ∀i,(x.getLsbD i).toNat=x.toNat / 2^i%2:=by
  intro i
  rw[BitVec.getLsbD,Nat.testBit_eq_decide_div_mod_eq]
  have:=Nat.mod_lt (x.toNat / 2^i) (show 0<2 by omega)
  by_cases h:x.toNat / 2^i%2=1
  ·simp[h]
  ·have h0:x.toNat / 2^i%2=0:=by omega
   simp[h0]
 rw[e 0,e 1,e 2,e 3]
 omega
theorem anI_ (x:BitVec 32):stB (stB (stB (stB x)))=(x>>>4)^^^hvB.getD (x.toNat%16) 0:=by
 rw[stB4,tabB,lowB]
end Go.Sx
section
open Go Go.Proofs Go.Sx
namespace Go.Proofs
set_option maxRecDepth 10000
set_option maxHeartbeats 4000000
set_option linter.unusedSimpArgs false
def vC_ (n:UInt32):UInt32:=if n%2==1 then n / 2^^^3988292384 else n / 2
theorem KP_ (n:UInt32): (vC_ n).toBitVec=stB n.toBitVec:=by
 have hd: (n / 2).toBitVec=n.toBitVec>>>1:=by
  apply BitVec.eq_of_toNat_eq
  rw[UInt32.toBitVec_div,BitVec.toNat_udiv,BitVec.toNat_ushiftRight]
  rfl
 have hm: (n%2==1)=n.toBitVec.getLsbD 0:=by
  rw[BitVec.getLsbD,Nat.testBit_eq_decide_div_mod_eq,Nat.pow_zero,Nat.div_one,Bool.eq_iff_iff,beq_iff_eq,decide_eq_true_eq,←UInt32.toNat_inj,UInt32.toNat_mod]
  rfl
 unfold vC_ stB
 rw[hm]
 cases n.toBitVec.getLsbD 0
 ·rw[if_neg (by decide),hd];simp[kB]
 ·rw[if_pos rfl,UInt32.toBitVec_xor,hd];rfl
theorem We_ (n:UInt32):VU_ n=vC_ (vC_ (vC_ (vC_ n))):=by
 apply UInt32.toBitVec_inj.1
 rw[KP_,KP_,KP_,KP_,anI_]
 unfold VU_
 rw[UInt32.toBitVec_xor]
 congr 1
 ·apply BitVec.eq_of_toNat_eq
  unfold qc_
  rw[BitVec.toNat_ushiftRight,Nat.shiftRight_eq_div_pow]
  have:=n.toNat_lt
  simp only[UInt32.toNat_toBitVec,UInt32.toNat_ofNat']
  omega
 ·have e: (n&&&15).toNat=n.toBitVec.toNat%16:=by
   rw[UInt32.toNat_and,show(15:UInt32).toNat=2^4 - 1 from rfl,Nat.and_two_pow_sub_one_eq_mod]
   rfl
  rw[e]
  have hlt:n.toBitVec.toNat%16<16:=Nat.mod_lt _ (by omega)
  generalize n.toBitVec.toNat%16=m at hlt
  have: ∀m,m<16→(hvL.getD m 0).toBitVec=hvB.getD m 0:=by decide
  exact this m hlt
def ai3_ (n:UInt32):Nat→UInt32
 |0=>n
 |k+1=>vC_ (ai3_ n k)
theorem aed_ (n:UInt32):ai3_ n 8=aeI_ n 2:=by
 show vC_ (vC_ (vC_ (vC_ (vC_ (vC_ (vC_ (vC_ n)))))))=VU_ (VU_ n)
 rw[We_,We_]
set_option linter.defProp false
def qi_:=And.intro (And.intro (@zf_) (@v2_)) (And.intro (@wh_) (And.intro (@wa_) (@ze_)))
theorem afm_ (n:UInt32) (w:World):Rets Tryz.prog 198 #[v32 n] w (fun v D=>v=v32 (vC_ n)∧D= []):=by
 have hrem:zk_ .rem (v32 n) (v32 2)=some (v32 (n%2)):=x4_ _ _ (by decide)
 have hquo:zk_ .quo (v32 n) (v32 2)=some (v32 (n / 2)):=x0_ _ _ (by decide)
 refine Rets.enterV Tryz.func198 rfl (rs:= [.tmp 2]) Tryz.results198 Tryz.ntmps198 ?_
 refine kf ?_
 unfold vC_
 first|with_reducible refine ks [] (And.intro @qi_ (And.intro @hrem (@hquo))) ?_|refine kp (And.intro @qi_ (And.intro @hrem (@hquo))) ?_
 cases h: (n%2==1)
 ·first|with_reducible refine ks [] (And.intro @qi_ @hquo) ?_|refine kp (And.intro @qi_ @hquo) ?_
  refine⟨_,(ke @qi_),trivial, ?_⟩
  rfl
 ·first|with_reducible refine ks [] (And.intro @qi_ @hquo) ?_|refine kp (And.intro @qi_ @hquo) ?_
  refine⟨_,(ke @qi_),trivial, ?_⟩
  rfl
theorem afC_ (n:UInt32) (b:UInt8) (w:World):Rets Tryz.prog 170 #[v32 n,v8 b] w (fun v D=>v=v32 (aen_ n b)∧D= []):=by
 refine Rets.enterV Tryz.func170 rfl (rs:= [.tmp 4]) Tryz.results170 Tryz.ntmps170 ?_
 refine kf ?_
 first|with_reducible refine ks [] @qi_ ?_|refine kp @qi_ ?_
 unfold aen_
 generalize n^^^UInt32.ofNat b.toNat=m
 rw[←aed_,show v32 m=v32 (ai3_ m 0) from rfl]
 refine Cw.loopG (G:=Nat) [10,11,14,15,0,12,13,5] (fun g=> [(0,v32 (ai3_ m g)),(5,vi g)]) (fun g=> []) (fun g=>g≤8) (fun g=>8 - g) 0 rfl rfl ?_ ?_
 ·omega
 intro g j hg
 refine kv ?_
 by_cases hlt:g<8
 ·first|with_reducible refine ks [] @qi_ ?_|refine kp @qi_ ?_
  refine Ow.callFV rfl Tryz.call198 (fun w' hw'=>afm_ _ w') ?_
  refine ko @qi_ ?_
  first|with_reducible refine ks [] @qi_ ?_|refine kp @qi_ ?_
  refine Again.mk (g+1) (by omega) (by omega) rfl rfl
 ·obtain rfl:g=8:=by omega
  first|with_reducible refine ks [] @qi_ ?_|refine kp @qi_ ?_
  refine⟨_,(ke @qi_),trivial, ?_⟩
  rfl
theorem ak6_ (n:UInt32):4294967295 - n= ~~~ n:=by
 apply UInt32.toBitVec_inj.1
 rw[UInt32.toBitVec_sub,UInt32.toBitVec_not,←BitVec.allOnes_sub_eq_not]
 rfl
theorem aaT_ (s:List UInt8) (w:World) (hs:s.length<1099511627776):Rets Tryz.prog 142 #[vs s] w (fun v D=>v=v32 (crcV s)∧D= []):=by
 refine Rets.enterV Tryz.func142 rfl (rs:= [.tmp 2]) Tryz.results142 Tryz.ntmps142 ?_
 refine kf ?_
 first|with_reducible refine ks [] @qi_ ?_|refine kp @qi_ ?_
 rw[show v32 4294967295=v32 (Ve_ (~~~ (0:UInt32)) (s.take 0)) from rfl]
 refine Cw.loopG (G:=Nat) [5,6,7,8,11,12,13,14,15,3,9,10,4] (fun g=> [(3,v32 (Ve_ (~~~ (0:UInt32)) (s.take g))),(4,vi g)]) (fun g=> []) (fun g=>g≤s.length) (fun g=>s.length - g) 0 rfl rfl ?_ ?_
 ·omega
 intro g j hg
 refine kv ?_
 by_cases hlt:g<s.length
 ·first|with_reducible refine ks [] @qi_ ?_|refine kp @qi_ ?_
  refine Ow.callFV rfl Tryz.call170 (fun w' hw'=>afC_ _ _ w') ?_
  refine ko @qi_ ?_
  first|with_reducible refine ks [] @qi_ ?_|refine kp @qi_ ?_
  refine Again.mk (g+1) (by omega) (by omega) rfl ?_
  rw[Kl_ _ _ _ hlt]
  rfl
 ·obtain rfl:g=s.length:=by omega
  first|with_reducible refine ks [] @qi_ ?_|refine kp @qi_ ?_
  rw[List.take_length]
  rw[ak6_]
  refine⟨_,(ke @qi_),trivial, ?_⟩
  rfl
theorem ala_ (n:UInt32):sum4 n= [UInt8.ofNat (n%256).toNat,UInt8.ofNat (n / 256%256).toNat,UInt8.ofNat (n / 65536%256).toNat,UInt8.ofNat (n / 16777216).toNat]:=by
 show [UInt8.ofNat (qc_ n 0).toNat,UInt8.ofNat (qc_ n 8).toNat,UInt8.ofNat (qc_ n 16).toNat,UInt8.ofNat (qc_ n 24).toNat]=_
 have hn:=n.toNat_lt
 congr 1
 ·apply UInt8.toNat_inj.1
  simp[qc_]
 ·congr 1
  ·apply UInt8.toNat_inj.1
   simp[qc_]
  ·congr 1
   ·apply UInt8.toNat_inj.1
    simp[qc_]
   ·congr 1
    apply UInt8.toNat_inj.1
    simp[qc_]
theorem vS_ (s:List UInt8) (w:World) (hs:s.length<1099511627776):
  Rets Tryz.prog 85 #[vs s] w (fun v D=>v=vs (z5_ s)∧D= []):=by
 refine Rets.enterV Tryz.func85 rfl (rs:= [.tmp 2]) Tryz.results85 Tryz.ntmps85 ?_
 refine kf ?_
 first|with_reducible refine ks [] @qi_ ?_|refine kp @qi_ ?_
 refine Ow.callFV rfl Tryz.call142 (fun w' hw'=>aaT_ s w' hs) ?_
 refine ko @qi_ ?_
 unfold z5_
 rw[ala_]
 generalize crcV s=n
 have h1:zk_ .rem (v32 n) (v32 256)=some (v32 (n%256)):=x4_ _ _ (by decide)
 have h2:zk_ .quo (v32 n) (v32 256)=some (v32 (n / 256)):=x0_ _ _ (by decide)
 have h3:zk_ .rem (v32 (n / 256)) (v32 256)=some (v32 (n / 256%256)):=x4_ _ _ (by decide)
 have h4:zk_ .quo (v32 n) (v32 65536)=some (v32 (n / 65536)):=x0_ _ _ (by decide)
 have h5:zk_ .rem (v32 (n / 65536)) (v32 256)=some (v32 (n / 65536%256)):=x4_ _ _ (by decide)
 have h6:zk_ .quo (v32 n) (v32 16777216)=some (v32 (n / 16777216)):=x0_ _ _ (by decide)
 first|with_reducible refine ks [] (And.intro @qi_ (And.intro @h1 (And.intro @h2 (And.intro @h3 (And.intro @h4 (And.intro @h5 (@h6))))))) ?_|refine kp (And.intro @qi_ (And.intro @h1 (And.intro @h2 (And.intro @h3 (And.intro @h4 (And.intro @h5 (@h6))))))) ?_
 generalize UInt8.ofNat (n%256).toNat=q0
 generalize UInt8.ofNat (n / 256%256).toNat=q1
 generalize UInt8.ofNat (n / 65536%256).toNat=q2
 generalize UInt8.ofNat (n / 16777216).toNat=q3
 refine Ow.buildSlice (e:=5) #[v8 q0,v8 q1,v8 q2,v8 q3] rfl rfl (by kernel_rfl) fun b1 hb1 hw1=> ?_
 rw[show(#[v8 q0,v8 q1,v8 q2,v8 q3]:Array Value)=a8 [q0,q1,q2,q3] from rfl]
 have hl4: [q0,q1,q2,q3].length=4:=rfl
 have e4:List.take 4 (List.drop 0 [q0,q1,q2,q3])= [q0,q1,q2,q3]:=rfl
 generalize [q0,q1,q2,q3]=q at*
 refine ko (And.intro @qi_ @e4) ?_
 first|with_reducible refine ks [] @qi_ ?_|refine kp @qi_ ?_
 refine⟨_,(ke @qi_),⟨hw1,trivial⟩, ?_⟩
 rfl
theorem wA_ (s:List UInt8) (w:World) (hs:s.length<1099511627776):
  Rets Tryz.prog 93 #[vs s] w (fun v D=>v= .tuple #[vs (zi_ s).1, .bool (zi_ s).2]∧D= []):=by
 refine Rets.enterV Tryz.func93 rfl (rs:= [.tmp 2, .tmp 3]) Tryz.results93 Tryz.ntmps93 ?_
 refine kf ?_
 first|with_reducible refine ks [] @qi_ ?_|refine kp @qi_ ?_
 unfold zi_
 by_cases h4:s.length<4
 ·have e1:decide ((s.length:Int)<4)=true:=decide_eq_true (by omega)
  rw[if_pos h4]
  first|with_reducible refine ks [] (And.intro @qi_ @e1) ?_|refine kp (And.intro @qi_ @e1) ?_
  refine⟨_,(ke @qi_),trivial, ?_⟩
  rfl
 ·have e1:decide ((s.length:Int)<4)=false:=decide_eq_false (by omega)
  have e2: ((s.length:Int) - 4).toNat=s.length - 4:=by omega
  rw[if_neg h4]
  first|with_reducible refine ks [] (And.intro @qi_ (And.intro @e1 (@e2))) ?_|refine kp (And.intro @qi_ (And.intro @e1 (@e2))) ?_
  refine Ow.callFV rfl Tryz.call85 (fun w' hw'=>vS_ (s.take (s.length - 4)) w' (by rw[List.length_take];omega)) ?_
  refine ko @qi_ ?_
  cases hq: (z5_ (s.take (s.length - 4)) !=s)
  ·rw[if_pos (by simpa using hq)]
   first|with_reducible refine ks [] (And.intro @qi_ (And.intro @hq (@e2))) ?_|refine kp (And.intro @qi_ (And.intro @hq (@e2))) ?_
   refine⟨_,(ke @qi_),trivial, ?_⟩
   rfl
  ·rw[if_neg (by simpa using hq)]
   first|with_reducible refine ks [] (And.intro @qi_ @hq) ?_|refine kp (And.intro @qi_ @hq) ?_
   refine⟨_,(ke @qi_),trivial, ?_⟩
   rfl
end Go.Proofs
end
section
open Go Go.Proofs Go.Sx Go.StP Go.Flo
namespace Go.Proofs
set_option maxRecDepth 10000
set_option maxHeartbeats 1000000
set_option linter.unusedSimpArgs false
set_option linter.defProp false
def ao8_:=And.intro (And.intro (@zf_) (And.intro (@ze_) (@jk_))) (And.intro (@jj_) (And.intro (@jf_) (@qR_)))
end Go.Proofs
end
section
open Go Go.Proofs Go.Sx Go.StP Go.Flo
namespace Go.Proofs
set_option maxRecDepth 10000
set_option maxHeartbeats 1000000
set_option linter.unusedSimpArgs false
def aoL_ (s:List UInt8) (v:Value) (D:zc_):Prop:=
 if(aaL_ s).2.1=true then∃x y n A,v= .tuple #[x,y,vi n,vi A, .bool true]∧n=(aaL_ s).1∧0≤n∧n≤200∧GrI D 286 3 x (wn_ s).1.length ((wn_ s).1.map jE_).flatten∧GrI D 3 1 y (wn_ s).2.1.length ((wn_ s).2.1.map natC).flatten∧
  (((wn_ s).2.2.2=0∧A=(wn_ s).2.2.1∧((wn_ s).1.length:Int)=n)∨((wn_ s).2.2.2≠0∧((wn_ s).1.length:Int)<n))
 else v= .tuple #[.slice none 0 0, .slice none 0 0,vi 0,vi 0, .bool false]
structure RdDG where
 l:List PartL
 sp:List Nat
 a:Nat
 v1:Value
 v2:Value
 D1:zc_
 D2:zc_
 DG:zc_
theorem agR_ (s:List UInt8):ql_ (vo_ Tryz.prog 166) (zZ_ Tryz.prog 166) [(0,vs s),(1,vi 4)]=some (.agg #[vs s,vi 4,vi 0]):=by
 rw[show vo_ Tryz.prog 166=some [(0,1),(1,1),(2,1)] from id (by kernel_rfl),zrRR];rfl
theorem Ky_ (b:Nat) (s:List UInt8) (a:Nat) (e most:Int) (w:World) (ha:a≤s.length) (hs:s.length<1099511627776) (ho:w.heap[b]? =some (rrO s a e)):
  Rets Tryz.prog 95 #[vp b 0,vi most] w (fun v D=> ∃o,D= [(b,o)]∧v=vs (zY_ s a e most).1∧o=rrO s (zY_ s a e most).2.1 (zY_ s a e most).2.2):=WK_ b s a e most w ha hs ho
set_option linter.defProp false
def aqt_:=And.intro (And.intro (@zf_) (And.intro (@ze_) (@acS_))) (And.intro (And.intro (@acJ_) (@adb_)) (And.intro (@qR_) (@wf_)))
end Go.Proofs
end
section
open Go Go.Proofs Go.Sx Go.StP Go.Flo
namespace Go.Proofs
set_option maxRecDepth 10000
set_option maxHeartbeats 1000000
set_option linter.unusedSimpArgs false
def MkD (D:zc_) (v:Value) (l:List PartL) (sp:List Nat) (ids:List IdL) (os:List ObL):Prop:=
 ∃v0 v1 v2 v3,v=mkV v0 v1 v3 v2∧GrI D 286 3 v0 l.length (l.map jE_).flatten∧GrI D 3 1 v1 sp.length (sp.map natC).flatten∧GrI D 86 32 v2 ids.length (ids.map idLC).flatten∧GrI D 177 2 v3 os.length (os.map obC).flatten
def aoS_ (b:List UInt8) (v:Value) (D:zc_):Prop:=match akI_ b with
 |some q=> ∃x,v= .tuple #[x, .bool true]∧MkD D x q.1 q.2.1 q.2.2.1 q.2.2.2
 |none=> ∃c0 c1 c2 c3,v= .tuple #[mkV c0 c1 c2 c3, .bool false]∧OneC c0∧OneC c1∧OneC c2∧OneC c3
def aot_ (l:List PartL) (_x c2 c3:Value) (ok:Bool) (D:zc_):Prop:=match fillV l with
 |some p=>ok=true∧GrI D 86 32 c2 p.1.length (p.1.map idLC).flatten∧GrI D 177 2 c3 p.2.length (p.2.map obC).flatten
 |none=>ok=false
theorem amK_ (a b c d e:Value): #[a,b,c,d,e][0]? =some a:=rfl
theorem amx_ (a b c d e:Value): #[a,b,c,d,e][1]? =some b:=rfl
theorem amg_ (a b c d e:Value): #[a,b,c,d,e][2]? =some c:=rfl
theorem amD_ (a b c d e:Value): #[a,b,c,d,e][3]? =some d:=rfl
theorem am3_ (a b c d e:Value): #[a,b,c,d,e][4]? =some e:=rfl
set_option linter.defProp false
def ap5_:=And.intro (And.intro (And.intro (@zf_) (@ze_)) (And.intro (@Sx.tup2_0) (@Sx.tup2_1))) (And.intro (And.intro (@amK_) (@amx_)) (And.intro (@amg_) (And.intro (@amD_) (@am3_))))
end Go.Proofs
end
section
open Go Go.Proofs Go.Sx Go.StP Go.Flo Go.Dig
namespace Go.Proofs
set_option maxRecDepth 10000
set_option maxHeartbeats 1000000
set_option linter.unusedSimpArgs false
def Dist (l:List RwL):Prop:=l.Pairwise fun a b=>a.id.l≠b.id.l
end Go.Proofs
end
section
open Go Go.Proofs Go.Sx Go.StP Go.Flo Go.Dig
namespace Go.Proofs
set_option maxRecDepth 100000
set_option maxHeartbeats 400000
set_option linter.unusedSimpArgs false
theorem zrRx:zZ_ Tryz.prog 155=some (.agg (rwC rw0).toArray):=id (by kernel_rfl)
theorem al3_:zP_ Tryz.prog 155=some (true,34):=id (by kernel_rfl)
theorem alP_: ∀ (g:Nat) (a b:List UInt8),a.take g=b.take g→g<a.length→g<b.length→a.getD g 0≠b.getD g 0→ltB a b=decide (a.getD g 0<b.getD g 0)
 |_,[],_,_,h,_,_=>by simp at h
 |_,_::_,[],_,_,h,_=>by simp at h
 |0,x::a,y::b,_,_,_,hne=>by
  simp only[List.getD_cons_zero] at hne ⊢
  rw[Zm_]
  simp only[List.cons_lt_cons_iff]
  simp[hne]
 |g+1,x::a,y::b,h,h1,h2,hne=>by
  simp only[List.take_succ_cons,List.cons.injEq] at h
  simp only[List.getD_cons_succ] at hne ⊢
  obtain⟨rfl,h⟩:=h
  have ih:=alP_ g a b h (by simpa using h1) (by simpa using h2) hne
  rw[Zm_] at ih ⊢
  rw[←ih]
  simp
set_option linter.defProp false
def kS_:=And.intro (@zf_) (@ze_)
theorem Z2_ (x y:IdL) (w:World):Rets Tryz.prog 139 #[.agg (a8 x.l), .agg (a8 y.l)] w (fun v D=>v= .bool (ltB x.l y.l)∧D= []):=by
 have hx:=x.h
 have hy:=y.h
 refine Rets.enterV Tryz.func139 rfl (rs:= [.tmp 4]) Tryz.results139 Tryz.ntmps139 ?_
 refine kf ?_
 first|with_reducible refine ks [] @kS_ ?_|refine kp @kS_ ?_
 refine Ow.box rfl rfl fun b2 hb2 hw2=> ?_
 simp only[jt_,jm_,jn_,zg_,List.nil_append,List.cons_append]
 refine Ow.go rfl ?_
 simp(disch:=(first|assumption|omega| (simp only[kd_,kc_,UInt64.reduceToNat];try omega))) only[↓Sx.S0,Sx.S1,Tryz.fx,kS_,Nat.reduceAdd,Nat.reducePow,Int.reducePow,Nat.reduceBEq, ↓reduceIte,UInt8.reduceToNat,UInt16.reduceToNat,UInt32.reduceToNat,UInt64.reduceToNat,Int.reduceToNat]
 refine Ow.box rfl rfl fun b3 hb3 hw3=> ?_
 simp only[jt_,jm_,jn_,zg_,List.nil_append,List.cons_append]
 refine Ow.go rfl ?_
 simp(disch:=(first|assumption|omega| (simp only[kd_,kc_,UInt64.reduceToNat];try omega))) only[↓Sx.S0,Sx.S1,Tryz.fx,kS_,Nat.reduceAdd,Nat.reducePow,Int.reducePow,Nat.reduceBEq, ↓reduceIte,UInt8.reduceToNat,UInt16.reduceToNat,UInt32.reduceToNat,UInt64.reduceToNat,Int.reduceToNat]
 obtain⟨h23,-⟩:=hb3
 first|with_reducible refine ks [] @kS_ ?_|refine kp @kS_ ?_
 refine Cw.loopG (G:=Nat) [6,7,10,11,12,13,14,15,16,17,18,19,20,21,22,23,4,8,9,5] (fun g=> [(5,vi g)]) (fun g=> [(b2, .cells (a8 x.l) 86 (0,0)),(b3, .cells (a8 y.l) 86 (0,0))]) (fun g=>g≤32∧x.l.take g=y.l.take g) (fun g=>32 - g) 0 rfl rfl ?_ ?_
 ·exact⟨Nat.zero_le _,rfl⟩
 intro g j hg
 refine kv ?_
 obtain⟨hg1,hg2⟩:=hg
 by_cases hlt:g<32
 ·have d1:decide ((g:Int)<32)=true:=decide_eq_true (by omega)
  first|with_reducible refine ks [] (And.intro @kS_ @d1) ?_|refine kp (And.intro @kS_ @d1) ?_
  refine Cw.regionS [b2,b3] [0,1,3,4,2,5,6] [] (by kernel_rfl) (by kernel_rfl) (by kernel_rfl) ?_
  simp only[zh_, ↓zd_, ↓zb_, ↓zl_, ↓zm_,za_]
  refine kq @kS_ ?_
  by_cases hne:x.l.getD g 0=y.l.getD g 0
  ·have d2: (x.l.getD g 0 !=y.l.getD g 0)=false:=by rw[hne];exact bne_self_eq_false _
   first|with_reducible refine ks [] (And.intro @kS_ @d2) ?_|refine kp (And.intro @kS_ @d2) ?_
   refine Again.mk (G:=Nat) (g+1) (by show 32 - (g+1)<32 - g;omega) ⟨by show g+1≤32;omega, ?_⟩ rfl rfl
   rw[StP.take_snoc (z:=0) (by omega),StP.take_snoc (z:=0) (by omega),hg2,hne]
  ·have d2: (x.l.getD g 0 !=y.l.getD g 0)=true:=by simpa using hne
   first|with_reducible refine ks [] (And.intro @kS_ @d2) ?_|refine kp (And.intro @kS_ @d2) ?_
   refine Cw.regionS [b2,b3] [0,1,3,4,2,5,6,7] [] (by kernel_rfl) (by kernel_rfl) (by kernel_rfl) ?_
   simp only[zh_, ↓zd_, ↓zb_, ↓zl_, ↓zm_,za_]
   refine kq @kS_ ?_
   try with_reducible refine Ow.nil ?_
   first|with_reducible refine ks [] @kS_ ?_|refine kp @kS_ ?_
   refine⟨_,(ke @kS_),⟨hw2,hw3,trivial⟩, ?_⟩
   rw[alP_ g x.l y.l hg2 (by omega) (by omega) hne];rfl
 ·obtain rfl:g=32:=by omega
  have d1:decide (((32:Nat):Int)<32)=false:=rfl
  first|with_reducible refine ks [] (And.intro @kS_ @d1) ?_|refine kp (And.intro @kS_ @d1) ?_
  have e:ltB x.l y.l=false:=by
   rw[List.take_of_length_le (by omega),List.take_of_length_le (by omega)] at hg2
   rw[hg2];exact jA_ _
  refine⟨_,(ke @kS_),⟨hw2,hw3,trivial⟩, ?_⟩
  rw[e];rfl
end Go.Proofs
end
section
open Go Go.Proofs Go.Sx Go.StP
namespace Go.Proofs
set_option maxRecDepth 10000
set_option maxHeartbeats 1000000
set_option linter.unusedSimpArgs false
structure rx_SoG where
 g:Nat
 Z:List RwL
 v:Value
 D:zc_
set_option linter.defProp false
def ap7_:=And.intro (@qB_) (And.intro (@zf_) (@ze_))
end Go.Proofs
end
section
open Go Go.Proofs Go.Sx Go.StP
namespace Go.Proofs
set_option maxRecDepth 10000
set_option maxHeartbeats 1000000
set_option linter.unusedSimpArgs false
theorem xD_ {s:List UInt8} {l:List RwL} (h: ¬Zt_ l l.length=true):qF_ s l=false:=by
 unfold qF_;rw[Bool.eq_false_iff.2 h,Bool.false_and]
structure RiG where
 k:Nat
 DG:zc_
set_option linter.defProp false
def zX_:=And.intro (And.intro (And.intro (@zf_) (@ze_)) (And.intro (@qB_) (@xk_))) (And.intro (And.intro (@xF_) (@ke_)) (And.intro (@kh_) (@q1_)))
theorem abI_ (s:List UInt8) (v:Value) (l:List RwL) (w:World) (hv:RwSl w v l):Rets Tryz.prog 140 #[vs s,v] w (fun v D=>v= .bool (qF_ s l)∧D= []):=by
 obtain⟨rb,off,arr,E,fz,hr⟩:=hv.row
 have ln:=hv.len
 refine Rets.enterV Tryz.func140 rfl (rs:= [.tmp 4]) Tryz.results140 Tryz.ntmps140 ?_
 refine kf ?_
 by_cases h4:s.length=4
 ·have d1: ((s.length:Int) !=4)=false:=by rw[h4];rfl
  by_cases h2:200<l.length
  ·have d2:decide ((200:Int)< (l.length:Int))=true:=decide_eq_true (by omega)
   have e:qF_ s l=false:=by unfold qF_;rw[decide_eq_false (show¬l.length≤200 by omega),Bool.and_false,Bool.and_false]
   first|with_reducible refine ks [] (And.intro @zX_ (And.intro @d1 (And.intro @ln (@d2)))) ?_|refine kp (And.intro @zX_ (And.intro @d1 (And.intro @ln (@d2)))) ?_
   refine⟨_,(ke @zX_),trivial, ?_⟩
   rw[e];rfl
  have d2:decide ((200:Int)< (l.length:Int))=false:=decide_eq_false (by omega)
  first|with_reducible refine ks [] (And.intro @zX_ (And.intro @d1 (And.intro @ln (@d2)))) ?_|refine kp (And.intro @zX_ (And.intro @d1 (And.intro @ln (@d2)))) ?_
  refine Cw.loopG (G:=RiG) [15,16,17,18,21,22,23,24,6,25,26,27,28,29,30,31,32,33,34,35,36,37,38,39,40,41,42,43,44,45,46,47,48,49,50,51,52,53,54,55,56,57,58,4,19,20,5] (fun g=> [(4, .bool false),(5,vi g.k)]) (fun g=>g.DG) (fun g=>g.k≤l.length∧Zt_ l g.k=true∧New w.heap.size g.DG) (fun g=>l.length - g.k) ⟨0,[]⟩ rfl rfl ?_ ?_
  ·exact⟨Nat.zero_le _,rfl,trivial⟩
  intro g j hg
  refine kv ?_
  obtain⟨k,DG⟩:=g
  simp only at hg ⊢
  obtain⟨hk,hok,hN⟩:=hg
  by_cases hlt:k<l.length
  ·have d3:decide ((k:Int)< (l.length:Int))=true:=decide_eq_true (by omega)
   have hb:=hr.has (by omega)
   have hrl:=hr.lt (by omega)
   have ix:=hr.idx true k hlt
   have ld:=hr.load zT_ (by omega) hlt
   have rd: ∀X,New w.heap.size X→zv_ w X rb=some (.cells arr E fz):=fun X hX=>by rw[z8_ (hX.not hrl)];exact hb
   have rd1:=rd _ hN
   have hok1:Zt_ l (k+1)=((decide (k=0) ||decide (wQ_ (l.getD (k - 1) rw0).id (l.getD k rw0).id<0))&&qv_ (l.getD k rw0)):=by show(Zt_ l k&&_&&_)=_;rw[hok,Bool.true_and]
   have hno:Zt_ l (k+1)=false→ ¬Zt_ l l.length=true:=fun h h'=>by rw[J6_ hlt h'] at h;cases h
   generalize hrr:l.getD k rw0=r at*
   first|with_reducible refine ks [] (And.intro @zX_ (And.intro @ln (And.intro @d3 (And.intro @ix (And.intro @rd1 (@ld)))))) ?_|refine kp (And.intro @zX_ (And.intro @ln (And.intro @d3 (And.intro @ix (And.intro @rd1 (@ld)))))) ?_
   refine Ow.alloc rfl rfl zrRx fun b6 hb6 hw6=> ?_
   simp only[zg_,List.nil_append,List.cons_append]
   refine Ow.permL (M:=(b6, .cells (rwC rw0).toArray 155 (0,0))::DG) (by classical exact List.perm_iff_count.2 fun a=>by simp only[List.count_append,List.count_cons,List.count_nil]<;>omega) ?_
   refine ko @zX_ ?_
   have hN6:New w.heap.size ((b6,Obj.cells (rwC r).toArray 155 (0,0))::DG):=⟨hw6,hN⟩
   have hnb:b6≠rb:=by omega
   rcases Nat.eq_zero_or_pos k with hk0|hk0
   ·have d5:decide ((0:Int)< (k:Int))=false:=decide_eq_false (by omega)
    have hok2:Zt_ l (k+1)=qv_ r:=by rw[hok1,decide_eq_true hk0,Bool.true_or,Bool.true_and]
    first|with_reducible refine ks [] @zX_ ?_|refine kp @zX_ ?_
    refine Cw.regionS [b6] [0,1,2,3,4,5,6,7,9,8,10,11,12,13,14,15,16,17,18,19,20,21,22,23,24,25,26,27,28,29,30,31,32,33] [] (by kernel_rfl) (by kernel_rfl) (by kernel_rfl) ?_
    simp only[zh_, ↓zd_, ↓zb_, ↓zl_, ↓zm_,za_]
    cases p1:decide (r.place<0) with
    |true=>
     have hbad:=hok2.trans (show qv_ r=false by simp[qv_,p1])
     refine kq (And.intro @zX_ (And.intro @d5 (@p1))) ?_
     try with_reducible refine Ow.nil ?_
     first|with_reducible refine ks [] @zX_ ?_|refine kp @zX_ ?_
     refine⟨_,(ke @zX_),hN6, ?_⟩
     rw[xD_ (hno hbad)];rfl
    |false=>
     cases p2:decide (1099511627775<r.place) with
     |true=>
      have hbad:=hok2.trans (show qv_ r=false by simp[qv_,p2])
      refine kq (And.intro @zX_ (And.intro @d5 (And.intro @p1 (@p2)))) ?_
      try with_reducible refine Ow.nil ?_
      first|with_reducible refine ks [] @zX_ ?_|refine kp @zX_ ?_
      refine⟨_,(ke @zX_),hN6, ?_⟩
      rw[xD_ (hno hbad)];rfl
     |false=>
      cases p3:decide (r.spot<0) with
      |true=>
       have hbad:=hok2.trans (show qv_ r=false by simp[qv_,p3])
       refine kq (And.intro @zX_ (And.intro @d5 (And.intro @p1 (And.intro @p2 (@p3))))) ?_
       try with_reducible refine Ow.nil ?_
       first|with_reducible refine ks [] @zX_ ?_|refine kp @zX_ ?_
       refine⟨_,(ke @zX_),hN6, ?_⟩
       rw[xD_ (hno hbad)];rfl
      |false=>
       cases p4:decide (1099511627775<r.spot) with
       |true=>
        have hbad:=hok2.trans (show qv_ r=false by simp[qv_,p4])
        refine kq (And.intro @zX_ (And.intro @d5 (And.intro @p1 (And.intro @p2 (And.intro @p3 (@p4)))))) ?_
        try with_reducible refine Ow.nil ?_
        first|with_reducible refine ks [] @zX_ ?_|refine kp @zX_ ?_
        refine⟨_,(ke @zX_),hN6, ?_⟩
        rw[xD_ (hno hbad)];rfl
       |false=>
        refine kq (And.intro @zX_ (And.intro @d5 (And.intro @p1 (And.intro @p2 (And.intro @p3 (@p4)))))) ?_
        try with_reducible refine Ow.nil ?_
        first|with_reducible refine ks [] @zX_ ?_|refine kp @zX_ ?_
        exact Again.mk ⟨k+1,(b6, .cells (rwC r).toArray 155 (0,0))::DG⟩ (by show l.length - (k+1)<l.length - k;omega) ⟨hlt,hok2.trans (by simp[qv_,p1,p2,p3,p4]),hN6⟩ rfl rfl
   ·have d5:decide ((0:Int)< (k:Int))=true:=decide_eq_true (by omega)
    have hki: (k:Int) - 1=((k - 1:Nat):Int):=by omega
    have ix':=hr.idx true (k - 1) (by omega)
    have ld':=abe_ hr (show k - 1<l.length by omega)
    rw[Nat.add_zero] at ld'
    have rd6:=rd _ hN6
    rw[decide_eq_false (show¬k=0 by omega),Bool.false_or] at hok1
    first|with_reducible refine ks [] @zX_ ?_|refine kp @zX_ ?_
    refine Cw.regionS [b6,rb] [0,1,2,3,4,5,6,7,9,8,10,11,12,13,14,15,16,17,18,19,20,21,22,23,24,25,26,27,28,29,30,31,32,33] [] (by kernel_rfl) (by kernel_rfl) (by kernel_rfl) ?_
    simp only[zh_, ↓zd_, ↓zb_, ↓zl_, ↓zm_,za_]
    refine kq (And.intro @zX_ (And.intro @d5 (And.intro @hki (And.intro @ix' (And.intro @rd6 (@ld')))))) ?_
    refine Ow.soft rfl rfl rfl ?_
    refine Ow.callFV rfl Tryz.call139 (fun w' hw'=>Z2_ (l.getD (k - 1) rw0).id r.id w') ?_
    with_reducible refine Ow.nil ?_
    refine⟨by intro b hb;simp only[List.mem_cons,List.not_mem_nil,or_false] at hb;(try subst hb);rfl, ?_⟩
    have hcl:decide (wQ_ (l.getD (k - 1) rw0).id r.id<0)=ltB (l.getD (k - 1) rw0).id.l r.id.l:=by
     cases h:ltB (l.getD (k - 1) rw0).id.l r.id.l
     ·exact decide_eq_false fun h'=>by rw[cmpI_lt.1 h'] at h;cases h
     ·exact decide_eq_true (cmpI_lt.2 h)
    rw[hcl] at hok1
    cases hl3:ltB (l.getD (k - 1) rw0).id.l r.id.l with
    |true=>
     rw[hl3,Bool.true_and] at hok1
     have hok2:=hok1
     cases p1:decide (r.place<0) with
     |true=>
      have hbad:=hok2.trans (show qv_ r=false by simp[qv_,p1])
      refine kq (And.intro @zX_ (And.intro @hok1 (@p1))) ?_
      try with_reducible refine Ow.nil ?_
      first|with_reducible refine ks [] @zX_ ?_|refine kp @zX_ ?_
      refine⟨_,(ke @zX_),hN6, ?_⟩
      rw[xD_ (hno hbad)];rfl
     |false=>
      cases p2:decide (1099511627775<r.place) with
      |true=>
       have hbad:=hok2.trans (show qv_ r=false by simp[qv_,p2])
       refine kq (And.intro @zX_ (And.intro @hok1 (And.intro @p1 (@p2)))) ?_
       try with_reducible refine Ow.nil ?_
       first|with_reducible refine ks [] @zX_ ?_|refine kp @zX_ ?_
       refine⟨_,(ke @zX_),hN6, ?_⟩
       rw[xD_ (hno hbad)];rfl
      |false=>
       cases p3:decide (r.spot<0) with
       |true=>
        have hbad:=hok2.trans (show qv_ r=false by simp[qv_,p3])
        refine kq (And.intro @zX_ (And.intro @hok1 (And.intro @p1 (And.intro @p2 (@p3))))) ?_
        try with_reducible refine Ow.nil ?_
        first|with_reducible refine ks [] @zX_ ?_|refine kp @zX_ ?_
        refine⟨_,(ke @zX_),hN6, ?_⟩
        rw[xD_ (hno hbad)];rfl
       |false=>
        cases p4:decide (1099511627775<r.spot) with
        |true=>
         have hbad:=hok2.trans (show qv_ r=false by simp[qv_,p4])
         refine kq (And.intro @zX_ (And.intro @hok1 (And.intro @p1 (And.intro @p2 (And.intro @p3 (@p4)))))) ?_
         try with_reducible refine Ow.nil ?_
         first|with_reducible refine ks [] @zX_ ?_|refine kp @zX_ ?_
         refine⟨_,(ke @zX_),hN6, ?_⟩
         rw[xD_ (hno hbad)];rfl
        |false=>
         refine kq (And.intro @zX_ (And.intro @hok1 (And.intro @p1 (And.intro @p2 (And.intro @p3 (@p4)))))) ?_
         try with_reducible refine Ow.nil ?_
         first|with_reducible refine ks [] @zX_ ?_|refine kp @zX_ ?_
         exact Again.mk ⟨k+1,(b6, .cells (rwC r).toArray 155 (0,0))::DG⟩ (by show l.length - (k+1)<l.length - k;omega) ⟨hlt,hok2.trans (by simp[qv_,p1,p2,p3,p4]),hN6⟩ rfl rfl
    |false=>
     rw[hl3,Bool.false_and] at hok1
     refine kq (And.intro @zX_ @hok1) ?_
     try with_reducible refine Ow.nil ?_
     first|with_reducible refine ks [] @zX_ ?_|refine kp @zX_ ?_
     refine⟨_,(ke @zX_),hN6, ?_⟩
     rw[xD_ (hno hok1)];rfl
  ·obtain rfl:k=l.length:=by omega
   have d3:decide ((l.length:Int)< (l.length:Int))=false:=decide_eq_false (by omega)
   have e:qF_ s l=true:=by unfold qF_;rw[hok,h4,decide_eq_true (show l.length≤200 by omega)];rfl
   first|with_reducible refine ks [] (And.intro @zX_ (And.intro @ln (@d3))) ?_|refine kp (And.intro @zX_ (And.intro @ln (@d3))) ?_
   refine⟨_,(ke @zX_),hN, ?_⟩
   rw[e];rfl
 ·have d1: ((s.length:Int) !=4)=true:=bne_iff_ne.2 (by omega)
  have e:qF_ s l=false:=by unfold qF_;rw[decide_eq_false h4,Bool.false_and,Bool.and_false]
  first|with_reducible refine ks [] (And.intro @zX_ @d1) ?_|refine kp (And.intro @zX_ @d1) ?_
  refine⟨_,(ke @zX_),trivial, ?_⟩
  rw[e];rfl
end Go.Proofs
end
section
open Go Go.Proofs Go.Sx Go.StP
namespace Go.Proofs
set_option maxRecDepth 10000
set_option maxHeartbeats 1000000
set_option linter.unusedSimpArgs false
theorem adY_ (F:List Nat) {d:Nat} (h:d<F.length):xr_ (F.take (d+1))=xr_ (F.take d)++qd_ (zw_ ((F.getD d 0:Nat):Int)):=by
 unfold xr_ ZW_ j0_
 rw[StP.take_snoc (z:=0) h]
 simp
theorem V2_ (F:List Nat): (xr_ F).length≤F.length*6:=by
 have:=Zv_ (ZW_ F)
 rwa [kN_] at this
theorem aif_ {w:World} {v:Value} {l:List RwL} {b off:Nat} {arr:Array Value} {E:TypeId} {fz:Nat×Nat} (h:RowS 34 rwC rw0 w v l b off arr E fz) {k:Nat} (hk:k<l.length) (n:Nat):zp_ (some (false,n)) (some (.cells arr E fz)) (off+k*34)=some (v8 ((l.getD k rw0).id.l.getD 0 0)):=by
 have hil:=(l.getD k rw0).id.h
 have:=afW_ h hk 0 (by omega)
 rw[Nat.add_zero] at this
 unfold zp_
 simp only[this]
structure FnG where
 n:Nat
 q:Nat
structure ByG where
 t:List UInt8
 k:Nat
set_option linter.defProp false
def jS_:=And.intro (@zf_) (@ze_)
theorem acC_ (s:List UInt8) (v:Value) (l:List RwL) (w:World) (hv:RwSl w v l) (hl:l.length<1000000) (hs:s.length<1000000):Rets Tryz.prog 141 #[vs s,v] w (fun v D=>v=vs (z5_ (vu_ s l))∧D= []):=by
 obtain⟨rb,off,arr,E,fz,hr⟩:=hv.row
 have ln:=hv.len
 have hnl:=zj_ (l.length:Int)
 obtain⟨P0,hP0⟩: ∃P,P=magI++ (s++qd_ (zw_ (l.length:Int))):=⟨_,rfl⟩
 have hP0l:P0.length<2000000:=by rw[hP0];simp only[List.length_append];rw[show magI.length=4 from rfl];omega
 have hidx:vu_ s l=(P0++xr_ (kw_ l))++xd_ l:=by rw[hP0];unfold vu_;simp only[List.append_assoc]
 refine Rets.enterV Tryz.func141 rfl (rs:= [.tmp 4]) Tryz.results141 Tryz.ntmps141 ?_
 refine kf ?_
 first|with_reducible refine ks [] (And.intro @jS_ @ln) ?_|refine kp (And.intro @jS_ @ln) ?_
 refine Ow.callFV rfl Tryz.call82 (fun w' hw'=>qt_ _ (l.length:Int) w' (Nat.le_refl _)) ?_
 have hfl:=QH_ l
 refine ko @jS_ ?_
 refine Cw.loopG (G:=ByG) [16,17,7,8,20,21,22,23,26,27,28,29,30,31,32,33,34,35,36,37,24,25,38,39,40,41,5,18,19,6] (fun g=> [(5,vs g.t),(6,vi g.k)]) (fun g=> []) (fun g=>g.k≤16∧g.t=P0++xr_ ((kw_ l).take g.k)) (fun g=>16 - g.k) ⟨83::73::88::49:: (s++qd_ (zw_ (l.length:Int))),0⟩ rfl rfl ?_ ?_
 ·refine⟨Nat.zero_le _, ?_⟩
  rw[hP0];simp[magI,xr_,ZW_,j0_]
 intro g j hg
 refine kv ?_
 obtain⟨t,d⟩:=g
 simp only at hg ⊢
 obtain⟨hd,ht⟩:=hg
 by_cases hdl:d<16
 ·have d1:decide ((d:Int)<16)=true:=decide_eq_true (by omega)
  have hsn:=adY_ (kw_ l) (d:=d) (by omega)
  rw[akl_ l hdl] at hsn
  have htl:t.length<2000100:=by
   rw[ht,List.length_append]
   have:=V2_ ((kw_ l).take d)
   rw[List.length_take] at this
   omega
  first|with_reducible refine ks [] (And.intro @jS_ @d1) ?_|refine kp (And.intro @jS_ @d1) ?_
  refine Cw.loopG (G:=FnG) [20,21,22,23,26,27,28,29,30,31,32,33,34,35,36,37,7,24,25,8] (fun p=> [(7,vi p.n),(8,vi p.q)]) (fun p=> []) (fun p=>p.q≤l.length∧p.n=ZL_ (l.take p.q) d) (fun p=>l.length - p.q) ⟨0,0⟩ rfl rfl ?_ ?_
  ·exact⟨Nat.zero_le _,rfl⟩
  intro p jp hp
  refine kv ?_
  obtain⟨n,q⟩:=p
  simp only at hp ⊢
  obtain⟨hq0,hn⟩:=hp
  by_cases hql:q<l.length
  ·have d2:decide ((q:Int)< (l.length:Int))=true:=decide_eq_true (by omega)
   have hb:=hr.has (by omega)
   have ix:=hr.idx true q hql
   have ld:=aif_ hr hql
   have hfs:=QO_ (l.take q) (l.getD q rw0) d
   rw[←StP.take_snoc (z:=rw0) hql] at hfs
   have hfq:ZL_ (l.take q) d≤q:=Nat.le_trans (aeX_ _ _) (by rw[List.length_take];omega)
   have hdv:JP_ (l.getD q rw0).id=((l.getD q rw0).id.l.getD 0 0).toNat / 16:=rfl
   generalize l.getD q rw0=r at*
   have hc:=(r.id.l.getD 0 0).toNat_lt
   by_cases hle:JP_ r.id≤d
   ·have d3:decide ((((r.id.l.getD 0 0).toNat / 16:Nat):Int)≤ (d:Int))=true:=decide_eq_true (by omega)
    rw[if_pos hle] at hfs
    first|with_reducible refine ks [] (And.intro @jS_ (And.intro @ln (And.intro @d2 (And.intro @hb (And.intro @ix (And.intro @ld (@d3))))))) ?_|refine kp (And.intro @jS_ (And.intro @ln (And.intro @d2 (And.intro @hb (And.intro @ix (And.intro @ld (@d3))))))) ?_
    exact Again.mk ⟨n+1,q+1⟩ (by show l.length - (q+1)<l.length - q;omega) ⟨by show q+1≤l.length;omega,by show n+1=ZL_ (l.take (q+1)) d;omega⟩ rfl rfl
   ·have d3:decide ((((r.id.l.getD 0 0).toNat / 16:Nat):Int)≤ (d:Int))=false:=decide_eq_false (by omega)
    rw[if_neg hle,Nat.add_zero] at hfs
    first|with_reducible refine ks [] (And.intro @jS_ (And.intro @ln (And.intro @d2 (And.intro @hb (And.intro @ix (And.intro @ld (@d3))))))) ?_|refine kp (And.intro @jS_ (And.intro @ln (And.intro @d2 (And.intro @hb (And.intro @ix (And.intro @ld (@d3))))))) ?_
    exact Again.mk ⟨n,q+1⟩ (by show l.length - (q+1)<l.length - q;omega) ⟨by show q+1≤l.length;omega,by show n=ZL_ (l.take (q+1)) d;omega⟩ rfl rfl
  ·obtain rfl:q=l.length:=by omega
   have d2:decide ((l.length:Int)< (l.length:Int))=false:=decide_eq_false (by omega)
   have hfl2:=aeX_ l d
   rw[List.take_length] at hn
   subst hn
   first|with_reducible refine ks [] (And.intro @jS_ (And.intro @ln (@d2))) ?_|refine kp (And.intro @jS_ (And.intro @ln (@d2))) ?_
   refine Ow.callFV rfl Tryz.call82 (fun w' hw'=>qt_ _ (ZL_ l d:Nat) w' (Nat.le_refl _)) ?_
   have hnl2:=zj_ ((ZL_ l d:Nat):Int)
   refine ko @jS_ ?_
   exact Again.mk ⟨t++qd_ (zw_ ((ZL_ l d:Nat):Int)),d+1⟩ (by show 16 - (d+1)<16 - d;omega) ⟨by show d+1≤16;omega,by show t++_=_;rw[ht,hsn,List.append_assoc]⟩ rfl rfl
 ·obtain rfl:d=16:=by omega
  have d1:decide (((16:Nat):Int)<16)=false:=rfl
  rw[List.take_of_length_le (by omega)] at ht
  have htl:t.length<2000100:=by
   rw[ht,List.length_append]
   have:=V2_ (kw_ l)
   omega
  rw[←ht] at hidx
  first|with_reducible refine ks [] (And.intro @jS_ @d1) ?_|refine kp (And.intro @jS_ @d1) ?_
  refine Cw.loopG (G:=ByG) [42,43,44,45,48,49,50,51,52,53,54,55,56,57,58,59,60,61,62,63,64,65,66,67,68,69,5,46,47,9] (fun q=> [(5,vs q.t),(9,vi q.k)]) (fun q=> []) (fun q=>q.k≤l.length∧q.t=t++xd_ (l.take q.k)) (fun q=>l.length - q.k) ⟨t,0⟩ rfl rfl ?_ ?_
  ·exact⟨Nat.zero_le _,by simp[xd_]⟩
  intro q jq hq
  refine kv ?_
  obtain⟨u,k⟩:=q
  simp only at hq ⊢
  obtain⟨hk,hu⟩:=hq
  have hul:u.length≤2000100+k*44:=by
   rw[hu,List.length_append]
   have:=Zn_ l k hk
   omega
  by_cases hkl:k<l.length
  ·have d2:decide ((k:Int)< (l.length:Int))=true:=decide_eq_true (by omega)
   have hb:=hr.has (by omega)
   have ix:=hr.idx true k hkl
   have ld0:=abe_ hr hkl
   rw[Nat.add_zero] at ld0
   have ld1:=agQ_ hr hkl
   have ld2:=ahk_ hr hkl
   have hsn:=ZE_ l hkl
   generalize l.getD k rw0=r at*
   have hil:=r.id.h
   have h1:=zj_ r.place
   have h2:=zj_ r.spot
   first|with_reducible refine ks [] (And.intro @jS_ (And.intro @ln (@d2))) ?_|refine kp (And.intro @jS_ (And.intro @ln (@d2))) ?_
   refine Cw.regionS [rb] [0,1,2,3,4,8,9,10,11,15,16,17,18,5,12,19,6,7,13,14,20,21,22] [] (by kernel_rfl) (by kernel_rfl) (by kernel_rfl) ?_
   simp only[zh_, ↓zd_, ↓zb_, ↓zl_, ↓zm_,za_]
   refine kq (And.intro @jS_ (And.intro @hb (And.intro @ix (And.intro @ld0 (And.intro @ld1 (@ld2)))))) ?_
   refine Ow.soft rfl rfl rfl ?_
   refine Ow.callFV rfl Tryz.call84 (fun w' hw'=>acT_ r.id w') ?_
   with_reducible refine Ow.nil ?_
   refine⟨by intro b hb;simp only[List.mem_cons,List.not_mem_nil,or_false] at hb;(try subst hb);rfl, ?_⟩
   refine kq @jS_ ?_
   refine Ow.soft rfl rfl rfl ?_
   refine Ow.callFV rfl Tryz.call82 (fun w' hw'=>qt_ _ r.place w' (Nat.le_refl _)) ?_
   with_reducible refine Ow.nil ?_
   refine⟨by intro b hb;simp only[List.mem_cons,List.not_mem_nil,or_false] at hb;(try subst hb);rfl, ?_⟩
   refine kq @jS_ ?_
   refine Ow.soft rfl rfl rfl ?_
   refine Ow.callFV rfl Tryz.call82 (fun w' hw'=>qt_ _ r.spot w' (Nat.le_refl _)) ?_
   with_reducible refine Ow.nil ?_
   refine⟨by intro b hb;simp only[List.mem_cons,List.not_mem_nil,or_false] at hb;(try subst hb);rfl, ?_⟩
   refine kq @jS_ ?_
   try with_reducible refine Ow.nil ?_
   first|with_reducible refine ks [] @jS_ ?_|refine kp @jS_ ?_
   exact Again.mk ⟨u++r.id.l++qd_ (zw_ r.place)++qd_ (zw_ r.spot),k+1⟩ (by show l.length - (k+1)<l.length - k;omega) ⟨by show k+1≤l.length;omega,by show _=t++xd_ (l.take (k+1));rw[hsn,hu];unfold rowB;simp only[List.append_assoc]⟩ rfl rfl
  ·obtain rfl:k=l.length:=by omega
   have d2:decide ((l.length:Int)< (l.length:Int))=false:=decide_eq_false (by omega)
   rw[List.take_length,←hidx] at hu
   first|with_reducible refine ks [] (And.intro @jS_ (And.intro @ln (@d2))) ?_|refine kp (And.intro @jS_ (And.intro @ln (@d2))) ?_
   rw[hu] at*
   refine Ow.callFV rfl Tryz.call85 (fun w' hw'=>vS_ (vu_ s l) w' (by omega)) ?_
   refine ko @jS_ ?_
   first|with_reducible refine ks [] @jS_ ?_|refine kp @jS_ ?_
   refine⟨_,(ke @jS_),trivial, ?_⟩
   rfl
end Go.Proofs
end
