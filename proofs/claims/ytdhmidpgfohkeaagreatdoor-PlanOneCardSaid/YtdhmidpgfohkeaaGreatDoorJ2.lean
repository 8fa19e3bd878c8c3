/-
  Part 2 of the walk: contracts of the functions that the law reaches, and the calculus they stand on.
  No conditions.
-/
import Derived.Test.YtdhmidpgfohkeaaGreatDoorJ1
import Derived.Lib.Strings
import Derived.Lib.Bytealg
import GoSem.Core.Float
import Derived.Laws.MakeOwn
set_option linter.unusedVariables false
section
open Go Go.Proofs Go.Sx Go.StP
namespace Go.Proofs
set_option maxRecDepth 10000
set_option maxHeartbeats 400000
set_option linter.unusedSimpArgs false
theorem wc_ (most:Int): ∀ (l:List UInt8) (k n m k':Nat),z5_ most l k n= .ok (m,k')→(m:Int)≤most
 | [],_,_,_,_,h=>by simp[z5_] at h
 |c::r,k,n,m,k',h=>by
  unfold z5_ at h
  split at h
  ·split at h
   ·cases h
   ·exact wc_ most r _ _ _ _ h
  ·split at h
   ·cases h
   ·split at h
    ·rename_i hh
     cases h
     exact hh.2
    ·cases h
theorem q4_ {s:List UInt8} {a:Nat} {e most:Int} (h0:0≤most):0≤ (zs_ s a e most).1∧(zs_ s a e most).1≤most:=by
 unfold zs_
 split
 ·exact⟨Int.le_refl 0,h0⟩
 ·split
  ·rename_i n k h
   exact⟨Int.natCast_nonneg _,wc_ most _ _ _ _ _ h⟩
  ·exact⟨Int.le_refl 0,h0⟩
def zK_ (s:List UInt8) (a:Nat) (e:Int):Nat→List IdL×Nat×Int
 |0=>([],a,e)
 |n+1=>let p:=zK_ s a e n;let i:=idR s p.2.1 p.2.2;(p.1++ [vU_ i.1],i.2)
theorem wA_ (s:List UInt8) (a:Nat) (e:Int): ∀n,(zK_ s a e n).1.length=n
 |0=>rfl
 |n+1=>by simp only[zK_,List.length_append,List.length_cons,List.length_nil,wA_ s a e n]
theorem wZ_ {s:List UInt8} {a:Nat} {e:Int} (ha:a≤s.length): ∀n,(zK_ s a e n).2.1≤s.length
 |0=>ha
 |n+1=>(Kl_ (wZ_ ha n)).2
def comN (s:List UInt8):Int×Nat×Int:=zs_ s (idR s 0 0).2.1 (idR s 0 0).2.2 4
def kS_ (s:List UInt8):List IdL×Nat×Int:=zK_ s (comN s).2.1 (comN s).2.2 (comN s).1.toNat
def comT (s:List UInt8):List UInt8×Nat×Int:=zS_ s (kS_ s).2.1 (kS_ s).2.2 64
def vS_ (s:List UInt8):ComL×Nat×Int:=(⟨vU_ (idR s 0 0).1,(kS_ s).1,(comT s).1⟩,(comT s).2)
def xN_ (s:List UInt8) (a:Nat) (e:Int):Int:=if e≠0 then e else if(a:Int)< (s.length:Int) then 5 else 0
def acF_ (s:List UInt8):Option ComL:=if xN_ s (vS_ s).2.1 (vS_ s).2.2=0∧vs_ (vS_ s).1=true∧comB (vS_ s).1=s then some (vS_ s).1 else none
theorem ae9_ (t x:IdL) (p:Value) (y:List UInt8) (a:Bool) (E:TypeId):zn_ (some (a,32)) (some (.cells (qY_ t p y).toArray E (0,0))) 0 (.agg (a8 x.l))=some (.cells (qY_ x p y).toArray E (0,0)):=
 qt_ [] _ _ _ a _ E rfl (by simp[t.h]) (za_ _) (by simp[x.h]) (XP_ _)
theorem afY_ (t:IdL) (p q:Value) (y:List UInt8) (a:Bool) (E:TypeId) (hq:Value.oneCell' q=true∧q.cells= #[q]):zn_ (some (a,1)) (some (.cells (qY_ t p y).toArray E (0,0))) 32 q=some (.cells (qY_ t q y).toArray E (0,0)):=
 qt_ (t.l.map v8) [p] [q] [vs y] a _ E (by simp[t.h]) rfl hq.2 rfl (by simp[hq.1])
theorem aff_ (t:IdL) (p:Value) (y z:List UInt8) (a:Bool) (E:TypeId):zn_ (some (a,1)) (some (.cells (qY_ t p y).toArray E (0,0))) 33 (vs z)=some (.cells (qY_ t p z).toArray E (0,0)):=by
 have e: ∀y,qY_ t p y=(t.l.map v8++ [p])++ ([vs y]++ []):=fun y=>by unfold qY_;simp only[List.append_assoc,List.append_nil]
 rw[e,e];exact qt_ _ _ _ _ a _ E (by simp[t.h]) rfl rfl rfl rfl
theorem al6_:zI_ Tryz.prog 76=some (.agg (qY_ id0 (.slice none 0 0) []).toArray):=id (by kernel_rfl)
theorem vM_:qR_ (x7_ Tryz.prog 76) (zI_ Tryz.prog 76) []=some (.agg (qY_ id0 (.slice none 0 0) []).toArray):=by
 rw[show x7_ Tryz.prog 76=some [(0,32),(32,1),(33,1)] from id (by kernel_rfl),al6_];rfl
theorem wC_:zI_ Tryz.prog 41=some (.agg (a8 id0.l)):=id (by kernel_rfl)
end Go.Proofs
end
section
open Go Go.Proofs Go.Sx Go.StP
namespace Go.Proofs
set_option maxRecDepth 10000
set_option maxHeartbeats 400000
set_option linter.unusedSimpArgs false
theorem wS_ {b:Nat} {x:Obj}: ∀ {D L:zb_},b∉keys D→setB (D++L) b x=D++setB L b x
 | [],_,_=>rfl
 | (c,y)::r,L,h=>by
  simp only[keys,List.map_cons,List.mem_cons,not_or] at h
  rw[List.cons_append,q2_ _ _ _ _ _ (Ne.symm h.1),wS_ (by simpa [keys] using h.2)];rfl
def ajq_ (s:List UInt8) (v:Value) (D:zb_):Prop:=
 match acF_ s with
 |some c=> ∃p,v= .tuple #[.agg (qY_ c.tree p c.text).toArray, .bool true]∧Gr D 41 32 p c.par.length (c.par.map kq_).flatten
 |none=>v= .tuple #[.agg (qY_ id0 (.slice none 0 0) []).toArray, .bool false]
theorem aba_ (b:Nat) (s:List UInt8) (a:Nat) (e:Int) (w:World) (ho:w.heap[b]? =some (.cells #[vs s,vi a,vi e] 118 (0,0))):
  Rets Tryz.prog 59 #[vp b 0] w (fun v D=>v=vi (xN_ s a e)∧D= []):=wh_ b s a e w ho
structure CmG where
 g:Nat
 v:Value
 D:zb_
set_option linter.defProp false
def qK_:=And.intro (And.intro (And.intro (@vC_) (And.intro (@vK_) (@vR_))) (And.intro (And.intro (@kf_) (@kj_)) (And.intro (@aao_) (@aau_)))) (And.intro (And.intro (@aa6_) (And.intro (@adZ_) (@wX_))) (And.intro (And.intro (@ae9_) (@aff_)) (And.intro (@zA_) (@zz_))))
theorem Vq_ (s:List UInt8) (w:World) (hs:s.length<100000):
  Rets Tryz.prog 31 #[vs s] w (XS w [] (ajq_ s)):=by
 refine Rets.enterX Tryz.func31 rfl (rs:= [.cell 2 76, .tmp 3]) Tryz.results31 Tryz.ntmps31 (fun p hp=>by cases hp) (by simp[keys]) ?_
 refine kf ?_
 first|with_reducible refine ks [] @qK_ ?_|refine kp @qK_ ?_
 refine Ow.alloc rfl rfl al6_ fun b2 hb2 hw2=> ?_
 simp only[za_,List.nil_append,List.cons_append]
 refine ko @qK_ ?_
 refine Ow.build ((.agg #[vs s,vi 0,vi 0])) rfl (by kernel_rfl) ?_
 refine ko @qK_ ?_
 refine Ow.box rfl rfl fun br hbr hwr=> ?_
 have h2r:b2<br:=zh_ hbr (by simp[keys])
 simp only[zD_,zH_,zG_,za_,List.nil_append,List.cons_append]
 refine ko @qK_ ?_
 refine Ow.build (.agg (qY_ id0 (.slice none 0 0) []).toArray) rfl vM_ ?_
 refine ko @qK_ ?_
 refine Ow.alloc rfl rfl al6_ fun b5 hb5 hw5=> ?_
 simp only[za_,List.nil_append,List.cons_append]
 have h25:b2<b5:=zh_ hb5 (by simp[keys])
 have hr5:br<b5:=zh_ hb5 (by simp[keys])
 have st5: ∀a E,zn_ (some (a,34)) (some (.cells (qY_ id0 (.slice none 0 0) []).toArray E (0,0))) 0 (.agg (qY_ id0 (.slice none 0 0) []).toArray)=some (.cells (qY_ id0 (.slice none 0 0) []).toArray E (0,0)):=fun a E=>JS_ _ _ _ _ a E (by rw[List.size_toArray,vN_]) rfl
 refine ko (And.intro @qK_ @st5) ?_
 refine Ow.callM rfl rfl Tryz.call58 (by simp[keys]) (fun w' hw'=>Zw_ br s 0 0 w' (Nat.zero_le _) (by omega) (hw'.has _ _ (List.mem_cons_of_mem _ List.mem_cons_self))) ?_
 have ip:=Kl_ (s:=s) (a:=0) (e:=0) (Nat.zero_le _)
 have np:=qh_ (e:=(idR s 0 0).2.2) (most:=4) ip.2
 have nm:=q4_ (s:=s) (a:=(idR s 0 0).2.1) (e:=(idR s 0 0).2.2) (most:=4) (by decide)
 obtain⟨T,hT⟩: ∃T,vU_ (idR s 0 0).1=T:=⟨_,rfl⟩
 have hiT: (idR s 0 0).1=T.l:=by rw[←hT,ky_ (wm_ s 0 0)]
 have hcE:vS_ s=(⟨T,(kS_ s).1,(comT s).1⟩,(comT s).2):=by unfold vS_;rw[hT]
 rw[hiT]
 refine kn ?_
 refine ko @qK_ ?_
 refine Ow.callM rfl rfl Tryz.call56 (by simp[keys]) (fun w' hw'=>x3_ br s _ _ 4 w' ip.2 (by omega) (hw'.has _ _ (List.mem_cons_of_mem _ List.mem_cons_self))) ?_
 have hP:kS_ s=zK_ s (zs_ s (idR s 0 0).2.1 (idR s 0 0).2.2 4).2.1 (zs_ s (idR s 0 0).2.1 (idR s 0 0).2.2 4).2.2 (zs_ s (idR s 0 0).2.1 (idR s 0 0).2.2 4).1.toNat:=rfl
 generalize zs_ s (idR s 0 0).2.1 (idR s 0 0).2.2 4=nr at*
 obtain⟨cn,na,ne⟩:=nr
 simp only at np nm hP ⊢
 obtain⟨k,rfl⟩:=Int.eq_ofNat_of_zero_le nm.1
 rw[Int.toNat_natCast] at hP
 refine kn ?_
 refine ko @qK_ ?_
 refine Cw.permL (M:=(b5, .cells (qY_ T (.slice none 0 0) []).toArray 76 (0,0)):: (br, .cells #[vs s,vi na,vi ne] 118 (0,0)):: (b2, .cells (qY_ id0 (.slice none 0 0) []).toArray 76 (0,0)):: []) (by classical exact List.perm_iff_count.2 fun a=>by simp only[List.count_append,List.count_cons,List.count_nil]<;>omega) ?_
 refine Cw.loopG (G:=CmG) [17,18,19,22,23,24,25,26,27,28,20,21,7] (fun q=> [(7,vi q.g)]) (fun q=>(b5, .cells (qY_ T q.v []).toArray 76 (0,0)):: (br, .cells #[vs s,vi (zK_ s na ne q.g).2.1,vi (zK_ s na ne q.g).2.2] 118 (0,0)):: (b2, .cells (qY_ id0 (.slice none 0 0) []).toArray 76 (0,0))::q.D) (fun q=>q.g≤k∧New (b5+1) q.D∧Gr q.D 41 32 q.v q.g ((zK_ s na ne q.g).1.map kq_).flatten) (fun q=>k - q.g) ⟨0, .slice none 0 0,[]⟩ rfl rfl ?_ ?_
 ·exact⟨Nat.zero_le _,trivial,Gr.nl⟩
 ·intro q jq hq
  refine kv ?_
  obtain⟨g,v,D⟩:=q
  simp only at hq ⊢
  obtain⟨hgk,hN,hG⟩:=hq
  have gle:=wZ_ (e:=ne) np.2 g
  by_cases hlt:g<k
  ·have hgs:zK_ s na ne (g+1)=((zK_ s na ne g).1++ [vU_ (idR s (zK_ s na ne g).2.1 (zK_ s na ne g).2.2).1],(idR s (zK_ s na ne g).2.1 (zK_ s na ne g).2.2).2):=rfl
   first|with_reducible refine ks [7] @qK_ ?_|refine kp @qK_ ?_
   refine Cw.regionS [b5] [0,2,1,3,4,5,6,7] [7] (by kernel_rfl) (by kernel_rfl) (by kernel_rfl) ?_
   refine kya ?_
   refine kq @qK_ ?_
   refine Ow.softA ?_
   refine Ow.callM rfl rfl Tryz.call58 (by simp[keys]) (fun w' hw'=>Zw_ br s (zK_ s na ne g).2.1 (zK_ s na ne g).2.2 w' gle (by omega) (hw'.has _ _ (List.mem_cons_of_mem _ List.mem_cons_self))) ?_
   with_reducible refine Ow.nil ?_
   refine⟨fun b hb=>kZ_ (by simp only[List.mem_cons,List.not_mem_nil,or_false] at hb;omega), ?_⟩
   have hil:=wm_ s (zK_ s na ne g).2.1 (zK_ s na ne g).2.2
   obtain⟨I,hI⟩: ∃I,vU_ (idR s (zK_ s na ne g).2.1 (zK_ s na ne g).2.2).1=I:=⟨_,rfl⟩
   have hiI: (idR s (zK_ s na ne g).2.1 (zK_ s na ne g).2.2).1=I.l:=by rw[←hI,ky_ hil]
   rw[hI] at hgs
   have hg1: (zK_ s na ne (g+1)).1=(zK_ s na ne g).1++ [I]:=by rw[hgs]
   have hg2: (zK_ s na ne (g+1)).2=(idR s (zK_ s na ne g).2.1 (zK_ s na ne g).2.2).2:=by rw[hgs]
   rw[hiI,←hg2]
   refine kn ?_
   refine Ow.softA ?_
   refine Ow.buildSlice (e:=41) (a8 I.l) rfl rfl (qn_ (cs:=I.l.map v8) Tryz.underlying68 Tryz.ag41 wC_ (by decide) (by simp[I.h])) fun b13 hb13 hw13=> ?_
   have hr13:b5<b13:=zh_ hb13 (by simp[keys])
   with_reducible refine Ow.nil ?_
   refine⟨qk_ (by simp[keys]), ?_⟩
   try simp only[List.cons_append,List.nil_append]
   refine Ow.softA ?_
   refine Ow.permL (M:=D++ ((b5,Obj.cells (qY_ T v []).toArray 76 (0,0)):: (br,Obj.cells #[vs s,vi (zK_ s na ne (g+1)).2.1,vi (zK_ s na ne (g+1)).2.2] 118 (0,0)):: (b2,Obj.cells (qY_ id0 (.slice none 0 0) []).toArray 76 (0,0)):: [(b13,Obj.cells (a8 I.l) 41 (0,0))])) (by classical exact List.perm_iff_count.2 fun a=>by simp only[List.count_append,List.count_cons,List.count_nil]<;>omega) ?_
   refine Ow.appendX (e:=41) (k:=1) (new:=kq_ I) (X:=D) v rfl rfl rfl rfl Tryz.underlying68 Tryz.ag41 (by kernel_rfl) wC_ (by rw[za_,x5_,id0.h]) Tryz.underlying68 (by intro k h;cases h) hG (fun w' hw'=>AppX.one1 (hw'.has b13 (.cells (a8 I.l) 41 (0,0)) (by simp)) (qT_ I) (kb_ I)) (by omega) (by omega) (fun B v4 D4 hA4 hB4 hbuf hk1 hk2 hlk=> ?_)
   have hB13:b13<B:=zh_ hA4 (by simp[ze_,keys])
   have hN4:New (b5+1) D4:=New.of_le fun q hq=>by
    rcases hk2 q hq with h|h
    ·exact hN.le q h
    ·omega
   have h54:b5∉keys D4:=hN4.not (by omega)
   with_reducible refine Ow.nil ?_
   refine⟨fun q hq=> ?_, ?_⟩
   ·rw[List.mem_singleton] at hq
    subst hq
    rw[vH_ h54]
    simp only[zr_]
   have hlk5: ∀M,Sx.look (D4++M) b5=Sx.look M b5:=fun M=>z9_ h54
   have hsb5: ∀M x,setB (D4++M) b5 x=D4++setB M b5 x:=fun M x=>wS_ h54
   have st5:=fun a E=>afY_ T v v4 [] a E hbuf.cell
   refine kq (And.intro @qK_ (And.intro @hlk5 (And.intro @hsb5 (And.intro @st5 (@akm_))))) ?_
   have hst7:j9_ (qc_ Tryz.prog 68) (D4++ [(b5,Obj.cells (qY_ T v []).toArray 76 (0,0)),(br,Obj.cells #[vs s,vi (zK_ s na ne (g+1)).2.1,vi (zK_ s na ne (g+1)).2.2] 118 (0,0)),(b2,Obj.cells (qY_ id0 (.slice none 0 0) []).toArray 76 (0,0)),(b13,Obj.cells (a8 I.l) 41 (0,0))]) (vp b5 32) v4=
     some (D4++ [(b5,Obj.cells (qY_ T v4 []).toArray 76 (0,0)),(br,Obj.cells #[vs s,vi (zK_ s na ne (g+1)).2.1,vi (zK_ s na ne (g+1)).2.2] 118 (0,0)),(b2,Obj.cells (qY_ id0 (.slice none 0 0) []).toArray 76 (0,0)),(b13,Obj.cells (a8 I.l) 41 (0,0))]):=by
    rw[Tryz.ag68,vn_,hlk5]
    simp only[zP_,st5,w3_,hsb5,jc_]
   refine Ow.store rfl rfl rfl hst7 ?_
   refine ko @qK_ ?_
   refine Cw.permL (M:=(b5,Obj.cells (qY_ T v4 []).toArray 76 (0,0)):: (br,Obj.cells #[vs s,vi (zK_ s na ne (g+1)).2.1,vi (zK_ s na ne (g+1)).2.2] 118 (0,0)):: (b2,Obj.cells (qY_ id0 (.slice none 0 0) []).toArray 76 (0,0)):: (D4++ [(b13,Obj.cells (a8 I.l) 41 (0,0))])) (by classical exact List.perm_iff_count.2 fun a=>by simp only[List.count_append,List.count_cons,List.count_nil]<;>omega) ?_
   first|with_reducible refine ks [] @qK_ ?_|refine kp @qK_ ?_
   refine Again.mk (CmG.mk (g+1) v4 (D4++ [(b13,Obj.cells (a8 I.l) 41 (0,0))])) (by show k - (g+1)<k - g;omega) ⟨by show g+1≤k;omega,hN4.app ⟨by omega,trivial⟩, ?_⟩ rfl rfl
   show Gr _ _ _ _ (g+1) ((zK_ s na ne (g+1)).1.map kq_).flatten
   rw[hg1,List.map_append,List.flatten_append,show([I].map kq_).flatten=kq_ I by simp]
   exact Gr.app (.inl hbuf)
  ·obtain rfl:g=k:=by omega
   rw[←hP] at hG
   rw[←hP] at gle
   rw[←hP]
   have tp:=xS_ (e:=(kS_ s).2.2) (most:=64) gle
   first|with_reducible refine ks [] @qK_ ?_|refine kp @qK_ ?_
   refine Ow.callM rfl rfl Tryz.call57 (by simp[keys]) (fun w' hw'=>ZQ_ br s (kS_ s).2.1 (kS_ s).2.2 64 w' gle (by omega) (hw'.has _ _ (List.mem_cons_of_mem _ List.mem_cons_self))) ?_
   refine kn ?_
   refine ko @qK_ ?_
   have hT2:comT s=zS_ s (kS_ s).2.1 (kS_ s).2.2 64:=rfl
   have htl:=Qy_ s (kS_ s).2.1 (kS_ s).2.2 64
   rw[hT2] at hcE
   generalize zS_ s (kS_ s).2.1 (kS_ s).2.2 64=tx at*
   obtain⟨tt,a3,e3⟩:=tx
   simp only at tp hcE htl ⊢
   have hPl: (kS_ s).1.length=g:=by rw[hP,wA_]
   generalize (kS_ s).1=pl at*
   have hg4:g≤4:=by omega
   have hC: ∀w',Hp w ((b5,Obj.cells (qY_ T v tt).toArray 76 (0,0)):: (br, .cells #[vs s,vi a3,vi e3] 118 (0,0)):: (b2,Obj.cells (qY_ id0 (.slice none 0 0) []).toArray 76 (0,0))::D) w'→ComS w' (.agg (qY_ T v tt).toArray) ⟨T,pl,tt⟩:=fun w' hw'=>
    ⟨v,rfl,hG.slM (fun b o hm=>hw'.has b o (by simp[hm])) hPl rfl qT_⟩
   have hNe:New w.heap.size ((b5,Obj.cells (qY_ T v tt).toArray 76 (0,0)):: (br, .cells #[vs s,vi a3,vi e3] 118 (0,0)):: (b2,Obj.cells (qY_ id0 (.slice none 0 0) []).toArray 76 (0,0))::D):=⟨hw5,hwr,hw2,New.mono (by omega) hN⟩
   have hR:acF_ s=if xN_ s a3 e3=0∧vs_ ⟨T,pl,tt⟩=true∧comB ⟨T,pl,tt⟩=s then some ⟨T,pl,tt⟩ else none:=by unfold acF_;rw[hcE]
   have stz: ∀a E,zn_ (some (a,34)) (some (.cells (qY_ id0 (.slice none 0 0) []).toArray E (0,0))) 0 (.agg (qY_ id0 (.slice none 0 0) []).toArray)=some (.cells (qY_ id0 (.slice none 0 0) []).toArray E (0,0)):=st5
   unfold ajq_
   rw[hR]
   refine Ow.callFV rfl Tryz.call59 (fun w' hw'=>aba_ br s a3 e3 w' (hw'.has _ _ (List.mem_cons_of_mem _ List.mem_cons_self))) ?_
   by_cases he:xN_ s a3 e3=0
   ·have d1: (xN_ s a3 e3 !=0)=false:=by simp[he]
    refine ko (And.intro @qK_ @d1) ?_
    refine Ow.callFV rfl Tryz.call62 (fun w' hw'=>Z2_ _ _ w' (hC w' hw') (by show pl.length<1000000;omega) (by show tt.length<1099511627776;omega)) ?_
    cases hr:vs_ ⟨T,pl,tt⟩
    ·rw[if_neg (by simp)]
     refine ko @qK_ ?_
     refine Ow.build (.agg (qY_ id0 (.slice none 0 0) []).toArray) rfl vM_ ?_
     refine ko (And.intro @qK_ @stz) ?_
     first|with_reducible refine ks [] @qK_ ?_|refine kp @qK_ ?_
     refine⟨_,(ke @qK_), ?_⟩
     exact⟨Ext.of_new hNe,rfl⟩
    ·refine ko @qK_ ?_
     refine Ow.callFV rfl Tryz.call63 (fun w' hw'=>JG_ _ _ w' (hC w' hw') (by show pl.length<1000000;omega) (by show tt.length<1099511627776;omega)) ?_
     by_cases hb:comB ⟨T,pl,tt⟩=s
     ·have d3: (comB ⟨T,pl,tt⟩ !=s)=false:=by simp[hb]
      have stq: ∀a E,zn_ (some (a,34)) (some (.cells (qY_ id0 (.slice none 0 0) []).toArray E (0,0))) 0 (.agg (qY_ T v tt).toArray)=some (.cells (qY_ T v tt).toArray E (0,0)):=fun a E=>JS_ _ _ _ _ a E (by rw[List.size_toArray,vN_]) hG.cell.1
      rw[if_pos ⟨he,rfl,hb⟩]
      refine ko (And.intro @qK_ (And.intro @d3 (@stq))) ?_
      first|with_reducible refine ks [] @qK_ ?_|refine kp @qK_ ?_
      refine⟨_,(ke @qK_), ?_⟩
      refine⟨Ext.of_new ⟨hw5,hwr,hw2,New.mono (by omega) hN⟩,v,rfl, ?_⟩
      show Gr _ _ _ _ pl.length (pl.map kq_).flatten
      rw[hPl]
      exact hG.keep fun b o hb ho=>by
       have:=hN.le b (zo_ ho)
       simp(disch:=omega) only[qx_]
       exact ho
     ·have d3: (comB ⟨T,pl,tt⟩ !=s)=true:=by simp[hb]
      rw[if_neg (fun h=>hb h.2.2)]
      refine ko (And.intro @qK_ @d3) ?_
      refine Ow.build (.agg (qY_ id0 (.slice none 0 0) []).toArray) rfl vM_ ?_
      refine ko (And.intro @qK_ @stz) ?_
      first|with_reducible refine ks [] @qK_ ?_|refine kp @qK_ ?_
      refine⟨_,(ke @qK_), ?_⟩
      exact⟨Ext.of_new hNe,rfl⟩
   ·have d1: (xN_ s a3 e3 !=0)=true:=by simp[he]
    rw[if_neg (fun h=>he h.1)]
    refine ko (And.intro @qK_ @d1) ?_
    refine Ow.build (.agg (qY_ id0 (.slice none 0 0) []).toArray) rfl vM_ ?_
    refine ko (And.intro @qK_ @stz) ?_
    first|with_reducible refine ks [] @qK_ ?_|refine kp @qK_ ?_
    refine⟨_,(ke @qK_), ?_⟩
    exact⟨Ext.of_new hNe,rfl⟩
end Go.Proofs
end
section
open Go Go.Proofs Go.Sx Go.StP
namespace Go.Proofs
set_option maxRecDepth 10000
set_option maxHeartbeats 400000
set_option linter.unusedSimpArgs false
def roC (r v:Value) (t:IdL) (p:Value) (y:List UInt8):List Value:= [r]++ ([v]++qY_ t p y)
theorem ad5_ (r v:Value) (t:IdL) (p:Value) (y:List UInt8) (n:Nat) (E:TypeId) (fz:Nat×Nat):zl_ (some (false,n)) (some (.cells (roC r v t p y).toArray E fz)) 0=some r:=kE_ [] _ r n E fz rfl
theorem aep_ (r v:Value) (t:IdL) (p:Value) (y:List UInt8) (n:Nat) (E:TypeId) (fz:Nat×Nat):zl_ (some (false,n)) (some (.cells (roC r v t p y).toArray E fz)) 1=some v:=by
 unfold roC;exact kE_ [r] _ v n E fz rfl
theorem aet_ (r v:Value) (t:IdL) (p:Value) (y:List UInt8) (E:TypeId) (fz:Nat×Nat):zl_ (some (true,34)) (some (.cells (roC r v t p y).toArray E fz)) 2=some (.agg (qY_ t p y).toArray):=by
 have e:roC r v t p y= [r,v]++ (qY_ t p y++ []):=by unfold roC;simp
 rw[e];exact kL_ [r,v] _ _ E fz rfl (vN_ _ _ _)
theorem V3_ (r v:Value) (t:IdL) (p:Value) (y:List UInt8) (n:Nat) (E:TypeId) (fz:Nat×Nat):zl_ (some (false,n)) (some (.cells (roC r v t p y).toArray E fz)) 34=some p:=by
 have e:roC r v t p y=([r,v]++t.l.map v8)++ ([p]++ [vs y]):=by unfold roC qY_;simp
 rw[e];exact kE_ _ _ p n E fz (by simp[t.h])
theorem aiu_ (r v q:Value) (t:IdL) (p:Value) (y:List UInt8) (a:Bool) (E:TypeId) (hq:Value.oneCell' q=true∧q.cells= #[q]):zn_ (some (a,1)) (some (.cells (roC r v t p y).toArray E (0,0))) 1 q=some (.cells (roC r q t p y).toArray E (0,0)):=by
 unfold roC
 exact qt_ [r] [v] [q] _ a _ E rfl rfl hq.2 rfl (by simp[hq.1])
theorem ai2_ (r v:Value) (t x:IdL) (p:Value) (y:List UInt8) (a:Bool) (E:TypeId):zn_ (some (a,32)) (some (.cells (roC r v t p y).toArray E (0,0))) 2 (.agg (a8 x.l))=some (.cells (roC r v x p y).toArray E (0,0)):=by
 have e: ∀t,roC r v t p y= [r,v]++ (t.l.map v8++ ([p]++ [vs y])):=fun t=>by unfold roC qY_;simp
 rw[e,e];exact qt_ [r,v] _ _ _ a _ E rfl (by simp[t.h]) (za_ _) (by simp[x.h]) (XP_ _)
theorem afF_ (r v:Value) (t:IdL) (p q:Value) (y:List UInt8) (a:Bool) (E:TypeId) (hq:Value.oneCell' q=true∧q.cells= #[q]):zn_ (some (a,1)) (some (.cells (roC r v t p y).toArray E (0,0))) 34 q=some (.cells (roC r v t q y).toArray E (0,0)):=by
 have e: ∀p,roC r v t p y=([r,v]++t.l.map v8)++ ([p]++ [vs y]):=fun p=>by unfold roC qY_;simp
 rw[e,e];exact qt_ _ [p] [q] [vs y] a _ E (by simp[t.h]) rfl hq.2 rfl (by simp[hq.1])
theorem afS_ (r v:Value) (t:IdL) (p:Value) (y z:List UInt8) (a:Bool) (E:TypeId):zn_ (some (a,1)) (some (.cells (roC r v t p y).toArray E (0,0))) 35 (vs z)=some (.cells (roC r v t p z).toArray E (0,0)):=by
 have e: ∀y,roC r v t p y=(([r,v]++t.l.map v8)++ [p])++ ([vs y]++ []):=fun y=>by unfold roC qY_;simp
 rw[e,e];exact qt_ _ _ _ _ a _ E (by simp[t.h]) rfl rfl rfl rfl
theorem afz_ (k:Int) (t:List UInt8):qR_ (x7_ Tryz.prog 120) (zI_ Tryz.prog 120) [(1,vi k),(0,vs t)]=some (.agg (q5_ ⟨t,k,id0⟩).toArray):=by
 rw[show x7_ Tryz.prog 120=some [(0,1),(1,1),(2,32)] from id (by kernel_rfl),Va_];rfl
theorem kp_ (b:Nat) (s:List UInt8) (a:Nat) (e:Int) (w:World) (ho:w.heap[b]? =some (.cells #[vs s,vi a,vi e] 108 (0,0))):
  Rets Tryz.prog 28 #[vp b 0] w (fun v D=>v=vi (xN_ s a e)∧D= []):=Qp_ b s a e w ho
set_option linter.defProp false
def xJ_:=And.intro (And.intro (And.intro (And.intro (@vC_) (@vK_)) (And.intro (@vR_) (@kf_))) (And.intro (And.intro (@kj_) (@ad5_)) (And.intro (@aep_) (@aet_)))) (And.intro (And.intro (And.intro (@V3_) (@Vi_)) (And.intro (@X1_) (@XO_))) (And.intro (And.intro (@Kq_) (@vP_)) (And.intro (@vp_) (And.intro (@zA_) (@zz_)))))
theorem Vc_ {w:World} {a b:Nat} {x y:Obj} (h:w.heap[a]? =some x) (h':w.heap[b]? =some y): ∀p:Nat×Obj,p∈ [(a,x),(b,y)]→w.heap[p.1]? =some p.2:=by
 intro p hp
 simp only[List.mem_cons,List.not_mem_nil,or_false] at hp
 rcases hp with rfl|rfl<;>assumption
structure EnH where
 n:Nat
 a:Nat
 e:Int
 l:List EntL
 v:Value
 D:zb_
 H:zb_
def amS_ (bo bw:Nat) (s:List UInt8) (v:Value) (D:zb_):Prop:=
 v= .bool (xN_ s (jC_ s).2.1 (jC_ s).2.2==0&&xF_ (jC_ s).1)∧ ∃v1,Sx.look D bo=some (.cells (roC (vp bw 0) v1 id0 (.slice none 0 0) []).toArray 191 (0,0))∧Gr D 120 34 v1 (jC_ s).1.length ((jC_ s).1.map q5_).flatten
theorem acZ_ (bo bw:Nat) (s:List UInt8) (w:World) (hs:s.length<100000) (hne:bo≠bw)
  (ho:w.heap[bo]? =some (.cells (roC (vp bw 0) (.slice none 0 0) id0 (.slice none 0 0) []).toArray 191 (0,0))) (hr:w.heap[bw]? =some (.cells #[vs s,vi 0,vi 0] 108 (0,0))):
  Rets Tryz.prog 117 #[vp bo 0] w (XS w [(bo, .cells (roC (vp bw 0) (.slice none 0 0) id0 (.slice none 0 0) []).toArray 191 (0,0)),(bw, .cells #[vs s,vi 0,vi 0] 108 (0,0))] (amS_ bo bw s)):=by
 have hob:bo<w.heap.size:=(Array.getElem?_eq_some_iff.1 ho).1
 have hwb:bw<w.heap.size:=(Array.getElem?_eq_some_iff.1 hr).1
 refine Rets.enterX Tryz.func117 rfl (rs:= [.tmp 2]) Tryz.results117 Tryz.ntmps117 (Vc_ ho hr) (by simp[keys,hne]) ?_
 refine kf ?_
 first|with_reducible refine ks [] @xJ_ ?_|refine kp @xJ_ ?_
 refine Cw.loopG (G:=EnH) [4,5,6,7,8,9,10,11,12,13,14,15,16,17,18,19,20,3,21,22,23,24,25,26,27,28,29,30,31,32,33,34,35,36] (fun q=> []) (fun q=>q.H) (fun q=>EntsJ s q.n q.a q.e q.l∧New w.heap.size q.D∧Gr q.D 120 34 q.v q.l.length (q.l.map q5_).flatten∧((bo,Obj.cells (roC (vp bw 0) q.v id0 (.slice none 0 0) []).toArray 191 (0,0)):: (bw, .cells #[vs s,vi q.a,vi q.e] 108 (0,0))::q.D).Perm q.H) (fun q=>q.n) ⟨s.length+1,0,0,[], .slice none 0 0,[],[(bo,Obj.cells (roC (vp bw 0) (.slice none 0 0) id0 (.slice none 0 0) []).toArray 191 (0,0)),(bw, .cells #[vs s,vi 0,vi 0] 108 (0,0))]⟩ rfl rfl ?_ ?_
 ·exact⟨EntsJ.init s,trivial,Gr.nl,List.Perm.refl _⟩
 ·intro q jq hq
  refine kv ?_
  obtain⟨n,a,e,l,v,D,H0⟩:=q
  simp only at hq ⊢
  obtain⟨hJ,hN,hG,hPm⟩:=hq
  refine Cw.permL hPm ?_
  clear hPm
  have hle:=hJ.le
  first|with_reducible refine ks [3] @xJ_ ?_|refine kp @xJ_ ?_
  refine Ow.callFV rfl Tryz.call28 (fun w' hw'=>kp_ bw s a e w' (hw'.has _ _ (List.mem_cons_of_mem _ List.mem_cons_self))) ?_
  by_cases hc:e=0∧a<s.length
  ·obtain⟨m,rfl,hJ'⟩:=hJ.next hc
   obtain⟨he,hlt⟩:=hc
   have h5:xN_ s a e=5:=by unfold xN_;rw[if_neg (by simp[he]),if_pos (by omega)]
   have d1: (xN_ s a e==5)=true:=by simp[h5]
   refine ko (And.intro @xJ_ @d1) ?_
   have hp:=qh_ (e:=e) (most:=2) hle
   have hq:=xS_ (e:=(zs_ s a e 2).2.2) (most:=32) hp.2
   have heq:J3_ s a e=(⟨(zS_ s (zs_ s a e 2).2.1 (zs_ s a e 2).2.2 32).1,(zs_ s a e 2).1,vU_ (idR s (zS_ s (zs_ s a e 2).2.1 (zs_ s a e 2).2.2 32).2.1 (zS_ s (zs_ s a e 2).2.1 (zs_ s a e 2).2.2 32).2.2).1⟩,(idR s (zS_ s (zs_ s a e 2).2.1 (zs_ s a e 2).2.2 32).2.1 (zS_ s (zs_ s a e 2).2.1 (zs_ s a e 2).2.2 32).2.2).2):=rfl
   have hil:=wm_ s (zS_ s (zs_ s a e 2).2.1 (zs_ s a e 2).2.2 32).2.1 (zS_ s (zs_ s a e 2).2.1 (zs_ s a e 2).2.2 32).2.2
   refine Cw.regionD [bo] [12] 11 3 120 12 _ rfl (by kernel_rfl) (by kernel_rfl) rfl (by kernel_rfl) Va_ (fun hD=> ?_)
   refine kyc ?_
   refine OwD.run [0,1,2,3,5,6,7,8] [true,true,true,true,false,true,true,true,true,false,false,false,false] 4 rfl hD (by kernel_rfl) fun k hk=> ?_
   refine kya ?_
   simp(disch:=(first|assumption|omega| (simp only[wr_,we_,UInt64.reduceToNat];try omega))) only[↓Sx.S0,Sx.S1,Tryz.fx,xJ_,Nat.reduceAdd,Nat.reducePow,Int.reducePow,Nat.reduceBEq, ↓reduceIte,UInt8.reduceToNat,UInt16.reduceToNat,UInt32.reduceToNat,UInt64.reduceToNat,Int.reduceToNat,Md.next_sofnil,Md.next_sofnil]
   (with_reducible refine hk _ _ _ ?_);clear hk k
   refine OwD.soft 4 _ hD rfl (by kernel_rfl) (fun E hE=> ?_)
   refine Ow.callM rfl rfl Tryz.call49 (by simp[keys]) (fun w' hw'=>qP_ bw s a e 2 w' hle (by omega) (hw'.has _ _ (by simp))) ?_
   generalize zs_ s a e 2=p at*
   obtain⟨kd,a1,e1⟩:=p
   simp only at hp hq heq hil ⊢
   refine kn ?_
   with_reducible refine Ow.nil ?_
   refine⟨(bo,Obj.cells (roC (vp bw 0) v id0 (.slice none 0 0) []).toArray 191 (0,0)):: (bw, .cells #[vs s,vi a1,vi e1] 108 (0,0))::D,(by classical exact List.perm_iff_count.2 fun a=>by simp only[List.count_append,List.count_cons,List.count_nil]<;>omega),fun r hr=> ?_, ?_⟩
   ·rw[List.mem_singleton.1 hr]
    simp only[zr_]
   simp only[List.set_cons_zero,List.set_cons_succ,zW_,ji_,jk_]
   refine OwD.soft 9 _ hD rfl (by kernel_rfl) (fun E hE=> ?_)
   refine Ow.callM rfl rfl Tryz.call52 (by simp[keys]) (fun w' hw'=>vy_ bw s a1 e1 32 w' hp.2 (by omega) (hw'.has _ _ (by simp))) ?_
   generalize zS_ s a1 e1 32=q at*
   obtain⟨tt,a2,e2⟩:=q
   simp only at hq heq hil ⊢
   refine kn ?_
   with_reducible refine Ow.nil ?_
   refine⟨(bo,Obj.cells (roC (vp bw 0) v id0 (.slice none 0 0) []).toArray 191 (0,0)):: (bw, .cells #[vs s,vi a2,vi e2] 108 (0,0))::D,(by classical exact List.perm_iff_count.2 fun a=>by simp only[List.count_append,List.count_cons,List.count_nil]<;>omega),fun r hr=> ?_, ?_⟩
   ·rw[List.mem_singleton.1 hr]
    simp only[zr_]
   simp only[List.set_cons_zero,List.set_cons_succ,zW_,ji_,jk_]
   refine OwD.soft 10 _ hD rfl (by kernel_rfl) (fun E hE=> ?_)
   refine Ow.build (.agg (q5_ ⟨tt,kd,id0⟩).toArray) rfl (afz_ kd tt) ?_
   with_reducible refine Ow.nil ?_
   refine⟨_,List.Perm.refl _,fun _ _=>rfl, ?_⟩
   simp only[List.set_cons_zero,List.set_cons_succ,zW_,ji_,jk_]
   refine OwD.real [12] rfl hD (by kernel_rfl) (by kernel_rfl) (by kernel_rfl) (by kernel_rfl) (fun r hr=>by rw[List.mem_singleton.1 hr];exact .inl (by simp[keys])) ?_
   refine kya ?_
   intro b3 hw3 hbL
   simp only[ji_,jk_]
   have hst3:=vP_ ⟨tt,kd,id0⟩ ju_
   refine Ow.store rfl rfl rfl (L':=((bo,Obj.cells (roC (vp bw 0) v id0 (.slice none 0 0) []).toArray 191 (0,0)):: (bw, .cells #[vs s,vi a2,vi e2] 108 (0,0))::D)++ [(b3, .cells (q5_ ⟨tt,kd,id0⟩).toArray 120 (0,0))]) ?_ ?_
   ·simp only[zD_,zH_,zG_]
    rw[Tryz.ag120,vn_,acs_ hbL,za_,hst3,w3_,Kp_ hbL]
    exact []
   refine ko @xJ_ ?_
   refine Cw.permL (M:=(b3, .cells (q5_ ⟨tt,kd,id0⟩).toArray 120 (0,0)):: (bo,Obj.cells (roC (vp bw 0) v id0 (.slice none 0 0) []).toArray 191 (0,0)):: (bw, .cells #[vs s,vi a2,vi e2] 108 (0,0))::D) (by classical exact List.perm_iff_count.2 fun a=>by simp only[List.count_append,List.count_cons,List.count_nil]<;>omega) ?_
   have hb3o:bo≠b3:=by simp[keys] at hbL;omega
   have hb3w:bw≠b3:=by simp[keys] at hbL;omega
   first|with_reducible refine ks [] @xJ_ ?_|refine kp @xJ_ ?_
   refine Ow.callM rfl rfl Tryz.call134 (by simp[keys]) (fun w' hw'=>K3_ bw s a2 e2 w' hq.2 (by omega) (hw'.has _ _ (by simp))) ?_
   generalize idR s a2 e2=i at*
   obtain⟨il,a3,e3⟩:=i
   simp only at heq hil ⊢
   obtain⟨I,hI⟩: ∃I,vU_ il=I:=⟨_,rfl⟩
   have hiI:il=I.l:=by rw[←hI,ky_ hil]
   rw[hI] at heq
   rw[hiI]
   refine kn ?_
   refine ko @xJ_ ?_
   generalize hx: ({name:=tt,kind:=kd,id:=I}:EntL)=x
   rw[hx] at heq
   rw[heq] at hJ'
   refine Cw.regionS [bo,b3] [0,1,2,3,4,5,6,7,8,9,10] [10] (by kernel_rfl) (by kernel_rfl) (by kernel_rfl) ?_
   refine kya ?_
   refine kq @xJ_ ?_
   refine Ow.softA ?_
   refine Ow.buildSlice (e:=120) (q5_ x).toArray rfl rfl (qn_ Tryz.underlying72 Tryz.ag120 Va_ (by decide) (q6_ x)) fun b13 hb13 hw13=> ?_
   have h3d:b3<b13:=zh_ hb13 (by simp[keys])
   with_reducible refine Ow.nil ?_
   refine⟨qk_ (by simp[keys]), ?_⟩
   try simp only[List.cons_append,List.nil_append]
   refine Ow.softA ?_
   refine Ow.permL (M:=D++ [(b3,Obj.cells (q5_ x).toArray 120 (0,0)),(bo,Obj.cells (roC (vp bw 0) v id0 (.slice none 0 0) []).toArray 191 (0,0)),(bw, .cells #[vs s,vi a3,vi e3] 108 (0,0)),(b13,Obj.cells (q5_ x).toArray 120 (0,0))]) (by classical exact List.perm_iff_count.2 fun a=>by simp only[List.count_append,List.count_cons,List.count_nil]<;>omega) ?_
   refine Ow.appendX (e:=120) (k:=1) (new:=q5_ x) (X:=D) v rfl rfl rfl rfl Tryz.underlying72 Tryz.ag120 (by kernel_rfl) Va_ (by rw[vp_,List.size_toArray,q6_]) Tryz.underlying72 (by intro k h;cases h) hG (fun w' hw'=>AppX.one1 (hw'.has b13 (.cells (q5_ x).toArray 120 (0,0)) (by simp)) (q6_ _) (Vd_ _)) (by omega) (by have:=hJ.cnt;omega) (fun B v4 D4 hA4 hB4 hbuf hk1 hk2 hlk=> ?_)
   have hB3:b3<B:=zh_ hA4 (by simp[ze_,keys])
   have hN4:New w.heap.size D4:=New.of_le fun q hq=>by
    rcases hk2 q hq with h|h
    ·exact hN.le q h
    ·omega
   have ho4:bo∉keys D4:=hN4.not hob
   have h34:b3∉keys D4:=fun hm=>by
    rcases hk2 b3 hm with h|h
    ·exact hbL (by simp only[keys,List.map_cons,List.mem_cons];exact .inr (.inr h))
    ·omega
   with_reducible refine Ow.nil ?_
   refine⟨fun q hq=> ?_, ?_⟩
   ·simp only[List.mem_cons,List.not_mem_nil,or_false] at hq
    rcases hq with rfl|rfl
    ·rw[vH_ ho4]
     simp(disch:=omega) only[zr_,zm_]
    ·rw[vH_ h34]
     simp(disch:=omega) only[zr_,zm_]
   have hlko: ∀M,Sx.look (D4++M) bo=Sx.look M bo:=fun M=>z9_ ho4
   have hsbo: ∀M x,setB (D4++M) bo x=D4++setB M bo x:=fun M x=>wS_ ho4
   have st1:=fun a E=>aiu_ (vp bw 0) v v4 id0 (.slice none 0 0) [] a E hbuf.cell
   have hst7:j9_ (qc_ Tryz.prog 72) (D4++ [(b3,Obj.cells (q5_ x).toArray 120 (0,0)),(bo,Obj.cells (roC (vp bw 0) v id0 (.slice none 0 0) []).toArray 191 (0,0)),(bw, .cells #[vs s,vi a3,vi e3] 108 (0,0)),(b13,Obj.cells (q5_ x).toArray 120 (0,0))]) (vp bo 1) v4=some (D4++ [(b3,Obj.cells (q5_ x).toArray 120 (0,0)),(bo,Obj.cells (roC (vp bw 0) v4 id0 (.slice none 0 0) []).toArray 191 (0,0)),(bw, .cells #[vs s,vi a3,vi e3] 108 (0,0)),(b13,Obj.cells (q5_ x).toArray 120 (0,0))]):=by
    rw[Tryz.ag72,vn_,hlko]
    simp(disch:=omega) only[zP_,qx_,st1,w3_,hsbo,jc_,q2_]
   refine kq @xJ_ ?_
   refine Ow.store rfl rfl rfl hst7 ?_
   refine ko @xJ_ ?_
   refine Again.mk (EnH.mk m a3 e3 (l++ [x]) v4 (D4++ [(b3,Obj.cells (q5_ x).toArray 120 (0,0)),(b13,Obj.cells (q5_ x).toArray 120 (0,0))]) _) (by show m<m+1;omega) ⟨hJ',hN4.app ⟨by omega,by omega,trivial⟩, ?_, ?_⟩ rfl rfl
   ·show Gr _ _ _ _ (l++ [x]).length ((l++ [x]).map q5_).flatten
    rw[List.length_append,List.map_append,List.flatten_append,show([x].map q5_).flatten=q5_ x by simp]
    exact Gr.app (.inl hbuf)
   ·exact(by classical exact List.perm_iff_count.2 fun a=>by simp only[List.count_append,List.count_cons,List.count_nil]<;>omega)
  ·have hd:=hJ.done hc
   have hsh:=hJ.sh (by omega)
   have hcn:=hJ.cnt
   have h5:xN_ s a e≠5:=by
    unfold xN_
    by_cases he:e=0
    ·rw[if_neg (by simp[he]),if_neg (by omega)];decide
    ·rw[if_pos he];exact hJ.five
   have d1: (xN_ s a e==5)=false:=by simpa using h5
   have hE:Ext w [(bo,Obj.cells (roC (vp bw 0) (.slice none 0 0) id0 (.slice none 0 0) []).toArray 191 (0,0)),(bw,Obj.cells #[vs s,vi 0,vi 0] 108 (0,0))] ((bo,Obj.cells (roC (vp bw 0) v id0 (.slice none 0 0) []).toArray 191 (0,0)):: (bw,Obj.cells #[vs s,vi a,vi e] 108 (0,0))::D):=by
    refine⟨fun c hc=> ?_,fun c hc=> ?_⟩
    ·simp only[keys,List.map_cons,List.map_nil,List.mem_cons,List.not_mem_nil,or_false] at hc ⊢
     rcases hc with h|h|h
     ·exact .inl (.inl h)
     ·exact .inl (.inr h)
     ·exact .inr (hN.le c h)
    ·simp only[keys,List.map_cons,List.map_nil,List.mem_cons,List.not_mem_nil,or_false] at hc ⊢
     rcases hc with h|h
     ·exact .inl h
     ·exact .inr (.inl h)
   have hF:Gr ((bo,Obj.cells (roC (vp bw 0) v id0 (.slice none 0 0) []).toArray 191 (0,0)):: (bw,Obj.cells #[vs s,vi a,vi e] 108 (0,0))::D) 120 34 v l.length (l.map q5_).flatten:=hG.keep fun b o hb ho=>by
    have:=hN.le b (zo_ ho)
    simp(disch:=omega) only[qx_]
    exact ho
   unfold amS_
   rw[hd]
   refine ko (And.intro @xJ_ @d1) ?_
   refine Ow.callFV rfl Tryz.call28 (fun w' hw'=>kp_ bw s a e w' (hw'.has _ _ (List.mem_cons_of_mem _ List.mem_cons_self))) ?_
   by_cases he:xN_ s a e=0
   ·have d2: (xN_ s a e==0)=true:=by simp[he]
    rw[d2]
    refine ko (And.intro @xJ_ @d2) ?_
    refine Ow.callFV rfl Tryz.call135 (fun w' hw'=>Wg_ v l w' (hG.slM (fun b o hm=>hw'.has b o (by simp[hm])) rfl rfl q6_) (by omega) hsh) ?_
    refine ko @xJ_ ?_
    first|with_reducible refine ks [] @xJ_ ?_|refine kp @xJ_ ?_
    refine⟨_,(ke @xJ_), ?_⟩
    exact⟨hE,rfl,v,by simp only[zP_],hF⟩
   ·have d2: (xN_ s a e==0)=false:=by simpa using he
    rw[d2]
    refine ko (And.intro @xJ_ @d2) ?_
    first|with_reducible refine ks [] @xJ_ ?_|refine kp @xJ_ ?_
    refine⟨_,(ke @xJ_), ?_⟩
    exact⟨hE,rfl,v,by simp only[zP_],hF⟩
end Go.Proofs
end
section
open Go Go.Proofs Go.Sx Go.StP
namespace Go.Proofs
set_option maxRecDepth 10000
set_option maxHeartbeats 400000
set_option linter.unusedSimpArgs false
set_option linter.defProp false
def x4_:=And.intro (And.intro (And.intro (@vC_) (And.intro (@vK_) (@vR_))) (And.intro (And.intro (@kf_) (@kj_)) (And.intro (@ad5_) (@aep_)))) (And.intro (And.intro (@aet_) (And.intro (@V3_) (@ai2_))) (And.intro (And.intro (@afS_) (@wX_)) (And.intro (@zA_) (@zz_))))
structure CmH where
 g:Nat
 v:Value
 D:zb_
 H:zb_
def ao9_ (bo bw:Nat) (s:List UInt8) (v:Value) (D:zb_):Prop:=
 v= .bool (xN_ s (vS_ s).2.1 (vS_ s).2.2==0&&vs_ (vS_ s).1)∧ ∃p,Sx.look D bo=some (.cells (roC (vp bw 0) (.slice none 0 0) (vS_ s).1.tree p (vS_ s).1.text).toArray 191 (0,0))∧Gr D 41 32 p (vS_ s).1.par.length ((vS_ s).1.par.map kq_).flatten
theorem agy_ (bo bw:Nat) (s:List UInt8) (w:World) (hs:s.length<100000) (hne:bo≠bw)
  (ho:w.heap[bo]? =some (.cells (roC (vp bw 0) (.slice none 0 0) id0 (.slice none 0 0) []).toArray 191 (0,0))) (hr:w.heap[bw]? =some (.cells #[vs s,vi 0,vi 0] 108 (0,0))):
  Rets Tryz.prog 118 #[vp bo 0] w (XS w [(bo,Obj.cells (roC (vp bw 0) (.slice none 0 0) id0 (.slice none 0 0) []).toArray 191 (0,0)),(bw,Obj.cells #[vs s,vi 0,vi 0] 108 (0,0))] (ao9_ bo bw s)):=by
 have hob:bo<w.heap.size:=(Array.getElem?_eq_some_iff.1 ho).1
 have hwb:bw<w.heap.size:=(Array.getElem?_eq_some_iff.1 hr).1
 refine Rets.enterX Tryz.func118 rfl (rs:= [.tmp 2]) Tryz.results118 Tryz.ntmps118 (Vc_ ho hr) (by simp[keys,hne]) ?_
 refine kf ?_
 first|with_reducible refine ks [] @x4_ ?_|refine kp @x4_ ?_
 refine Ow.callM rfl rfl Tryz.call134 (by simp[keys]) (fun w' hw'=>K3_ bw s 0 0 w' (Nat.zero_le _) (by omega) (hw'.has _ _ (List.mem_cons_of_mem _ List.mem_cons_self))) ?_
 have ip:=Kl_ (s:=s) (a:=0) (e:=0) (Nat.zero_le _)
 have np:=qh_ (e:=(idR s 0 0).2.2) (most:=4) ip.2
 have nm:=q4_ (s:=s) (a:=(idR s 0 0).2.1) (e:=(idR s 0 0).2.2) (most:=4) (by decide)
 obtain⟨T,hT⟩: ∃T,vU_ (idR s 0 0).1=T:=⟨_,rfl⟩
 have hiT: (idR s 0 0).1=T.l:=by rw[←hT,ky_ (wm_ s 0 0)]
 have hcE:vS_ s=(⟨T,(kS_ s).1,(comT s).1⟩,(comT s).2):=by unfold vS_;rw[hT]
 rw[hiT]
 refine kn ?_
 refine ko @x4_ ?_
 refine Ow.callM rfl rfl Tryz.call49 (by simp[keys]) (fun w' hw'=>qP_ bw s _ _ 4 w' ip.2 (by omega) (hw'.has _ _ (List.mem_cons_of_mem _ List.mem_cons_self))) ?_
 have hP:kS_ s=zK_ s (zs_ s (idR s 0 0).2.1 (idR s 0 0).2.2 4).2.1 (zs_ s (idR s 0 0).2.1 (idR s 0 0).2.2 4).2.2 (zs_ s (idR s 0 0).2.1 (idR s 0 0).2.2 4).1.toNat:=rfl
 generalize zs_ s (idR s 0 0).2.1 (idR s 0 0).2.2 4=nr at*
 obtain⟨cn,na,ne⟩:=nr
 simp only at np nm hP ⊢
 obtain⟨k,rfl⟩:=Int.eq_ofNat_of_zero_le nm.1
 rw[Int.toNat_natCast] at hP
 refine kn ?_
 refine ko @x4_ ?_
 refine Cw.loopG (G:=CmH) [18,19,20,21,22,23,24,25,26,27,28,29,30,31,32,33,34,35,17] (fun q=> [(17,vi q.g)]) (fun q=>q.H) (fun q=>q.g≤k∧New w.heap.size q.D∧Gr q.D 41 32 q.v q.g ((zK_ s na ne q.g).1.map kq_).flatten∧((bo,Obj.cells (roC (vp bw 0) (.slice none 0 0) T q.v []).toArray 191 (0,0)):: (bw,Obj.cells #[vs s,vi (zK_ s na ne q.g).2.1,vi (zK_ s na ne q.g).2.2] 108 (0,0))::q.D).Perm q.H) (fun q=>k - q.g) ⟨0, .slice none 0 0,[],[(bo,Obj.cells (roC (vp bw 0) (.slice none 0 0) T (.slice none 0 0) []).toArray 191 (0,0)),(bw,Obj.cells #[vs s,vi na,vi ne] 108 (0,0))]⟩ rfl rfl ?_ ?_
 ·exact⟨Nat.zero_le _,trivial,Gr.nl,List.Perm.refl _⟩
 ·intro q jq hq
  refine kv ?_
  obtain⟨g,v,D,H0⟩:=q
  simp only at hq ⊢
  obtain⟨hgk,hN,hG,hPm⟩:=hq
  refine Cw.permL hPm ?_
  clear hPm
  have gle:=wZ_ (e:=ne) np.2 g
  by_cases hlt:g<k
  ·have hgs:zK_ s na ne (g+1)=((zK_ s na ne g).1++ [vU_ (idR s (zK_ s na ne g).2.1 (zK_ s na ne g).2.2).1],(idR s (zK_ s na ne g).2.1 (zK_ s na ne g).2.2).2):=rfl
   first|with_reducible refine ks [] @x4_ ?_|refine kp @x4_ ?_
   refine Cw.regionS [bo] [0,1,2,3,4,6,7,8,5,9,10,11,12,13,14,15,16] [16] (by kernel_rfl) (by kernel_rfl) (by kernel_rfl) ?_
   refine kya ?_
   refine kq @x4_ ?_
   refine Ow.softA ?_
   refine Ow.callM rfl rfl Tryz.call134 (by simp[keys]) (fun w' hw'=>K3_ bw s (zK_ s na ne g).2.1 (zK_ s na ne g).2.2 w' gle (by omega) (hw'.has _ _ (List.mem_cons_of_mem _ List.mem_cons_self))) ?_
   with_reducible refine Ow.nil ?_
   refine⟨fun b hb=>kZ_ (by simp only[List.mem_cons,List.not_mem_nil,or_false] at hb;omega), ?_⟩
   have hil:=wm_ s (zK_ s na ne g).2.1 (zK_ s na ne g).2.2
   obtain⟨I,hI⟩: ∃I,vU_ (idR s (zK_ s na ne g).2.1 (zK_ s na ne g).2.2).1=I:=⟨_,rfl⟩
   have hiI: (idR s (zK_ s na ne g).2.1 (zK_ s na ne g).2.2).1=I.l:=by rw[←hI,ky_ hil]
   rw[hI] at hgs
   have hg1: (zK_ s na ne (g+1)).1=(zK_ s na ne g).1++ [I]:=by rw[hgs]
   have hg2: (zK_ s na ne (g+1)).2=(idR s (zK_ s na ne g).2.1 (zK_ s na ne g).2.2).2:=by rw[hgs]
   rw[hiI,←hg2]
   refine kn ?_
   refine Ow.softA ?_
   refine Ow.buildSlice (e:=41) (a8 I.l) rfl rfl (qn_ (cs:=I.l.map v8) Tryz.underlying68 Tryz.ag41 wC_ (by decide) (by simp[I.h])) fun b13 hb13 hw13=> ?_
   with_reducible refine Ow.nil ?_
   refine⟨qk_ (by simp[keys]), ?_⟩
   try simp only[List.cons_append,List.nil_append]
   refine Ow.softA ?_
   refine Ow.permL (M:=D++ [(bo,Obj.cells (roC (vp bw 0) (.slice none 0 0) T v []).toArray 191 (0,0)),(bw,Obj.cells #[vs s,vi (zK_ s na ne (g+1)).2.1,vi (zK_ s na ne (g+1)).2.2] 108 (0,0)),(b13,Obj.cells (a8 I.l) 41 (0,0))]) (by classical exact List.perm_iff_count.2 fun a=>by simp only[List.count_append,List.count_cons,List.count_nil]<;>omega) ?_
   refine Ow.appendX (e:=41) (k:=1) (new:=kq_ I) (X:=D) v rfl rfl rfl rfl Tryz.underlying68 Tryz.ag41 (by kernel_rfl) wC_ (by rw[za_,x5_,id0.h]) Tryz.underlying68 (by intro k h;cases h) hG (fun w' hw'=>AppX.one1 (hw'.has b13 (.cells (a8 I.l) 41 (0,0)) (by simp)) (qT_ I) (kb_ I)) (by omega) (by omega) (fun B v4 D4 hA4 hB4 hbuf hk1 hk2 hlk=> ?_)
   have hN4:New w.heap.size D4:=New.of_le fun q hq=>by
    rcases hk2 q hq with h|h
    ·exact hN.le q h
    ·omega
   have ho4:bo∉keys D4:=hN4.not hob
   with_reducible refine Ow.nil ?_
   refine⟨fun q hq=> ?_, ?_⟩
   ·rw[List.mem_singleton] at hq
    subst hq
    rw[vH_ ho4]
    simp only[zr_]
   have hlko: ∀M,Sx.look (D4++M) bo=Sx.look M bo:=fun M=>z9_ ho4
   have hsbo: ∀M x,setB (D4++M) bo x=D4++setB M bo x:=fun M x=>wS_ ho4
   have st1:=fun a E=>afF_ (vp bw 0) (.slice none 0 0) T v v4 [] a E hbuf.cell
   have hst7:j9_ (qc_ Tryz.prog 68) (D4++ [(bo,Obj.cells (roC (vp bw 0) (.slice none 0 0) T v []).toArray 191 (0,0)),(bw,Obj.cells #[vs s,vi (zK_ s na ne (g+1)).2.1,vi (zK_ s na ne (g+1)).2.2] 108 (0,0)),(b13,Obj.cells (a8 I.l) 41 (0,0))]) (vp bo 34) v4=some (D4++ [(bo,Obj.cells (roC (vp bw 0) (.slice none 0 0) T v4 []).toArray 191 (0,0)),(bw,Obj.cells #[vs s,vi (zK_ s na ne (g+1)).2.1,vi (zK_ s na ne (g+1)).2.2] 108 (0,0)),(b13,Obj.cells (a8 I.l) 41 (0,0))]):=by
    rw[Tryz.ag68,vn_,hlko]
    simp(disch:=omega) only[zP_,qx_,st1,w3_,hsbo,jc_,q2_]
   refine kq @x4_ ?_
   refine Ow.store rfl rfl rfl hst7 ?_
   refine ko @x4_ ?_
   refine Again.mk (CmH.mk (g+1) v4 (D4++ [(b13,Obj.cells (a8 I.l) 41 (0,0))]) _) (by show k - (g+1)<k - g;omega) ⟨by show g+1≤k;omega,hN4.app ⟨by omega,trivial⟩, ?_, ?_⟩ rfl rfl
   ·show Gr _ _ _ _ (g+1) ((zK_ s na ne (g+1)).1.map kq_).flatten
    rw[hg1,List.map_append,List.flatten_append,show([I].map kq_).flatten=kq_ I by simp]
    exact Gr.app (.inl hbuf)
   ·exact(by classical exact List.perm_iff_count.2 fun a=>by simp only[List.count_append,List.count_cons,List.count_nil]<;>omega)
  ·obtain rfl:g=k:=by omega
   rw[←hP] at hG
   rw[←hP] at gle
   rw[←hP]
   have tp:=xS_ (e:=(kS_ s).2.2) (most:=64) gle
   first|with_reducible refine ks [] @x4_ ?_|refine kp @x4_ ?_
   refine Ow.callM rfl rfl Tryz.call52 (by simp[keys]) (fun w' hw'=>vy_ bw s (kS_ s).2.1 (kS_ s).2.2 64 w' gle (by omega) (hw'.has _ _ (List.mem_cons_of_mem _ List.mem_cons_self))) ?_
   refine kn ?_
   refine ko @x4_ ?_
   have hT2:comT s=zS_ s (kS_ s).2.1 (kS_ s).2.2 64:=rfl
   have htl:=Qy_ s (kS_ s).2.1 (kS_ s).2.2 64
   rw[hT2] at hcE
   generalize zS_ s (kS_ s).2.1 (kS_ s).2.2 64=tx at*
   obtain⟨tt,a3,e3⟩:=tx
   simp only at tp hcE htl ⊢
   have hPl: (kS_ s).1.length=g:=by rw[hP,wA_]
   generalize (kS_ s).1=pl at*
   have hC: ∀w',Hp w ((bo,Obj.cells (roC (vp bw 0) (.slice none 0 0) T v tt).toArray 191 (0,0)):: (bw,Obj.cells #[vs s,vi a3,vi e3] 108 (0,0))::D) w'→ComS w' (.agg (qY_ T v tt).toArray) ⟨T,pl,tt⟩:=fun w' hw'=>
    ⟨v,rfl,hG.slM (fun b o hm=>hw'.has b o (by simp[hm])) hPl rfl qT_⟩
   have hE:Ext w [(bo,Obj.cells (roC (vp bw 0) (.slice none 0 0) id0 (.slice none 0 0) []).toArray 191 (0,0)),(bw,Obj.cells #[vs s,vi 0,vi 0] 108 (0,0))] ((bo,Obj.cells (roC (vp bw 0) (.slice none 0 0) T v tt).toArray 191 (0,0)):: (bw,Obj.cells #[vs s,vi a3,vi e3] 108 (0,0))::D):=by
    refine⟨fun c hc=> ?_,fun c hc=> ?_⟩
    ·simp only[keys,List.map_cons,List.map_nil,List.mem_cons,List.not_mem_nil,or_false] at hc ⊢
     rcases hc with h|h|h
     ·exact .inl (.inl h)
     ·exact .inl (.inr h)
     ·exact .inr (hN.le c h)
    ·simp only[keys,List.map_cons,List.map_nil,List.mem_cons,List.not_mem_nil,or_false] at hc ⊢
     rcases hc with h|h
     ·exact .inl h
     ·exact .inr (.inl h)
   have hF:Gr ((bo,Obj.cells (roC (vp bw 0) (.slice none 0 0) T v tt).toArray 191 (0,0)):: (bw,Obj.cells #[vs s,vi a3,vi e3] 108 (0,0))::D) 41 32 v pl.length (pl.map kq_).flatten:=by
    rw[hPl]
    exact hG.keep fun b o hb ho=>by
     have:=hN.le b (zo_ ho)
     simp(disch:=omega) only[qx_]
     exact ho
   unfold ao9_
   rw[hcE]
   refine Ow.callFV rfl Tryz.call28 (fun w' hw'=>kp_ bw s a3 e3 w' (hw'.has _ _ (List.mem_cons_of_mem _ List.mem_cons_self))) ?_
   by_cases he:xN_ s a3 e3=0
   ·have d2: (xN_ s a3 e3==0)=true:=by simp[he]
    rw[d2]
    refine ko (And.intro @x4_ @d2) ?_
    refine Ow.callFV rfl Tryz.call136 (fun w' hw'=>acy_ _ _ w' (hC w' hw') (by show pl.length<1000000;omega) (by show tt.length<1099511627776;omega)) ?_
    refine ko @x4_ ?_
    first|with_reducible refine ks [] @x4_ ?_|refine kp @x4_ ?_
    refine⟨_,(ke @x4_), ?_⟩
    exact⟨hE,rfl,v,by simp only[zP_],hF⟩
   ·have d2: (xN_ s a3 e3==0)=false:=by simpa using he
    rw[d2]
    refine ko (And.intro @x4_ @d2) ?_
    first|with_reducible refine ks [] @x4_ ?_|refine kp @x4_ ?_
    refine⟨_,(ke @x4_), ?_⟩
    exact⟨hE,rfl,v,by simp only[zP_],hF⟩
end Go.Proofs
end
section
open Go Go.Proofs Go.Sx Go.StP
namespace Go.Proofs
set_option maxRecDepth 10000
set_option maxHeartbeats 400000
set_option linter.unusedSimpArgs false
theorem acY_ (v:Value) (w:World):Rets Tryz.prog 116 #[v] w (fun v' D=>v'= .bool true∧D= []):=by
 refine Rets.enterV Tryz.func116 rfl (rs:= [.tmp 2]) Tryz.results116 Tryz.ntmps116 ?_
 refine kf ?_
 first|with_reducible refine ks [] @Nat.add_zero ?_|refine kp @Nat.add_zero ?_
 refine⟨_,(ke @Nat.add_zero),trivial, ?_⟩
 rfl
abbrev obV (k:Int) (t:List UInt8):Value:= .agg #[vi k,vs t]
theorem ve_ (k:Int) (t:List UInt8) (E:TypeId) (fz:Nat×Nat):zl_ (some (true,2)) (some (.cells #[vi k,vs t] E fz)) 0=some (obV k t):=(rfl)
theorem xW_ (k:Int) (t:List UInt8) (n:Nat) (E:TypeId) (fz:Nat×Nat):zl_ (some (false,n)) (some (.cells #[vi k,vs t] E fz)) 0=some (vi k):=(rfl)
theorem xQ_ (k:Int) (t:List UInt8) (n:Nat) (E:TypeId) (fz:Nat×Nat):zl_ (some (false,n)) (some (.cells #[vi k,vs t] E fz)) 1=some (vs t):=(rfl)
theorem kr_ (k k':Int) (t t':List UInt8) (a:Bool) (E:TypeId):zn_ (some (a,2)) (some (.cells #[vi k',vs t'] E (0,0))) 0 (obV k t)=some (.cells #[vi k,vs t] E (0,0)):=(rfl)
set_option linter.defProp false
def jq_:=And.intro (And.intro (@ve_) (And.intro (@xW_) (@xQ_))) (And.intro (@kr_) (And.intro (@zA_) (@zz_)))
def fnV (k:Nat):Value:= .func (.func k) #[] #[]
def fnsV:Array Value:= #[.nilFunc,fnV 116,fnV 117,fnV 118]
abbrev T4:TypeId:=189
theorem aiR_:qR_ (x7_ Tryz.prog T4) (zI_ Tryz.prog T4) [(1,fnV 116),(2,fnV 117),(3,fnV 118)]=some (.agg fnsV):=by
 have hp:x7_ Tryz.prog T4=some [(0,1),(1,1),(2,1),(3,1)]:=id (by kernel_rfl)
 have hz:zI_ Tryz.prog T4=some (.agg #[.nilFunc, .nilFunc, .nilFunc, .nilFunc]):=id (by kernel_rfl)
 rw[hp,hz];rfl
theorem aqO_:zI_ Tryz.prog T4=some (.agg #[.nilFunc, .nilFunc, .nilFunc, .nilFunc]):=id (by kernel_rfl)
theorem aiM_ (a:Bool) (E:TypeId):zn_ (some (a,4)) (some (.cells #[.nilFunc, .nilFunc, .nilFunc, .nilFunc] E (0,0))) 0 (.agg fnsV)=some (.cells fnsV E (0,0)):=(rfl)
theorem alH_ (x:Value) (hx:x.cells= #[x]):qR_ (x7_ Tryz.prog 191) (zI_ Tryz.prog 191) [(0,x)]=some (.agg (roC x (.slice none 0 0) id0 (.slice none 0 0) []).toArray):=by
 have hp:x7_ Tryz.prog 191=some [(0,1),(1,1),(2,34)]:=id (by kernel_rfl)
 have hz:zI_ Tryz.prog 191=some (.agg (roC (.pointer none) (.slice none 0 0) id0 (.slice none 0 0) []).toArray):=id (by kernel_rfl)
 rw[hp,hz]
 simp only[qR_,Sx.fillV,List.getElem?_cons_zero,hx]
 rfl
def vi_ (k:Int) (t:List UInt8):Bool:=
 if 1≤k∧k≤3∧t.length≤4096 then
  (if k=1 then true else if k=2 then(xN_ t (jC_ t).2.1 (jC_ t).2.2==0&&xF_ (jC_ t).1) else(xN_ t (vS_ t).2.1 (vS_ t).2.2==0&&vs_ (vS_ t).1))
 else false
def RdS (k:Int) (t:List UInt8) (v:Value) (D:zb_):Prop:=
 ∃p,v= .tuple #[p, .bool (vi_ k t)]∧(1≤k∧k≤3∧t.length≤4096→ ∃bo bw v1 c1 x1 y1,p=vp bo 0∧Sx.look D bo=some (.cells (roC (vp bw 0) v1 c1 x1 y1).toArray 191 (0,0))∧
  (k=2→Gr D 120 34 v1 (jC_ t).1.length ((jC_ t).1.map q5_).flatten)∧
  (k=3→c1=(vS_ t).1.tree∧y1=(vS_ t).1.text∧Gr D 41 32 x1 (vS_ t).1.par.length ((vS_ t).1.par.map kq_).flatten)∧(k≠2→v1= .slice none 0 0))
theorem agb_ (k:Int) (t:List UInt8) (w:World):Rets Tryz.prog 100 #[obV k t] w (XS w [] (RdS k t)):=by
 refine Rets.enterX Tryz.func100 rfl (rs:= [.tmp 2, .tmp 3]) Tryz.results100 Tryz.ntmps100 (fun p hp=>by cases hp) (by simp[keys]) ?_
 refine kf ?_
 first|with_reducible refine ks [] @jq_ ?_|refine kp @jq_ ?_
 refine Ow.box rfl rfl fun b1 hb1 hw1=> ?_
 simp only[zD_,zH_,zG_,za_,List.nil_append]
 refine ko @jq_ ?_
 refine Ow.build (.agg fnsV) rfl aiR_ ?_
 refine ko @jq_ ?_
 refine Ow.alloc rfl rfl aqO_ fun b4 hb4 hw4=> ?_
 simp only[za_,List.nil_append,List.cons_append]
 have h14:b1<b4:=zh_ hb4 (by simp[keys])
 refine ko (And.intro @jq_ @aiM_) ?_
 by_cases h1:k<1
 ·have d1:decide (k<1)=true:=decide_eq_true h1
  have e:vi_ k t=false:=by unfold vi_;rw[if_neg (by omega)]
  first|with_reducible refine ks [] (And.intro @jq_ @d1) ?_|refine kp (And.intro @jq_ @d1) ?_
  refine⟨_,(ke @jq_), ?_⟩
  exact⟨Ext.of_new ⟨hw1,hw4,trivial⟩, .pointer none,by rw[e];rfl,fun h=>absurd h.1 (by omega)⟩
 ·have d1:decide (k<1)=false:=decide_eq_false h1
  by_cases h2:3<k
  ·have d2:decide (3<k)=true:=decide_eq_true h2
   have e:vi_ k t=false:=by unfold vi_;rw[if_neg (by omega)]
   first|with_reducible refine ks [] (And.intro @jq_ (And.intro @d1 (@d2))) ?_|refine kp (And.intro @jq_ (And.intro @d1 (@d2))) ?_
   refine⟨_,(ke @jq_), ?_⟩
   exact⟨Ext.of_new ⟨hw1,hw4,trivial⟩, .pointer none,by rw[e];rfl,fun h=>absurd h.2.1 (by omega)⟩
  ·have d2:decide (3<k)=false:=decide_eq_false h2
   by_cases h3:4096<t.length
   ·have d3:decide (4096< (t.length:Int))=true:=decide_eq_true (by omega)
    have e:vi_ k t=false:=by unfold vi_;rw[if_neg (by omega)]
    first|with_reducible refine ks [] (And.intro @jq_ (And.intro @d1 (And.intro @d2 (@d3)))) ?_|refine kp (And.intro @jq_ (And.intro @d1 (And.intro @d2 (@d3)))) ?_
    refine⟨_,(ke @jq_), ?_⟩
    exact⟨Ext.of_new ⟨hw1,hw4,trivial⟩, .pointer none,by rw[e];rfl,fun h=>absurd h.2.2 (by omega)⟩
   ·have d3:decide (4096< (t.length:Int))=false:=decide_eq_false (by omega)
    first|with_reducible refine ks [] (And.intro @jq_ (And.intro @d1 (And.intro @d2 (@d3)))) ?_|refine kp (And.intro @jq_ (And.intro @d1 (And.intro @d2 (@d3)))) ?_
    refine Ow.callF rfl rfl Tryz.call25 (S:=fun B v D=> ∃b',B≤b'∧v=vp b' 0∧D= [(b', .cells #[vs t,vi 0,vi 0] 108 (0,0))]) (fun w' hw'=>wy_ t w') ?_
    rintro B v D hab hB ⟨bw,hbw,rfl,rfl⟩
    obtain⟨h1B,h4B,-⟩:=hab
    refine⟨_,Mrg.fresh (by intro q hq;simp only[keys,List.map_cons,List.map_nil,List.mem_singleton] at hq;omega), ?_⟩
    simp only[List.cons_append,List.nil_append]
    refine ko @jq_ ?_
    refine Ow.build (.agg (roC (vp bw 0) (.slice none 0 0) id0 (.slice none 0 0) []).toArray) rfl (alH_ _ rfl) ?_
    refine ko @jq_ ?_
    refine Ow.box rfl rfl fun bo hbo hwo=> ?_
    simp only[zD_,zH_,zG_,za_,List.nil_append,List.cons_append]
    have hobw:bo≠bw:=by have:=zh_ hbo (show bw∈keys _ by simp[keys]);omega
    rcases(show k=1∨k=2∨k=3 by omega) with rfl|rfl|rfl
    ·have lf: ∀n E fz,zl_ (some (false,n)) (some (.cells fnsV E fz)) 1=some (fnV 116):=fun _ _ _=>rfl
     have e:vi_ 1 t=true:=by unfold vi_;rw[if_pos (by omega)];rfl
     refine ko (And.intro @jq_ @lf) ?_
     refine Ow.callV rfl rfl Tryz.call116 (fun w' hw'=>by have:=acY_ (vp bo 0) w';simpa [zD_,zG_,zH_] using this) ?_
     refine ko @jq_ ?_
     first|with_reducible refine ks [] @jq_ ?_|refine kp @jq_ ?_
     refine⟨_,(ke @jq_), ?_⟩
     refine⟨Ext.of_new ⟨hw1,hw4,by omega,hwo,trivial⟩,vp bo 0,by rw[e];rfl,fun h=>⟨bo,bw, .slice none 0 0,id0, .slice none 0 0,[],rfl, ?_,fun h=>absurd h (by decide),fun h=>absurd h (by decide),fun _=>rfl⟩⟩
     have hb1o:b1≠bo:=by have:=zh_ hbo (show b1∈keys _ by simp[keys]);omega
     have hb4o:b4≠bo:=by have:=zh_ hbo (show b4∈keys _ by simp[keys]);omega
     simp(disch:=omega) only[zP_,qx_]
    ·have lf: ∀n E fz,zl_ (some (false,n)) (some (.cells fnsV E fz)) 2=some (fnV 117):=fun _ _ _=>rfl
     have e:vi_ 2 t=(xN_ t (jC_ t).2.1 (jC_ t).2.2==0&&xF_ (jC_ t).1):=by unfold vi_;rw[if_pos (by omega)];rfl
     refine ko (And.intro @jq_ @lf) ?_
     refine Ow.permL (M:= [(bo,Obj.cells (roC (vp bw 0) (.slice none 0 0) id0 (.slice none 0 0) []).toArray 191 (0,0)),(bw,Obj.cells #[vs t,vi 0,vi 0] 108 (0,0))]++ [(b1,Obj.cells #[vi 2,vs t] 26 (0,0)),(b4,Obj.cells fnsV 189 (0,0))]) (by classical exact List.perm_iff_count.2 fun a=>by simp only[List.count_append,List.count_cons,List.count_nil]<;>omega) ?_
     refine Ow.callFnX (b:=vp bo 0) (X:= [(bo,Obj.cells (roC (vp bw 0) (.slice none 0 0) id0 (.slice none 0 0) []).toArray 191 (0,0)),(bw,Obj.cells #[vs t,vi 0,vi 0] 108 (0,0))]) (Y:= [(b1,Obj.cells #[vi 2,vs t] 26 (0,0)),(b4,Obj.cells fnsV 189 (0,0))]) rfl rfl rfl rfl rfl Tryz.call117 (fun w' hw' hX hn=>acZ_ bo bw t w' (by omega) hobw (hX _ List.mem_cons_self) (hX _ (List.mem_cons_of_mem _ List.mem_cons_self))) (fun v D hC hS=> ?_)
     obtain⟨rfl,v1,hl1,hg1⟩:=hS
     have hNX:New w.heap.size (D++ [(b1,Obj.cells #[vi 2,vs t] 26 (0,0)),(b4,Obj.cells fnsV 189 (0,0))]):=by
      refine New.of_le fun c hc=> ?_
      rw[ze_,List.mem_append] at hc
      rcases hc with hc|hc
      ·rcases hC.new c hc with h| ⟨-,h⟩
       ·simp only[keys,List.map_cons,List.map_nil,List.mem_cons,List.not_mem_nil,or_false] at h;omega
       ·exact h
      ·simp only[keys,List.map_cons,List.map_nil,List.mem_cons,List.not_mem_nil,or_false] at hc;omega
     refine ko @jq_ ?_
     first|with_reducible refine ks [] @jq_ ?_|refine kp @jq_ ?_
     refine⟨_,(ke @jq_), ?_⟩
     exact⟨Ext.of_new hNX,vp bo 0,by rw[e];rfl,fun _=>⟨bo,bw,v1,_,_,_,rfl,qD_ hl1,fun _=>hg1.app,fun h=>absurd h (by decide),fun h=>absurd rfl h⟩⟩
    ·have lf: ∀n E fz,zl_ (some (false,n)) (some (.cells fnsV E fz)) 3=some (fnV 118):=fun _ _ _=>rfl
     have e:vi_ 3 t=(xN_ t (vS_ t).2.1 (vS_ t).2.2==0&&vs_ (vS_ t).1):=by unfold vi_;rw[if_pos (by omega)];rfl
     refine ko (And.intro @jq_ @lf) ?_
     refine Ow.permL (M:= [(bo,Obj.cells (roC (vp bw 0) (.slice none 0 0) id0 (.slice none 0 0) []).toArray 191 (0,0)),(bw,Obj.cells #[vs t,vi 0,vi 0] 108 (0,0))]++ [(b1,Obj.cells #[vi 3,vs t] 26 (0,0)),(b4,Obj.cells fnsV 189 (0,0))]) (by classical exact List.perm_iff_count.2 fun a=>by simp only[List.count_append,List.count_cons,List.count_nil]<;>omega) ?_
     refine Ow.callFnX (b:=vp bo 0) (X:= [(bo,Obj.cells (roC (vp bw 0) (.slice none 0 0) id0 (.slice none 0 0) []).toArray 191 (0,0)),(bw,Obj.cells #[vs t,vi 0,vi 0] 108 (0,0))]) (Y:= [(b1,Obj.cells #[vi 3,vs t] 26 (0,0)),(b4,Obj.cells fnsV 189 (0,0))]) rfl rfl rfl rfl rfl Tryz.call118 (fun w' hw' hX hn=>agy_ bo bw t w' (by omega) hobw (hX _ List.mem_cons_self) (hX _ (List.mem_cons_of_mem _ List.mem_cons_self))) (fun v D hC hS=> ?_)
     obtain⟨rfl,p1,hl1,hg1⟩:=hS
     have hNX:New w.heap.size (D++ [(b1,Obj.cells #[vi 3,vs t] 26 (0,0)),(b4,Obj.cells fnsV 189 (0,0))]):=by
      refine New.of_le fun c hc=> ?_
      rw[ze_,List.mem_append] at hc
      rcases hc with hc|hc
      ·rcases hC.new c hc with h| ⟨-,h⟩
       ·simp only[keys,List.map_cons,List.map_nil,List.mem_cons,List.not_mem_nil,or_false] at h;omega
       ·exact h
      ·simp only[keys,List.map_cons,List.map_nil,List.mem_cons,List.not_mem_nil,or_false] at hc;omega
     refine ko @jq_ ?_
     first|with_reducible refine ks [] @jq_ ?_|refine kp @jq_ ?_
     refine⟨_,(ke @jq_), ?_⟩
     exact⟨Ext.of_new hNX,vp bo 0,by rw[e];rfl,fun _=>⟨bo,bw,_,_,p1,_,rfl,qD_ hl1,fun h=>absurd h (by decide),fun _=>⟨rfl,rfl,hg1.app⟩,fun _=>rfl⟩⟩
end Go.Proofs
end
section
open Go Go.Proofs Go.Sx Go.StP
namespace Go.Proofs
set_option maxRecDepth 10000
set_option maxHeartbeats 400000
set_option linter.unusedSimpArgs false
set_option linter.defProp false
def zu_:=And.intro (And.intro (And.intro (@ve_) (@xW_)) (And.intro (@xQ_) (@kr_))) (And.intro (And.intro (@Sx.tup2_0) (@Sx.tup2_1)) (And.intro (@zA_) (@zz_)))
theorem Jl_ (k:Int) (t:List UInt8) (w:World):Rets Tryz.prog 67 #[obV k t] w (fun v D=>v= .bool (vi_ k t)∧D= []):=by
 refine Rets.enterV Tryz.func67 rfl (rs:= [.tmp 2]) Tryz.results67 Tryz.ntmps67 ?_
 refine kf ?_
 first|with_reducible refine ks [] @zu_ ?_|refine kp @zu_ ?_
 refine Ow.box rfl rfl fun b1 hb1 hw1=> ?_
 simp only[zD_,zH_,zG_,za_,List.nil_append]
 refine ko @zu_ ?_
 refine Ow.callC rfl rfl Tryz.call100 (fun w' hw'=>agb_ k t w') (fun B v D hA hB hN hS=> ?_)
 obtain⟨p,rfl,-⟩:=hS
 refine ko @zu_ ?_
 first|with_reducible refine ks [] @zu_ ?_|refine kp @zu_ ?_
 refine⟨_,(ke @zu_),⟨hw1,New.mono hB hN⟩, ?_⟩
 rfl
theorem J6_:zI_ Tryz.prog 26=some (obV 0 []):=id (by kernel_rfl)
theorem aaF_:qR_ (x7_ Tryz.prog 26) (zI_ Tryz.prog 26) []=some (obV 0 []):=by
 have hp:x7_ Tryz.prog 26=some [(0,1),(1,1)]:=id (by kernel_rfl)
 rw[hp,J6_];rfl
theorem ajb_ (k:Int) (t:List UInt8):qR_ (x7_ Tryz.prog 26) (zI_ Tryz.prog 26) [(0,vi k),(1,vs t)]=some (obV k t):=by
 have hp:x7_ Tryz.prog 26=some [(0,1),(1,1)]:=id (by kernel_rfl)
 rw[hp,J6_];rfl
end Go.Proofs
end
section
open Go Go.Proofs Go.Sx Go.StP
namespace Go.Proofs
set_option maxRecDepth 10000
set_option maxHeartbeats 400000
set_option linter.unusedSimpArgs false
set_option linter.defProp false
theorem BldAt.zeroE (b:Nat) {L:zb_} (h:Sx.look L b=some (.cells #[.pointer none, .slice none 0 0] 89 (0,0))):BldAt b [] L:=
 ⟨_,_,h, .inl rfl, .nl,fun h=>by cases h⟩
theorem zrWr:zI_ Tryz.prog 89=some (.agg #[.pointer none, .slice none 0 0]):=id (by kernel_rfl)
theorem Came.newE {w0:World} {L X D:zb_} {b:Nat} (hC:Came w0 L X D) (hN:New (b+1) X) (hb:b∈keys L):New (b+1) D:=New.of_le fun c hc=>by
 rcases hC.new c hc with h| ⟨h,-⟩
 ·exact hN.le c h
 ·have:=zh_ h hb;omega
end Go.Proofs
end
section
open Go Go.Proofs Go.Sx Go.StP
namespace Go.Proofs
set_option maxRecDepth 10000
set_option maxHeartbeats 400000
set_option linter.unusedSimpArgs false
set_option linter.defProp false
end Go.Proofs
end
section
open Go Go.Proofs Go.Sx Go.StP
namespace Go.Proofs
set_option maxRecDepth 10000
set_option maxHeartbeats 400000
set_option linter.unusedSimpArgs false
theorem J1_ {k:Int} {t:List UInt8} (h:vi_ k t=true):1≤k∧k≤3∧t.length≤4096:=by
 unfold vi_ at h
 split at h
 ·assumption
 ·cases h
set_option linter.defProp false
end Go.Proofs
end
section
open Go Go.Proofs Go.Sx Go.StP
namespace Go.Proofs
set_option maxRecDepth 10000
set_option maxHeartbeats 400000
set_option linter.unusedSimpArgs false
set_option linter.defProp false
def wj_ (k:Int):List UInt8:=(([32,98,116,99]:List UInt8).take (k+1).toNat).drop k.toNat
def jK_ (k:Int) (t:List UInt8):List UInt8:=wj_ k++jN_ t
theorem QI_ (k:Int) (t:List UInt8) (w:World):Rets Tryz.prog 34 #[obV k t] w (XS w [] (fun v _=>v=if vi_ k t then .tuple #[vs (jK_ k t),vi 0] else .tuple #[vs [],vi 1])):=by
 refine Rets.enterX Tryz.func34 rfl (rs:= [.tmp 2, .tmp 3]) Tryz.results34 Tryz.ntmps34 (fun p hp=>by cases hp) (by simp[keys]) ?_
 refine kf ?_
 first|with_reducible refine ks [] @zu_ ?_|refine kp @zu_ ?_
 refine Ow.box rfl rfl fun b1 hb1 hw1=> ?_
 simp only[zD_,zH_,zG_,za_,List.nil_append]
 refine ko @zu_ ?_
 refine Ow.callFV rfl Tryz.call67 (fun w' hw'=>Jl_ k t w') ?_
 cases hr:vi_ k t
 ·refine ko @zu_ ?_
  first|with_reducible refine ks [] @zu_ ?_|refine kp @zu_ ?_
  refine⟨_,(ke @zu_), ?_⟩
  exact⟨Ext.of_new ⟨hw1,trivial⟩,rfl⟩
 ·obtain⟨hk1,hk3,htl⟩:=J1_ hr
  have hhl: (wj_ k).length≤4:=by unfold wj_;simp only[List.length_drop,List.length_take,List.length_cons,List.length_nil];omega
  refine ko @zu_ ?_
  refine Ow.alloc rfl rfl zrWr fun b4 hb4 hw4=> ?_
  simp only[za_,List.nil_append,List.cons_append]
  have h14:b1<b4:=zh_ hb4 (by simp[keys])
  refine Ow.permL (M:= [(b4,Obj.cells #[.pointer none, .slice none 0 0] 89 (0,0))]++ [(b1,Obj.cells #[vi k,vs t] 26 (0,0))]) (by classical exact List.perm_iff_count.2 fun a=>by simp only[List.count_append,List.count_cons,List.count_nil]<;>omega) ?_
  have hB0:BldAt b4 [] [(b4,Obj.cells #[.pointer none, .slice none 0 0] 89 (0,0))]:=BldAt.zeroE b4 (zP_ _ _ _)
  have hN0:New (b1+1) [(b4,Obj.cells #[.pointer none, .slice none 0 0] 89 (0,0))]:=⟨by omega,trivial⟩
  generalize [(b4,Obj.cells #[.pointer none, .slice none 0 0] 89 (0,0))]=D0 at hB0 hN0 ⊢
  have rdc: ∀ {D},New (b1+1) D→ ∀M,zk_ w (D++ (b1,Obj.cells #[vi k,vs t] 26 (0,0))::M) b1=some (.cells #[vi k,vs t] 26 (0,0)):=fun hn M=>zt_ (by rw[z9_ (hn.not (by omega))];exact zP_ _ _ _)
  have r0:=rdc hN0
  have hsl:qs_ .str (vs ([32,98,116,99]:List UInt8)) (some (some k)) (some (some (k+1)))=some (vs (wj_ k)):=v1_ _ _ _ ⟨by omega,by omega,by simp only[List.length_cons,List.length_nil];omega⟩
  refine ko (And.intro @zu_ (And.intro @r0 (@hsl))) ?_
  refine Ow.buildSlice (e:=9) #[vs (wj_ k)] rfl rfl (by kernel_rfl) fun b14 hb14 hw14=> ?_
  have h114:b1<b14:=zh_ hb14 (by simp[keys])
  have hD14:b14∉keys D0:=fun hm=>Nat.lt_irrefl _ (zh_ hb14 (by rw[ze_];exact List.mem_append_left _ hm))
  refine ko @zu_ ?_
  refine Ow.callX (Y:= [(b1,Obj.cells #[vi k,vs t] 26 (0,0)),(b14,Obj.cells #[vs (wj_ k)] 9 (0,0))]) (by simp) rfl rfl Tryz.call36 (fun w' hw' hX hn=>vu_ b4 D0 _ _ b14 0 [wj_ k] _ _ _ w' hB0 hX hn (StrS.lit [wj_ k] rfl rfl (hw'.has _ _ (List.mem_append_right _ List.mem_cons_self))) (fun _=>hD14) (by simp;omega) (by simp)) (fun u0 E0 hC0 hS0=> ?_)
  obtain⟨rfl,hB0'⟩:=hS0
  have hN0':=Came.newE hC0 hN0 (by simp[keys])
  have hB1:=hB0'.app (Y:= [(b14,Obj.cells #[vs (wj_ k)] 9 (0,0))])
  have hN1:=hN0'.app (show New (b1+1) [(b14,Obj.cells #[vs (wj_ k)] 9 (0,0))] from⟨by omega,trivial⟩)
  refine Ow.permL (M:=(E0++ [(b14,Obj.cells #[vs (wj_ k)] 9 (0,0))])++ [(b1,Obj.cells #[vi k,vs t] 26 (0,0))]) (by classical exact List.perm_iff_count.2 fun a=>by simp only[List.count_append,List.count_cons,List.count_nil]<;>omega) ?_
  generalize E0++ [(b14,Obj.cells #[vs (wj_ k)] 9 (0,0))]=F1 at hB1 hN1 ⊢
  simp only[List.flatten_cons,List.flatten_nil,List.append_nil,List.nil_append] at hB1
  have r1:=rdc hN1
  refine ko (And.intro @zu_ @r1) ?_
  have htx:xA_ [t]=jN_ t:=by simp[xA_]
  have tll:=km_ (s:=t) (by omega)
  have tnl: (jN_ t).length=(jb_ (zx_ t.length)).length+t.length:=by unfold jN_;rw[List.length_append]
  have nl1:=zp_ (t.length:Int)
  refine Ow.buildSlice (e:=9) #[vs t] rfl rfl (by kernel_rfl) fun b18 hb18 hw18=> ?_
  have h118:b1<b18:=zh_ hb18 (by simp[keys])
  have hD18:b18∉keys F1:=fun hm=>Nat.lt_irrefl _ (zh_ hb18 (by rw[ze_];exact List.mem_append_left _ hm))
  refine ko @zu_ ?_
  refine Ow.callX (Y:= [(b1,Obj.cells #[vi k,vs t] 26 (0,0)),(b18,Obj.cells #[vs t] 9 (0,0))]) (by simp) rfl rfl Tryz.call38 (fun w' hw' hX hn=>X5_ b4 F1 _ _ b18 0 [t] _ _ _ w' hB1 hX hn (StrS.lit [t] rfl rfl (hw'.has _ _ (List.mem_append_right _ List.mem_cons_self))) (fun _=>hD18) (by rw[htx];omega) (by simp)) (fun u1 E1 hC1 hS1=> ?_)
  obtain⟨rfl,hB1'⟩:=hS1
  have hN1':=Came.newE hC1 hN1 (by simp[keys])
  have hB2:=hB1'.app (Y:= [(b18,Obj.cells #[vs t] 9 (0,0))])
  have hN2:=hN1'.app (show New (b1+1) [(b18,Obj.cells #[vs t] 9 (0,0))] from⟨by omega,trivial⟩)
  refine Ow.permL (M:=(E1++ [(b18,Obj.cells #[vs t] 9 (0,0))])++ [(b1,Obj.cells #[vi k,vs t] 26 (0,0))]) (by classical exact List.perm_iff_count.2 fun a=>by simp only[List.count_append,List.count_cons,List.count_nil]<;>omega) ?_
  generalize E1++ [(b18,Obj.cells #[vs t] 9 (0,0))]=F2 at hB2 hN2 ⊢
  rw[htx] at hB2
  refine ko @zu_ ?_
  refine Ow.callX (Y:= [(b1,Obj.cells #[vi k,vs t] 26 (0,0))]) (by simp) rfl rfl Tryz.call40 (fun w' hw' hX hn=>xY_ b4 F2 _ w' hB2 hX hn (by rw[List.length_append];omega)) (fun v5 D5 hC5 hS5=> ?_)
  obtain rfl:=hS5
  have hN5:=Came.newE hC5 hN2 (by simp[keys])
  refine ko @zu_ ?_
  first|with_reducible refine ks [] @zu_ ?_|refine kp @zu_ ?_
  refine⟨_,(ke @zu_), ?_⟩
  exact⟨Ext.of_new ((New.mono (by omega) hN5).app ⟨hw1,trivial⟩),rfl⟩
end Go.Proofs
end
section
open Go Go.Proofs Go.Sx Go.StP
namespace Go.Proofs
set_option maxRecDepth 10000
set_option maxHeartbeats 400000
set_option linter.unusedSimpArgs false
set_option linter.defProp false
def xO_:=And.intro (And.intro (And.intro (@ve_) (@xW_)) (And.intro (@xQ_) (@kr_))) (And.intro (And.intro (@Sx.tup2_0) (@Sx.tup2_1)) (And.intro (@wX_) (And.intro (@zA_) (@zz_))))
def aad_ (k:Int) (t:List UInt8):Bool:=if 4096<t.length then false else if k=2 then(abJ_ t).isSome else if k=3 then(acF_ t).isSome else k==1
theorem QE_ (k:Int) (t:List UInt8) (w:World):Rets Tryz.prog 12 #[obV k t] w (fun v D=>v= .bool (aad_ k t)∧D= []):=by
 refine Rets.enterV Tryz.func12 rfl (rs:= [.tmp 2]) Tryz.results12 Tryz.ntmps12 ?_
 refine kf ?_
 first|with_reducible refine ks [] @xO_ ?_|refine kp @xO_ ?_
 refine Ow.box rfl rfl fun b1 hb1 hw1=> ?_
 simp only[zD_,zH_,zG_,za_,List.nil_append]
 refine ko @xO_ ?_
 unfold aad_
 by_cases h3:4096<t.length
 ·have d1:decide (4096< (t.length:Int))=true:=decide_eq_true (by omega)
  rw[if_pos h3]
  first|with_reducible refine ks [] (And.intro @xO_ @d1) ?_|refine kp (And.intro @xO_ @d1) ?_
  refine⟨_,(ke @xO_),⟨hw1,trivial⟩, ?_⟩
  rfl
 ·have d1:decide (4096< (t.length:Int))=false:=decide_eq_false (by omega)
  rw[if_neg h3]
  by_cases h2:k=2
  ·subst h2
   rw[if_pos rfl]
   first|with_reducible refine ks [] (And.intro @xO_ @d1) ?_|refine kp (And.intro @xO_ @d1) ?_
   refine Ow.callC rfl rfl Tryz.call30 (fun w' hw'=>VP_ t w' (by omega)) (fun B v D hA hB hN hS=> ?_)
   obtain⟨p,b,rfl,hb⟩: ∃p b,v= .tuple #[p, .bool b]∧(abJ_ t).isSome=b:=by
    unfold ait_ at hS
    cases h:abJ_ t with
    |none=>rw[h] at hS;exact⟨_,_,hS,rfl⟩
    |some l=>rw[h] at hS;obtain⟨v1,rfl,-⟩:=hS;exact⟨_,_,rfl,rfl⟩
   rw[hb]
   refine ko @xO_ ?_
   first|with_reducible refine ks [] @xO_ ?_|refine kp @xO_ ?_
   refine⟨_,(ke @xO_),⟨hw1,New.mono hB hN⟩, ?_⟩
   rfl
  ·have d2: (k==2)=false:=by simpa using h2
   rw[if_neg h2]
   by_cases h4:k=3
   ·subst h4
    rw[if_pos rfl]
    first|with_reducible refine ks [] (And.intro @xO_ (And.intro @d1 (@d2))) ?_|refine kp (And.intro @xO_ (And.intro @d1 (@d2))) ?_
    refine Ow.callC rfl rfl Tryz.call31 (fun w' hw'=>Vq_ t w' (by omega)) (fun B v D hA hB hN hS=> ?_)
    obtain⟨c,p,x,b,rfl,hp,hb⟩: ∃c p x b,v= .tuple #[.agg (qY_ c p x).toArray, .bool b]∧Value.oneCell' p=true∧(acF_ t).isSome=b:=by
     unfold ajq_ at hS
     cases h:acF_ t with
     |none=>rw[h] at hS;exact⟨_,_,_,_,hS,rfl,rfl⟩
     |some l=>rw[h] at hS;obtain⟨v1,rfl,hg⟩:=hS;exact⟨_,_,_,_,rfl,hg.cell.1,rfl⟩
    rw[hb]
    have stq: ∀a E,zn_ (some (a,34)) (some (.cells (qY_ id0 (.slice none 0 0) []).toArray E (0,0))) 0 (.agg (qY_ c p x).toArray)=some (.cells (qY_ c p x).toArray E (0,0)):=fun a E=>JS_ _ _ _ _ a E (by rw[List.size_toArray,vN_]) hp
    refine ko @xO_ ?_
    refine Ow.alloc rfl rfl al6_ fun b5 hb5 hw5=> ?_
    simp only[za_,List.nil_append,List.cons_append]
    refine Ow.permL (M:=(b5,Obj.cells (qY_ id0 (.slice none 0 0) []).toArray 76 (0,0)):: (b1,Obj.cells #[vi 3,vs t] 26 (0,0))::D) (by classical exact List.perm_iff_count.2 fun a=>by simp only[List.count_append,List.count_cons,List.count_nil]<;>omega) ?_
    refine ko (And.intro @xO_ @stq) ?_
    first|with_reducible refine ks [] @xO_ ?_|refine kp @xO_ ?_
    refine⟨_,(ke @xO_),⟨hw5,hw1,New.mono hB hN⟩, ?_⟩
    rfl
   ·have d3: (k==3)=false:=by simpa using h4
    rw[if_neg h4]
    first|with_reducible refine ks [] (And.intro @xO_ (And.intro @d1 (And.intro @d2 (@d3)))) ?_|refine kp (And.intro @xO_ (And.intro @d1 (And.intro @d2 (@d3)))) ?_
    refine⟨_,(ke @xO_),⟨hw1,trivial⟩, ?_⟩
    rfl
end Go.Proofs
end
section
open Go Go.Proofs Go.Sx Go.StP
namespace Go.Proofs
set_option maxRecDepth 10000
set_option maxHeartbeats 400000
set_option linter.unusedSimpArgs false
theorem ai4_ (n:Nat):0< (jb_ n).length:=by
 by_cases h:n<128
 ·rw[qw_ h];simp
 ·rw[kA_ h];simp
theorem adQ_ (most:Int): ∀ (l:List UInt8) (k acc m k':Nat),z5_ most l k acc= .ok (m,k')→ ∃n,l=jb_ n++l.drop (k' - k)∧m=acc+n*128^k∧(0<k→0<n)∧k<k':=by
 intro l
 induction l with
 |nil=>intro k acc m k' h;simp[z5_] at h
 |cons c r ih=>
  intro k acc m k' h
  unfold z5_ at h
  have hcl:=c.toNat_lt
  split at h
  ·rename_i hc
   split at h
   ·cases h
   ·obtain⟨n,h1,h2,h3,h4⟩:=ih _ _ _ _ h
    have hn:=h3 (by omega)
    refine⟨c.toNat%128+128*n, ?_, ?_,fun _=>by omega,by omega⟩
    ·rw[kA_ (by omega),show(c.toNat%128+128*n) / 128=n by omega,show(c.toNat%128+128*n)%128+128=c.toNat by omega]
     rw[show k' - k=(k' - (k+1))+1 by omega,List.drop_succ_cons,List.cons_append,←h1]
     simp
    ·rw[h2,Nat.pow_succ,Nat.add_mul,Nat.add_assoc]
     congr 2
     rw[Nat.mul_comm 128 n,Nat.mul_assoc,Nat.mul_comm (128^k) 128]
  ·rename_i hc
   split at h
   ·cases h
   ·rename_i hz
    split at h
    ·cases h
     refine⟨c.toNat, ?_, ?_,fun hk=>by omega,by omega⟩
     ·rw[qw_ (by omega),Nat.add_sub_cancel_left]
      simp
     ·rw[Nat.mod_eq_of_lt (by omega)]
    ·cases h
theorem xy_ {n:Nat} (h:n≤1099511627775):zx_ (n:Int)=n:=ko_ (by omega)
theorem ZK_ (most:Int): ∀ (l:List UInt8) (k n m k':Nat),z5_ most l k n= .ok (m,k')→m≤1099511627775
 | [],_,_,_,_,h=>by simp[z5_] at h
 |c::r,k,n,m,k',h=>by
  unfold z5_ at h
  split at h
  ·split at h
   ·cases h
   ·exact ZK_ most r _ _ _ _ h
  ·split at h
   ·cases h
   ·split at h
    ·rename_i hh
     cases h
     exact hh.1
    ·cases h
theorem vG_ {s:List UInt8} {a:Nat} {most:Int} (h: (zs_ s a 0 most).2.2=0): ∃n:Nat,(zs_ s a 0 most).1=(n:Int)∧n≤1099511627775∧(n:Int)≤most∧s.drop a=jb_ n++s.drop (zs_ s a 0 most).2.1:=by
 unfold zs_ at h ⊢
 rw[if_neg (by simp)] at h ⊢
 cases hg:z5_ most (s.drop a) 0 0 with
 |ok p=>
  obtain⟨m,k⟩:=p
  obtain⟨n,h1,h2,-,-⟩:=adQ_ _ _ _ _ _ _ hg
  obtain rfl:m=n:=by rw[h2];simp
  refine⟨m,rfl,ZK_ _ _ _ _ _ _ hg,wc_ _ _ _ _ _ _ hg, ?_⟩
  rw[Nat.sub_zero,List.drop_drop] at h1
  exact h1
 |error x=>
  rw[hg] at h
  exfalso
  have:x=0:=by have: ((x:Nat):Int)=0:=h;omega
  subst this
  exact aiP_ _ _ _ _ hg
theorem XS_ {s:List UInt8} {a:Nat} {n:Int} (ha:a≤s.length) (h: (jp_ s a 0 n).2.2=0):0≤n∧(jp_ s a 0 n).1.length=n.toNat∧s.drop a=(jp_ s a 0 n).1++s.drop (jp_ s a 0 n).2.1:=by
 unfold jp_ at h ⊢
 rw[if_neg (by simp)] at h ⊢
 split at h
 ·exact absurd (show(2:Int)=0 from h) (by decide)
 ·rename_i h1
  rw[if_neg h1]
  split at h
  ·exact absurd (show(3:Int)=0 from h) (by decide)
  ·rename_i h2
   rw[if_neg h2]
   refine⟨by omega, ?_, ?_⟩
   ·simp only[List.length_take,List.length_drop];omega
   ·simp only
    rw[←List.drop_drop,List.take_append_drop]
theorem Js_ {s:List UInt8} {a:Nat} {most:Int} (ha:a≤s.length) (h: (zS_ s a 0 most).2.2=0): ((zS_ s a 0 most).1.length:Int)≤most∧s.drop a=jN_ (zS_ s a 0 most).1++s.drop (zS_ s a 0 most).2.1:=by
 have hle:=qh_ (e:=0) (most:=most) ha
 have e1: (zs_ s a 0 most).2.2=0:=Decidable.byContradiction fun hn=>by
  unfold zS_ at h
  simp only[Ky_ hn] at h
  rw[if_pos hn] at h
  exact hn h
 obtain⟨n,hn,hb,hm,hd⟩:=vG_ e1
 unfold zS_ at h ⊢
 simp only at h ⊢
 generalize zs_ s a 0 most=p at*
 obtain⟨p1,p2,p3⟩:=p
 simp only at e1 hn hd hle h ⊢
 subst e1 hn
 have e2: (jp_ s p2 0 (n:Int)).2.2=0:=Decidable.byContradiction fun hh=>by rw[if_pos hh] at h;exact hh h
 rw[if_neg (by simp[e2])]
 obtain⟨-,hl,hr⟩:=XS_ hle.2 e2
 rw[Int.toNat_natCast] at hl
 refine⟨by rw[hl];exact hm, ?_⟩
 unfold jN_
 rw[hl,xy_ hb,List.append_assoc,←hr]
 exact hd
theorem QH_ {s:List UInt8} {a:Nat} (ha:a≤s.length) (h: (idR s a 0).2.2=0):s.drop a=(vU_ (idR s a 0).1).l++s.drop (idR s a 0).2.1:=by
 have e2: (jp_ s a 0 32).2.2=0:=h
 obtain⟨-,hl,hr⟩:=XS_ ha e2
 rw[ky_ (wm_ s a 0)]
 unfold idR
 simp only
 have hl': (jp_ s a 0 32).1.length=32:=hl
 rw[if_pos hl']
 exact hr
theorem aft_ {s:List UInt8} {a:Nat} (ha:a≤s.length) (h: (J3_ s a 0).2.2=0):s.drop a=entB (J3_ s a 0).1++s.drop (J3_ s a 0).2.1:=by
 have hq:=qh_ (e:=0) (most:=2) ha
 unfold J3_ at h ⊢
 simp only at h ⊢
 have e1: (zs_ s a 0 2).2.2=0:=Decidable.byContradiction fun hn=>by
  rw[ah7_ (by rw[VI_ hn];exact hn),VI_ hn] at h;exact hn h
 obtain⟨n,hn,hb,-,hd⟩:=vG_ e1
 generalize zs_ s a 0 2=p at*
 obtain⟨p1,p2,p3⟩:=p
 simp only at e1 hn hd hq h ⊢
 subst e1 hn
 have ht:=xS_ (e:=0) (most:=32) hq.2
 have e2: (zS_ s p2 0 32).2.2=0:=Decidable.byContradiction fun hn=>by rw[ah7_ hn] at h;exact hn h
 obtain⟨-,hd2⟩:=Js_ hq.2 e2
 generalize zS_ s p2 0 32=q at*
 obtain⟨q1,q2,q3⟩:=q
 simp only at e2 hd2 ht h ⊢
 subst e2
 have hd3:=QH_ ht.2 h
 unfold entB
 simp only
 rw[xy_ hb,List.append_assoc,List.append_assoc,←hd3,←hd2]
 exact hd
theorem afE_ (l:List EntL) (x:EntL):xZ_ (l++ [x])=xZ_ l++entB x:=by unfold xZ_;simp
theorem ZE_ {s:List UInt8}: ∀ (n a:Nat) (e:Int) (l:List EntL),a≤s.length→(e=0→s=xZ_ l++s.drop a)→((xR_ s n a e l).2.2=0→s=xZ_ (xR_ s n a e l).1++s.drop (xR_ s n a e l).2.1)
 |0,_,_,_,_,h=>h
 |n+1,a,e,l,ha,h=>by
  by_cases hc:e=0∧a<s.length
  ·rw[QO_ hc]
   refine ZE_ n _ _ _ (ada_ ha).2 fun h0=> ?_
   obtain⟨rfl,-⟩:=hc
   rw[afE_,List.append_assoc,←aft_ ha h0]
   exact h rfl
  ·rw[Ze_ hc]
   exact h
theorem QJ_ {s:List UInt8} {a:Nat} {e:Int} (h:xN_ s a e=0):e=0∧s.length≤a:=by
 unfold xN_ at h
 split at h
 ·rename_i he;exact absurd h he
 ·rename_i he
  split at h
  ·exact absurd h (by decide)
  ·exact⟨Decidable.byContradiction he,by omega⟩
theorem acG_ {s:List UInt8} (h:xN_ s (jC_ s).2.1 (jC_ s).2.2=0):xZ_ (jC_ s).1=s:=by
 obtain⟨h1,h2⟩:=QJ_ h
 have:=ZE_ (s:=s) (s.length+1) 0 0 [] (Nat.zero_le _) (fun _=>by simp[xZ_]) h1
 rw[show xR_ s (s.length+1) 0 0 []=jC_ s from rfl,List.drop_eq_nil_of_le h2,List.append_nil] at this
 exact this.symm
theorem Je_ {s:List UInt8}: ∀ (n a:Nat) (e:Int) (l:List EntL),a≤s.length→(e=0→s.length<a+n)→(xR_ s n a e l).2.2=0→s.length≤ (xR_ s n a e l).2.1
 |0,a,e,l,ha,hf,h=>by have:=hf h;show s.length≤a;omega
 |n+1,a,e,l,ha,hf,h=>by
  by_cases hc:e=0∧a<s.length
  ·rw[QO_ hc] at h ⊢
   refine Je_ n _ _ _ (ada_ ha).2 (fun h0=> ?_) h
   obtain⟨rfl,-⟩:=hc
   have:=aha_ ha h0
   have:=hf rfl
   omega
  ·rw[Ze_ hc] at h ⊢
   have h':e=0:=h
   exact Decidable.byContradiction fun hn=>hc ⟨h',by have hn': ¬s.length≤a:=hn;omega⟩
theorem WT_ (s:List UInt8): (xN_ s (jC_ s).2.1 (jC_ s).2.2=0)↔(jC_ s).2.2=0:=by
 refine⟨fun h=>(QJ_ h).1,fun h=> ?_⟩
 have:=Je_ (s:=s) (s.length+1) 0 0 [] (Nat.zero_le _) (fun _=>by omega) h
 have h2:s.length≤ (jC_ s).2.1:=this
 unfold xN_
 rw[if_neg (by simp[h]),if_neg (by omega)]
theorem ahM_ (l:List IdL) (x:IdL):idsB (l++ [x])=idsB l++x.l:=by unfold idsB;simp
theorem Q0_ {s:List UInt8} {a:Nat} (ha:a≤s.length): ∀n,(zK_ s a 0 n).2.2=0→s.drop a=idsB (zK_ s a 0 n).1++s.drop (zK_ s a 0 n).2.1
 |0,_=>by simp[zK_,idsB]
 |n+1,h=>by
  unfold zK_ at h ⊢
  simp only at h ⊢
  have e1: (zK_ s a 0 n).2.2=0:=Decidable.byContradiction fun hn=>by rw[ah7_ hn] at h;exact hn h
  have ih:=Q0_ ha n e1
  have hl:=wZ_ (e:=0) ha n
  generalize zK_ s a 0 n=p at*
  obtain⟨p1,p2,p3⟩:=p
  simp only at e1 ih hl h ⊢
  subst e1
  rw[ahM_,List.append_assoc,←QH_ hl h]
  exact ih
theorem ajK_ {s:List UInt8} {a:Nat} {e:Int} (he:e≠0): ∀n,(zK_ s a e n).2=(a,e)
 |0=>rfl
 |n+1=>by
  have ih:=ajK_ (s:=s) (a:=a) he n
  unfold zK_
  simp only
  rw[ih,ah7_ he]
theorem afM_ {s:List UInt8} (h:xN_ s (vS_ s).2.1 (vS_ s).2.2=0):comB (vS_ s).1=s:=by
 obtain⟨h1,h2⟩:=QJ_ h
 have ip:=Kl_ (s:=s) (a:=0) (e:=0) (Nat.zero_le _)
 have np:=qh_ (e:=(idR s 0 0).2.2) (most:=4) ip.2
 unfold vS_ at h1 h2 ⊢
 simp only at h1 h2 ⊢
 have e3: (kS_ s).2.2=0:=Decidable.byContradiction fun hn=>by unfold comT at h1;rw[VI_ hn] at h1;exact hn h1
 have e2: (comN s).2.2=0:=Decidable.byContradiction fun hn=>by unfold kS_ at e3;rw[ajK_ hn] at e3;exact hn e3
 have e1: (idR s 0 0).2.2=0:=Decidable.byContradiction fun hn=>by unfold comN at e2;rw[JD_ hn] at e2;exact hn e2
 have d1:=QH_ (Nat.zero_le _) e1
 rw[e1] at np
 have hcN:comN s=zs_ s (idR s 0 0).2.1 0 4:=by unfold comN;rw[e1]
 rw[hcN] at e2
 obtain⟨n,hn,hb,-,d2⟩:=vG_ e2
 have hcP:kS_ s=zK_ s (comN s).2.1 0 n:=by unfold kS_;rw[hcN,e2,hn,Int.toNat_natCast]
 have hp: (comN s).2.1≤s.length:=by rw[hcN];exact np.2
 rw[hcP] at e3
 have d3:=Q0_ hp n e3
 have hpl: (kS_ s).1.length=n:=by rw[hcP,wA_]
 have hcT:comT s=zS_ s (kS_ s).2.1 0 64:=by unfold comT;rw[hcP,e3]
 have hle: (kS_ s).2.1≤s.length:=by rw[hcP];exact wZ_ hp n
 rw[hcT] at h1
 obtain⟨-,d4⟩:=Js_ hle h1
 rw[←hcT] at d4
 rw[←hcP] at d3
 rw[←hcN] at d2
 unfold comB ab6_
 simp only
 rw[hpl,xy_ hb]
 rw[List.drop_eq_nil_of_le h2,List.append_nil] at d4
 rw[List.append_assoc,List.append_assoc,←d4,←d3,←d2,←d1]
 rfl
theorem X8_ (k:Int) (t:List UInt8):vi_ k t=aad_ k t:=by
 unfold vi_ aad_
 by_cases h4:4096<t.length
 ·rw[if_neg (by omega),if_pos h4]
 ·rw[if_neg h4]
  by_cases h2:k=2
  ·subst h2
   rw[if_pos (by omega),if_neg (by decide),if_pos rfl,if_pos rfl]
   unfold abJ_
   by_cases hz:xN_ t (jC_ t).2.1 (jC_ t).2.2=0
   ·have:=acG_ hz
    have h1:=(WT_ t).1 hz
    rw[hz]
    cases ho:xF_ (jC_ t).1
    ·rw[if_neg (fun h=>by cases h.2.1)];rfl
    ·rw[if_pos ⟨h1,rfl,this⟩];rfl
   ·have h': ¬ (jC_ t).2.2=0:=fun h=>hz ((WT_ t).2 h)
    simp[hz,h']
  ·by_cases h3:k=3
   ·subst h3
    rw[if_pos (by omega),if_neg (by decide),if_neg (by decide),if_neg (by decide),if_pos rfl]
    unfold acF_
    by_cases hz:xN_ t (vS_ t).2.1 (vS_ t).2.2=0
    ·have:=afM_ hz
     cases ho:vs_ (vS_ t).1<;>simp[hz,this]
    ·simp[hz]
   ·rw[if_neg h2,if_neg h3]
    by_cases h1:k=1
    ·subst h1
     rw[if_pos (by omega)];rfl
    ·rw[if_neg (by omega)]
     simp[h1,h2]
theorem abB_ (most:Int) (r:List UInt8): ∀ (n k acc:Nat),(0<k→0<n)→k+ (jb_ n).length≤6→acc+n*128^k≤1099511627775→((acc+n*128^k:Nat):Int)≤most→
  z5_ most (jb_ n++r) k acc= .ok (acc+n*128^k,k+ (jb_ n).length):=by
 intro n
 induction n using Nat.strongRecOn with
 |ind n ih=>
  intro k acc hk hl hs hm
  by_cases h:n<128
  ·rw[qw_ h,List.cons_append,List.nil_append,z5_]
   have hc: (UInt8.ofNat n).toNat=n:=by rw[UInt8.toNat_ofNat'];omega
   rw[hc,Nat.mod_eq_of_lt h,if_neg (by omega),if_neg (by omega),if_pos ⟨hs,hm⟩]
   rfl
  ·have hb:=kA_ h
   rw[hb] at hl ⊢
   rw[List.cons_append,z5_]
   have hc: (UInt8.ofNat (n%128+128)).toNat=n%128+128:=by rw[UInt8.toNat_ofNat'];omega
   have hp:=ai4_ (n / 128)
   rw[List.length_cons] at hl
   have e:acc+ (n%128+128)%128*128^k+n / 128*128^ (k+1)=acc+n*128^k:=by
    have h1: (n%128+128)%128=n%128:=by omega
    rw[h1,Nat.pow_succ,Nat.add_assoc]
    congr 1
    have h2:n / 128* (128^k*128)=(n / 128*128)*128^k:=by rw[Nat.mul_comm (128^k),Nat.mul_assoc]
    rw[h2,←Nat.add_mul]
    congr 1
    omega
   rw[hc,if_pos (by omega),if_neg (by omega),ih (n / 128) (by omega) (k+1) _ (fun _=>by omega) (by omega) (by rw[e];exact hs) (by rw[e];exact hm),e,List.length_cons]
   congr 2
   omega
theorem Jr_ (A r:List UInt8) (n:Nat) (most:Int) (hn:n≤1099511627775) (hm: (n:Int)≤most):zs_ (A++ (jb_ n++r)) A.length 0 most=((n:Int),A.length+ (jb_ n).length,0):=by
 have hl:=j6_ 6 n (by omega) (by omega)
 have h:=abB_ most r n 0 0 (fun h=>absurd h (Nat.lt_irrefl 0)) (by omega) (by simpa using hn) (by simpa using hm)
 simp only[Nat.pow_zero,Nat.mul_one,Nat.zero_add] at h
 exact Jx_ rfl (by rw[List.drop_left];exact h)
theorem W9_ (A x r:List UInt8):jp_ (A++ (x++r)) A.length 0 (x.length:Int)=(x,A.length+x.length,0):=by
 unfold jp_
 rw[if_neg (by simp),if_neg (by omega),if_neg (by simp only[List.length_append];omega),List.drop_left,Int.toNat_natCast,List.take_left]
theorem agf_ (A t r:List UInt8) (most:Int) (hn:t.length≤1099511627775) (hm: (t.length:Int)≤most):zS_ (A++ (jN_ t++r)) A.length 0 most=(t,A.length+ (jN_ t).length,0):=by
 have h1:=Jr_ A (t++r) t.length most hn hm
 have h2:=W9_ (A++jb_ t.length) t r
 unfold zS_ jN_
 rw[xy_ (by omega)]
 rw[List.append_assoc,h1]
 simp only
 rw[List.append_assoc,List.length_append] at h2
 rw[h2]
 simp only[ne_eq,not_true_eq_false, ↓reduceIte,List.length_append,Nat.add_assoc]
end Go.Proofs
end
section
open Go Go.Proofs Go.Sx Go.StP
namespace Go.Proofs
set_option maxRecDepth 10000
set_option maxHeartbeats 400000
set_option linter.unusedSimpArgs false
theorem ac9_ (s:List UInt8) (c:UInt8) (w:World): (callFunc 144 #[vs s,v8 c]).run Tryz.prog w= .ok (.value (vi (Lib.indexByte s c))) w:=by
 rw[run_callFunc_extern Tryz.func144 (by kernel_rfl) (by kernel_rfl) (by kernel_rfl) (e:=Extern.BytealgIndexByte.indexByte) (by kernel_rfl)]
 have h:=Lib.run_indexByteString (P:=Tryz.prog) ⟨s.toArray⟩ (c.toNat:Int) w
 have e: ((c.toNat:Int)).toNat.toUInt8=c:=by simp
 rw[e] at h
 show((Extern.BytealgIndexByte.indexByte #[.string ⟨s.toArray⟩, .int .u8 (c.toNat:Int)]).run Tryz.prog w).andThen _=_
 rw[h];rfl
theorem Xs_ (s:List UInt8) (c:UInt8) (w:World):Rets Tryz.prog 130 #[vs s,v8 c] w (fun v D=>v=vi (Lib.indexByte s c)∧D= []):=by
 refine Rets.enterV Tryz.func130 rfl (rs:= [.tmp 4]) Tryz.results130 Tryz.ntmps130 ?_
 refine kf ?_
 first|with_reducible refine ks [] @Nat.add_zero ?_|refine kp @Nat.add_zero ?_
 refine Ow.callExt rfl rfl (fun w=>ac9_ s c w) ?_
 refine ko @Nat.add_zero ?_
 first|with_reducible refine ks [] @Nat.add_zero ?_|refine kp @Nat.add_zero ?_
 refine⟨_,(ke @Nat.add_zero),trivial, ?_⟩
 rfl
def idxT (s:List UInt8):List UInt8→Int
 | []=>0
 |c::_=>Lib.indexByte s c
theorem Q9_ (s x:List UInt8) (w:World) (hx:x.length≤1) (hs:2≤s.length) (_hsl:s.length<1099511627776):Rets Tryz.prog 115 #[vs s,vs x] w (fun v D=>v=vi (idxT s x)∧D= []):=by
 refine Rets.enterV Tryz.func115 rfl (rs:= [.tmp 4]) Tryz.results115 Tryz.ntmps115 ?_
 refine kf ?_
 match x,hx with
 | [],_=>
  have d1: (((([]:List UInt8).length:Nat):Int)==0)=true:=rfl
  first|with_reducible refine ks [] @d1 ?_|refine kp @d1 ?_
  refine⟨_,(ke @Nat.add_zero),trivial, ?_⟩
  rfl
 | [c],_=>
  have d1: ((([c]:List UInt8).length:Int)==0)=false:=rfl
  have d2: ([c]==s)=false:=beq_eq_false_iff_ne.2 fun e=>by rw[←e] at hs;simp at hs
  have d3: ((([c]:List UInt8).length:Int)==1)=true:=rfl
  have i0: ([c]:List UInt8).getD 0 0=c:=rfl
  first|with_reducible refine ks [] (And.intro @d1 (And.intro @d2 (And.intro @d3 (@i0)))) ?_|refine kp (And.intro @d1 (And.intro @d2 (And.intro @d3 (@i0)))) ?_
  refine Ow.callFV rfl Tryz.call130 (fun w' hw'=>Xs_ s c w') ?_
  refine ko @Nat.add_zero ?_
  first|with_reducible refine ks [] @Nat.add_zero ?_|refine kp @Nat.add_zero ?_
  refine⟨_,(ke @Nat.add_zero),trivial, ?_⟩
  rfl
theorem ago_ (s x:List UInt8) (w:World) (hx:x.length≤1) (hs:2≤s.length) (hsl:s.length<1099511627776):Rets Tryz.prog 92 #[vs s,vs x] w (fun v D=>v=vi (idxT s x)∧D= []):=by
 refine Rets.enterV Tryz.func92 rfl (rs:= [.tmp 4]) Tryz.results92 Tryz.ntmps92 ?_
 refine kf ?_
 first|with_reducible refine ks [] @Nat.add_zero ?_|refine kp @Nat.add_zero ?_
 refine Ow.callFV rfl Tryz.call115 (fun w' hw'=>Q9_ s x w' hx hs hsl) ?_
 refine ko @Nat.add_zero ?_
 first|with_reducible refine ks [] @Nat.add_zero ?_|refine kp @Nat.add_zero ?_
 refine⟨_,(ke @Nat.add_zero),trivial, ?_⟩
 rfl
abbrev letL:List UInt8:= [32,98,116,99]
def frR (s:List UInt8):List UInt8×Nat×Int:=jp_ s 0 0 1
def frT (s:List UInt8):List UInt8×Nat×Int:=zS_ s (frR s).2.1 (frR s).2.2 4096
def frK (s:List UInt8):Int:=idxT letL (frR s).1
def frOk (s:List UInt8):Bool:=xN_ s (frT s).2.1 (frT s).2.2==0&&vi_ (frK s) (frT s).1
theorem ao0_ (s:List UInt8): (frR s).1.length≤1:=by
 unfold frR jp_
 rw[if_neg (by simp),if_neg (by decide)]
 split
 ·simp
 ·simp only[List.length_take,Int.toNat_one];omega
def am5_ (s:List UInt8) (v:Value):Prop:=v= .tuple #[obV (if frOk s then frK s else 0) (if frOk s then(frT s).1 else []),vi (if frOk s then 0 else 2)]
set_option linter.defProp false
theorem afo_ (s:List UInt8) (w:World) (hs:s.length<1099511627776):Rets Tryz.prog 54 #[vs s] w (fun v D=>am5_ s v∧D= []):=by
 refine Rets.enterV Tryz.func54 rfl (rs:= [.cell 2 26, .tmp 3]) Tryz.results54 Tryz.ntmps54 ?_
 refine kf ?_
 first|with_reducible refine ks [] @zu_ ?_|refine kp @zu_ ?_
 refine Ow.alloc rfl rfl J6_ fun b2 hb2 hw2=> ?_
 simp only[za_,List.nil_append,List.cons_append]
 refine ko @zu_ ?_
 refine Ow.callF rfl rfl Tryz.call25 (S:=fun B v D=> ∃b',B≤b'∧v=vp b' 0∧D= [(b', .cells #[vs s,vi 0,vi 0] 108 (0,0))]) (fun w' hw'=>wy_ s w') ?_
 rintro B v D hab hB ⟨bw,hbw,rfl,rfl⟩
 obtain⟨h2B,-⟩:=hab
 refine⟨_,Mrg.fresh (by intro q hq;simp only[keys,List.map_cons,List.map_nil,List.mem_singleton] at hq;omega), ?_⟩
 simp only[List.cons_append,List.nil_append]
 refine Ow.permL (M:= [(bw, .cells #[vs s,vi 0,vi 0] 108 (0,0)),(b2,Obj.cells #[vi 0,vs []] 26 (0,0))]) (by classical exact List.perm_iff_count.2 fun a=>by simp only[List.count_append,List.count_cons,List.count_nil]<;>omega) ?_
 have hne:bw≠b2:=by omega
 refine ko @zu_ ?_
 first|with_reducible refine ks [] @zu_ ?_|refine kp @zu_ ?_
 refine Ow.callM rfl rfl Tryz.call48 (by simp[keys]) (fun w' hw'=>vo_ bw s 0 0 1 w' (Nat.zero_le _) (by omega) (hw'.has _ _ List.mem_cons_self)) ?_
 have r1:=kw_ (s:=s) (a:=0) (e:=0) (n:=1) (Nat.zero_le _)
 have r2:=ao0_ s
 have hT:frT s=zS_ s (frR s).2.1 (frR s).2.2 4096:=rfl
 have hK:frK s=idxT letL (frR s).1:=rfl
 have hO:frOk s=(xN_ s (frT s).2.1 (frT s).2.2==0&&vi_ (frK s) (frT s).1):=rfl
 unfold am5_
 rw[show jp_ s 0 0 1=frR s from rfl] at r1 ⊢
 generalize frR s=p at*
 obtain⟨x,a1,e1⟩:=p
 simp only at r1 r2 hT hK ⊢
 refine kn ?_
 refine ko @zu_ ?_
 refine Ow.callFV rfl Tryz.call92 (fun w' hw'=>ago_ letL x w' r2 (by decide) (by decide)) ?_
 rw[←hK]
 refine ko @zu_ ?_
 refine Ow.callM rfl rfl Tryz.call52 (by simp[keys]) (fun w' hw'=>vy_ bw s a1 e1 4096 w' r1.2 (by omega) (hw'.has _ _ List.mem_cons_self)) ?_
 rw[←hT]
 generalize frT s=q at*
 obtain⟨tt,a2,e2⟩:=q
 simp only at hO ⊢
 refine kn ?_
 refine ko @zu_ ?_
 refine Ow.build (obV (frK s) tt) rfl (ajb_ _ tt) ?_
 refine ko @zu_ ?_
 refine Ow.alloc rfl rfl J6_ fun b5 hb5 hw5=> ?_
 simp only[za_,List.nil_append,List.cons_append]
 have h5w:bw<b5:=zh_ hb5 (by simp[keys])
 have h52:b2<b5:=zh_ hb5 (by simp[keys])
 refine ko @zu_ ?_
 refine Ow.callFV rfl Tryz.call28 (fun w' hw'=>kp_ bw s a2 e2 w' (hw'.has _ _ List.mem_cons_self)) ?_
 by_cases he:xN_ s a2 e2=0
 ·have d1: (xN_ s a2 e2 !=0)=false:=by simp[he]
  have d1': (xN_ s a2 e2==0)=true:=by simp[he]
  rw[d1',Bool.true_and] at hO
  refine ko (And.intro @zu_ @d1) ?_
  refine Ow.callFV rfl Tryz.call67 (fun w' hw'=>Jl_ (frK s) tt w') ?_
  rw[hO]
  cases hr:vi_ (frK s) tt
  ·refine ko @zu_ ?_
   refine Ow.build (obV 0 []) rfl aaF_ ?_
   refine ko @zu_ ?_
   first|with_reducible refine ks [] @zu_ ?_|refine kp @zu_ ?_
   refine⟨_,(ke @zu_),⟨by omega,hw2,hw5,trivial⟩, ?_⟩
   rfl
  ·refine ko @zu_ ?_
   first|with_reducible refine ks [] @zu_ ?_|refine kp @zu_ ?_
   refine⟨_,(ke @zu_),⟨by omega,hw2,hw5,trivial⟩, ?_⟩
   rfl
 ·have d1: (xN_ s a2 e2 !=0)=true:=by simpa using he
  have d1': (xN_ s a2 e2==0)=false:=by simpa using he
  rw[d1',Bool.false_and] at hO
  rw[hO]
  refine ko (And.intro @zu_ @d1) ?_
  refine Ow.build (obV 0 []) rfl aaF_ ?_
  refine ko @zu_ ?_
  first|with_reducible refine ks [] @zu_ ?_|refine kp @zu_ ?_
  refine⟨_,(ke @zu_),⟨by omega,hw2,hw5,trivial⟩, ?_⟩
  rfl
end Go.Proofs
end
section
open Go Go.Proofs Go.Sx Go.StP
namespace Go.Proofs
set_option maxRecDepth 10000
set_option maxHeartbeats 400000
set_option linter.unusedSimpArgs false
set_option linter.defProp false
end Go.Proofs
end
namespace Go.Flo
open Go Ieee
abbrev F (n:Int):Nat:=FloatKind.f64.nearest n
def dat (n:Int):Datum:= .number (decide (n<0)) (n.natAbs*2^ (52 - n.natAbs.log2)) ((n.natAbs.log2:Int) - 52)
theorem amT_ {a:Nat} (h:a<8192):a.log2<13∨a=0:=by
 by_cases h0:a=0
 ·exact .inr h0
 ·exact .inl ((Nat.log2_lt h0).2 h)
theorem dec0:FloatKind.f64.decode (F 0)= .number false 0 (-1074):=by kernel_rfl
theorem wP_ (neg:Bool) (n:Nat):Toward.even.cut neg n 0=n:=by
 simp[Toward.cut,Nat.mod_one]
theorem dec {n:Int} (h0:n≠0) (h:n.natAbs<8192):FloatKind.f64.decode (F n)=dat n:=by
 have ha:n.natAbs≠0:=by omega
 generalize hm:n.natAbs=a at*
 have hl:a.log2<13:=(Nat.log2_lt ha).2 h
 have hlo:2^a.log2≤a:=Nat.log2_self_le ha
 have hhi:a<2^ (a.log2+1):=Nat.lt_log2_self
 generalize hk:a.log2=k at*
 have hp:2^ (52 - k)*2^k=2^52:=by rw[←Nat.pow_add];congr 1;omega
 have hp1:2^ (k+1)=2*2^k:=by rw[Nat.pow_succ];omega
 have e1:2^52≤a*2^ (52 - k):=by
  rw[←hp,Nat.mul_comm];exact Nat.mul_le_mul_right _ hlo
 have e2:a*2^ (52 - k)<2*2^52:=by
  have h1:=Nat.mul_lt_mul_of_pos_right hhi (show 0<2^ (52 - k) from Nat.pow_pos (by omega))
  rw[hp1,Nat.mul_assoc,Nat.mul_comm (2^k),hp] at h1
  exact h1
 have hw:F n=Ieee.double.word (decide (n<0)) ((k+1022)*2^52+a*2^ (52 - k)):=by
  show Ieee.double.nearest (decide (n<0)) n.natAbs 0=_
  rw[hm]
  unfold Format.nearest
  rw[if_neg ha,hk]
  have hlast:max ((0:Int)+ (k:Int) - (Ieee.double.fractionBits:Int)) Ieee.double.leastPlace=(k:Int) - 52:=by
   have e3:Ieee.double.leastPlace= -1074:=by decide
   have e4: (Ieee.double.fractionBits:Int)=52:=rfl
   rw[e3,e4];omega
  rw[hlast]
  have e5: ((k:Int) - 52 - 0).toNat=0:=by omega
  have e6: ((0:Int) - ((k:Int) - 52)).toNat=52 - k:=by omega
  simp only[e5,e6,wP_,Nat.shiftLeft_eq]
  have e7: ((k:Int) - 52 - Ieee.double.leastPlace).toNat=k+1022:=by
   have e3:Ieee.double.leastPlace= -1074:=by decide
   rw[e3];omega
  have e8:Ieee.double.binade=2^52:=rfl
  have e9:Ieee.double.infRung=2047*2^52:=rfl
  rw[e7,e8,e9,Nat.min_eq_left (by omega)]
 show Ieee.double.read (F n)=_
 rw[hw]
 generalize hX:a*2^ (52 - k)=X at*
 have e8:Ieee.double.binade=2^52:=rfl
 have e9:Ieee.double.infRung=2047*2^52:=rfl
 have e10:Ieee.double.signWeight=2^63:=rfl
 have e3:Ieee.double.leastPlace= -1074:=by decide
 have hneg: (Ieee.double.word (decide (n<0)) ((k+1022)*2^52+X) / 2^63%2==1)=decide (n<0)∧Ieee.double.word (decide (n<0)) ((k+1022)*2^52+X)%2^63=(k+1022)*2^52+X:=by
  unfold Format.word
  rw[e10]
  by_cases hn:n<0
  ·rw[decide_eq_true hn,if_pos rfl]
   refine⟨?_,by omega⟩
   rw[beq_iff_eq];omega
  ·rw[decide_eq_false hn,if_neg (by simp)]
   refine⟨?_,by omega⟩
   rw[beq_eq_false_iff_ne];omega
 unfold Format.read
 simp only[e10,hneg.1,hneg.2,e8,e9,e3]
 rw[if_neg (by omega),if_pos (by omega)]
 unfold dat
 rw[hm,hk,hX]
 congr 1
 ·omega
 ·omega
theorem sgn (n:Int) (u:Nat):signed (decide (n<0)) (n.natAbs*2^u) 0=n*2^u:=by
 unfold signed
 rw[Nat.shiftLeft_eq,Nat.pow_zero,Nat.mul_one]
 by_cases h:n<0
 ·rw[decide_eq_true h,if_pos rfl]
  rw[Int.natCast_mul,←Int.neg_mul]
  congr 1
  ·omega
 ·rw[decide_eq_false h,if_neg (by simp),Int.natCast_mul]
  congr 1
  omega
def plc (n:Int):Int:=if n=0 then -1074 else(n.natAbs.log2:Int) - 52
def mag (n:Int):Nat:=if n=0 then 0 else n.natAbs*2^ (52 - n.natAbs.log2)
theorem decA {n:Int} (h:n.natAbs<8192):FloatKind.f64.decode (F n)= .number (decide (n<0)) (mag n) (plc n):=by
 by_cases h0:n=0
 ·subst h0;rw[dec0];rfl
 ·rw[dec h0 h];unfold dat mag plc;rw[if_neg h0,if_neg h0]
theorem sgnU {n base:Int} (h:n.natAbs<8192) (hb:base≤plc n):signed (decide (n<0)) (mag n) (plc n - base).toNat=n*2^ (-base).toNat:=by
 by_cases h0:n=0
 ·subst h0;simp[signed,mag]
 ·have hl:n.natAbs.log2<13:=by rcases amT_ h with h1|h1;exact h1;omega
  have hu:52 - n.natAbs.log2+ (plc n - base).toNat=(-base).toNat:=by
   unfold plc at hb ⊢
   rw[if_neg h0] at hb ⊢
   omega
  have e:signed (decide (n<0)) (mag n) (plc n - base).toNat=signed (decide (n<0)) (n.natAbs*2^ (-base).toNat) 0:=by
   unfold signed mag
   rw[if_neg h0,←hu,Nat.pow_add]
   simp only[Nat.shiftLeft_eq,Nat.pow_zero,Nat.mul_one,Nat.mul_assoc]
  rw[e,sgn]
theorem agX_ {a b k:Int} (hk:0<k):compare (a*k) (b*k)=compare a b:=by
 simp only[compare,compareOfLessAndEq]
 have h1:a*k<b*k↔a<b:=Int.mul_lt_mul_right hk
 have h2:a*k=b*k↔a=b:=Int.mul_eq_mul_right_iff (by omega)
 simp only[h1,h2]
theorem ord {a b:Int} (ha:a.natAbs<8192) (hb:b.natAbs<8192):FloatKind.f64.format.order (F a) (F b)=some (compare a b):=by
 have h1:FloatKind.f64.format.read (F a)=_:=decA ha
 have h2:FloatKind.f64.format.read (F b)=_:=decA hb
 unfold Format.order
 rw[h1,h2]
 unfold Datum.order
 simp only
 have p1:min (plc a) (plc b)≤plc a:=Int.min_le_left ..
 have p2:min (plc a) (plc b)≤plc b:=Int.min_le_right ..
 rw[sgnU ha p1,sgnU hb p2,agX_]
 exact Int.pow_pos (by omega)
theorem intF {a:Int} (h:a.natAbs<8192): (FloatKind.f64.decode (F a)).toInt .zero=some a:=by
 rw[decA h]
 by_cases h0:a=0
 ·subst h0;rfl
 ·have hl:a.natAbs.log2<13:=by rcases amT_ h with h1|h1;exact h1;omega
  unfold Datum.toInt Datum.integral
  simp only
  have hp:plc a=(a.natAbs.log2:Int) - 52:=by unfold plc;rw[if_neg h0]
  have hm:mag a=a.natAbs*2^ (52 - a.natAbs.log2):=by unfold mag;rw[if_neg h0]
  rw[hp,hm]
  have e1: ((a.natAbs.log2:Int) - 52).toNat=0:=by omega
  have e2: (-((a.natAbs.log2:Int) - 52)).toNat=52 - a.natAbs.log2:=by omega
  rw[e1,e2,Nat.shiftLeft_zero]
  have hlog: (a.natAbs*2^ (52 - a.natAbs.log2)).log2+2≥52 - a.natAbs.log2:=by
   have:2^ (52 - a.natAbs.log2)≤a.natAbs*2^ (52 - a.natAbs.log2):=Nat.le_mul_of_pos_left _ (by omega)
   have h3:=(Nat.le_log2 (n:=a.natAbs*2^ (52 - a.natAbs.log2)) (k:=52 - a.natAbs.log2) (by have:=Nat.pow_pos (a:=2) (n:=52 - a.natAbs.log2) (by omega);omega)).2 this
   omega
  unfold Toward.cut
  simp only
  rw[Nat.min_eq_left hlog,Nat.shiftLeft_eq,Nat.one_mul,Nat.mul_div_cancel _ (Nat.pow_pos (by omega))]
  have:=sgn a 0
  rw[Nat.pow_zero,Nat.mul_one] at this
  simp only[Bool.toNat_false,Nat.add_zero]
  rw[this];simp
end Go.Flo
namespace Go.Sx
open Go Go.Flo
def fl (n:Int):Value:= .float .f64 (F n)
def cx (a b:Int):Value:= .complex .f64 (F a) (F b)
section
variable {P:Program} {w0:World} {f:Fr} {L:zb_} {N:Fr→zb_→Prop} {ops:Array Oper} {rest:List Oper} {md:Md}
 {d:Option Tmp} {ty:TypeId} {ps:String} {af:Array Edge} {g:Option (Nat×Bool)}
theorem Ow.convIF {s dt:TypeId} {x:Operand} {n:Int} {md':Md} (he:md.turn=some md') (hsk:zg_ ops f ⟨d, .convert s dt x,ty,ps,af,g⟩=false)
  (hcv:cvT P s dt= .no) (hs:P.underlying s=some (.int .i64)) (hd:P.underlying dt=some (.float .f64)) (hx:ev f x=vi n)
  (hn:Ow P w0 ops md' rest (qd_ f d (fl n)) L N):Ow P w0 ops md (⟨d, .convert s dt x,ty,ps,af,g⟩::rest) f L N:=by
 refine Ow.step he (by simp[jO_,hcv]) hsk fun w hw=> .inl ⟨fl n,w,L, ?_,hw,hn⟩
 have hc: (convert s dt (vi n)).run P w= .ok (fl n) w:=by
  unfold convert
  simp only[vi,Sem.run_bind,run_underlying hs w,run_underlying hd w,Result.andThen_ok]
  rfl
 simp only[execOp,Sem.run_bind,hx,hc]
 rfl
theorem Ow.convFI {s dt:TypeId} {x:Operand} {n:Int} {md':Md} (he:md.turn=some md') (hsk:zg_ ops f ⟨d, .convert s dt x,ty,ps,af,g⟩=false)
  (hcv:cvT P s dt= .no) (hs:P.underlying s=some (.float .f64)) (hd:P.underlying dt=some (.int .i64)) (hx:ev f x=fl n) (hn8:n.natAbs<8192)
  (hn:Ow P w0 ops md' rest (qd_ f d (vi n)) L N):Ow P w0 ops md (⟨d, .convert s dt x,ty,ps,af,g⟩::rest) f L N:=by
 refine Ow.step he (by simp[jO_,hcv]) hsk fun w hw=> .inl ⟨vi n,w,L, ?_,hw,hn⟩
 have hc: (convert s dt (fl n)).run P w= .ok (vi n) w:=by
  unfold convert
  simp only[fl,Sem.run_bind,run_underlying hs w,run_underlying hd w,Result.andThen_ok]
  show(Conv.floatToInt .f64 (F n) .i64).run P w=_
  unfold Conv.floatToInt
  simp only[intF hn8]
  have e1:IntKind.i64.min= -9223372036854775808:=rfl
  have e2:IntKind.i64.max=9223372036854775807:=rfl
  rw[if_pos (by rw[e1,e2];omega)]
  rfl
 simp only[execOp,Sem.run_bind,hx,hc]
 rfl
theorem aoL_ (a b:Int): (some (compare a b)==some Ordering.lt||some (compare a b)==some Ordering.eq)=decide (a≤b):=by
 simp only[compare,compareOfLessAndEq]
 by_cases h1:a<b
 ·rw[if_pos h1,decide_eq_true (by omega)];rfl
 ·by_cases h2:a=b
  ·rw[if_neg h1,if_pos h2,decide_eq_true (by omega)];rfl
  ·rw[if_neg h1,if_neg h2,decide_eq_false (by omega)];rfl
theorem aoh_ (a b:Int): (some (compare a b)==some Ordering.gt||some (compare a b)==some Ordering.eq)=decide (b≤a):=by
 simp only[compare,compareOfLessAndEq]
 by_cases h1:a<b
 ·rw[if_pos h1,decide_eq_false (by omega)];rfl
 ·by_cases h2:a=b
  ·rw[if_neg h1,if_pos h2,decide_eq_true (by omega)];rfl
  ·rw[if_neg h1,if_neg h2,decide_eq_true (by omega)];rfl
theorem KK_ (a b:Int): (some (compare a b)==some Ordering.eq)=(a==b):=by
 simp only[compare,compareOfLessAndEq]
 by_cases h1:a<b
 ·have: (a==b)=false:=by rw[beq_eq_false_iff_ne];omega
  rw[if_pos h1,this];rfl
 ·by_cases h2:a=b
  ·rw[if_neg h1,if_pos h2,h2];simp
  ·have: (a==b)=false:=by rw[beq_eq_false_iff_ne];exact h2
   rw[if_neg h1,if_neg h2,this];rfl
theorem Ow.fleq {t t':TypeId} {x y:Operand} {a b:Int} (hs:zg_ ops f ⟨d, .binOp .leq t x y t',ty,ps,af,g⟩=false) (hx:ev f x=fl a) (hy:ev f y=fl b) (ha:a.natAbs<8192) (hb:b.natAbs<8192)
  (hn:Ow P w0 ops md.next rest (qd_ f d (.bool (decide (a≤b)))) L N):Ow P w0 ops md (⟨d, .binOp .leq t x y t',ty,ps,af,g⟩::rest) f L N:=by
 refine Ow.pureV rfl hs (fun w=> ?_) hn
 simp only[execOp,Sem.run_bind,hx,hy]
 have hg: (eqGuard .leq t x y (fl a) (fl b)).run P w= .ok () w:=rfl
 have hc: (binOp .leq t (fl a) (fl b)).run P w= .ok (.bool (decide (a≤b))) w:=by
  show Result.ok (Value.bool (FloatKind.f64.format.order (F a) (F b)==some .lt||FloatKind.f64.format.order (F a) (F b)==some .eq)) w=_
  rw[ord ha hb,aoL_]
 rw[hg,Result.andThen_ok,hc]
 rfl
theorem Ow.fgeq {t t':TypeId} {x y:Operand} {a b:Int} (hs:zg_ ops f ⟨d, .binOp .geq t x y t',ty,ps,af,g⟩=false) (hx:ev f x=fl a) (hy:ev f y=fl b) (ha:a.natAbs<8192) (hb:b.natAbs<8192)
  (hn:Ow P w0 ops md.next rest (qd_ f d (.bool (decide (b≤a)))) L N):Ow P w0 ops md (⟨d, .binOp .geq t x y t',ty,ps,af,g⟩::rest) f L N:=by
 refine Ow.pureV rfl hs (fun w=> ?_) hn
 simp only[execOp,Sem.run_bind,hx,hy]
 have hg: (eqGuard .geq t x y (fl a) (fl b)).run P w= .ok () w:=rfl
 have hc: (binOp .geq t (fl a) (fl b)).run P w= .ok (.bool (decide (b≤a))) w:=by
  show Result.ok (Value.bool (FloatKind.f64.format.order (F a) (F b)==some .gt||FloatKind.f64.format.order (F a) (F b)==some .eq)) w=_
  rw[ord ha hb,aoh_]
 rw[hg,Result.andThen_ok,hc]
 rfl
theorem Ow.feql {t t':TypeId} {x y:Operand} {a b:Int} (hs:zg_ ops f ⟨d, .binOp .eql t x y t',ty,ps,af,g⟩=false) (hx:ev f x=fl a) (hy:ev f y=fl b) (ha:a.natAbs<8192) (hb:b.natAbs<8192)
  (hn:Ow P w0 ops md.next rest (qd_ f d (.bool (a==b))) L N):Ow P w0 ops md (⟨d, .binOp .eql t x y t',ty,ps,af,g⟩::rest) f L N:=by
 refine Ow.pureV rfl hs (fun w=> ?_) hn
 simp only[execOp,Sem.run_bind,hx,hy]
 have hg: (eqGuard .eql t x y (fl a) (fl b)).run P w= .ok () w:=rfl
 have hc: (binOp .eql t (fl a) (fl b)).run P w= .ok (.bool (a==b)) w:=by
  show Result.ok (Value.bool (FloatKind.f64.format.order (F a) (F b)==some .eq)) w=_
  rw[ord ha hb,KK_]
 rw[hg,Result.andThen_ok,hc]
 rfl
theorem Ow.ceql {t t':TypeId} {x y:Operand} {a b a' b':Int} (hs:zg_ ops f ⟨d, .binOp .eql t x y t',ty,ps,af,g⟩=false) (hx:ev f x=cx a b) (hy:ev f y=cx a' b') (ha:a.natAbs<8192) (hb:b.natAbs<8192) (ha':a'.natAbs<8192) (hb':b'.natAbs<8192)
  (hn:Ow P w0 ops md.next rest (qd_ f d (.bool (a==a'&&b==b'))) L N):Ow P w0 ops md (⟨d, .binOp .eql t x y t',ty,ps,af,g⟩::rest) f L N:=by
 refine Ow.pureV rfl hs (fun w=> ?_) hn
 simp only[execOp,Sem.run_bind,hx,hy]
 have hg: (eqGuard .eql t x y (cx a b) (cx a' b')).run P w= .ok () w:=rfl
 have hc: (binOp .eql t (cx a b) (cx a' b')).run P w= .ok (.bool (a==a'&&b==b')) w:=by
  show Result.ok (Value.bool (FloatKind.f64.format.order (F a) (F a')==some .eq&&FloatKind.f64.format.order (F b) (F b')==some .eq)) w=_
  rw[ord ha ha',ord hb hb',KK_,KK_]
 rw[hg,Result.andThen_ok,hc]
 rfl
theorem Ow.real {x:Operand} {ts:Array TypeId} {a b:Int} (hs:zg_ ops f ⟨d, .call ⟨.builtin .real, #[x],ts⟩,ty,ps,af,g⟩=false) (hx:ev f x=cx a b)
  (hn:Ow P w0 ops md.next rest (qd_ f d (fl a)) L N):Ow P w0 ops md (⟨d, .call ⟨.builtin .real, #[x],ts⟩,ty,ps,af,g⟩::rest) f L N:=by
 refine Ow.calm rfl rfl hs (fun w hw=> .inl ⟨fl a,w,L, ?_,hw,rfl,rfl⟩) hn
 simp only[execOp,resolve,Sem.run_bind,Sem.run_pure,Result.andThen_ok,invoke,builtin,List.map_toArray,List.map_cons,List.map_nil,hx]
 rfl
theorem Ow.imag {x:Operand} {ts:Array TypeId} {a b:Int} (hs:zg_ ops f ⟨d, .call ⟨.builtin .imag, #[x],ts⟩,ty,ps,af,g⟩=false) (hx:ev f x=cx a b)
  (hn:Ow P w0 ops md.next rest (qd_ f d (fl b)) L N):Ow P w0 ops md (⟨d, .call ⟨.builtin .imag, #[x],ts⟩,ty,ps,af,g⟩::rest) f L N:=by
 refine Ow.calm rfl rfl hs (fun w hw=> .inl ⟨fl b,w,L, ?_,hw,rfl,rfl⟩) hn
 simp only[execOp,resolve,Sem.run_bind,Sem.run_pure,Result.andThen_ok,invoke,builtin,List.map_toArray,List.map_cons,List.map_nil,hx]
 rfl
theorem Ow.complexB {x y:Operand} {ts:Array TypeId} {a b:Int} (hs:zg_ ops f ⟨d, .call ⟨.builtin .complex, #[x,y],ts⟩,ty,ps,af,g⟩=false) (hx:ev f x=fl a) (hy:ev f y=fl b)
  (hn:Ow P w0 ops md.next rest (qd_ f d (cx a b)) L N):Ow P w0 ops md (⟨d, .call ⟨.builtin .complex, #[x,y],ts⟩,ty,ps,af,g⟩::rest) f L N:=by
 refine Ow.calm rfl rfl hs (fun w hw=> .inl ⟨cx a b,w,L, ?_,hw,rfl,rfl⟩) hn
 simp only[execOp,resolve,Sem.run_bind,Sem.run_pure,Result.andThen_ok,invoke,builtin,List.map_toArray,List.map_cons,List.map_nil,hx,hy]
 rfl
end
end Go.Sx
namespace Go.Sx
open Go Go.Flo
theorem akd_ (P:Program) (t:TypeId) (a b:Int):qL_ P .eql t (fl a) (fl b)=none:=by
 show(qF_ (P.underlying t) (fl a) (fl b)).map _=none
 unfold qF_ fl
 split<;>simp_all
theorem aka_ (P:Program) (t:TypeId) (a b a' b':Int):qL_ P .eql t (cx a b) (cx a' b')=none:=by
 show(qF_ (P.underlying t) (cx a b) (cx a' b')).map _=none
 unfold qF_ cx
 split<;>simp_all
section
variable {P:Program} {w0:World} {st:Bool} {f:Fr} {L:zb_} {md:Md} {d:Option Tmp} {ty:TypeId} {ps:String} {af:Array Edge} {g:Option (Nat×Bool)} {go:Fr→zb_→Prop} {stop:Prop}
theorem aeV_ (a:Array Operand) (t:Array TypeId):vcB P w0 st md ⟨d, .call ⟨.builtin .real,a,t⟩,ty,ps,af,g⟩ f L go stop=stop:=(rfl)
theorem aeo_ (a:Array Operand) (t:Array TypeId):vcB P w0 st md ⟨d, .call ⟨.builtin .imag,a,t⟩,ty,ps,af,g⟩ f L go stop=stop:=(rfl)
theorem Jn_ (a:Array Operand) (t:Array TypeId):vcB P w0 st md ⟨d, .call ⟨.builtin .complex,a,t⟩,ty,ps,af,g⟩ f L go stop=stop:=(rfl)
end
end Go.Sx
section
open Go Go.Proofs Go.Sx Go.StP Go.Flo
namespace Go.Proofs
set_option maxRecDepth 10000
set_option maxHeartbeats 400000
set_option linter.unusedSimpArgs false
structure PcL where
 a:Nat
 n:Nat
 x:List UInt8
def pc0:PcL:=⟨0,0,[]⟩
def pcC (p:PcL):List Value:= [cx p.a p.n,vs p.x]
def PcB (p:PcL):Prop:=p.a≤4099∧p.n≤4099
theorem qV_ (p:PcL): (pcC p).length=2:=rfl
theorem wk_ (p:PcL): (pcC p).all Value.oneCell'=true:=rfl
def cpV (p:PcL) (b:Int):Option (Nat×Nat):=if 1≤p.n∧p.n≤4099∧p.x= []∧(p.a:Int)≤b - p.n then some (p.a,p.n) else none
def jv_ (p:PcL) (b:Int):Nat:=if p.a=0∧p.n=0∧p.x.length≤4099 then p.x.length else match cpV p b with|some q=>q.2|none=>0
theorem akO_ (p:PcL) (b:Int):jv_ p b≤4099:=by
 unfold jv_
 split
 ·rename_i h;exact h.2.2
 ·unfold cpV
  split
  ·rename_i q h
   split at h
   ·rename_i hc;cases h;exact hc.2.1
   ·cases h
  ·omega
def wg_ (b:Int) (l:List PcL):Nat:=(l.map fun p=>jv_ p b).sum
theorem aj7_ (b:Int) (l:List PcL) (p:PcL):wg_ b (l++ [p])=wg_ b l+jv_ p b:=by
 unfold wg_;rw[List.map_append,List.sum_append];simp
theorem ald_ (b:Int) (l m:List PcL):wg_ b (l++m)=wg_ b l+wg_ b m:=by
 unfold wg_;rw[List.map_append,List.sum_append]
def Za_ (b:Int) (l:List PcL):Bool:=l.any fun p=>jv_ p b==0
def kO_ (b:Int) (l:List PcL):Int×Int:=if b<0∨4099<b then(0,1) else if Za_ b l=true then(0,1) else if 4099<wg_ b l then(0,19) else((wg_ b l:Nat),0)
theorem aid_ (b:Int): ∀ (l:List PcL),Za_ b l=false→l.length≤wg_ b l
 | [],_=>Nat.zero_le _
 |p::l,h=>by
  unfold Za_ at h
  rw[List.any_cons,Bool.or_eq_false_iff] at h
  have h1:=aid_ b l h.2
  have h2:jv_ p b≠0:=by simpa using h.1
  unfold wg_ at h1 ⊢
  rw[List.map_cons,List.sum_cons,List.length_cons]
  omega
theorem Zq_ {b m:Int} {l:List PcL} (h:kO_ b l=(m,0)):0≤b∧b≤4099∧Za_ b l=false∧wg_ b l≤4099∧m=(wg_ b l:Nat)∧l.length≤4099:=by
 unfold kO_ at h
 split at h
 ·cases h
 ·rename_i hb
  split at h
  ·cases h
  ·rename_i hz
   split at h
   ·cases h
   ·rename_i hs
    have hz':Za_ b l=false:=by simpa using hz
    have:=aid_ b l hz'
    cases h
    exact⟨by omega,by omega,hz',by omega,rfl,by omega⟩
def pcT (base:List UInt8) (p:PcL):List UInt8:=match cpV p base.length with|some q=>(base.drop q.1).take q.2++p.x|none=>p.x
def J5_ (base:List UInt8) (l:List PcL):List UInt8:=(l.map (pcT base)).flatten
def pcR (d:List UInt8) (a:Nat):PcL×Nat×Int:=
 if(zs_ d a 0 8199).1%2=1 then
  (⟨(zs_ d (zs_ d a 0 8199).2.1 (zs_ d a 0 8199).2.2 4099).1.toNat,((zs_ d a 0 8199).1 / 2).toNat,[]⟩,(zs_ d (zs_ d a 0 8199).2.1 (zs_ d a 0 8199).2.2 4099).2)
 else(⟨0,0,(jp_ d (zs_ d a 0 8199).2.1 (zs_ d a 0 8199).2.2 ((zs_ d a 0 8199).1 / 2)).1⟩,(jp_ d (zs_ d a 0 8199).2.1 (zs_ d a 0 8199).2.2 ((zs_ d a 0 8199).1 / 2)).2)
theorem aeB_ {d:List UInt8} {a:Nat} (ha:a≤d.length):a≤ (pcR d a).2.1∧(pcR d a).2.1≤d.length:=by
 have h1:=qh_ (s:=d) (a:=a) (e:=0) (most:=8199) ha
 unfold pcR
 split
 ·have h2:=qh_ (s:=d) (a:=(zs_ d a 0 8199).2.1) (e:=(zs_ d a 0 8199).2.2) (most:=4099) h1.2
  exact⟨Nat.le_trans h1.1 h2.1,h2.2⟩
 ·have h2:=kw_ (s:=d) (a:=(zs_ d a 0 8199).2.1) (e:=(zs_ d a 0 8199).2.2) (n:=(zs_ d a 0 8199).1 / 2) h1.2
  exact⟨Nat.le_trans h1.1 h2.1,h2.2⟩
theorem X4_ {d:List UInt8} {a:Nat} (ha:a≤d.length) (h: (pcR d a).2.2=0):a< (pcR d a).2.1:=by
 have h1:=qh_ (s:=d) (a:=a) (e:=0) (most:=8199) ha
 have hz: (zs_ d a 0 8199).2.2=0:=by
  by_cases he: (zs_ d a 0 8199).2.2=0
  ·exact he
  ·unfold pcR at h
   split at h
   ·have:=JD_ (s:=d) (a:=(zs_ d a 0 8199).2.1) (most:=4099) he
    simp only[this] at h
    exact absurd h he
   ·have:=Ky_ (s:=d) (a:=(zs_ d a 0 8199).2.1) (n:=(zs_ d a 0 8199).1 / 2) he
    simp only[this] at h
    exact absurd h he
 have hup:=aiO_ hz
 unfold pcR
 split
 ·have h2:=qh_ (s:=d) (a:=(zs_ d a 0 8199).2.1) (e:=(zs_ d a 0 8199).2.2) (most:=4099) h1.2
  exact Nat.lt_of_lt_of_le hup h2.1
 ·have h2:=kw_ (s:=d) (a:=(zs_ d a 0 8199).2.1) (e:=(zs_ d a 0 8199).2.2) (n:=(zs_ d a 0 8199).1 / 2) h1.2
  exact Nat.lt_of_lt_of_le hup h2.1
def pcsF (d:List UInt8):Nat→Nat→List PcL×Nat×Int
 |0,a=>([],a,0)
 |k+1,a=>if a<d.length then(if(pcR d a).2.2=0 then((pcR d a).1:: (pcsF d k (pcR d a).2.1).1,(pcsF d k (pcR d a).2.1).2) else([(pcR d a).1],(pcR d a).2)) else([],a,0)
theorem aa9_ {d:List UInt8}: ∀ (k j a:Nat),a≤d.length→d.length - a≤k→d.length - a≤j→pcsF d k a=pcsF d j a
 |0,j,a,ha,hk,_=>by
  have: ¬a<d.length:=by omega
  cases j with
  |zero=>rfl
  |succ j=>unfold pcsF;rw[if_neg this]
 |k+1,0,a,ha,_,hj=>by
  have: ¬a<d.length:=by omega
  unfold pcsF;rw[if_neg this]
 |k+1,j+1,a,ha,hk,hj=>by
  unfold pcsF
  by_cases h:a<d.length
  ·rw[if_pos h,if_pos h]
   by_cases he: (pcR d a).2.2=0
   ·have hu:=X4_ ha he
    have hl:=aeB_ ha
    rw[if_pos he,if_pos he,aa9_ k j (pcR d a).2.1 hl.2 (by omega) (by omega)]
   ·rw[if_neg he,if_neg he]
  ·rw[if_neg h,if_neg h]
def pcs (d:List UInt8) (a:Nat):List PcL×Nat×Int:=pcsF d (d.length - a) a
theorem adR_ {d:List UInt8} {a:Nat} (h: ¬a<d.length):pcs d a=([],a,0):=by
 unfold pcs
 rw[show d.length - a=0 by omega];rfl
theorem aeA_ {d:List UInt8} {a:Nat} (h:a<d.length) (he: (pcR d a).2.2=0):pcs d a=((pcR d a).1:: (pcs d (pcR d a).2.1).1,(pcs d (pcR d a).2.1).2):=by
 have hu:=X4_ (Nat.le_of_lt h) he
 have hl:=aeB_ (Nat.le_of_lt h)
 unfold pcs
 obtain⟨k,hk⟩: ∃k,d.length - a=k+1:=⟨d.length - a - 1,by omega⟩
 rw[hk]
 conv=>lhs;unfold pcsF
 rw[if_pos h,if_pos he,aa9_ k (d.length - (pcR d a).2.1) (pcR d a).2.1 hl.2 (by omega) (Nat.le_refl _)]
theorem KX_ {d:List UInt8} {a:Nat} (h:a<d.length) (he: (pcR d a).2.2≠0):pcs d a=([(pcR d a).1],(pcR d a).2):=by
 unfold pcs
 obtain⟨k,hk⟩: ∃k,d.length - a=k+1:=⟨d.length - a - 1,by omega⟩
 rw[hk]
 unfold pcsF
 rw[if_pos h,if_neg he]
theorem am0_ {d:List UInt8}: ∀ (k a:Nat),d.length - a≤k→a≤d.length→(pcs d a).2.2=0→(pcs d a).2.1=d.length
 |k,a,hk,ha,h=>by
  by_cases hlt:a<d.length
  ·by_cases he: (pcR d a).2.2=0
   ·have hu:=X4_ ha he
    have hl:=aeB_ ha
    rw[aeA_ hlt he] at h ⊢
    cases k with
    |zero=>omega
    |succ k=>exact am0_ k _ (by omega) hl.2 h
   ·rw[KX_ hlt he] at h
    exact absurd h he
  ·rw[adR_ hlt];show a=d.length;omega
def ke_ (d:List UInt8):Option (Nat×List PcL):=
 if(zs_ d (zs_ d 0 0 4099).2.1 (zs_ d 0 0 4099).2.2 4099).2.2≠0 then none
 else if(pcs d (zs_ d (zs_ d 0 0 4099).2.1 (zs_ d 0 0 4099).2.2 4099).2.1).2.2≠0 then none
 else if kO_ (zs_ d 0 0 4099).1 (pcs d (zs_ d (zs_ d 0 0 4099).2.1 (zs_ d 0 0 4099).2.2 4099).2.1).1=((zs_ d (zs_ d 0 0 4099).2.1 (zs_ d 0 0 4099).2.2 4099).1,0) then some ((zs_ d 0 0 4099).1.toNat,(pcs d (zs_ d (zs_ d 0 0 4099).2.1 (zs_ d 0 0 4099).2.2 4099).2.1).1)
 else none
def xi_ (base d:List UInt8):List UInt8×Int:=
 match ke_ d with
 |none=>([],2)
 |some p=>if p.1≠base.length then([],19) else(J5_ base p.2,0)
end Go.Proofs
end
section
open Go Go.Proofs Go.Sx Go.StP Go.Flo
namespace Go.Proofs
set_option maxRecDepth 10000
set_option maxHeartbeats 400000
set_option linter.unusedSimpArgs false
theorem cvIF:cvT Tryz.prog 3 185= .no:=id (by kernel_rfl)
theorem cvFI:cvT Tryz.prog 185 3= .no:=id (by kernel_rfl)
set_option linter.defProp false
def va_:=And.intro (@zA_) (And.intro (@zz_) (@akd_))
theorem Ku_ (x a b:Int) (w:World) (hx:x.natAbs<8192) (ha:a.natAbs<8192) (hb:b.natAbs<8192):
  Rets Tryz.prog 138 #[fl x,vi a,vi b] w (fun v D=>v= .bool (decide (a≤x∧x≤b))∧D= []):=by
 refine Rets.enterV Tryz.func138 rfl (rs:= [.tmp 6]) Tryz.results138 Tryz.ntmps138 ?_
 refine kf ?_
 first|with_reducible refine ks [] @va_ ?_|refine kp @va_ ?_
 refine Ow.convIF rfl rfl cvIF Tryz.underlying3 Tryz.underlying185 rfl ?_
 refine Ow.fgeq rfl rfl rfl hx ha ?_
 by_cases h1:a≤x
 ·rw[decide_eq_true h1]
  refine ko @va_ ?_
  refine Ow.convIF rfl rfl cvIF Tryz.underlying3 Tryz.underlying185 rfl ?_
  refine Ow.fleq rfl rfl rfl hx hb ?_
  by_cases h2:x≤b
  ·rw[decide_eq_true h2]
   refine ko @va_ ?_
   refine Ow.convFI rfl rfl cvFI Tryz.underlying185 Tryz.underlying3 rfl hx ?_
   refine Ow.convIF rfl rfl cvIF Tryz.underlying3 Tryz.underlying185 rfl ?_
   refine ko @va_ ?_
   refine Ow.feql rfl rfl rfl hx hx ?_
   rw[show(x==x)=true by simp]
   refine ko @va_ ?_
   first|with_reducible refine ks [] @va_ ?_|refine kp @va_ ?_
   refine⟨_,(ke @va_),trivial, ?_⟩
   rw[decide_eq_true ⟨h1,h2⟩];rfl
  ·rw[decide_eq_false h2]
   refine ko @va_ ?_
   first|with_reducible refine ks [] @va_ ?_|refine kp @va_ ?_
   refine⟨_,(ke @va_),trivial, ?_⟩
   rw[decide_eq_false (fun h=>h2 h.2)];rfl
 ·rw[decide_eq_false h1]
  refine ko @va_ ?_
  first|with_reducible refine ks [] @va_ ?_|refine kp @va_ ?_
  refine⟨_,(ke @va_),trivial, ?_⟩
  rw[decide_eq_false (fun h=>h1 h.1)];rfl
theorem Vh_ (p:PcL) (E:TypeId) (n:Nat):zl_ (some (false,n)) (some (.cells (pcC p).toArray E (0,0))) 0=some (cx p.a p.n):=(rfl)
theorem KL_ (p:PcL) (E:TypeId) (n:Nat):zl_ (some (false,n)) (some (.cells (pcC p).toArray E (0,0))) 1=some (vs p.x):=(rfl)
theorem acq_ (p:PcL) (E:TypeId):zl_ (some (true,2)) (some (.cells (pcC p).toArray E (0,0))) 0=some (.agg (pcC p).toArray):=xn_ _ E (0,0) 2 rfl
theorem xo_ (p:PcL):Value.cells (.agg (pcC p).toArray)=(pcC p).toArray:=za_ _
theorem zrPc:zI_ Tryz.prog 194=some (.agg (pcC pc0).toArray):=id (by kernel_rfl)
theorem K1_ (p q:PcL) (E:TypeId):zn_ (some (true,2)) (some (.cells (pcC q).toArray E (0,0))) 0 (.agg (pcC p).toArray)=some (.cells (pcC p).toArray E (0,0)):=by
 have:=j2_ (pcC p) (n:=2) true (pcC q).toArray E rfl (wk_ p) rfl
 exact this
def cpO (p:PcL) (b:Int):Value:=match cpV p b with
 |some q=> .tuple #[vi q.1,vi q.2, .bool true]
 |none=> .tuple #[vi 0,vi 0, .bool false]
theorem aj8_ {p:PcL} {b:Int} (h: ¬ (1≤p.n∧p.n≤4099∧p.x= []∧(p.a:Int)≤b - p.n)):cpO p b= .tuple #[vi 0,vi 0, .bool false]:=by
 unfold cpO cpV;rw[if_neg h]
theorem anG_ {p:PcL} {b:Int} (h:1≤p.n∧p.n≤4099∧p.x= []∧(p.a:Int)≤b - p.n):cpO p b= .tuple #[vi p.a,vi p.n, .bool true]:=by
 unfold cpO cpV;rw[if_pos h]
theorem cxz: (Value.complex FloatKind.f64 0 0)=cx 0 0:=id (by kernel_rfl)
set_option linter.defProp false
def zC_:=And.intro (And.intro (And.intro (And.intro (@zA_) (@zz_)) (And.intro (@Vh_) (@KL_))) (And.intro (And.intro (@acq_) (@xo_)) (And.intro (@aka_) (@cxz)))) (And.intro (And.intro (And.intro (@aeV_) (@aeo_)) (And.intro (@Jn_) (@Sx.tup2_0))) (And.intro (And.intro (@Sx.tup2_1) (@Sx.tup3_0)) (And.intro (@Sx.tup3_1) (@Sx.tup3_2))))
theorem ks_ (p:PcL) (b:Int) (w:World) (hp:PcB p) (h0:0≤b) (h1:b≤4099):
  Rets Tryz.prog 120 #[.agg (pcC p).toArray,vi b] w (fun v D=>v=cpO p b∧D= []):=by
 obtain⟨hpa,hpn⟩:=hp
 refine Rets.enterV Tryz.func120 rfl (rs:= [.tmp 4, .tmp 5, .tmp 6]) Tryz.results120 Tryz.ntmps120 ?_
 refine kf ?_
 first|with_reducible refine ks [] @zC_ ?_|refine kp @zC_ ?_
 refine Ow.box rfl rfl fun b2 hb2 hw2=> ?_
 simp only[zD_,zH_,zG_,za_,List.nil_append,List.cons_append]
 refine Ow.go rfl ?_
 simp(disch:=(first|assumption|omega| (simp only[wr_,we_,UInt64.reduceToNat];try omega))) only[↓Sx.S0,Sx.S1,Tryz.fx,zC_,Nat.reduceAdd,Nat.reducePow,Int.reducePow,Nat.reduceBEq, ↓reduceIte,UInt8.reduceToNat,UInt16.reduceToNat,UInt32.reduceToNat,UInt64.reduceToNat,Int.reduceToNat]
 first|with_reducible refine ks [] @zC_ ?_|refine kp @zC_ ?_
 refine Ow.imag rfl rfl ?_
 refine Ow.callFV rfl Tryz.call138 (fun w' hw'=>Ku_ (p.n:Int) 1 4099 w' (by omega) (by omega) (by omega)) ?_
 by_cases c1:1≤p.n
 ·rw[decide_eq_true (show(1:Int)≤ (p.n:Int)∧(p.n:Int)≤4099 by omega)]
  have n1: (!true)=false:=rfl
  by_cases c2:p.x= []
  ·have d2: (p.x != [])=false:=by rw[c2];rfl
   refine ko (And.intro @zC_ (And.intro @n1 (@d2))) ?_
   first|with_reducible refine ks [] @zC_ ?_|refine kp @zC_ ?_
   refine Ow.imag rfl rfl ?_
   refine Ow.convFI rfl rfl cvFI Tryz.underlying185 Tryz.underlying3 rfl (by omega) ?_
   refine ko @zC_ ?_
   first|with_reducible refine ks [] @zC_ ?_|refine kp @zC_ ?_
   refine Ow.real rfl rfl ?_
   refine ko @zC_ ?_
   refine Ow.callFV rfl Tryz.call138 (fun w' hw'=>Ku_ (p.a:Int) 0 (b - p.n) w' (by omega) (by omega) (by omega)) ?_
   by_cases c3: (p.a:Int)≤b - p.n
   ·rw[decide_eq_true (show(0:Int)≤ (p.a:Int)∧(p.a:Int)≤b - p.n by omega)]
    refine ko (And.intro @zC_ @n1) ?_
    first|with_reducible refine ks [] @zC_ ?_|refine kp @zC_ ?_
    refine Ow.real rfl rfl ?_
    refine Ow.convFI rfl rfl cvFI Tryz.underlying185 Tryz.underlying3 rfl (by omega) ?_
    refine ko @zC_ ?_
    first|with_reducible refine ks [] @zC_ ?_|refine kp @zC_ ?_
    refine⟨_,(ke @zC_),⟨hw2,trivial⟩, ?_⟩
    rw[anG_ ⟨c1,hpn,c2,c3⟩];rfl
   ·rw[decide_eq_false (show¬ ((0:Int)≤ (p.a:Int)∧(p.a:Int)≤b - p.n) by omega)]
    have n2: (!false)=true:=rfl
    refine ko (And.intro @zC_ @n2) ?_
    first|with_reducible refine ks [] @zC_ ?_|refine kp @zC_ ?_
    refine⟨_,(ke @zC_),⟨hw2,trivial⟩, ?_⟩
    rw[aj8_ fun h=>c3 h.2.2.2];rfl
  ·have d2: (p.x != [])=true:=by simpa using c2
   refine ko (And.intro @zC_ (And.intro @n1 (@d2))) ?_
   first|with_reducible refine ks [] @zC_ ?_|refine kp @zC_ ?_
   refine⟨_,(ke @zC_),⟨hw2,trivial⟩, ?_⟩
   rw[aj8_ fun h=>c2 h.2.2.1];rfl
 ·rw[decide_eq_false (show¬ ((1:Int)≤ (p.n:Int)∧(p.n:Int)≤4099) by omega)]
  have n2: (!false)=true:=rfl
  refine ko (And.intro @zC_ @n2) ?_
  first|with_reducible refine ks [] @zC_ ?_|refine kp @zC_ ?_
  refine⟨_,(ke @zC_),⟨hw2,trivial⟩, ?_⟩
  rw[aj8_ fun h=>c1 h.1];rfl
theorem ZA_ {p:PcL} {b:Int} (h: ¬ (p.a=0∧p.n=0∧p.x.length≤4099)):jv_ p b=match cpV p b with|some q=>q.2|none=>0:=by
 unfold jv_;rw[if_neg h]<;>cases cpV p b<;>rfl
theorem abR_ (p:PcL) (b:Int) (w:World) (hp:PcB p) (h0:0≤b) (h1:b≤4099) (hx:p.x.length<9223372036854775808):
  Rets Tryz.prog 137 #[.agg (pcC p).toArray,vi b] w (fun v D=>v=vi (jv_ p b:Nat)∧D= []):=by
 have hp':=hp
 obtain⟨hpa,hpn⟩:=hp'
 refine Rets.enterV Tryz.func137 rfl (rs:= [.tmp 4]) Tryz.results137 Tryz.ntmps137 ?_
 refine kf ?_
 first|with_reducible refine ks [] @zC_ ?_|refine kp @zC_ ?_
 refine Ow.box rfl rfl fun b2 hb2 hw2=> ?_
 simp only[zD_,zH_,zG_,za_,List.nil_append,List.cons_append]
 refine Ow.go rfl ?_
 simp(disch:=(first|assumption|omega| (simp only[wr_,we_,UInt64.reduceToNat];try omega))) only[↓Sx.S0,Sx.S1,Tryz.fx,zC_,Nat.reduceAdd,Nat.reducePow,Int.reducePow,Nat.reduceBEq, ↓reduceIte,UInt8.reduceToNat,UInt16.reduceToNat,UInt32.reduceToNat,UInt64.reduceToNat,Int.reduceToNat]
 first|with_reducible refine ks [] @zC_ ?_|refine kp @zC_ ?_
 refine Ow.ceql (a':=0) (b':=0) rfl rfl rfl (by omega) (by omega) (by omega) (by omega) ?_
 have tail: ¬ (p.a=0∧p.n=0∧p.x.length≤4099)→True:=fun _=>trivial
 by_cases hz:p.a=0∧p.n=0
 ·have e: (((p.a:Nat):Int)==0&& ((p.n:Nat):Int)==0)=true:=by rw[hz.1,hz.2];rfl
  rw[e]
  by_cases hl:p.x.length≤4099
  ·have d1:decide ((p.x.length:Int)≤4099)=true:=decide_eq_true (by omega)
   refine ko (And.intro @zC_ @d1) ?_
   first|with_reducible refine ks [] @zC_ ?_|refine kp @zC_ ?_
   refine⟨_,(ke @zC_),⟨hw2,trivial⟩, ?_⟩
   unfold jv_;rw[if_pos ⟨hz.1,hz.2,hl⟩];rfl
  ·have d1:decide ((p.x.length:Int)≤4099)=false:=decide_eq_false (by omega)
   have hc:cpV p b=none:=by unfold cpV;rw[if_neg (by omega)]
   refine ko (And.intro @zC_ @d1) ?_
   first|with_reducible refine ks [] @zC_ ?_|refine kp @zC_ ?_
   refine Ow.callFV rfl Tryz.call120 (fun w' hw'=>ks_ p b w' hp h0 h1) ?_
   unfold cpO
   rw[hc]
   refine ko @zC_ ?_
   first|with_reducible refine ks [] @zC_ ?_|refine kp @zC_ ?_
   refine⟨_,(ke @zC_),⟨hw2,trivial⟩, ?_⟩
   rw[ZA_ (fun h=>hl h.2.2),hc];rfl
 ·have e: (((p.a:Nat):Int)==0&& ((p.n:Nat):Int)==0)=false:=by
   rw[Bool.and_eq_false_iff]
   by_cases ha:p.a=0
   ·right;rw[beq_eq_false_iff_ne];omega
   ·left;rw[beq_eq_false_iff_ne];omega
  rw[e]
  refine ko @zC_ ?_
  first|with_reducible refine ks [] @zC_ ?_|refine kp @zC_ ?_
  refine Ow.callFV rfl Tryz.call120 (fun w' hw'=>ks_ p b w' hp h0 h1) ?_
  unfold cpO
  cases hc:cpV p b with
  |none=>
   simp only
   refine ko @zC_ ?_
   first|with_reducible refine ks [] @zC_ ?_|refine kp @zC_ ?_
   refine⟨_,(ke @zC_),⟨hw2,trivial⟩, ?_⟩
   rw[ZA_ (fun h=>hz ⟨h.1,h.2.1⟩),hc];rfl
  |some q=>
   simp only
   refine ko @zC_ ?_
   first|with_reducible refine ks [] @zC_ ?_|refine kp @zC_ ?_
   refine⟨_,(ke @zC_),⟨hw2,trivial⟩, ?_⟩
   rw[ZA_ (fun h=>hz ⟨h.1,h.2.1⟩),hc];rfl
abbrev PcSl (w:World) (v:Value) (l:List PcL):Prop:=SlV 2 pcC pc0 w v l
def BndP (l:List PcL):Prop:= ∀g,g<l.length→PcB (l.getD g pc0)∧(l.getD g pc0).x.length<9223372036854775808
theorem ahJ_ {b:Int} {l:List PcL} {g:Nat} (h:g<l.length):wg_ b (l.take (g+1))=wg_ b (l.take g)+jv_ (l.getD g pc0) b:=by
 rw[take_snoc (z:=pc0) h,aj7_]
theorem ah0_ {b:Int} {l:List PcL} {g:Nat} (h:g<l.length):Za_ b (l.take (g+1))=(Za_ b (l.take g) ||jv_ (l.getD g pc0) b==0):=by
 rw[take_snoc (z:=pc0) h];unfold Za_;rw[List.any_append];simp
theorem Z8_ {b:Int} {l:List PcL} {g:Nat} (h:g<l.length) (hz:jv_ (l.getD g pc0) b=0):Za_ b l=true:=by
 unfold Za_
 rw[List.any_eq_true]
 exact⟨_,Ql_ (z:=pc0) h,by rw[beq_iff_eq];exact hz⟩
theorem Zg_ (b:Int) (v:Value) (l:List PcL) (w:World) (hv:PcSl w v l) (hl:BndP l) (hn:l.length<1000000000):
  Rets Tryz.prog 119 #[vi b,v] w (fun v D=>v= .tuple #[vi (kO_ b l).1,vi (kO_ b l).2]∧D= []):=by
 obtain⟨bb,off,arr,E,fz,hr⟩:=hv.row
 have ln:=hv.len
 refine Rets.enterV Tryz.func119 rfl (rs:= [.tmp 4, .tmp 5]) Tryz.results119 Tryz.ntmps119 ?_
 refine kf ?_
 by_cases hb:b<0∨4099<b
 ·have hc:kO_ b l=(0,1):=by unfold kO_;rw[if_pos hb]
  by_cases h1:b<0
  ·have d1:decide (b<0)=true:=decide_eq_true h1
   first|with_reducible refine ks [] (And.intro @zC_ @d1) ?_|refine kp (And.intro @zC_ @d1) ?_
   refine⟨_,(ke @zC_),trivial, ?_⟩
   rw[hc];rfl
  ·have d1:decide (b<0)=false:=decide_eq_false h1
   have d2:decide (4099<b)=true:=decide_eq_true (by omega)
   first|with_reducible refine ks [] (And.intro @zC_ (And.intro @d1 (@d2))) ?_|refine kp (And.intro @zC_ (And.intro @d1 (@d2))) ?_
   refine⟨_,(ke @zC_),trivial, ?_⟩
   rw[hc];rfl
 have d1:decide (b<0)=false:=decide_eq_false (by omega)
 have d2:decide (4099<b)=false:=decide_eq_false (by omega)
 first|with_reducible refine ks [] (And.intro @zC_ (And.intro @d1 (And.intro @d2 (@ln)))) ?_|refine kp (And.intro @zC_ (And.intro @d1 (And.intro @d2 (@ln)))) ?_
 refine Cw.loopG (G:=(Nat×zb_)) [20,21,22,9,23,24,25,10,26,27,4,5,28,29,30,31,6,32,33,7,34,19] (fun q=> [(6,vi (min (wg_ b (l.take q.1)) 4100:Nat)),(7,vi (if 4099<wg_ b (l.take q.1) then 19 else 0)),(19,vi q.1)]) (fun q=>q.2) (fun q=>q.1≤l.length∧New w.heap.size q.2∧Za_ b (l.take q.1)=false) (fun q=>l.length - q.1) ⟨0,[]⟩ rfl rfl ?_ ?_
 ·exact⟨Nat.zero_le _,trivial,rfl⟩
 intro q jq hq
 refine kv ?_
 obtain⟨g,D⟩:=q
 simp only at hq ⊢
 obtain⟨hg,hN,hz⟩:=hq
 by_cases hlt:g<l.length
 ·have hb0:0<l.length:=by omega
  have hbl:=hr.lt hb0
  have rd:zk_ w D bb=some (.cells arr E fz):=by rw[zX_ (hN.not hbl)];exact hr.has hb0
  have i2:=hr.idx true g hlt
  have ld:=hr.load qV_ (by omega) hlt
  obtain⟨hpb,hpx⟩:=hl g hlt
  have hst:=ahJ_ (b:=b) hlt
  have hat:=ah0_ (b:=b) hlt
  have hzz:=Z8_ (b:=b) hlt
  generalize hp:l.getD g pc0=p at*
  have d3:decide ((g:Int)< (l.length:Int))=true:=decide_eq_true (by omega)
  have hple:=akO_ p b
  first|with_reducible refine ks [] (And.intro @zC_ (And.intro @d3 (And.intro @i2 (And.intro @rd (@ld))))) ?_|refine kp (And.intro @zC_ (And.intro @d3 (And.intro @i2 (And.intro @rd (@ld))))) ?_
  refine Ow.alloc rfl rfl zrPc fun b9 hb9 hw9=> ?_
  simp only[za_,List.nil_append,List.cons_append]
  refine Ow.permL (M:=(b9, .cells (pcC pc0).toArray 194 (0,0))::D) (by classical exact List.perm_iff_count.2 fun a=>by simp only[List.count_append,List.count_cons,List.count_nil]<;>omega) ?_
  have hsp:=K1_ p pc0 194
  refine ko (And.intro @zC_ @hsp) ?_
  first|with_reducible refine ks [] @zC_ ?_|refine kp @zC_ ?_
  refine Ow.callFV rfl Tryz.call137 (fun w' hw'=>abR_ p b w' hpb (by omega) (by omega) hpx) ?_
  by_cases hk:jv_ p b=0
  ·have d4: (((jv_ p b:Nat):Int)==0)=true:=by rw[hk];rfl
   have hc:kO_ b l=(0,1):=by unfold kO_;rw[if_neg hb,if_pos (hzz hk)]
   refine ko (And.intro @zC_ @d4) ?_
   first|with_reducible refine ks [] (And.intro @zC_ @d4) ?_|refine kp (And.intro @zC_ @d4) ?_
   refine⟨_,(ke @zC_),⟨hw9,hN⟩, ?_⟩
   rw[hc];rfl
  ·have d4: (((jv_ p b:Nat):Int)==0)=false:=by rw[beq_eq_false_iff_ne];omega
   refine ko (And.intro @zC_ @d4) ?_
   first|with_reducible refine ks [] (And.intro @zC_ @d4) ?_|refine kp (And.intro @zC_ @d4) ?_
   refine Ow.minI rfl rfl rfl ?_
   have hm: (if 4100< ((min (wg_ b (l.take g)) 4100:Nat):Int)+ ((jv_ p b:Nat):Int) then(4100:Int) else((min (wg_ b (l.take g)) 4100:Nat):Int)+ ((jv_ p b:Nat):Int))=((min (wg_ b (l.take (g+1))) 4100:Nat):Int):=by
    rw[hst];split<;>omega
   rw[hm]
   have hN9:New w.heap.size ((b9,Obj.cells (pcC p).toArray 194 (0,0))::D):=⟨hw9,hN⟩
   have hz9:Za_ b (l.take (g+1))=false:=by rw[hat,hz];simp[hk]
   by_cases h4:4099<wg_ b (l.take (g+1))
   ·have d5:decide ((4099:Int)< ((min (wg_ b (l.take (g+1))) 4100:Nat):Int))=true:=decide_eq_true (by omega)
    refine ko (And.intro @zC_ @d5) ?_
    first|with_reducible refine ks [] (And.intro @zC_ @d5) ?_|refine kp (And.intro @zC_ @d5) ?_
    refine Again.mk (g+1,(b9,Obj.cells (pcC p).toArray 194 (0,0))::D) (by show l.length - (g+1)<l.length - g;omega) ⟨hlt,hN9,hz9⟩ rfl ?_
    rw[if_pos h4];rfl
   ·have d5:decide ((4099:Int)< ((min (wg_ b (l.take (g+1))) 4100:Nat):Int))=false:=decide_eq_false (by omega)
    have h5: ¬4099<wg_ b (l.take g):=by omega
    rw[if_neg h5]
    refine ko (And.intro @zC_ @d5) ?_
    first|with_reducible refine ks [] (And.intro @zC_ @d5) ?_|refine kp (And.intro @zC_ @d5) ?_
    refine Again.mk (g+1,(b9,Obj.cells (pcC p).toArray 194 (0,0))::D) (by show l.length - (g+1)<l.length - g;omega) ⟨hlt,hN9,hz9⟩ rfl ?_
    rw[if_neg h4];rfl
 ·obtain rfl:g=l.length:=by omega
  have d3:decide ((l.length:Int)< (l.length:Int))=false:=by simp
  rw[List.take_length] at hz
  rw[List.take_length]
  have hz': ¬Za_ b l=true:=by rw[hz];simp
  by_cases h4:4099<wg_ b l
  ·have hc:kO_ b l=(0,19):=by unfold kO_;rw[if_neg hb,if_neg hz',if_pos h4]
   have e: ((19:Int) !=0)=true:=rfl
   rw[if_pos h4]
   first|with_reducible refine ks [] (And.intro @zC_ (And.intro @d3 (@e))) ?_|refine kp (And.intro @zC_ (And.intro @d3 (@e))) ?_
   refine⟨_,(ke @zC_),hN, ?_⟩
   rw[hc];rfl
  ·have hc:kO_ b l=(((wg_ b l:Nat):Int),0):=by unfold kO_;rw[if_neg hb,if_neg hz',if_neg h4]
   have e: ((0:Int) !=0)=false:=rfl
   rw[if_neg h4,Nat.min_eq_left (by omega)]
   first|with_reducible refine ks [] (And.intro @zC_ (And.intro @d3 (@e))) ?_|refine kp (And.intro @zC_ (And.intro @d3 (@e))) ?_
   refine⟨_,(ke @zC_),hN, ?_⟩
   rw[hc];rfl
end Go.Proofs
end
section
open Go Go.Proofs Go.Sx Go.StP Go.Flo
namespace Go.Proofs
set_option maxRecDepth 10000
set_option maxHeartbeats 400000
set_option linter.unusedSimpArgs false
def V1_ (p:PcL) (b:Int):Nat×Nat:=match cpV p b with|some q=>q|none=>(0,0)
theorem amU_ (p:PcL) (b:Int):cpO p b= .tuple #[vi (V1_ p b).1,vi (V1_ p b).2, .bool (cpV p b).isSome]:=by
 unfold cpO V1_
 cases cpV p b<;>rfl
theorem abp_ (p:PcL) (base:List UInt8): (V1_ p base.length).1+ (V1_ p base.length).2≤base.length:=by
 unfold V1_ cpV
 split
 ·rename_i q h
  split at h
  ·rename_i hc;cases h;simp only;omega
  ·cases h
 ·simp
theorem apb_ (base:List UInt8) (p:PcL):pcT base p=(base.take ((V1_ p base.length).1+ (V1_ p base.length).2)).drop (V1_ p base.length).1++p.x:=by
 unfold pcT V1_
 cases h:cpV p base.length with
 |none=>simp
 |some q=>
  simp only
  rw[List.drop_take,Nat.add_sub_cancel_left]
theorem aoC_ (base:List UInt8) (p:PcL) (h:jv_ p base.length≠0): (pcT base p).length=jv_ p base.length:=by
 have hle:=abp_ p base
 unfold jv_ at h ⊢
 unfold pcT
 unfold V1_ at hle
 split at h
 ·rename_i hc
  rw[if_pos hc]
  have hn:cpV p base.length=none:=by unfold cpV;rw[if_neg (by omega)]
  rw[hn]
 ·rename_i hc
  rw[if_neg hc]
  cases hq:cpV p base.length with
  |none=>rw[hq] at h;exact absurd rfl h
  |some q=>
   rw[hq] at hle
   simp only at hle ⊢
   have hx:p.x= []:=by
    unfold cpV at hq
    split at hq
    ·rename_i h2;exact h2.2.2.1
    ·cases hq
   rw[hx,List.append_nil,List.length_take,List.length_drop]
   omega
theorem ag6_ {base:List UInt8} {l:List PcL} {g:Nat} (h:g<l.length):J5_ base (l.take (g+1))=J5_ base (l.take g)++pcT base (l.getD g pc0):=by
 rw[take_snoc (z:=pc0) h];unfold J5_;simp
theorem w4_ {base:List UInt8}: ∀ {l:List PcL},Za_ base.length l=false→(J5_ base l).length=wg_ base.length l
 | [],_=>rfl
 |p::l,h=>by
  unfold Za_ at h
  rw[List.any_cons,Bool.or_eq_false_iff] at h
  have h1:=w4_ (base:=base) (l:=l) h.2
  have h2:=aoC_ base p (by simpa using h.1)
  unfold J5_ wg_ at h1 ⊢
  rw[List.map_cons,List.flatten_cons,List.length_append,List.map_cons,List.sum_cons,h1,h2]
theorem abe_ {b:Int} {l:List PcL} {g:Nat}:wg_ b (l.take g)≤wg_ b l:=by
 have:=ald_ b (l.take g) (l.drop g)
 rw[List.take_append_drop] at this
 omega
theorem aot_ {b:Int} {l:List PcL} {g:Nat} (h:Za_ b l=false):Za_ b (l.take g)=false:=by
 unfold Za_ at h ⊢
 rw[List.any_eq_false] at h ⊢
 exact fun x hx=>h x (List.mem_of_mem_take hx)
theorem anZ_ (a b:List UInt8):xh_ Tryz.prog 81 2 [(0,vs a),(1,vs b)]=some (9, #[vs a,vs b]):=by
 have hz:zI_ Tryz.prog 9=some (vs []):=Tryz.zr9
 have hI: ∀I:Array Value,I.size=2→(I.setIfInBounds 0 (vs a)).setIfInBounds 1 (vs b)= #[vs a,vs b]:=by
  intro I h
  apply Array.ext
  ·simp[h]
  ·intro i h1 h2
   have h3:i<2:=by simpa using h2
   match i,h3 with
   |0,_=>simp[h]
   |1,_=>simp[h]
 have hc: ∀s:List UInt8,(vs s).cells= #[vs s]:=fun s=>rfl
 simp only[xh_,Tryz.underlying81,Tryz.ag9,hz,Option.map_some]
 simp[Instr.fill,hc]
 exact hI _ (by simp)
theorem qA_ {w0:World} {L X D:zb_} (hC:Came w0 L X D) (hX:New w0.heap.size X):New w0.heap.size D:=New.of_le fun c hc=>by
 rcases hC.new c hc with h| ⟨-,h⟩
 ·exact hX.le c h
 ·exact h
structure TxG where
 g:Nat
 D:zb_
 E:zb_
set_option linter.defProp false
def zy_:=And.intro (And.intro (And.intro (@zA_) (@zz_)) (And.intro (@Vh_) (And.intro (@KL_) (@acq_)))) (And.intro (And.intro (@xo_) (And.intro (@Sx.tup2_0) (@Sx.tup2_1))) (And.intro (@Sx.tup3_0) (And.intro (@Sx.tup3_1) (@Sx.tup3_2))))
theorem afO_ (base:List UInt8) (v:Value) (l:List PcL) (w:World) (hv:PcSl w v l) (hl:BndP l) (hn:l.length<1000000000):
  Rets Tryz.prog 129 #[vs base,v] w (fun v' D=>v'= .tuple #[vs (if(kO_ base.length l).2=0 then J5_ base l else []),vi (kO_ base.length l).2]∧D= []):=by
 obtain⟨bb,off,arr,E,fz,hr⟩:=hv.row
 have ln:=hv.len
 refine Rets.enterV Tryz.func129 rfl (rs:= [.tmp 4, .tmp 5]) Tryz.results129 Tryz.ntmps129 ?_
 refine kf ?_
 first|with_reducible refine ks [] @zy_ ?_|refine kp @zy_ ?_
 refine Ow.callFV rfl Tryz.call119 (fun w' hw'=>Zg_ (base.length:Int) v l w' (hv.oldN hw' trivial) hl hn) ?_
 by_cases he: (kO_ base.length l).2=0
 ·obtain⟨m,hm⟩: ∃m,kO_ base.length l=(m,0):=⟨(kO_ base.length l).1,by rw[←he]⟩
  obtain⟨-,hb4,hz,hs4,-,hl4⟩:=Zq_ hm
  rw[if_pos he,hm]
  have e0: ((0:Int) !=0)=false:=rfl
  refine ko @zy_ ?_
  first|with_reducible refine ks [] (And.intro @zy_ @e0) ?_|refine kp (And.intro @zy_ @e0) ?_
  refine Ow.alloc rfl rfl Tryz.zr89 fun b8 hb8 hw8=> ?_
  have hZ:BldAt b8 [] [(b8, .cells #[.pointer none, .slice none 0 0] 89 (0,0))]:=BldAt.zeroE b8 (zP_ _ _ _)
  refine ko @zy_ ?_
  first|with_reducible refine ks [] (And.intro @zy_ @ln) ?_|refine kp (And.intro @zy_ @ln) ?_
  refine Cw.loopG (G:=TxG) [27,28,29,10,31,32,33,34,30,35,36,37,11,12,13,38,39,40,41,42,43,44,45,46,47,48,26] (fun g=> [(8,vp b8 0),(26,vi g.g)]) (fun g=>g.D++g.E) (fun g=>g.g≤l.length∧New w.heap.size (g.D++g.E)∧BldAt b8 (J5_ base (l.take g.g)) g.D) (fun g=>l.length - g.g) ⟨0,[(b8, .cells #[.pointer none, .slice none 0 0] 89 (0,0))],[]⟩ rfl rfl ?_ ?_
  ·exact⟨Nat.zero_le _,⟨hw8,trivial⟩,hZ⟩
  intro g j hg
  refine kv ?_
  obtain⟨g,D,E2⟩:=g
  simp only at hg ⊢
  obtain⟨hgl,hN,hB⟩:=hg
  by_cases hlt:g<l.length
  ·have hb0:0<l.length:=by omega
   have hbl:=hr.lt hb0
   have rd:zk_ w (D++E2) bb=some (.cells arr E fz):=by rw[zX_ (hN.not hbl)];exact hr.has hb0
   have i2:=hr.idx true g hlt
   have ld:=hr.load qV_ (by omega) hlt
   obtain⟨hpb,hpx⟩:=hl g hlt
   have htk:=ag6_ (base:=base) hlt
   have htl:=w4_ (base:=base) (aot_ (g:=g+1) hz)
   have hsl:=abe_ (b:=(base.length:Int)) (l:=l) (g:=g+1)
   generalize hp:l.getD g pc0=p at*
   have hat:=abp_ p base
   have hpt:=apb_ base p
   rw[htk,List.length_append] at htl
   have hptl: (pcT base p).length≤4099:=by omega
   have d3:decide ((g:Int)< (l.length:Int))=true:=decide_eq_true (by omega)
   first|with_reducible refine ks [] (And.intro @zy_ (And.intro @d3 (And.intro @i2 (And.intro @rd (@ld))))) ?_|refine kp (And.intro @zy_ (And.intro @d3 (And.intro @i2 (And.intro @rd (@ld))))) ?_
   refine Ow.alloc rfl rfl zrPc fun b9 hb9 hw9=> ?_
   simp only[za_,List.nil_append,List.cons_append]
   have hD9:b9∉keys D:=fun h=>Nat.lt_irrefl _ (zh_ hb9 (by rw[ze_];exact List.mem_append_left _ h))
   have h89:b8∈keys D:=by obtain⟨p,v,hlk,-⟩:=hB;exact zo_ hlk
   refine Ow.permL (M:=(b9, .cells (pcC pc0).toArray 194 (0,0)):: (D++E2)) (by classical exact List.perm_iff_count.2 fun a=>by simp only[List.count_append,List.count_cons,List.count_nil]<;>omega) ?_
   have hsp:=K1_ p pc0 194
   refine ko (And.intro @zy_ @hsp) ?_
   first|with_reducible refine ks [] @zy_ ?_|refine kp @zy_ ?_
   refine Ow.callFV rfl Tryz.call120 (fun w' hw'=>ks_ p (base.length:Int) w' hpb (by omega) (by omega)) ?_
   rw[amU_]
   generalize hA: (V1_ p base.length).1=A at*
   generalize hNn: (V1_ p base.length).2=Nn at*
   refine ko @zy_ ?_
   first|with_reducible refine ks [] @zy_ ?_|refine kp @zy_ ?_
   refine Cw.permL (M:=D++ ((b9, .cells (pcC p).toArray 194 (0,0))::E2)) (by classical exact List.perm_iff_count.2 fun a=>by simp only[List.count_append,List.count_cons,List.count_nil]<;>omega) ?_
   have rd9:zk_ w (D++ ((b9, .cells (pcC p).toArray 194 (0,0))::E2)) b9=some (.cells (pcC p).toArray 194 (0,0)):=zt_ (by rw[z9_ hD9];exact zP_ _ _ _)
   have hsum: (A:Int)+ (Nn:Int)=((A+Nn:Nat):Int):=by omega
   refine Cw.regionO [0,1,2,3,4,5,6,7,8,9] [8,9] rfl (by kernel_rfl) (by kernel_rfl) ?_
   refine kya ?_
   refine kq (And.intro @zy_ (And.intro @hsum (@rd9))) ?_
   refine Ow.buildSlice (e:=9) #[vs ((base.take (A+Nn)).drop A),vs p.x] rfl rfl (anZ_ _ _) fun b11 hb11 hw11=> ?_
   have hD11:b11∉keys D:=fun h=>Nat.lt_irrefl _ (zh_ hb11 (by rw[ze_];exact List.mem_append_left _ h))
   rw[List.append_assoc]
   simp only[List.cons_append,List.nil_append]
   have hX1:=fun(w':World) (hw':Hp w (D++ ((b9,Obj.cells (pcC p).toArray 194 (0,0)):: (E2++ [(b11, .cells #[vs ((base.take (A+Nn)).drop A),vs p.x] 9 (0,0))]))) w')=>hw'.has b11 (.cells #[vs ((base.take (A+Nn)).drop A),vs p.x] 9 (0,0)) (by simp)
   have hpt2: [(base.take (A+Nn)).drop A,p.x].flatten=pcT base p:=by rw[hpt];simp
   refine kq @zy_ ?_
   refine Ow.callX (Y:=((b9,Obj.cells (pcC p).toArray 194 (0,0)):: (E2++ [(b11, .cells #[vs ((base.take (A+Nn)).drop A),vs p.x] 9 (0,0))]))) (by simp) rfl rfl Tryz.call36 (fun w' hw' hX hn=>vu_ b8 D _ _ b11 0 [(base.take (A+Nn)).drop A,p.x] _ _ _ w' hB hX hn (StrS.lit [(base.take (A+Nn)).drop A,p.x] rfl rfl (hX1 w' hw')) (fun _=>hD11) (by rw[hpt2];omega) (by simp)) (fun v12 D12 hC12 hS12=> ?_)
   obtain⟨rfl,hB12⟩:=hS12
   rw[hpt2,←htk] at hB12
   have hN0:New w.heap.size D:=New.of_le fun c hc=>hN.le c (by rw[ze_];exact List.mem_append_left _ hc)
   have hE0:New w.heap.size E2:=New.of_le fun c hc=>hN.le c (by rw[ze_];exact List.mem_append_right _ hc)
   have hN12:New w.heap.size D12:=qA_ hC12 hN0
   refine kq @zy_ ?_
   try with_reducible refine Ow.nil ?_
   first|with_reducible refine ks [] @zy_ ?_|refine kp @zy_ ?_
   refine Again.mk (TxG.mk (g+1) D12 ((b9,Obj.cells (pcC p).toArray 194 (0,0)):: (E2++ [(b11, .cells #[vs ((base.take (A+Nn)).drop A),vs p.x] 9 (0,0))]))) (by show l.length - (g+1)<l.length - g;omega) ⟨hlt,hN12.app ⟨hw9,hE0.app ⟨hw11,trivial⟩⟩,hB12⟩ rfl rfl
  ·obtain rfl:g=l.length:=by omega
   have d3:decide ((l.length:Int)< (l.length:Int))=false:=by simp
   rw[List.take_length] at hB
   have htl:=w4_ hz
   first|with_reducible refine ks [] (And.intro @zy_ @d3) ?_|refine kp (And.intro @zy_ @d3) ?_
   refine Ow.callX (Y:=E2) (by simp) rfl rfl Tryz.call40 (fun w' hw' hX hn=>xY_ b8 D _ w' hB hX hn (by omega)) (fun v12 D12 hC12 hS12=> ?_)
   have hS12':v12=vs (J5_ base l):=hS12
   subst hS12'
   have hN0:New w.heap.size D:=New.of_le fun c hc=>hN.le c (by rw[ze_];exact List.mem_append_left _ hc)
   have hE0:New w.heap.size E2:=New.of_le fun c hc=>hN.le c (by rw[ze_];exact List.mem_append_right _ hc)
   have hN12:New w.heap.size D12:=qA_ hC12 hN0
   refine ko @zy_ ?_
   first|with_reducible refine ks [] @zy_ ?_|refine kp @zy_ ?_
   refine⟨_,(ke @zy_),hN12.app hE0, ?_⟩
   rfl
 ·have e1: ((kO_ base.length l).2 !=0)=true:=by rw[bne_iff_ne];exact he
  rw[if_neg he]
  refine ko @zy_ ?_
  first|with_reducible refine ks [] (And.intro @zy_ @e1) ?_|refine kp (And.intro @zy_ @e1) ?_
  refine⟨_,(ke @zy_),trivial, ?_⟩
  rfl
end Go.Proofs
end
namespace Go.Sx
open Go
section
variable {α:Type} {m:Nat} {enc:α→List Value} {z:α}
end
section
variable {P:Program} {w0:World} {f:Fr} {L:zb_} {N:Fr→zb_→Prop} {ops:Array Oper} {rest:List Oper} {md:Md} {d:Option Tmp} {ty:TypeId} {ps:String} {af:Array Edge} {g:Option (Nat×Bool)}
theorem Ow.makeSlice {t e:TypeId} {m:Bool×Nat} {z:Value} {x y:Operand} {n c:Nat} {md':Md} (he:md.turn=some md') (hs:zg_ ops f ⟨d, .makeSlice t x y,ty,ps,af,g⟩=false)
  (hu:P.underlying t=some (.slice e)) (hm:qc_ P e=some m) (hi:xe_ P e=true) (hz:zI_ P e=some z) (hx:ev f x=vi n) (hy:ev f y=vi c) (hnc:n≤c) (hbig:c≤2^38)
  (hn: ∀b,jM_ L b→w0.heap.size≤b→Ow P w0 ops md' rest (qd_ f d (vsl b 0 n c)) (L++ [(b, .cells (madeCells z.cells (c*m.2)) e (0,0))]) N):
  Ow P w0 ops md (⟨d, .makeSlice t x y,ty,ps,af,g⟩::rest) f L N:=by
 refine Ow.step he rfl hs fun w hw=> .inl ⟨vsl w.heap.size 0 n c,w.alloc (.cells (madeCells z.cells (c*m.2)) e (0,0)),_, ?_,hw.alloc _,hn _ (z2_ fun b hb=>hw.lt hb) hw.size⟩
 obtain⟨i,hie,-,hb⟩:=xU_ hi hbig
 have hiz:i.zero=some z:=by
  unfold zI_ at hz
  rw[hie] at hz
  exact hz
 have him:i.size=m.2:=by
  unfold qc_ at hm
  rw[hie] at hm
  split at hm
  ·rename_i h1 h2
   cases h2
   cases hm
   rfl
  ·cases hm
 have hbb: (i.bytes:Int)* (c:Int)≤281474976710656:=by
  have: ((i.bytes*c:Nat):Int)≤281474976710656:=by rw[Nat.mul_comm];exact Int.ofNat_le.2 hb
  rwa [Int.natCast_mul] at this
 have hr:=run_make (P:=P) w t e i z hu hie hiz .i64 .i64 (n:Int) (c:Int) (by omega) (by omega) hbb (by omega)
 simp only[Int.toNat_natCast,him] at hr
 show(execOp (ev f) _).run P w=_
 simp only[execOp,Sem.run_bind]
 rw[hx,hy]
 show((Instr.makeSlice t (.int .i64 (n:Int)) (.int .i64 (c:Int))).run P w).andThen _=_
 rw[hr]
 rfl
theorem Ow.appendXG {ts tx e:TypeId} {m:Bool×Nat} {z:Value} {s x:Operand} {n k:Nat} {cs new:List Value} {dx:TypeDesc} {md':Md} {X Y:zb_} (sv:Value) (hL:L=X++Y) (hsv:ev f s=sv) (he:md.turn=some md')
  (hs:zg_ ops f ⟨d, .call ⟨.builtin .append, #[s,x], #[ts,tx]⟩,ty,ps,af,g⟩=false)
  (hu:P.underlying ts=some (.slice e)) (hm:qc_ P e=some m) (hi:xe_ P e=true) (hz:zI_ P e=some z) (hzs:z.cells.size=m.2) (hux:P.underlying tx=some dx) (hnx: ∀k,dx≠ .int k)
  (hB:Gr X e m.2 sv n cs) (hX: ∀w,Hp w0 L w→AppX P w m.2 (ev f x) k new) (hbig:2* (n+k)+768≤2^38)
  (hn: ∀B v' D,jM_ L B→w0.heap.size≤B→Gr D e m.2 v' (n+k) (cs++new)→(∀c,c∈keys X→c∈keys D)→(∀c,c∈keys D→c∈keys X∨B≤c)→(∀c o,slB sv≠some c→look X c=some o→look D c=some o)→Ow P w0 ops md' rest (qd_ f d v') (D++Y) N):
  Ow P w0 ops md (⟨d, .call ⟨.builtin .append, #[s,x], #[ts,tx]⟩,ty,ps,af,g⟩::rest) f L N:=by
 subst hL
 refine Ow.step he rfl hs fun w hw=> ?_
 have hp:=hw.part
 have hA:jM_ (X++Y) w.heap.size:=z2_ fun b hb=>hw.lt hb
 have fin: ∀v' w' D,(Builtin.append_ #[ts,tx] ty #[sv,ev f x]).run P w= .ok v' w'→Hp w D w'→Gr D e m.2 v' (n+k) (cs++new)→(∀c,c∈keys X→c∈keys D)→(∀c,c∈keys D→c∈keys X∨w.heap.size≤c)→(∀c o,slB sv≠some c→look X c=some o→look D c=some o)→
   (∃v w' L',(execOp (ev f) ⟨d, .call ⟨.builtin .append, #[s,x], #[ts,tx]⟩,ty,ps,af,g⟩).run P w= .ok (.value v) w'∧Hp w0 L' w'∧Ow P w0 ops md' rest (qd_ f d v) L' N):=by
  intro v' w' D hr hD hb h1 h2 h3
  refine⟨v',w',D++Y, ?_,hw.join hD h1 h2,hn w.heap.size v' D hA hw.size hb h1 h2 h3⟩
  simp only[execOp,resolve,Sem.run_bind,Sem.run_pure,Result.andThen_ok,invoke,builtin,List.map_toArray,List.map_cons,List.map_nil,hsv]
  rw[hr]
  rfl
 rcases hB with hB| ⟨rfl,rfl,b,rfl,hlk⟩
 ·obtain⟨v',w',D,hr,hD,hb,hg,-⟩:=Zm_ (w0:=w) (L:=X) (ty:=ty) (x:=ev f x) hp hu hm hi hz hzs hux hnx hB (fun w2 hw2=>hX w2 (by
   refine hw.join hw2 (fun c hc=>hc) (fun c hc=> .inl hc))) hbig
  exact .inl (fin v' w' D hr hD (.inl hb) hg.keys (fun c hc=>(hg.new c hc).imp id And.right) hg.look)
 ·rcases vj_ (w0:=w) (L:=X) (ty:=ty) (b:=b) (x:=ev f x) hp hu hm hi hz hzs hux hnx (fun w2 hw2=>hX w2 (by
   refine hw.join hw2 (fun c hc=>hc) (fun c hc=> .inl hc))) hbig with⟨h0,hr⟩ | ⟨-,v',w',D,hr,hD,hb,hg,-⟩
  ·subst h0
   have hnw:=(hX w hw).size
   obtain rfl:new= []:=List.eq_nil_of_length_eq_zero (by rw[hnw,Nat.zero_mul])
   exact .inl (fin _ w X hr hp (.inr ⟨rfl,rfl,b,rfl,hlk⟩) (fun c hc=>hc) (fun c hc=> .inl hc) (fun c o _ hl=>hl))
  ·exact .inl (fin v' w' D hr hD (.inl hb) hg.keys (fun c hc=>(hg.new c hc).imp id And.right) (fun c o _ hl=>hg.look c o (by simp[slB]) hl))
end
theorem aar_ {b:Nat} {o:Obj}: ∀ {D:zb_},look D b=some o→ ∃D',D.Perm ((b,o)::D')
 | [],h=>by cases h
 | (c,x)::r,h=>by
  unfold look at h
  split at h
  ·rename_i e
   cases h
   subst e
   exact⟨r,List.Perm.refl _⟩
  ·obtain⟨D',hD⟩:=aar_ h
   exact⟨(c,x)::D',(hD.cons _).trans (List.Perm.swap _ _ _)⟩
theorem New.perm {n:Nat} {D D':zb_} (h:New n D) (hp:D.Perm D'):New n D':=New.of_le fun c hc=>h.le c ((hp.map Prod.fst).mem_iff.2 hc)
end Go.Sx
section
open Go Go.Proofs Go.Sx Go.StP Go.Flo
namespace Go.Proofs
set_option maxRecDepth 10000
set_option maxHeartbeats 400000
set_option linter.unusedSimpArgs false
def dB (d:List UInt8):Int×Nat×Int:=zs_ d 0 0 4099
def dM (d:List UInt8):Int×Nat×Int:=zs_ d (dB d).2.1 (dB d).2.2 4099
theorem w7_ (d:List UInt8):ke_ d=if(dM d).2.2≠0 then none else if(pcs d (dM d).2.1).2.2≠0 then none else if kO_ (dB d).1 (pcs d (dM d).2.1).1=((dM d).1,0) then some ((dB d).1.toNat,(pcs d (dM d).2.1).1) else none:=rfl
structure EG where
 lab:Nat
 br:Nat
 a:Nat
 e:Int
 out:List PcL
 v:Value
 D:zb_
def drO (d:List UInt8) (a e:Int):Obj:= .cells #[vs d,vi a,vi e] 108 (0,0)
def EJ (d:List UInt8) (n:Nat) (g:EG):Prop:=
 (g.lab=1∧n≤g.br∧New n g.D∧g.br∉keys g.D∧Gr g.D 194 2 g.v g.out.length (g.out.map pcC).flatten∧g.a≤d.length∧BndP g.out∧g.out.length≤4099∧
  ((g.e≠0∧ke_ d=none)∨(g.e=0∧(dM d).2.2=0∧pcs d (dM d).2.1=(g.out++ (pcs d g.a).1,(pcs d g.a).2))))∨
 (g.lab=0∧n≤g.br∧New n g.D∧g.br∉keys g.D∧Gr g.D 194 2 g.v g.out.length (g.out.map pcC).flatten∧BndP g.out∧g.out.length≤4099∧(dM d).2.2=0∧pcs d (dM d).2.1=(g.out,d.length,0))∨
 (g.lab=2∧New n g.D∧ke_ d=none)
def EH (d:List UInt8) (g:EG):zb_:=match g.lab with
 |1=>(g.br,drO d g.a g.e)::g.D
 |0=>(g.br,drO d g.a g.e)::g.D
 |_=>g.D
def ES (d:List UInt8) (g:EG):List (Nat×Value):=match g.lab with
 |1=> [(5,vp g.br 0),(6,vi (dB d).1),(7,vi (dM d).1),(8,g.v)]
 |0=> [(6,vi (dB d).1),(7,vi (dM d).1),(8,g.v)]
 |_=> []
def EL (g:EG):Nat:=match g.lab with
 |1=>1
 |0=>0
 |_=>2
def KA_ (d:List UInt8) (v:Value) (D:zb_):Prop:=match ke_ d with
 |some p=> ∃x,v= .tuple #[vi p.1,x,vi 0]∧BndP p.2∧p.2.length≤4099∧p.1≤4099∧GrI D 194 2 x p.2.length (p.2.map pcC).flatten
 |none=>v= .tuple #[vi 0, .slice none 0 0,vi 2]
def pcE (d:List UInt8) (a:Nat) (e:Int):PcL×Nat×Int:=
 if(zs_ d a e 8199).1%2=1 then
  (⟨(zs_ d (zs_ d a e 8199).2.1 (zs_ d a e 8199).2.2 4099).1.toNat,((zs_ d a e 8199).1 / 2).toNat,[]⟩,(zs_ d (zs_ d a e 8199).2.1 (zs_ d a e 8199).2.2 4099).2)
 else(⟨0,0,(jp_ d (zs_ d a e 8199).2.1 (zs_ d a e 8199).2.2 ((zs_ d a e 8199).1 / 2)).1⟩,(jp_ d (zs_ d a e 8199).2.1 (zs_ d a e 8199).2.2 ((zs_ d a e 8199).1 / 2)).2)
theorem alz_ (d:List UInt8) (a:Nat):pcE d a 0=pcR d a:=rfl
theorem aqh_ {d:List UInt8} {a:Nat} {e:Int} (he:e≠0): (pcE d a e).2.2=e:=by
 have h1:=JD_ (s:=d) (a:=a) (most:=8199) he
 unfold pcE
 split
 ·simp only[h1]
  rw[JD_ (s:=d) (a:=a) (most:=4099) he]
 ·simp only[h1]
  rw[Ky_ (s:=d) (a:=a) he]
theorem QW_ (a n:Nat):qR_ (x7_ Tryz.prog 194) (zI_ Tryz.prog 194) [(0,cx a n)]=some (.agg (pcC ⟨a,n,[]⟩).toArray):=by
 rw[show x7_ Tryz.prog 194=some [(0,1),(1,1)] from id (by kernel_rfl),zrPc];rfl
theorem J0_ (x:List UInt8):qR_ (x7_ Tryz.prog 194) (zI_ Tryz.prog 194) [(1,vs x)]=some (.agg (pcC ⟨0,0,x⟩).toArray):=by
 rw[show x7_ Tryz.prog 194=some [(0,1),(1,1)] from id (by kernel_rfl),zrPc];rfl
theorem Zh_ (p:PcL):xh_ Tryz.prog 173 1 [(0, .agg (pcC p).toArray)]=some (194,(pcC p).toArray):=
 qn_ Tryz.underlying173 (id (by kernel_rfl)) zrPc (by decide) (qV_ p)
theorem kD_ {d:List UInt8} {a:Nat} {out:List PcL} (hrel:pcs d (dM d).2.1=(out++ (pcs d a).1,(pcs d a).2)) (h: (pcs d a).2.2≠0∨4099< (out++ (pcs d a).1).length):ke_ d=none:=by
 rw[w7_]
 split
 ·rfl
 ·split
  ·rfl
  ·rename_i h2
   rw[hrel] at h2 ⊢
   simp only at h2 ⊢
   rcases h with h|h
   ·exact absurd h h2
   ·rw[if_neg]
    intro hc
    have:=(Zq_ hc).2.2.2.2.2
    omega
set_option linter.defProp false
def zR_:=And.intro (And.intro (And.intro (@zA_) (And.intro (@zz_) (@Vh_))) (And.intro (@KL_) (And.intro (@acq_) (@xo_)))) (And.intro (And.intro (@Sx.tup2_0) (And.intro (@Sx.tup2_1) (@Sx.tup3_0))) (And.intro (@Sx.tup3_1) (And.intro (@Sx.tup3_2) (@Jn_))))
theorem afr_ (d:List UInt8) (w:World) (hd:d.length<9223372036854775808):Rets Tryz.prog 128 #[vs d] w (XS w [] (KA_ d)):=by
 refine Rets.enterX Tryz.func128 rfl (rs:= [.tmp 2, .tmp 3, .tmp 4]) Tryz.results128 Tryz.ntmps128 (fun p hp=>by cases hp) (by simp[keys]) ?_
 refine kf ?_
 first|with_reducible refine ks [] @zR_ ?_|refine kp @zR_ ?_
 refine Cw.scopeL (G:=EG) (fun g=>EL g) [12,13,5,14,15,16,17,6,7,8,9,10,11,18,19,20,21,22,23,24,25,26,27,28,29,30,31,32,33,34,35,36,37,38,39,40,41,42,43,44,45,46,47,48,49,50,51,52,54,55,56,53,57,58,59,60,61,62,63,64,65,66,67,2,3,4] (fun g=>ES d g) (fun g=>EH d g) (fun g=>EJ d w.heap.size g) (fun g=>(if g.lab=1 then d.length - g.a+1 else 0)) ?_ ?_ ?_
 ·intro g
  unfold EL
  split<;>rfl
 ·intro g j hg
  rcases hg with hg|hg|hg
  ·obtain⟨lab,br,a,e,out,v,D⟩:=g
   obtain⟨hlab,hg⟩:=hg
   simp only at hlab
   subst hlab
   simp only[EL,ES,EH] at hg ⊢
   obtain⟨hwr,hN,hbD,hGr,hal,hB,hol,hrel⟩:=hg
   simp only[drO]
   simp only[xD_,ZS_,Bool.or_false,Bool.false_or,Bool.or_true,Bool.true_or,Nat.reduceBEq,beq_self_eq_true, ↓reduceIte,Bool.false_eq_true]
   refine kv ?_
   try with_reducible refine qr_ ?_
   first|with_reducible refine ks [] @zR_ ?_|refine kp @zR_ ?_
   by_cases hA:e=0∧ ¬a<d.length
   ·obtain⟨rfl,hAl⟩:=hA
    have hE: (if(0:Int)≠0 then(0:Int) else if(a:Int)<d.length then 5 else 0)=0:=by rw[if_neg (by simp),if_neg (by omega)]
    have e00: ((0:Int)==0)=true:=rfl
    refine Ow.callFV rfl Tryz.call28 (fun w' hw'=>Qp_ br d a 0 w' (hw'.has _ _ List.mem_cons_self)) ?_
    rw[hE]
    refine ko (And.intro @zR_ @e00) ?_
    first|with_reducible refine ks [] @zR_ ?_|refine kp @zR_ ?_
    refine Jump.mk ⟨0,br,a,0,out,v,D⟩ rfl (by show 0<d.length - a+1;omega) (.inr (.inl ⟨rfl,hwr,hN,hbD,hGr,hB,hol, ?_⟩)) rfl rfl
    rcases hrel with h| ⟨-,h1,h2⟩
    ·exact absurd rfl h.1
    ·rw[adR_ hAl,List.append_nil] at h2
     exact⟨h1,by rw[h2,show a=d.length by omega]⟩
   ·obtain⟨E1,hE1,hE0⟩: ∃E1,(if e≠0 then e else if(a:Int)<d.length then 5 else 0)=E1∧(E1==0)=false:=by
     refine⟨_,rfl, ?_⟩
     rw[beq_eq_false_iff_ne]
     split
     ·assumption
     ·rename_i he
      rw[if_pos (by
       have:e=0:=by simpa using he
       have:a<d.length:=by
        rcases Nat.lt_or_ge a d.length with h|h
        ·exact h
        ·exact absurd ⟨this,by omega⟩ hA
       omega)]
      decide
    refine Ow.callFV rfl Tryz.call28 (fun w' hw'=>Qp_ br d a e w' (hw'.has _ _ List.mem_cons_self)) ?_
    rw[hE1]
    refine ko (And.intro @zR_ @hE0) ?_
    first|with_reducible refine ks [] @zR_ ?_|refine kp @zR_ ?_
    have hq:=q4_ (s:=d) (a:=a) (e:=e) (most:=8199) (by omega)
    have hle1:=qh_ (s:=d) (a:=a) (e:=e) (most:=8199) hal
    have hpE:pcE d a e=pcE d a e:=rfl
    conv at hpE=>rhs;unfold pcE
    refine Ow.callM rfl rfl Tryz.call49 (by simp[keys]) (fun w' hw'=>qP_ br d a e 8199 w' hal hd (hw'.has _ _ List.mem_cons_self)) ?_
    generalize zs_ d a e 8199=q at*
    obtain⟨q1,a1,e1⟩:=q
    simp only at hq hle1 hpE ⊢
    obtain⟨Q,rfl⟩: ∃Q:Nat,q1=(Q:Int):=⟨q1.toNat,by omega⟩
    have hQ:Q≤8199:=by omega
    refine kn ?_
    refine ko @zR_ ?_
    by_cases hodd: (Q:Int)%2=1
    ·have d1: (((Q:Nat):Int)%2==1)=true:=by rw[beq_iff_eq];exact hodd
     rw[if_pos hodd] at hpE
     first|with_reducible refine ks [] (And.intro @zR_ @d1) ?_|refine kp (And.intro @zR_ @d1) ?_
     have hm2:=q4_ (s:=d) (a:=a1) (e:=e1) (most:=4099) (by omega)
     have hle2:=qh_ (s:=d) (a:=a1) (e:=e1) (most:=4099) hle1.2
     refine Ow.callM rfl rfl Tryz.call49 (by simp[keys]) (fun w' hw'=>qP_ br d a1 e1 4099 w' hle1.2 hd (hw'.has _ _ List.mem_cons_self)) ?_
     generalize zs_ d a1 e1 4099=x at*
     obtain⟨x1,a2,e2⟩:=x
     simp only at hm2 hle2 hpE ⊢
     obtain⟨X,rfl⟩: ∃X:Nat,x1=(X:Int):=⟨x1.toNat,by omega⟩
     rw[Int.toNat_natCast,show((Q:Int) / 2).toNat=Q / 2 by omega] at hpE
     refine kn ?_
     refine Ow.convIF rfl rfl cvIF Tryz.underlying3 Tryz.underlying185 rfl ?_
     refine ko @zR_ ?_
     rw[show(Q:Int) / 2=((Q / 2:Nat):Int) by omega]
     refine Ow.convIF rfl rfl cvIF Tryz.underlying3 Tryz.underlying185 rfl ?_
     refine Ow.complexB (a:=(X:Nat)) (b:=(Q / 2:Nat)) rfl rfl rfl ?_
     refine Ow.build (.agg (pcC ⟨X,Q / 2,[]⟩).toArray) rfl (QW_ X (Q / 2)) ?_
     have hpB:PcB (⟨X,Q / 2,[]⟩:PcL)∧(⟨X,Q / 2,[]⟩:PcL).x.length<9223372036854775808:=⟨⟨by show X≤4099;omega,by show Q / 2≤4099;omega⟩,by show 0<9223372036854775808;omega⟩
     generalize (⟨X,Q / 2,[]⟩:PcL)=p at*
     refine Ow.buildSlice (e:=194) (pcC p).toArray rfl rfl (Zh_ p) fun b9 hb9 hw9=> ?_
     have h9:br<b9:=zh_ hb9 (by simp[keys])
     refine Ow.permL (M:=D++ [(br, .cells #[vs d,vi a2,vi e2] 108 (0,0)),(b9, .cells (pcC p).toArray 194 (0,0))]) (by classical exact List.perm_iff_count.2 fun a=>by simp only[List.count_append,List.count_cons,List.count_nil]<;>omega) ?_
     refine ko @zR_ ?_
     refine Ow.appendXG (e:=194) (k:=1) (new:=pcC p) (X:=D) v rfl rfl rfl rfl Tryz.underlying173 (id (by kernel_rfl):qc_ Tryz.prog 194=some (true,2)) (by kernel_rfl) zrPc (by rw[xo_,List.size_toArray,qV_]) Tryz.underlying173 (by intro k h;cases h) hGr (fun w' hw'=>AppX.one1 (hw'.has b9 (.cells (pcC p).toArray 194 (0,0)) (by simp)) (qV_ p) (wk_ p)) (by omega) (fun B3 v3 D3 hA3 hB3 hG3 hk13 hk23 hlk3=> ?_)
     have hN3:New w.heap.size D3:=New.of_le fun q hq=>by
      rcases hk23 q hq with h|h
      ·exact hN.le q h
      ·omega
     have hbD3:br∉keys D3:=fun hm=>by
      rcases hk23 br hm with h|h
      ·exact hbD h
      ·exact Nat.lt_irrefl _ (Nat.lt_of_lt_of_le (zh_ hA3 (by rw[ze_];exact List.mem_append_right _ (by simp[keys]))) h)
     have hG4:Gr (D3++ [(b9, .cells (pcC p).toArray 194 (0,0))]) 194 2 v3 (out++ [p]).length ((out++ [p]).map pcC).flatten:=by
      have:=hG3.app (M:= [(b9,Obj.cells (pcC p).toArray 194 (0,0))])
      simpa using this
     have hN4:New w.heap.size (D3++ [(b9,Obj.cells (pcC p).toArray 194 (0,0))]):=hN3.app ⟨hw9,trivial⟩
     have hbD4:br∉keys (D3++ [(b9,Obj.cells (pcC p).toArray 194 (0,0))]):=fun hm=>by
      rw[ze_] at hm
      rcases List.mem_append.1 hm with h|h
      ·exact hbD3 h
      ·simp[keys] at h;omega
     refine Ow.permL (M:=(br, .cells #[vs d,vi a2,vi e2] 108 (0,0)):: (D3++ [(b9, .cells (pcC p).toArray 194 (0,0))])) (by classical exact List.perm_iff_count.2 fun a=>by simp only[List.count_append,List.count_cons,List.count_nil]<;>omega) ?_
     generalize (D3++ [(b9,Obj.cells (pcC p).toArray 194 (0,0))])=D4 at*
     refine ko @zR_ ?_
     first|with_reducible refine ks [] @zR_ ?_|refine kp @zR_ ?_
     refine Ow.callFV rfl Tryz.call50 (fun w' hw'=>xc_ br d a2 e2 w' (hw'.has _ _ List.mem_cons_self)) ?_
     have hlen4: ∀m,wt_ (.sl m) v3=some (vi (out++ [p]).length):=fun m=>hG4.len m
     have hB4:BndP (out++ [p]):=by
      intro g hg
      rw[List.length_append,List.length_cons,List.length_nil] at hg
      by_cases hgl:g<out.length
      ·rw[kl_ hgl];exact hB g hgl
      ·rw[kg_ (by omega),show g - out.length=0 by omega]
       exact hpB
     have hle0:e2=0→e=0:=fun h=>by
      by_cases he:e=0
      ·exact he
      ·have:=aqh_ (d:=d) (a:=a) he
       rw[hpE] at this
       exact absurd (this.symm.trans h) he
     have hNw:New w.heap.size ((br,Obj.cells #[vs d,vi a2,vi e2] 108 (0,0))::D4):=⟨hwr,hN4⟩
     by_cases he2:e2=0
     ·have he0:=hle0 he2
      subst he2
      subst he0
      have hlt:a<d.length:=by
       rcases Nat.lt_or_ge a d.length with h|h
       ·exact h
       ·exact absurd ⟨rfl,by omega⟩ hA
      have e00: ((0:Int) !=0)=false:=rfl
      rw[alz_] at hpE
      have hr0: (pcR d a).2.2=0:=by rw[hpE]
      have hup:=X4_ hal hr0
      rw[hpE] at hup
      have hup2:a<a2:=hup
      obtain⟨-,hm0,hpc⟩: (0:Int)=0∧(dM d).2.2=0∧pcs d (dM d).2.1=(out++ (pcs d a).1,(pcs d a).2):=by
       rcases hrel with h|h
       ·exact absurd rfl h.1
       ·exact h
      rw[aeA_ hlt hr0,hpE] at hpc
      have hpc':pcs d (dM d).2.1=((out++ [p])++ (pcs d a2).1,(pcs d a2).2):=by rw[hpc];simp
      by_cases hlen:4099< (out++ [p]).length
      ·have d5:decide ((4099:Int)< ((out++ [p]).length:Int))=true:=decide_eq_true (by omega)
       refine ko (And.intro @zR_ (And.intro @e00 (And.intro @hlen4 (@d5)))) ?_
       first|with_reducible refine ks [] (And.intro @zR_ (And.intro @e00 (And.intro @hlen4 (@d5)))) ?_|refine kp (And.intro @zR_ (And.intro @e00 (And.intro @hlen4 (@d5)))) ?_
       refine Jump.mk ⟨2,br,a2,0,out,v3,(br, .cells #[vs d,vi a2,vi 0] 108 (0,0))::D4⟩ rfl (by show 0<d.length - a+1;omega) (.inr (.inr ⟨rfl,hNw,kD_ hpc' (.inr ?_)⟩)) rfl rfl
       rw[List.length_append];omega
      ·have d5:decide ((4099:Int)< ((out++ [p]).length:Int))=false:=decide_eq_false (by omega)
       refine ko (And.intro @zR_ (And.intro @e00 (And.intro @hlen4 (@d5)))) ?_
       first|with_reducible refine ks [] (And.intro @zR_ (And.intro @e00 (And.intro @hlen4 (@d5)))) ?_|refine kp (And.intro @zR_ (And.intro @e00 (And.intro @hlen4 (@d5)))) ?_
       refine Jump.mk ⟨1,br,a2,0,out++ [p],v3,D4⟩ rfl (by show d.length - a2+1<d.length - a+1;omega) (.inl ⟨rfl,hwr,hN4,hbD4,hG4,hle2.2,hB4,by show(out++ [p]).length≤4099;omega, .inr ⟨rfl,hm0,hpc'⟩⟩) rfl rfl
     ·have e00: (e2 !=0)=true:=by rw[bne_iff_ne];exact he2
      have hno:ke_ d=none:=by
       rcases hrel with h| ⟨rfl,hm0,hpc⟩
       ·exact h.2
       ·have hlt:a<d.length:=by
         rcases Nat.lt_or_ge a d.length with h|h
         ·exact h
         ·exact absurd ⟨rfl,by omega⟩ hA
        rw[alz_] at hpE
        refine kD_ hpc (.inl ?_)
        rw[KX_ hlt (by rw[hpE];exact he2),hpE];exact he2
      refine ko (And.intro @zR_ @e00) ?_
      first|with_reducible refine ks [] (And.intro @zR_ @e00) ?_|refine kp (And.intro @zR_ @e00) ?_
      exact Jump.mk ⟨2,br,a2,0,out,v3,(br, .cells #[vs d,vi a2,vi e2] 108 (0,0))::D4⟩ rfl (by show 0<d.length - a+1;omega) (.inr (.inr ⟨rfl,hNw,hno⟩)) rfl rfl
    ·have d1: (((Q:Nat):Int)%2==1)=false:=by rw[beq_eq_false_iff_ne];exact hodd
     rw[if_neg hodd] at hpE
     first|with_reducible refine ks [] (And.intro @zR_ @d1) ?_|refine kp (And.intro @zR_ @d1) ?_
     have hle2:=kw_ (s:=d) (a:=a1) (e:=e1) (n:=(Q:Int) / 2) hle1.2
     have hxl: (jp_ d a1 e1 ((Q:Int) / 2)).1.length<9223372036854775808:=by
      unfold jp_
      split
      ·simp
      ·split
       ·simp
       ·split
        ·simp
        ·simp only[List.length_take,List.length_drop];omega
     refine Ow.callM rfl rfl Tryz.call48 (by simp[keys]) (fun w' hw'=>vo_ br d a1 e1 ((Q:Int) / 2) w' hle1.2 hd (hw'.has _ _ List.mem_cons_self)) ?_
     generalize jp_ d a1 e1 ((Q:Int) / 2)=x at*
     obtain⟨x1,a2,e2⟩:=x
     simp only at hle2 hxl hpE ⊢
     refine kn ?_
     refine Ow.build (.agg (pcC ⟨0,0,x1⟩).toArray) rfl (J0_ x1) ?_
     have hpB:PcB (⟨0,0,x1⟩:PcL)∧(⟨0,0,x1⟩:PcL).x.length<9223372036854775808:=⟨⟨Nat.zero_le _,Nat.zero_le _⟩,hxl⟩
     generalize (⟨0,0,x1⟩:PcL)=p at*
     refine Ow.buildSlice (e:=194) (pcC p).toArray rfl rfl (Zh_ p) fun b9 hb9 hw9=> ?_
     have h9:br<b9:=zh_ hb9 (by simp[keys])
     refine Ow.permL (M:=D++ [(br, .cells #[vs d,vi a2,vi e2] 108 (0,0)),(b9, .cells (pcC p).toArray 194 (0,0))]) (by classical exact List.perm_iff_count.2 fun a=>by simp only[List.count_append,List.count_cons,List.count_nil]<;>omega) ?_
     refine ko @zR_ ?_
     refine Ow.appendXG (e:=194) (k:=1) (new:=pcC p) (X:=D) v rfl rfl rfl rfl Tryz.underlying173 (id (by kernel_rfl):qc_ Tryz.prog 194=some (true,2)) (by kernel_rfl) zrPc (by rw[xo_,List.size_toArray,qV_]) Tryz.underlying173 (by intro k h;cases h) hGr (fun w' hw'=>AppX.one1 (hw'.has b9 (.cells (pcC p).toArray 194 (0,0)) (by simp)) (qV_ p) (wk_ p)) (by omega) (fun B3 v3 D3 hA3 hB3 hG3 hk13 hk23 hlk3=> ?_)
     have hN3:New w.heap.size D3:=New.of_le fun q hq=>by
      rcases hk23 q hq with h|h
      ·exact hN.le q h
      ·omega
     have hbD3:br∉keys D3:=fun hm=>by
      rcases hk23 br hm with h|h
      ·exact hbD h
      ·exact Nat.lt_irrefl _ (Nat.lt_of_lt_of_le (zh_ hA3 (by rw[ze_];exact List.mem_append_right _ (by simp[keys]))) h)
     have hG4:Gr (D3++ [(b9, .cells (pcC p).toArray 194 (0,0))]) 194 2 v3 (out++ [p]).length ((out++ [p]).map pcC).flatten:=by
      have:=hG3.app (M:= [(b9,Obj.cells (pcC p).toArray 194 (0,0))])
      simpa using this
     have hN4:New w.heap.size (D3++ [(b9,Obj.cells (pcC p).toArray 194 (0,0))]):=hN3.app ⟨hw9,trivial⟩
     have hbD4:br∉keys (D3++ [(b9,Obj.cells (pcC p).toArray 194 (0,0))]):=fun hm=>by
      rw[ze_] at hm
      rcases List.mem_append.1 hm with h|h
      ·exact hbD3 h
      ·simp[keys] at h;omega
     refine Ow.permL (M:=(br, .cells #[vs d,vi a2,vi e2] 108 (0,0)):: (D3++ [(b9, .cells (pcC p).toArray 194 (0,0))])) (by classical exact List.perm_iff_count.2 fun a=>by simp only[List.count_append,List.count_cons,List.count_nil]<;>omega) ?_
     generalize (D3++ [(b9,Obj.cells (pcC p).toArray 194 (0,0))])=D4 at*
     refine ko @zR_ ?_
     first|with_reducible refine ks [] @zR_ ?_|refine kp @zR_ ?_
     refine Ow.callFV rfl Tryz.call50 (fun w' hw'=>xc_ br d a2 e2 w' (hw'.has _ _ List.mem_cons_self)) ?_
     have hlen4: ∀m,wt_ (.sl m) v3=some (vi (out++ [p]).length):=fun m=>hG4.len m
     have hB4:BndP (out++ [p]):=by
      intro g hg
      rw[List.length_append,List.length_cons,List.length_nil] at hg
      by_cases hgl:g<out.length
      ·rw[kl_ hgl];exact hB g hgl
      ·rw[kg_ (by omega),show g - out.length=0 by omega]
       exact hpB
     have hle0:e2=0→e=0:=fun h=>by
      by_cases he:e=0
      ·exact he
      ·have:=aqh_ (d:=d) (a:=a) he
       rw[hpE] at this
       exact absurd (this.symm.trans h) he
     have hNw:New w.heap.size ((br,Obj.cells #[vs d,vi a2,vi e2] 108 (0,0))::D4):=⟨hwr,hN4⟩
     by_cases he2:e2=0
     ·have he0:=hle0 he2
      subst he2
      subst he0
      have hlt:a<d.length:=by
       rcases Nat.lt_or_ge a d.length with h|h
       ·exact h
       ·exact absurd ⟨rfl,by omega⟩ hA
      have e00: ((0:Int) !=0)=false:=rfl
      rw[alz_] at hpE
      have hr0: (pcR d a).2.2=0:=by rw[hpE]
      have hup:=X4_ hal hr0
      rw[hpE] at hup
      have hup2:a<a2:=hup
      obtain⟨-,hm0,hpc⟩: (0:Int)=0∧(dM d).2.2=0∧pcs d (dM d).2.1=(out++ (pcs d a).1,(pcs d a).2):=by
       rcases hrel with h|h
       ·exact absurd rfl h.1
       ·exact h
      rw[aeA_ hlt hr0,hpE] at hpc
      have hpc':pcs d (dM d).2.1=((out++ [p])++ (pcs d a2).1,(pcs d a2).2):=by rw[hpc];simp
      by_cases hlen:4099< (out++ [p]).length
      ·have d5:decide ((4099:Int)< ((out++ [p]).length:Int))=true:=decide_eq_true (by omega)
       refine ko (And.intro @zR_ (And.intro @e00 (And.intro @hlen4 (@d5)))) ?_
       first|with_reducible refine ks [] (And.intro @zR_ (And.intro @e00 (And.intro @hlen4 (@d5)))) ?_|refine kp (And.intro @zR_ (And.intro @e00 (And.intro @hlen4 (@d5)))) ?_
       refine Jump.mk ⟨2,br,a2,0,out,v3,(br, .cells #[vs d,vi a2,vi 0] 108 (0,0))::D4⟩ rfl (by show 0<d.length - a+1;omega) (.inr (.inr ⟨rfl,hNw,kD_ hpc' (.inr ?_)⟩)) rfl rfl
       rw[List.length_append];omega
      ·have d5:decide ((4099:Int)< ((out++ [p]).length:Int))=false:=decide_eq_false (by omega)
       refine ko (And.intro @zR_ (And.intro @e00 (And.intro @hlen4 (@d5)))) ?_
       first|with_reducible refine ks [] (And.intro @zR_ (And.intro @e00 (And.intro @hlen4 (@d5)))) ?_|refine kp (And.intro @zR_ (And.intro @e00 (And.intro @hlen4 (@d5)))) ?_
       refine Jump.mk ⟨1,br,a2,0,out++ [p],v3,D4⟩ rfl (by show d.length - a2+1<d.length - a+1;omega) (.inl ⟨rfl,hwr,hN4,hbD4,hG4,hle2.2,hB4,by show(out++ [p]).length≤4099;omega, .inr ⟨rfl,hm0,hpc'⟩⟩) rfl rfl
     ·have e00: (e2 !=0)=true:=by rw[bne_iff_ne];exact he2
      have hno:ke_ d=none:=by
       rcases hrel with h| ⟨rfl,hm0,hpc⟩
       ·exact h.2
       ·have hlt:a<d.length:=by
         rcases Nat.lt_or_ge a d.length with h|h
         ·exact h
         ·exact absurd ⟨rfl,by omega⟩ hA
        rw[alz_] at hpE
        refine kD_ hpc (.inl ?_)
        rw[KX_ hlt (by rw[hpE];exact he2),hpE];exact he2
      refine ko (And.intro @zR_ @e00) ?_
      first|with_reducible refine ks [] (And.intro @zR_ @e00) ?_|refine kp (And.intro @zR_ @e00) ?_
      exact Jump.mk ⟨2,br,a2,0,out,v3,(br, .cells #[vs d,vi a2,vi e2] 108 (0,0))::D4⟩ rfl (by show 0<d.length - a+1;omega) (.inr (.inr ⟨rfl,hNw,hno⟩)) rfl rfl
  ·obtain⟨lab,br,a,e,out,v,D⟩:=g
   obtain⟨hlab,hg⟩:=hg
   simp only at hlab
   subst hlab
   simp only[EL,ES,EH] at hg ⊢
   obtain⟨hwr,hN,hbD,hGr,hB,hol,hm0,hpc⟩:=hg
   simp only[drO]
   simp only[xD_,ZS_,Bool.or_false,Bool.false_or,Bool.or_true,Bool.true_or,Nat.reduceBEq,beq_self_eq_true, ↓reduceIte,Bool.false_eq_true]
   refine kv ?_
   try with_reducible refine qr_ ?_
   first|with_reducible refine ks [] @zR_ ?_|refine kp @zR_ ?_
   have hNw:New w.heap.size ((br,Obj.cells #[vs d,vi a,vi e] 108 (0,0))::D):=⟨hwr,hN⟩
   have hdl:ke_ d=if kO_ (dB d).1 out=((dM d).1,0) then some ((dB d).1.toNat,out) else none:=by
    rw[w7_,if_neg (by rw[hm0];simp),hpc,if_neg (by simp)]
   refine Ow.callFV rfl Tryz.call119 (fun w' hw'=>Zg_ (dB d).1 v out w' (GrI.slV (Gr.i (X:=D) hGr fun q hq=>List.mem_cons_of_mem _ hq) hw' rfl rfl qV_) hB (by omega)) ?_
   by_cases hc:kO_ (dB d).1 out=((dM d).1,0)
   ·rw[if_pos hc] at hdl
    have hb0:=q4_ (s:=d) (a:=0) (e:=0) (most:=4099) (by omega)
    change 0≤ (dB d).1∧(dB d).1≤4099 at hb0
    have e1: ((dM d).1==(dM d).1)=true:=by simp
    have e00: ((0:Int)==0)=true:=rfl
    rw[hc]
    refine ko @zR_ ?_
    first|with_reducible refine ks [] (And.intro @zR_ (And.intro @e00 (@e1))) ?_|refine kp (And.intro @zR_ (And.intro @e00 (@e1))) ?_
    refine⟨_,(ke @zR_), ?_⟩
    refine⟨Ext.of_new hNw, ?_⟩
    unfold KA_
    rw[hdl]
    refine⟨v, ?_,hB,hol,by show(dB d).1.toNat≤4099;omega,Gr.i (X:=D) hGr fun q hq=>List.mem_cons_of_mem _ hq⟩
    rw[show((((dB d).1.toNat,out).1:Nat):Int)=(dB d).1 by show(((dB d).1.toNat:Nat):Int)=_;omega]
    rfl
   ·rw[if_neg hc] at hdl
    have hfin:KA_ d (.tuple #[vi 0, .slice none 0 0,vi 2]) ((br,Obj.cells #[vs d,vi a,vi e] 108 (0,0))::D):=by unfold KA_;rw[hdl]
    by_cases he: (kO_ (dB d).1 out).2=0
    ·have e00: ((kO_ (dB d).1 out).2==0)=true:=by rw[beq_iff_eq];exact he
     have e1: ((kO_ (dB d).1 out).1==(dM d).1)=false:=by
      rw[beq_eq_false_iff_ne]
      intro h
      exact hc (by rw[←h,←he])
     refine ko @zR_ ?_
     first|with_reducible refine ks [] (And.intro @zR_ (And.intro @e00 (@e1))) ?_|refine kp (And.intro @zR_ (And.intro @e00 (@e1))) ?_
     refine⟨_,(ke @zR_), ?_⟩
     exact⟨Ext.of_new hNw,hfin⟩
    ·have e00: ((kO_ (dB d).1 out).2==0)=false:=by rw[beq_eq_false_iff_ne];exact he
     refine ko @zR_ ?_
     first|with_reducible refine ks [] (And.intro @zR_ @e00) ?_|refine kp (And.intro @zR_ @e00) ?_
     refine⟨_,(ke @zR_), ?_⟩
     exact⟨Ext.of_new hNw,hfin⟩
  ·obtain⟨lab,br,a,e,out,v,D⟩:=g
   obtain⟨hlab,hg⟩:=hg
   simp only at hlab
   subst hlab
   simp only[EL,ES,EH] at hg ⊢
   obtain⟨hN,hno⟩:=hg
   simp only[xD_,ZS_,Bool.or_false,Bool.false_or,Bool.or_true,Bool.true_or,Nat.reduceBEq,beq_self_eq_true, ↓reduceIte,Bool.false_eq_true]
   refine kv ?_
   try with_reducible refine qr_ ?_
   first|with_reducible refine ks [] @zR_ ?_|refine kp @zR_ ?_
   refine⟨_,(ke @zR_), ?_⟩
   refine⟨Ext.of_new hN, ?_⟩
   unfold KA_
   rw[hno];rfl
 ·intro key
  repeat first|with_reducible refine ks [999999] @zR_ ?_|refine kw @zR_ ?_
  refine Ow.callF rfl rfl Tryz.call25 (S:=fun B v D=> ∃b',B≤b'∧v=vp b' 0∧D= [(b', .cells #[vs d,vi 0,vi 0] 108 (0,0))]) (fun w' hw'=>wy_ d w') ?_
  rintro B v D hab hB ⟨br,hbr,rfl,rfl⟩
  refine⟨_,Mrg.fresh (by intro q hq;simp only[keys,List.map_cons,List.map_nil,List.mem_singleton] at hq;omega), ?_⟩
  simp only[List.cons_append,List.nil_append]
  have hwr:w.heap.size≤br:=by omega
  refine ko @zR_ ?_
  repeat first|with_reducible refine ks [999999] @zR_ ?_|refine kw @zR_ ?_
  have hle1:=qh_ (s:=d) (a:=0) (e:=0) (most:=4099) (Nat.zero_le _)
  refine Ow.callM rfl rfl Tryz.call49 (by simp[keys]) (fun w' hw'=>qP_ br d 0 0 4099 w' (Nat.zero_le _) hd (hw'.has _ _ List.mem_cons_self)) ?_
  rw[show zs_ d 0 0 4099=dB d from rfl] at hle1 ⊢
  have hle2:=qh_ (s:=d) (a:=(dB d).2.1) (e:=(dB d).2.2) (most:=4099) hle1.2
  refine kn ?_
  refine ko @zR_ ?_
  refine Ow.callM rfl rfl Tryz.call49 (by simp[keys]) (fun w' hw'=>qP_ br d (dB d).2.1 (dB d).2.2 4099 w' hle1.2 hd (hw'.has _ _ List.mem_cons_self)) ?_
  rw[show zs_ d (dB d).2.1 (dB d).2.2 4099=dM d from rfl] at hle2 ⊢
  refine kn ?_
  refine ko @zR_ ?_
  repeat first|with_reducible refine ks [999999] @zR_ ?_|refine kw @zR_ ?_
  have key0:=fun f'=>key (⟨1,br,(dM d).2.1,(dM d).2.2,[], .slice none 0 0,[]⟩) f'
  simp only[xD_,ZS_,Bool.or_false,Bool.false_or,Bool.or_true,Bool.true_or,Nat.reduceBEq,beq_self_eq_true, ↓reduceIte,Bool.false_eq_true] at key0
  clear key
  refine Cw.label ?_
  refine key0 _ (.inl ⟨rfl,hwr,trivial,by simp[keys],Gr.nl,hle2.2,fun g hg=>by simp at hg,by simp, ?_⟩) ?_
  ·by_cases hm: (dM d).2.2=0
   ·exact .inr ⟨hm,hm,by simp⟩
   ·refine .inl ⟨hm, ?_⟩
    rw[w7_,if_pos hm]
  ·rfl
end Go.Proofs
end
section
open Go Go.Proofs Go.Sx Go.StP Go.Flo
namespace Go.Proofs
set_option maxRecDepth 10000
set_option maxHeartbeats 400000
set_option linter.unusedSimpArgs false
theorem Kt_ {d:List UInt8} {p:Nat×List PcL} (h:ke_ d=some p): ∃m,kO_ (p.1:Nat) p.2=(m,0):=by
 rw[w7_] at h
 split at h
 ·cases h
 ·split at h
  ·cases h
  ·split at h
   ·rename_i hc
    cases h
    have hb0:=q4_ (s:=d) (a:=0) (e:=0) (most:=4099) (by omega)
    change 0≤ (dB d).1∧(dB d).1≤4099 at hb0
    refine⟨(dM d).1, ?_⟩
    rw[show(((dB d).1.toNat:Nat):Int)=(dB d).1 by omega]
    exact hc
   ·cases h
set_option linter.defProp false
theorem afl_ (base d:List UInt8) (w:World) (hd:d.length<9223372036854775808):
  Rets Tryz.prog 114 #[vs base,vs d] w (fun v D=>v= .tuple #[vs (xi_ base d).1,vi (xi_ base d).2]∧D= []):=by
 refine Rets.enterV Tryz.func114 rfl (rs:= [.tmp 4, .tmp 5]) Tryz.results114 Tryz.ntmps114 ?_
 refine kf ?_
 first|with_reducible refine ks [] @zy_ ?_|refine kp @zy_ ?_
 refine Ow.callC rfl rfl Tryz.call128 (fun w' hw'=>afr_ d w' hd) (fun B1 v1 D1 hA1 hB1 hN1 hS1=> ?_)
 have hN1':=hN1.mono hB1
 unfold KA_ at hS1
 cases hr:ke_ d with
 |none=>
  rw[hr] at hS1
  have hS1':v1= .tuple #[vi 0, .slice none 0 0,vi 2]:=hS1
  subst hS1'
  have hap:xi_ base d=([],2):=by unfold xi_;rw[hr]
  have e0: ((2:Int) !=0)=true:=rfl
  refine ko @zy_ ?_
  first|with_reducible refine ks [] (And.intro @zy_ @e0) ?_|refine kp (And.intro @zy_ @e0) ?_
  refine⟨_,(ke @zy_),hN1', ?_⟩
  rw[hap];rfl
 |some p=>
  rw[hr] at hS1
  obtain⟨x,rfl,hB,hl4,hp4,hg⟩:=hS1
  have e0: ((0:Int) !=0)=false:=rfl
  by_cases hb:p.1=base.length
  ·have e1: (((p.1:Nat):Int) !=((base.length:Nat):Int))=false:=by rw[hb];exact bne_self_eq_false _
   obtain⟨m,hm⟩:=Kt_ hr
   rw[hb] at hm
   have hap:xi_ base d=(J5_ base p.2,0):=by unfold xi_;rw[hr];simp only;rw[if_neg (by simp[hb])]
   refine ko @zy_ ?_
   first|with_reducible refine ks [] (And.intro @zy_ (And.intro @e0 (@e1))) ?_|refine kp (And.intro @zy_ (And.intro @e0 (@e1))) ?_
   refine Ow.callFV rfl Tryz.call129 (fun w' hw'=>afO_ base x p.2 w' (GrI.slV (hg.mono fun q hq=>by simp[hq]) hw' rfl rfl qV_) hB (by omega)) ?_
   rw[hm,if_pos rfl]
   refine ko @zy_ ?_
   first|with_reducible refine ks [] @zy_ ?_|refine kp @zy_ ?_
   refine⟨_,(ke @zy_),hN1', ?_⟩
   rw[hap];rfl
  ·have e1: (((p.1:Nat):Int) !=((base.length:Nat):Int))=true:=by rw[bne_iff_ne];omega
   have hap:xi_ base d=([],19):=by unfold xi_;rw[hr];simp only;rw[if_pos hb]
   refine ko @zy_ ?_
   first|with_reducible refine ks [] (And.intro @zy_ (And.intro @e0 (@e1))) ?_|refine kp (And.intro @zy_ (And.intro @e0 (@e1))) ?_
   refine⟨_,(ke @zy_),hN1', ?_⟩
   rw[hap];rfl
end Go.Proofs
end
section
open Go Go.Proofs Go.Sx Go.StP Go.Flo
namespace Go.Proofs
set_option maxRecDepth 10000
set_option maxHeartbeats 400000
set_option linter.unusedSimpArgs false
structure PartL where
 d:Bool
 b:Int
 x:List UInt8
def z6_:PartL:=⟨false,0,[]⟩
def zq_ (p:PartL):List Value:= [.bool p.d,vi p.b,vs p.x]
theorem jx_ (p:PartL): (zq_ p).length=3:=rfl
theorem k6_ (p:PartL): (zq_ p).all Value.oneCell'=true:=rfl
def jV_ (l:List PartL):Nat→Nat→Except Int (List Nat)
 |0,_=> .error 11
 |k+1,at_=>
  if(l.getD at_ z6_).d=true then
   (if(l.getD at_ z6_).b<0∨(at_:Int)≤ (l.getD at_ z6_).b then .error 2
   else if k=0 then .error 11
   else(jV_ l k (l.getD at_ z6_).b.toNat).map (at_:: ·))
  else if(l.getD at_ z6_).b≠0 then .error 2 else .ok [at_]
def jZ_ (l:List PartL) (at_:Int):Except Int (List Nat):=
 if 200<l.length∨at_<0∨(l.length:Int)≤at_ then .error 1 else jV_ l 5 at_.toNat
theorem Qo_ {l:List PartL}: ∀ (k a:Nat) (p:List Nat),jV_ l k a= .ok p→jV_ l (k+1) a= .ok p
 |0,_,_,h=>by cases h
 |k+1,a,p,h=>by
  unfold jV_ at h ⊢
  split at h
  ·rename_i hd
   rw[if_pos hd]
   split at h
   ·cases h
   ·rename_i hb
    rw[if_neg hb,if_neg (by omega)]
    split at h
    ·cases h
    ·cases hp:jV_ l k (l.getD a z6_).b.toNat with
     |error e=>rw[hp] at h;cases h
     |ok q=>
      rw[hp] at h
      rw[Qo_ k _ q hp]
      exact h
  ·rename_i hd
   rw[if_neg hd]
   exact h
theorem j4_ {l:List PartL} {a:Nat} (ha:a<l.length) {p:List Nat} (h:jZ_ l a= .ok p):
  (p= [a]∧(l.getD a z6_).d=false∧(l.getD a z6_).b=0)∨ ∃b q,p=a::q∧(l.getD a z6_).d=true∧(l.getD a z6_).b=(b:Nat)∧b<a∧jZ_ l b= .ok q:=by
 unfold jZ_ at h
 split at h
 ·cases h
 ·rename_i hc
  rw[Int.toNat_natCast] at h
  unfold jV_ at h
  split at h
  ·rename_i hd
   split at h
   ·cases h
   ·rename_i hb
    rw[if_neg (by omega)] at h
    cases hp:jV_ l 4 (l.getD a z6_).b.toNat with
    |error e=>rw[hp] at h;cases h
    |ok q=>
     rw[hp] at h
     right
     refine⟨(l.getD a z6_).b.toNat,q, ?_,hd,by omega,by omega, ?_⟩
     ·cases h;rfl
     ·unfold jZ_
      rw[if_neg (by omega),Int.toNat_natCast]
      exact Qo_ 4 _ _ hp
  ·rename_i hd
   split at h
   ·cases h
   ·rename_i hb
    left
    cases h
    exact⟨rfl,by simpa using hd,by simpa using hb⟩
def jD_ (p:PartL) (base:List UInt8):List UInt8×Int:=if p.d=true then xi_ base p.x else if 4099<p.x.length then([],19) else(p.x,0)
def w5_ (l:List PartL):List Nat→Except Int (List UInt8)
 | []=> .ok []
 |a::p=>(w5_ l p).bind fun s=>if(jD_ (l.getD a z6_) s).2=0 then .ok (jD_ (l.getD a z6_) s).1 else .error (jD_ (l.getD a z6_) s).2
def partV (l:List PartL) (at_:Int):Except Int (List UInt8):=(jZ_ l at_).bind (w5_ l)
def x2_ (l:List PartL):Nat→Except Int (List (List UInt8))
 |0=> .ok []
 |k+1=>(x2_ l k).bind fun ts=>(partV l (k:Nat)).map fun s=>ts++ [s]
def JB_ (l:List PartL):Except Int (List (List UInt8)):=if 200<l.length then .error 1 else x2_ l l.length
theorem wN_ {l:List PartL}: ∀ (k:Nat) (ts:List (List UInt8)),x2_ l k= .ok ts→ts.length=k
 |0,ts,h=>by cases h;rfl
 |k+1,ts,h=>by
  unfold x2_ at h
  cases hg:x2_ l k with
  |error e=>rw[hg] at h;cases h
  |ok us=>
   rw[hg] at h
   have:=wN_ k us hg
   change(partV l (k:Nat)).map (fun s=>us++ [s])= .ok ts at h
   cases hp:partV l (k:Nat) with
   |error e=>rw[hp] at h;cases h
   |ok s=>rw[hp] at h;cases h;simp[this]
theorem vE_ {l:List PartL}: ∀ (k:Nat) (ts:List (List UInt8)),x2_ l k= .ok ts→ ∀j,j<k→partV l (j:Nat)= .ok (ts.getD j [])
 |0,_,_,j,hj=>by omega
 |k+1,ts,h,j,hj=>by
  unfold x2_ at h
  cases hg:x2_ l k with
  |error e=>rw[hg] at h;cases h
  |ok us=>
   rw[hg] at h
   have hl:=wN_ k us hg
   change(partV l (k:Nat)).map (fun s=>us++ [s])= .ok ts at h
   cases hp:partV l (k:Nat) with
   |error e=>rw[hp] at h;cases h
   |ok s=>
    rw[hp] at h
    cases h
    by_cases hjk:j<k
    ·rw[vE_ k us hg j hjk,kl_ (by omega)]
    ·obtain rfl:j=k:=by omega
     rw[hp,kg_ (by omega),hl,Nat.sub_self]
     rfl
theorem ac2_ {l:List PartL} {k:Nat} {ts:List (List UInt8)} (hk:k<l.length) (h:x2_ l k= .ok ts) {p:List Nat} (hp:jZ_ l (k:Nat)= .ok p):
  partV l (k:Nat)=(if(jD_ (l.getD k z6_) (if 1<p.length then ts.getD (p.getD 1 0) [] else [])).2=0 then .ok (jD_ (l.getD k z6_) (if 1<p.length then ts.getD (p.getD 1 0) [] else [])).1 else .error (jD_ (l.getD k z6_) (if 1<p.length then ts.getD (p.getD 1 0) [] else [])).2):=by
 unfold partV
 rw[hp]
 rcases j4_ hk hp with⟨rfl,hd,hb⟩ | ⟨b,q,rfl,hd,hb,hlt,hq⟩
 ·rfl
 ·have h1:=vE_ k ts h b hlt
  unfold partV at h1
  rw[hq] at h1
  have hq0: ∃r,q=b::r:=by
   rcases j4_ (by omega) hq with⟨rfl,-⟩ | ⟨b2,q2,rfl,-⟩
   ·exact⟨[],rfl⟩
   ·exact⟨q2,rfl⟩
  obtain⟨r,rfl⟩:=hq0
  change w5_ l (b::r)=_ at h1
  show w5_ l (k::b::r)=_
  rw[w5_,h1]
  rw[if_pos (show 1< (k::b::r).length by simp)]
  rfl
end Go.Proofs
end
section
open Go Go.Proofs Go.Sx Go.StP Go.Flo
namespace Go.Proofs
set_option maxRecDepth 10000
set_option maxHeartbeats 400000
set_option linter.unusedSimpArgs false
def jt_ (n:Nat):List Value:= [vi n]
theorem jm_ (n:Nat): (jt_ n).length=1:=rfl
abbrev v8_ (w:World) (v:Value) (l:List PartL):Prop:=SlV 3 zq_ z6_ w v l
theorem vI_ (p:PartL) (E:TypeId) (n:Nat):zl_ (some (false,n)) (some (.cells (zq_ p).toArray E (0,0))) 0=some (.bool p.d):=(rfl)
theorem vz_ (p:PartL) (E:TypeId) (n:Nat):zl_ (some (false,n)) (some (.cells (zq_ p).toArray E (0,0))) 1=some (vi p.b):=(rfl)
theorem vA_ (p:PartL) (E:TypeId) (n:Nat):zl_ (some (false,n)) (some (.cells (zq_ p).toArray E (0,0))) 2=some (vs p.x):=(rfl)
theorem jG_ (p:PartL):Value.cells (.agg (zq_ p).toArray)=(zq_ p).toArray:=za_ _
theorem xE_:zI_ Tryz.prog 93=some (.agg (zq_ z6_).toArray):=id (by kernel_rfl)
theorem xu_ (p q:PartL) (E:TypeId):zn_ (some (true,3)) (some (.cells (zq_ q).toArray E (0,0))) 0 (.agg (zq_ p).toArray)=some (.cells (zq_ p).toArray E (0,0)):=
 j2_ (zq_ p) (n:=3) true (zq_ q).toArray E rfl (k6_ p) rfl
structure PaG where
 lab:Nat
 at_:Nat
 out:List Nat
 v:Value
 b7:Nat
 q:PartL
 e:Int
 D:zb_
def PaJ (l:List PartL) (a0:Int) (n:Nat) (g:PaG):Prop:=
 (g.lab=1∧n≤g.b7∧New n g.D∧g.b7∉keys g.D∧Gr g.D 3 1 g.v g.out.length (g.out.map jt_).flatten∧g.at_<l.length∧l.length≤200∧g.out.length≤4∧
  jZ_ l a0=(jV_ l (5 - g.out.length) g.at_).map (g.out++ ·))∨
 (g.lab=0∧New n g.D∧jZ_ l a0= .error g.e)
def PaH (g:PaG):zb_:=match g.lab with
 |1=>(g.b7, .cells (zq_ g.q).toArray 93 (0,0))::g.D
 |_=>g.D
def PaS (g:PaG):List (Nat×Value):=match g.lab with
 |1=> [(1,vi g.at_),(6,g.v),(7,vp g.b7 0),(8,vi 1)]
 |_=> [(8,vi g.e)]
def PaL (g:PaG):Nat:=match g.lab with
 |1=>1
 |_=>0
def aiC_ (l:List PartL) (a0:Int) (v:Value) (D:zb_):Prop:=match jZ_ l a0 with
 | .ok p=> ∃x,v= .tuple #[x,vi 0]∧p.length≤5∧GrI D 3 1 x p.length (p.map jt_).flatten
 | .error e=>v= .tuple #[.slice none 0 0,vi e]
set_option linter.defProp false
def qe_:=And.intro (And.intro (And.intro (@zA_) (@zz_)) (And.intro (@vI_) (@vz_))) (And.intro (And.intro (@vA_) (@jG_)) (And.intro (@Sx.tup2_0) (@Sx.tup2_1)))
theorem WM_ (v0:Value) (l:List PartL) (a0:Int) (w:World) (hv:v8_ w v0 l) (hl:l.length<1000000):
  Rets Tryz.prog 90 #[v0,vi a0] w (XS w [] (aiC_ l a0)):=by
 obtain⟨bb,off,arr,E,fz,hr⟩:=hv.row
 have ln:=hv.len
 refine Rets.enterX Tryz.func90 rfl (rs:= [.tmp 4, .tmp 5]) Tryz.results90 Tryz.ntmps90 (fun p hp=>by cases hp) (by simp[keys]) ?_
 refine kf ?_
 first|with_reducible refine ks [] @qe_ ?_|refine kp @qe_ ?_
 refine Cw.scopeL (G:=PaG) (fun g=>PaL g) [6,7,8,9,10,11,12,13,14,15,16,17,18,19,20,21,22,23,24,25,26,27,28,29,31,32,33,34,35,36,37,38,39,40,41,42,43,30,44,45,46,47,48,49,50,51,53,54,55,52,56,4,5,58,59,60,57,61,62,1,63] (fun g=>PaS g) (fun g=>PaH g) (fun g=>PaJ l a0 w.heap.size g) (fun g=>(if g.lab=1 then 6 - g.out.length else 0)) ?_ ?_ ?_
 ·intro g
  unfold PaL
  split<;>rfl
 ·intro g j hg
  rcases hg with hg|hg
  ·obtain⟨lab,a,out,v,b7,q,e,D⟩:=g
   obtain⟨hlab,hg⟩:=hg
   simp only at hlab
   subst hlab
   simp only[PaL,PaS,PaH] at hg ⊢
   obtain⟨hw7,hN,hbD,hGr,hal,h200,hol,hpv⟩:=hg
   have hb0:0<l.length:=by omega
   have hbl:=hr.lt hb0
   have i2:=hr.idx true a hal
   have ld:=hr.load jx_ (by omega) hal
   simp only[xD_,ZS_,Bool.or_false,Bool.false_or,Bool.or_true,Bool.true_or,Nat.reduceBEq,beq_self_eq_true, ↓reduceIte,Bool.false_eq_true]
   refine kv ?_
   try with_reducible refine qr_ ?_
   first|with_reducible refine ks [] @qe_ ?_|refine kp @qe_ ?_
   refine Ow.buildSlice (e:=3) #[vi a] rfl rfl (by kernel_rfl) fun b9 hb9 hw9=> ?_
   have h79:b7<b9:=zh_ hb9 (by simp[keys])
   refine Ow.permL (M:=D++ [(b7, .cells (zq_ q).toArray 93 (0,0)),(b9, .cells #[vi a] 3 (0,0))]) (by classical exact List.perm_iff_count.2 fun a=>by simp only[List.count_append,List.count_cons,List.count_nil]<;>omega) ?_
   refine ko @qe_ ?_
   refine Ow.appendXG (e:=3) (k:=1) (new:=jt_ a) (X:=D) v rfl rfl rfl rfl Tryz.underlying31 (id (by kernel_rfl):qc_ Tryz.prog 3=some (false,1)) (by kernel_rfl) (id (by kernel_rfl):zI_ Tryz.prog 3=some (vi 0)) rfl Tryz.underlying31 (by intro k h;cases h) hGr (fun w' hw'=>AppX.one1 (hw'.has b9 (.cells #[vi a] 3 (0,0)) (by simp)) (jm_ a) rfl) (by omega) (fun B3 v3 D3 hA3 hB3 hG3 hk13 hk23 hlk3=> ?_)
   have hN3:New w.heap.size D3:=New.of_le fun c hc=>by
    rcases hk23 c hc with h|h
    ·exact hN.le c h
    ·omega
   have hbD3:b7∉keys D3:=fun hm=>by
    rcases hk23 b7 hm with h|h
    ·exact hbD h
    ·exact Nat.lt_irrefl _ (Nat.lt_of_lt_of_le (zh_ hA3 (by rw[ze_];exact List.mem_append_right _ (by simp[keys]))) h)
   have hG4:Gr (D3++ [(b9, .cells #[vi a] 3 (0,0))]) 3 1 v3 (out++ [a]).length ((out++ [a]).map jt_).flatten:=by
    have:=hG3.app (M:= [(b9,Obj.cells #[vi a] 3 (0,0))])
    simpa using this
   have hN4:New w.heap.size (D3++ [(b9,Obj.cells #[vi a] 3 (0,0))]):=hN3.app ⟨hw9,trivial⟩
   have hbD4:b7∉keys (D3++ [(b9,Obj.cells #[vi a] 3 (0,0))]):=fun hm=>by
    rw[ze_] at hm
    rcases List.mem_append.1 hm with h|h
    ·exact hbD3 h
    ·simp[keys] at h;omega
   refine Ow.permL (M:=(b7, .cells (zq_ q).toArray 93 (0,0)):: (D3++ [(b9, .cells #[vi a] 3 (0,0))])) (by classical exact List.perm_iff_count.2 fun a=>by simp only[List.count_append,List.count_cons,List.count_nil]<;>omega) ?_
   generalize (D3++ [(b9,Obj.cells #[vi a] 3 (0,0))])=D4 at*
   have rd:zk_ w ((b7,Obj.cells (zq_ q).toArray 93 (0,0))::D4) bb=some (.cells arr E fz):=by
    rw[zX_ (by simp only[keys,List.map_cons,List.mem_cons,not_or];exact⟨by omega,hN4.not hbl⟩)];exact hr.has hb0
   have hk5:jV_ l (5 - out.length) a=jV_ l (5 - out.length - 1+1) a:=by congr 1;omega
   rw[hk5,jV_] at hpv
   generalize hp:l.getD a z6_=p at*
   have hst:=xu_ p q 93
   have hlen4: ∀m,wt_ (.sl m) v3=some (vi (out++ [a]).length):=fun m=>hG4.len m
   have hN7:New w.heap.size ((b7,Obj.cells (zq_ p).toArray 93 (0,0))::D4):=⟨hw7,hN4⟩
   cases hd:p.d
   ·rw[hd,if_neg (by simp)] at hpv
    by_cases hb:p.b=0
    ·have e1: (p.b !=0)=false:=by rw[hb];rfl
     have nf: (!false)=true:=rfl
     rw[if_neg (by simp[hb])] at hpv
     refine ko @qe_ ?_
     first|with_reducible refine ks [] (And.intro @qe_ (And.intro @i2 (And.intro @rd (And.intro @ld (And.intro @hst (And.intro @hd (And.intro @e1 (@nf)))))))) ?_|refine kp (And.intro @qe_ (And.intro @i2 (And.intro @rd (And.intro @ld (And.intro @hst (And.intro @hd (And.intro @e1 (@nf)))))))) ?_
     refine⟨_,(ke @qe_), ?_⟩
     refine⟨Ext.of_new hN7, ?_⟩
     unfold aiC_
     rw[hpv]
     refine⟨v3,rfl,by show(out++ [a]).length≤5;rw[List.length_append];simp;omega,Gr.i (X:=D4) hG4 fun c hc=>List.mem_cons_of_mem _ hc⟩
    ·have e1: (p.b !=0)=true:=by rw[bne_iff_ne];exact hb
     have nf: (!false)=true:=rfl
     rw[if_pos hb] at hpv
     refine ko @qe_ ?_
     first|with_reducible refine ks [] (And.intro @qe_ (And.intro @i2 (And.intro @rd (And.intro @ld (And.intro @hst (And.intro @hd (And.intro @e1 (@nf)))))))) ?_|refine kp (And.intro @qe_ (And.intro @i2 (And.intro @rd (And.intro @ld (And.intro @hst (And.intro @hd (And.intro @e1 (@nf)))))))) ?_
     exact Jump.mk ⟨0,0,[],v3,0,p,2,(b7, .cells (zq_ p).toArray 93 (0,0))::D4⟩ rfl (by show 0<6 - out.length;omega) (.inr ⟨rfl,hN7,hpv⟩) rfl rfl
   ·rw[hd,if_pos rfl] at hpv
    have nt: (!true)=false:=rfl
    by_cases hb:p.b<0
    ·have e1:decide (p.b<0)=true:=decide_eq_true hb
     rw[if_pos (.inl hb)] at hpv
     refine ko @qe_ ?_
     first|with_reducible refine ks [] (And.intro @qe_ (And.intro @i2 (And.intro @rd (And.intro @ld (And.intro @hst (And.intro @hd (And.intro @e1 (@nt)))))))) ?_|refine kp (And.intro @qe_ (And.intro @i2 (And.intro @rd (And.intro @ld (And.intro @hst (And.intro @hd (And.intro @e1 (@nt)))))))) ?_
     exact Jump.mk ⟨0,0,[],v3,0,p,2,(b7, .cells (zq_ p).toArray 93 (0,0))::D4⟩ rfl (by show 0<6 - out.length;omega) (.inr ⟨rfl,hN7,hpv⟩) rfl rfl
    ·have e1:decide (p.b<0)=false:=decide_eq_false hb
     by_cases hb2: (a:Int)≤p.b
     ·have e2:decide ((a:Int)≤p.b)=true:=decide_eq_true hb2
      rw[if_pos (.inr hb2)] at hpv
      refine ko @qe_ ?_
      first|with_reducible refine ks [] (And.intro @qe_ (And.intro @i2 (And.intro @rd (And.intro @ld (And.intro @hst (And.intro @hd (And.intro @e1 (And.intro @e2 (@nt))))))))) ?_|refine kp (And.intro @qe_ (And.intro @i2 (And.intro @rd (And.intro @ld (And.intro @hst (And.intro @hd (And.intro @e1 (And.intro @e2 (@nt))))))))) ?_
      exact Jump.mk ⟨0,0,[],v3,0,p,2,(b7, .cells (zq_ p).toArray 93 (0,0))::D4⟩ rfl (by show 0<6 - out.length;omega) (.inr ⟨rfl,hN7,hpv⟩) rfl rfl
     ·have e2:decide ((a:Int)≤p.b)=false:=decide_eq_false hb2
      rw[if_neg (by omega)] at hpv
      by_cases ho:out.length=4
      ·have e3:decide ((4:Int)< ((out++ [a]).length:Int))=true:=by rw[List.length_append];exact decide_eq_true (by simp;omega)
       rw[if_pos (by omega)] at hpv
       refine ko @qe_ ?_
       first|with_reducible refine ks [] (And.intro @qe_ (And.intro @i2 (And.intro @rd (And.intro @ld (And.intro @hst (And.intro @hd (And.intro @e1 (And.intro @e2 (And.intro @nt (And.intro @hlen4 (@e3))))))))))) ?_|refine kp (And.intro @qe_ (And.intro @i2 (And.intro @rd (And.intro @ld (And.intro @hst (And.intro @hd (And.intro @e1 (And.intro @e2 (And.intro @nt (And.intro @hlen4 (@e3))))))))))) ?_
       exact Jump.mk ⟨0,0,[],v3,0,p,11,(b7, .cells (zq_ p).toArray 93 (0,0))::D4⟩ rfl (by show 0<6 - out.length;omega) (.inr ⟨rfl,hN7,hpv⟩) rfl rfl
      ·have e3:decide ((4:Int)< ((out++ [a]).length:Int))=false:=by rw[List.length_append];exact decide_eq_false (by simp;omega)
       rw[if_neg (by omega)] at hpv
       obtain⟨Bn,hBn⟩: ∃Bn:Nat,p.b=(Bn:Int):=⟨p.b.toNat,by omega⟩
       have hol2: (out++ [a]).length=out.length+1:=by simp
       refine ko @qe_ ?_
       first|with_reducible refine ks [] (And.intro @qe_ (And.intro @i2 (And.intro @rd (And.intro @ld (And.intro @hst (And.intro @hd (And.intro @e1 (And.intro @e2 (And.intro @nt (And.intro @hlen4 (@e3))))))))))) ?_|refine kp (And.intro @qe_ (And.intro @i2 (And.intro @rd (And.intro @ld (And.intro @hst (And.intro @hd (And.intro @e1 (And.intro @e2 (And.intro @nt (And.intro @hlen4 (@e3))))))))))) ?_
       rw[hBn]
       refine Jump.mk ⟨1,Bn,out++ [a],v3,b7,p,1,D4⟩ rfl (by show 6 - (out++ [a]).length<6 - out.length;omega) (.inl ⟨rfl,hw7,hN4,hbD4,hG4,by show Bn<l.length;omega,h200,by show(out++ [a]).length≤4;omega, ?_⟩) rfl rfl
       show jZ_ l a0=(jV_ l (5 - (out++ [a]).length) Bn).map ((out++ [a])++ ·)
       rw[hpv,hBn,Int.toNat_natCast,show 5 - (out++ [a]).length=5 - out.length - 1 by omega]
       cases jV_ l (5 - out.length - 1) Bn with
       |error x=>rfl
       |ok x=>show Except.ok _=Except.ok _;simp
  ·obtain⟨lab,a,out,v,b7,q,e,D⟩:=g
   obtain⟨hlab,hg⟩:=hg
   simp only at hlab
   subst hlab
   simp only[PaL,PaS,PaH] at hg ⊢
   obtain⟨hN,hno⟩:=hg
   simp only[xD_,ZS_,Bool.or_false,Bool.false_or,Bool.or_true,Bool.true_or,Nat.reduceBEq,beq_self_eq_true, ↓reduceIte,Bool.false_eq_true]
   refine kv ?_
   try with_reducible refine qr_ ?_
   first|with_reducible refine ks [] @qe_ ?_|refine kp @qe_ ?_
   refine⟨_,(ke @qe_), ?_⟩
   refine⟨Ext.of_new hN, ?_⟩
   unfold aiC_
   rw[hno];rfl
 ·intro key
  repeat first|with_reducible refine ks [999999] @qe_ ?_|refine kw @qe_ ?_
  refine Ow.alloc rfl rfl xE_ fun b7 hb7 hw7=> ?_
  simp only[za_,List.nil_append,List.cons_append]
  refine ko @qe_ ?_
  by_cases h1:200<l.length
  ·have d1:decide ((200:Int)< (l.length:Int))=true:=decide_eq_true (by omega)
   have hpv:jZ_ l a0= .error 1:=by unfold jZ_;rw[if_pos (.inl h1)]
   repeat first|with_reducible refine ks [999999] (And.intro @qe_ (And.intro @ln (@d1))) ?_|refine kw (And.intro @qe_ (And.intro @ln (@d1))) ?_
   exact Jump.mk ⟨0,0,[], .slice none 0 0,0,z6_,1,[(b7, .cells (zq_ z6_).toArray 93 (0,0))]⟩ rfl trivial (.inr ⟨rfl,⟨hw7,trivial⟩,hpv⟩) rfl rfl
  ·have d1:decide ((200:Int)< (l.length:Int))=false:=decide_eq_false (by omega)
   by_cases h2:a0<0
   ·have d2:decide (a0<0)=true:=decide_eq_true h2
    have hpv:jZ_ l a0= .error 1:=by unfold jZ_;rw[if_pos (.inr (.inl h2))]
    repeat first|with_reducible refine ks [999999] (And.intro @qe_ (And.intro @ln (And.intro @d1 (@d2)))) ?_|refine kw (And.intro @qe_ (And.intro @ln (And.intro @d1 (@d2)))) ?_
    exact Jump.mk ⟨0,0,[], .slice none 0 0,0,z6_,1,[(b7, .cells (zq_ z6_).toArray 93 (0,0))]⟩ rfl trivial (.inr ⟨rfl,⟨hw7,trivial⟩,hpv⟩) rfl rfl
   ·have d2:decide (a0<0)=false:=decide_eq_false h2
    by_cases h3: (l.length:Int)≤a0
    ·have d3:decide ((l.length:Int)≤a0)=true:=decide_eq_true h3
     have hpv:jZ_ l a0= .error 1:=by unfold jZ_;rw[if_pos (.inr (.inr h3))]
     repeat first|with_reducible refine ks [999999] (And.intro @qe_ (And.intro @ln (And.intro @d1 (And.intro @d2 (@d3))))) ?_|refine kw (And.intro @qe_ (And.intro @ln (And.intro @d1 (And.intro @d2 (@d3))))) ?_
     exact Jump.mk ⟨0,0,[], .slice none 0 0,0,z6_,1,[(b7, .cells (zq_ z6_).toArray 93 (0,0))]⟩ rfl trivial (.inr ⟨rfl,⟨hw7,trivial⟩,hpv⟩) rfl rfl
    ·have d3:decide ((l.length:Int)≤a0)=false:=decide_eq_false h3
     obtain⟨A,rfl⟩: ∃A:Nat,a0=(A:Int):=⟨a0.toNat,by omega⟩
     repeat first|with_reducible refine ks [999999] (And.intro @qe_ (And.intro @ln (And.intro @d1 (And.intro @d2 (@d3))))) ?_|refine kw (And.intro @qe_ (And.intro @ln (And.intro @d1 (And.intro @d2 (@d3))))) ?_
     have key0:=fun f'=>key (⟨1,A,[], .slice none 0 0,b7,z6_,1,[]⟩) f'
     simp only[xD_,ZS_,Bool.or_false,Bool.false_or,Bool.or_true,Bool.true_or,Nat.reduceBEq,beq_self_eq_true, ↓reduceIte,Bool.false_eq_true] at key0
     clear key
     refine Cw.label ?_
     refine key0 _ (.inl ⟨rfl,hw7,trivial,by simp[keys],Gr.nl,by show A<l.length;omega,by omega,by simp, ?_⟩) ?_
     ·show jZ_ l (A:Int)=(jV_ l 5 A).map ([]++ ·)
      unfold jZ_
      rw[if_neg (by omega),Int.toNat_natCast]
      cases jV_ l 5 A with
      |error x=>rfl
      |ok x=>rfl
     ·rfl
end Go.Proofs
end
section
open Go Go.Proofs Go.Sx Go.StP Go.Flo
namespace Go.Proofs
set_option maxRecDepth 10000
set_option maxHeartbeats 400000
set_option linter.unusedSimpArgs false
theorem Kn_ {l:List PartL}: ∀ (k a:Nat) (e:Int),jV_ l k a= .error e→e≠0
 |0,_,e,h=>by cases h;decide
 |k+1,a,e,h=>by
  unfold jV_ at h
  split at h
  ·split at h
   ·cases h;decide
   ·split at h
    ·cases h;decide
    ·cases hp:jV_ l k (l.getD a z6_).b.toNat with
     |error x=>rw[hp] at h;cases h;exact Kn_ k _ _ hp
     |ok q=>rw[hp] at h;cases h
  ·split at h
   ·cases h;decide
   ·cases h
theorem QA_ {l:List PartL} {a:Int} {e:Int} (h:jZ_ l a= .error e):e≠0:=by
 unfold jZ_ at h
 split at h
 ·cases h;decide
 ·exact Kn_ _ _ _ h
theorem anY_ {w0 w:World} {L D:zb_} {E:TypeId} {v:Value} {l:List Nat} (h:GrI D E 1 v l.length (l.map jt_).flatten) (hD: ∀p,p∈D→p∈L) (hw:Hp w0 L w):l.length=0∨ ∃b c rest,v=vsl b 0 l.length c∧b∈keys D∧zk_ w0 L b=some (J7_ jt_ E rest l):=by
 obtain⟨X,hX,h| ⟨h0,-⟩⟩:=h
 ·rcases h.inv with⟨-,h0,-⟩ | ⟨b,c,rest,rfl,hl,h1,h2,h3,h4⟩
  ·exact .inl h0
  ·exact .inr ⟨b,c,rest,rfl,List.mem_map_of_mem (f:=Prod.fst) (hX _ (zw_ hl)),zt_ (zF_ hw.nodup (hD _ (hX _ (zw_ hl))))⟩
 ·exact .inl h0
theorem alP_ {E:TypeId} {rest:List Value} {l:List Nat} (n i:Nat) (hi:i<l.length):zl_ (some (false,n)) (some (J7_ jt_ E rest l)) i=some (vi (l.getD i 0)):=by
 unfold J7_ zl_
 have e: (l.map jt_).flatten=l.map fun n=>vi (n:Nat):=by
  clear hi
  induction l with
  |nil=>rfl
  |cons a l ih=>rw[List.map_cons,List.flatten_cons,List.map_cons,ih];rfl
 simp only[e]
 rw[List.getElem?_toArray,List.getElem?_append_left (by simpa using hi),List.getElem?_map,List.getElem?_eq_getElem hi,List.getD_eq_getElem?_getD,List.getElem?_eq_getElem hi]
 rfl
def BndL (l:List PartL):Prop:= ∀g,g<l.length→(l.getD g z6_).x.length<9223372036854775808
set_option linter.defProp false
theorem Wm_ (p:PartL) (base:List UInt8) (w:World) (hx:p.x.length<9223372036854775808):
  Rets Tryz.prog 91 #[.agg (zq_ p).toArray,vs base] w (fun v D=>v= .tuple #[vs (jD_ p base).1,vi (jD_ p base).2]∧D= []):=by
 refine Rets.enterV Tryz.func91 rfl (rs:= [.tmp 4, .tmp 5]) Tryz.results91 Tryz.ntmps91 ?_
 refine kf ?_
 first|with_reducible refine ks [] @qe_ ?_|refine kp @qe_ ?_
 refine Ow.box rfl rfl fun b2 hb2 hw2=> ?_
 simp only[zD_,zH_,zG_,za_,List.nil_append,List.cons_append]
 refine Ow.go rfl ?_
 simp(disch:=(first|assumption|omega| (simp only[wr_,we_,UInt64.reduceToNat];try omega))) only[↓Sx.S0,Sx.S1,Tryz.fx,qe_,Nat.reduceAdd,Nat.reducePow,Int.reducePow,Nat.reduceBEq, ↓reduceIte,UInt8.reduceToNat,UInt16.reduceToNat,UInt32.reduceToNat,UInt64.reduceToNat,Int.reduceToNat]
 cases hd:p.d
 ·by_cases hl:4099<p.x.length
  ·have d1:decide ((4099:Int)< (p.x.length:Int))=true:=decide_eq_true (by omega)
   first|with_reducible refine ks [] (And.intro @qe_ (And.intro @hd (@d1))) ?_|refine kp (And.intro @qe_ (And.intro @hd (@d1))) ?_
   refine⟨_,(ke @qe_),⟨hw2,trivial⟩, ?_⟩
   unfold jD_;rw[if_neg (by simp[hd]),if_pos hl];rfl
  ·have d1:decide ((4099:Int)< (p.x.length:Int))=false:=decide_eq_false (by omega)
   first|with_reducible refine ks [] (And.intro @qe_ (And.intro @hd (@d1))) ?_|refine kp (And.intro @qe_ (And.intro @hd (@d1))) ?_
   refine⟨_,(ke @qe_),⟨hw2,trivial⟩, ?_⟩
   unfold jD_;rw[if_neg (by simp[hd]),if_neg hl];rfl
 ·first|with_reducible refine ks [] (And.intro @qe_ @hd) ?_|refine kp (And.intro @qe_ @hd) ?_
  refine Ow.callFV rfl Tryz.call114 (fun w' hw'=>afl_ base p.x w' hx) ?_
  refine ko @qe_ ?_
  first|with_reducible refine ks [] @qe_ ?_|refine kp @qe_ ?_
  refine⟨_,(ke @qe_),⟨hw2,trivial⟩, ?_⟩
  unfold jD_;rw[if_pos hd];rfl
def aoV_ (r:Except Int (List UInt8)):Value:=match r with
 | .ok s=> .tuple #[vs s,vi 0]
 | .error e=> .tuple #[vs [],vi e]
end Go.Proofs
end
namespace Go.Sx
open Go
section
variable {α β:Type} [BEq α] [LawfulBEq α] (encK:α→Value) (encV:β→Value)
def WI_ (k:α):List (α×β)→Nat→Option (Nat×β)
 | [],_=>none
 |p::r,i=>if k==p.1 then some (i,p.2) else WI_ k r (i+1)
def updG (k:α) (v:β):List (α×β)→List (α×β)
 | []=> [(k,v)]
 |p::r=>if k==p.1 then(p.1,v)::r else p::updG k v r
def getG (k:α) (z:β) (m:List (α×β)):β:=match m.find? fun p=>k==p.1 with|some p=>p.2|none=>z
def kQ_ (p:α×β):Value×Value:=(encK p.1,encV p.2)
def MapG (o:Obj) (m:List (α×β)):Prop:= ∃es clock,o= .map es clock∧es.toList.map (fun e=>(e.key,e.val))=m.map (kQ_ encK encV)∧(es.toList.map (·.born)++ [clock]).Pairwise (· < ·)
structure KeyOk (P:Program) (kt:TypeId) (encK:α→Value):Prop where
 find: ∀ {β:Type} (encV:β→Value) (w:World) (k:α) (es:List MapEntry) (m:List (α×β)),es.map (fun e=>(e.key,e.val))=m.map (kQ_ encK encV)→(Instr.findKey kt (encK k) es).run P w= .ok ((WI_ k m 0).map fun p=>(p.1,encV p.2)) w
 check: ∀ (w:World) (e:Bool) (k:α),(Instr.checkKey e 10000 kt (encK k)).run P w= .ok () w
 bits: ∀k,Instr.sameBits 10000 (encK k) (encK k)=true
variable {encK encV}
omit [LawfulBEq α] in
theorem Qz_ {kd:TypeDesc} (hs: ∀a b,Instr.sameNow kd (encK a) (encK b)=some (a==b)) (k:α): ∀ (es:List MapEntry) (m:List (α×β)) (i:Nat),es.map (fun e=>(e.key,e.val))=m.map (kQ_ encK encV)→
  Instr.findNow kd (encK k) es i=some ((WI_ k m i).map fun p=>(p.1,encV p.2))
 | [],[],i,_=>rfl
 | [],_::_,_,h=>by cases h
 |_::_,[],_,h=>by cases h
 |e::es,p::m,i,h=>by
  simp only[List.map_cons,List.cons.injEq,kQ_,Prod.mk.injEq] at h
  obtain⟨⟨h1,h2⟩,h3⟩:=h
  unfold Instr.findNow
  have hs:Instr.sameNow kd (encK k) e.key=some (k==p.1):=by rw[h1,hs]
  rw[hs]
  unfold WI_
  cases hk: (k==p.1)
  ·simp only[Bool.false_eq_true, ↓reduceIte]
   exact Qz_ ‹_› k es m (i+1) h3
  ·simp[h2]
theorem QU_ (k:α): ∀ (m:List (α×β)) (i j:Nat) (v:β),WI_ k m i=some (j,v)→i≤j∧ ∃a,m[j - i]? =some (k,a)∧a=v
 | [],_,_,_,h=>by cases h
 |p::r,i,j,v,h=>by
  unfold WI_ at h
  split at h
  ·rename_i hk
   cases h
   refine⟨Nat.le_refl _,p.2, ?_,rfl⟩
   rw[Nat.sub_self,List.getElem?_cons_zero,eq_of_beq hk]
  ·obtain⟨h1,a,h2,h3⟩:=QU_ k r (i+1) j v h
   refine⟨by omega,a, ?_,h3⟩
   rw[show j - i=(j - (i+1))+1 by omega,List.getElem?_cons_succ];exact h2
theorem aal_ (k:α) (v:β): ∀ (es:List MapEntry) (m:List (α×β)) (i j:Nat) (a:β),es.map (fun e=>(e.key,e.val))=m.map (kQ_ encK encV)→WI_ k m i=some (j,a)→
  (es.modify (j - i) fun e=>{e with key:=encK k,val:=encV v}).map (fun e=>(e.key,e.val))=(updG k v m).map (kQ_ encK encV)
 | [],[],_,_,_,_,h=>by cases h
 | [],_::_,_,_,_,h,_=>by cases h
 |_::_,[],_,_,_,h,_=>by cases h
 |e::es,p::m,i,j,a,h,hf=>by
  simp only[List.map_cons,List.cons.injEq,kQ_,Prod.mk.injEq] at h
  obtain⟨⟨h1,h2⟩,h3⟩:=h
  unfold WI_ at hf
  unfold updG
  split at hf
  ·rename_i hk
   cases hf
   rw[if_pos hk,Nat.sub_self]
   simp only[List.modify_zero_cons,List.map_cons,kQ_,eq_of_beq hk]
   rw[h3]
  ·rename_i hk
   have hle:=(QU_ k m (i+1) j a hf).1
   rw[if_neg hk,show j - i=(j - (i+1))+1 by omega]
   simp only[List.modify_succ_cons,List.map_cons,kQ_]
   rw[aal_ k v es m (i+1) j a h3 hf,h1,h2]
omit [LawfulBEq α] in
theorem aa8_ (k:α) (v:β): ∀ (m:List (α×β)) (i:Nat),WI_ k m i=none→updG k v m=m++ [(k,v)]
 | [],_,_=>rfl
 |p::r,i,h=>by
  unfold WI_ at h
  split at h
  ·cases h
  ·rename_i hk
   unfold updG
   rw[if_neg hk,aa8_ k v r (i+1) h];rfl
omit [LawfulBEq α] in
theorem aaG_ (k:α): ∀ (m:List (α×β)) (i:Nat),(WI_ k m i).map Prod.snd=(m.find? fun p=>k==p.1).map Prod.snd
 | [],_=>rfl
 |p::r,i=>by
  unfold WI_
  rw[List.find?_cons]
  cases h: (k==p.1)
  ·simp only[Bool.false_eq_true, ↓reduceIte];exact aaG_ k r (i+1)
  ·rfl
theorem al4_ {k:α} {m:List (α×β)} {es:List MapEntry} {j:Nat} {a:β} (h:es.map (fun e=>(e.key,e.val))=m.map (kQ_ encK encV)) (hf:WI_ k m 0=some (j,a)): ∃e,es[j]? =some e∧e.key=encK k:=by
 obtain⟨-,a',h1,rfl⟩:=QU_ k m 0 j a hf
 rw[Nat.sub_zero] at h1
 have:=congrArg (·[j]?) h
 simp only[List.getElem?_map,h1,Option.map_some] at this
 cases he:es[j]? with
 |none=>rw[he] at this;cases this
 |some e=>
  rw[he] at this
  simp only[Option.map_some,Option.some.injEq,kQ_,Prod.mk.injEq] at this
  exact⟨e,rfl,this.1⟩
theorem KeyOk.int {P:Program} {kt:TypeId} {k0:IntKind} (hu:P.underlying kt=some (.int k0)):KeyOk P kt vi where
 find encV w k es m h:=by
  simp only[Instr.findKey,Sem.run_bind,run_underlying hu w,Result.andThen_ok]
  rw[Qz_ (encK:=vi) (fun a b=>by simp[Instr.sameNow,vi]) k es m 0 h]
  rfl
 check w e k:=by
  unfold Instr.checkKey
  simp only[Sem.run_bind,run_underlying hu w,Result.andThen_ok]
  rfl
 bits k:=by simp[vi,Instr.sameBits]
variable {P:Program} {w0:World} {f:Fr} {L:zb_} {N:Fr→zb_→Prop} {ops:Array Oper} {rest:List Oper} {md:Md}
 {d:Option Tmp} {ty:TypeId} {ps:String} {af:Array Edge} {g:Option (Nat×Bool)}
omit [BEq α] [LawfulBEq α] in
theorem Ow.makeMapG {t:TypeId} {md':Md} (he:md.turn=some md') (hs:zg_ ops f ⟨d, .makeMap t none,ty,ps,af,g⟩=false)
  (hn: ∀b o,jM_ L b→w0.heap.size≤b→MapG encK encV o []→Ow P w0 ops md' rest (qd_ f d (vm b)) (L++ [(b,o)]) N):
  Ow P w0 ops md (⟨d, .makeMap t none,ty,ps,af,g⟩::rest) f L N:=by
 refine Ow.step he rfl hs fun w hw=> .inl ⟨vm w.heap.size,w.alloc (.map #[] 0),_, ?_,hw.alloc _,hn _ _ (z2_ fun b hb=>hw.lt hb) hw.size ⟨#[],0,rfl,rfl,List.pairwise_singleton _ _⟩⟩
 simp only[execOp,Instr.makeMap,Sem.run_bind,Option.map_none]
 rfl
theorem Ow.mapUpdateG {t kt vt:TypeId} {x y z:Operand} {b:Nat} {o:Obj} {m:List (α×β)} {k:α} {v:β} {md':Md} (he:md.turn=some md') (hs:zg_ ops f ⟨d, .mapUpdate t x y z,ty,ps,af,g⟩=false) (hu:P.underlying t=some (.map kt vt)) (hk:KeyOk P kt encK)
  (hx:ev f x=vm b) (hy:ev f y=encK k) (hz:ev f z=encV v) (hl:look L b=some o) (hm:MapG encK encV o m)
  (hn: ∀o',MapG encK encV o' (updG k v m)→Ow P w0 ops md' rest (qd_ f d undef) (setB L b o') N):
  Ow P w0 ops md (⟨d, .mapUpdate t x y z,ty,ps,af,g⟩::rest) f L N:=by
 obtain⟨es,c,rfl,hes,hbo⟩:=hm
 refine Ow.step he rfl hs fun w hw=> ?_
 have hb:=hw.has _ _ (zw_ hl)
 have hfk:=hk.find encV w k es.toList m hes
 cases hf:WI_ k m 0 with
 |none=>
  rw[hf] at hfk
  refine .inr (.inl ⟨{w with heap:=w.heap.setIfInBounds b (.map (es.push {key:=encK k,val:=encV v,born:=c}) (c+1))},_, ?_,hw.set (zo_ hl) rfl rfl rfl rfl,hn _ ⟨_,_,rfl, ?_,by rw[Array.toList_push];exact abf_ hbo rfl⟩⟩)
  ·have: (Instr.mapUpdate t (vm b) (encK k) (encV v)).run P w= .ok () {w with heap:=w.heap.setIfInBounds b (.map (es.push {key:=encK k,val:=encV v,born:=c}) (c+1))}:=by
    simp only[Instr.mapUpdate,vm,Sem.run_bind,run_underlying hu w,Result.andThen_ok,q3_ hb,hk.check,hfk,Option.map_none,xs_ hb]
   simp only[execOp,Sem.run_bind,hx,hy,hz]
   rw[this];rfl
  ·rw[aa8_ k v m 0 hf,Array.toList_push,List.map_append,hes,List.map_append];rfl
 |some p=>
  obtain⟨j,a⟩:=p
  rw[hf] at hfk
  obtain⟨e,hej,hek⟩:=al4_ hes hf
  have hej':es[j]? =some e:=by simpa using hej
  have hkt: (Instr.keyThatStays (((es[j]?).map (·.key)).getD (encK k)) (encK k)).run P w= .ok (encK k) w:=by
   rw[hej',Option.map_some,Option.getD_some,hek]
   unfold Instr.keyThatStays
   rw[if_pos (hk.bits k)];rfl
  refine .inr (.inl ⟨{w with heap:=w.heap.setIfInBounds b (.map (es.modify j fun e=>{e with key:=encK k,val:=encV v}) c)},_, ?_,hw.set (zo_ hl) rfl rfl rfl rfl,hn _ ⟨_,_,rfl, ?_,by rw[Array.toList_modify,Qn_ (g:=fun e=>{e with key:=encK k,val:=encV v}) fun _=>rfl];exact hbo⟩⟩)
  ·have: (Instr.mapUpdate t (vm b) (encK k) (encV v)).run P w= .ok () {w with heap:=w.heap.setIfInBounds b (.map (es.modify j fun e=>{e with key:=encK k,val:=encV v}) c)}:=by
    simp only[Instr.mapUpdate,vm,Sem.run_bind,run_underlying hu w,Result.andThen_ok,q3_ hb,hk.check,hfk,Option.map_some,hkt,xs_ hb]
   simp only[execOp,Sem.run_bind,hx,hy,hz]
   rw[this];rfl
  ·rw[Array.toList_modify]
   have:=aal_ k v es.toList m 0 j a hes hf
   rw[Nat.sub_zero] at this
   exact this
omit [LawfulBEq α] in
theorem Ow.mapGetG {t kt vt:TypeId} {x y:Operand} {b:Nat} {o:Obj} {m:List (α×β)} {k:α} {z:β} {md':Md} (he:md.turn=some md') (hs:zg_ ops f ⟨d, .lookup t x y false,ty,ps,af,g⟩=false) (hu:P.underlying t=some (.map kt vt)) (hk:KeyOk P kt encK)
  (hz:zI_ P vt=some (encV z)) (hx:ev f x=vm b) (hy:ev f y=encK k) (hl:zk_ w0 L b=some o) (hm:MapG encK encV o m)
  (hn:Ow P w0 ops md' rest (qd_ f d (encV (getG k z m))) L N):
  Ow P w0 ops md (⟨d, .lookup t x y false,ty,ps,af,g⟩::rest) f L N:=by
 obtain⟨es,c,rfl,hes,-⟩:=hm
 refine Ow.step he rfl hs fun w hw=> ?_
 have hb:=hw.read hl
 have hfk:=hk.find encV w k es.toList m hes
 refine .inl ⟨encV (getG k z m),w,L, ?_,hw,hn⟩
 have hff:=aaG_ k m 0
 have: (Instr.lookup t (vm b) (encK k) false).run P w= .ok (encV (getG k z m)) w:=by
  cases hf:WI_ k m 0 with
  |none=>
   rw[hf] at hfk hff
   have hg:getG k z m=z:=by
    unfold getG
    cases h:m.find? fun p=>k==p.1 with
    |none=>rfl
    |some q=>rw[h] at hff;cases hff
   simp only[Instr.lookup,vm,Sem.run_bind,run_underlying hu w,Result.andThen_ok,q3_ hb,Sem.run_pure,hk.check,hfk,Option.map_none,jf_ hz w,hg,Bool.false_eq_true, ↓reduceIte]
  |some p=>
   obtain⟨j,a⟩:=p
   rw[hf] at hfk hff
   have hg:getG k z m=a:=by
    unfold getG
    cases h:m.find? fun p=>k==p.1 with
    |none=>rw[h] at hff;cases hff
    |some q=>rw[h] at hff;simp only[Option.map_some,Option.some.injEq] at hff;exact hff.symm
   simp only[Instr.lookup,vm,Sem.run_bind,run_underlying hu w,Result.andThen_ok,q3_ hb,Sem.run_pure,hk.check,hfk,Option.map_some,hg,Bool.false_eq_true, ↓reduceIte]
 simp only[execOp,Sem.run_bind,hx,hy]
 rw[this];rfl
end
section
variable {P:Program} {w0:World} {f:Fr} {L:zb_} {N:Fr→zb_→Prop} {ops:Array Oper} {rest:List Oper} {md:Md} {d:Option Tmp} {ty:TypeId} {ps:String} {af:Array Edge} {g:Option (Nat×Bool)}
theorem Ow.callFnXC {x y:Operand} {b:Value} {cap ars:Array Value} (ha: #[b]++cap=ars) {ts:Array TypeId} {k:FuncId} {X Y:zb_} {S:Value→zb_→Prop} {md':Md} (hL:L=X++Y) (he:md.turn=some md')
  (hs:zg_ ops f ⟨d, .call ⟨.value x, #[y],ts⟩,ty,ps,af,g⟩=false)
  (hx:ev f x= .func (.func k) #[] cap) (hy:ev f y=b)
  (hk: ∀a w,(callFunc k a).run P w= .ok (.enter k a) w)
  (hc: ∀w,Hp w0 L w→(∀p,p∈X→w.heap[p.1]? =some p.2)→(keys X).Nodup→Rets P k ars w (XS w X S))
  (hn: ∀v D,Came w0 L X D→S v D→Ow P w0 ops md' rest (qd_ f d v) (D++Y) N):
  Ow P w0 ops md (⟨d, .call ⟨.value x, #[y],ts⟩,ty,ps,af,g⟩::rest) f L N:=by
 subst hL
 have hnd: ∀w,Hp w0 (X++Y) w→(keys X).Nodup∧ ∀c,c∈keys Y→c∉keys X:=by
  intro w hw
  have:=hw.nodup
  rw[ze_,List.nodup_append] at this
  exact⟨this.1,fun c hc hx=>this.2.2 c hx c hc rfl⟩
 refine Ow.call (S:=fun B v D=>((∀c,c∈keys D→c∈keys X∨B≤c)∧(∀c,c∈keys X→c∈keys D)∧S v D)∧ ∃w,Hp w0 (X++Y) w∧w.heap.size=B) he hs hx hk (fun w hw=> ?_) ?_
 ·show Rets P k (#[]++ #[y].map (ev f)++cap) w _
  rw[show(#[]++ #[y].map (ev f)++cap:Array Value)=ars by rw[←ha];simp[hy]]
  refine Calls.mono (hc w hw (fun p hp=>hw.has _ _ (List.mem_append_left _ hp)) (hnd w hw).1) ?_
  rintro e w' ⟨v,D,he,hp,hS⟩
  exact⟨v,D,he,hp,⟨hS.1.new,hS.1.all,hS.2⟩,w,hw,rfl⟩
 ·rintro B v D hab hB ⟨⟨h1,h2,h3⟩,w1,hw1,hwB⟩
  refine⟨D++Y, ?_,hn v D ⟨fun c hc=>(h1 c hc).imp id fun h=>⟨z2_ fun b hb=>by have:=hw1.lt hb;omega,by have:=hw1.size;omega⟩,h2⟩ h3⟩
  intro w w' hwb h k
  have ht:=h.trans k
  have hY: ∀c,c∈keys Y→c∉keys D:=by
   intro c hc hd
   rcases h1 c hd with hx|hx
   ·exact(hnd w h).2 c hc hx
   ·have:=h.lt (b:=c) (by rw[ze_];exact List.mem_append_right _ hc)
    omega
  have e1:X.filter (fun p=> !(keys D).contains p.1)= []:=by
   rw[List.filter_eq_nil_iff]
   intro p hp
   have:=h2 p.1 (List.mem_map.2 ⟨p,hp,rfl⟩)
   simpa using this
  have e2:Y.filter (fun p=> !(keys D).contains p.1)=Y:=je_ hY
  rw[List.filter_append,e1,e2,List.nil_append] at ht
  refine ht.same (fun p=>by simp[or_comm]) ?_
  have:=ht.nodup
  rw[ze_] at this ⊢
  exact(List.perm_append_comm.nodup_iff).1 this
end
end Go.Sx
section
open Go Go.Proofs Go.Sx Go.StP Go.Flo
namespace Go.Proofs
set_option maxRecDepth 10000
set_option maxHeartbeats 400000
set_option linter.unusedSimpArgs false
def Vf_:Nat→List (List UInt8)→List (Int×List UInt8)
 |_,[]=> []
 |i,t::ts=>((i:Int),t)::Vf_ (i+1) ts
def tabT (ts:List (List UInt8)):List (Int×List UInt8):=Vf_ 0 ts
theorem aaw_ (s:List UInt8): ∀ (ts:List (List UInt8)) (i:Nat),updG (((i+ts.length:Nat)):Int) s (Vf_ i ts)=Vf_ i (ts++ [s])
 | [],i=>rfl
 |t::ts,i=>by
  show updG _ s (((i:Int),t)::Vf_ (i+1) ts)=((i:Int),t)::Vf_ (i+1) (ts++ [s])
  unfold updG
  rw[if_neg (by rw[beq_iff_eq];simp only[List.length_cons];omega),←aaw_ s ts (i+1),List.length_cons,show i+1+ts.length=i+ (ts.length+1) by omega]
theorem aeW_ (s:List UInt8) (ts:List (List UInt8)) {k:Nat} (hk:ts.length=k):updG (k:Int) s (tabT ts)=tabT (ts++ [s]):=by
 have:=aaw_ s ts 0
 rw[Nat.zero_add,hk] at this
 exact this
theorem aaB_ (z:List UInt8): ∀ (ts:List (List UInt8)) (i b:Nat),b<ts.length→getG ((i+b:Nat):Int) z (Vf_ i ts)=ts.getD b []
 | [],_,_,h=>by simp at h
 |t::ts,i,0,_=>by
  unfold Vf_ getG
  rw[List.find?_cons]
  simp
 |t::ts,i,b+1,h=>by
  have:=aaB_ z ts (i+1) b (by simpa using h)
  rw[show i+1+b=i+ (b+1) by omega] at this
  rw[List.getD_cons_succ,←this]
  have e: (((i+ (b+1):Nat):Int)==(i:Int))=false:=by rw[beq_eq_false_iff_ne];omega
  show getG _ z (((i:Int),t)::Vf_ (i+1) ts)=_
  unfold getG
  rw[List.find?_cons]
  simp only[e]
theorem ams_ (z:List UInt8) {ts:List (List UInt8)} {b:Nat} (h:b<ts.length):getG (b:Int) z (tabT ts)=ts.getD b []:=by
 have:=aaB_ z ts 0 b h
 rwa [Nat.zero_add] at this
theorem afy_ {b d:List UInt8} (h: (xi_ b d).2≠0): (xi_ b d).1= []:=by
 unfold xi_ at h ⊢
 split
 ·rfl
 ·rename_i p hp
  rw[hp] at h
  simp only at h ⊢
  split
  ·rfl
  ·rename_i hb;rw[if_neg hb] at h;exact absurd rfl h
theorem W5_ {p:PartL} {b:List UInt8} (h: (jD_ p b).2≠0): (jD_ p b).1= []:=by
 unfold jD_ at h ⊢
 split
 ·rename_i hd;rw[if_pos hd] at h;exact afy_ h
 ·rename_i hd
  rw[if_neg hd] at h
  split
  ·rfl
  ·rename_i hl;rw[if_neg hl] at h;exact absurd rfl h
theorem ajZ_ {w:World} {X D:zb_} (h:New w.heap.size D):Ext w X (X++D):=⟨fun c hc=>by
 rw[ze_] at hc
 exact(List.mem_append.1 hc).imp id (h.le c),fun c hc=>by rw[ze_];exact List.mem_append_left _ hc⟩
theorem an4_ {l:List PartL} {k:Nat} {p:List Nat} (hk:k<l.length) (hp:jZ_ l (k:Nat)= .ok p) (h:1<p.length):p.getD 1 0<k:=by
 rcases j4_ hk hp with⟨rfl,-⟩ | ⟨b,q,rfl,-,-,hlt,hq⟩
 ·simp at h
 ·rcases j4_ (by omega) hq with⟨rfl,-⟩ | ⟨b2,q2,rfl,-⟩<;>exact hlt
abbrev MapT (o:Obj) (ts:List (List UInt8)):Prop:=MapG vi vs o (tabT ts)
def clX (b1 bk bm:Nat) (v0:Value) (o:Obj):zb_:= [(b1, .cells #[v0] 43 (0,0)),(bk, .cells #[vm bm] 154 (0,0)),(bm,o)]
def ClS (l:List PartL) (k:Nat) (ts:List (List UInt8)) (b1 bk bm:Nat) (v0:Value) (v:Value) (D:zb_):Prop:=
 v=aoV_ (partV l (k:Nat))∧ ∃o D',D=clX b1 bk bm v0 o++D'∧ ∀s,partV l (k:Nat)= .ok s→MapT o (ts++ [s])
theorem ajk_ (v:Value) (E:TypeId) (n:Nat):zl_ (some (false,n)) (some (.cells #[v] E (0,0))) 0=some v:=(rfl)
set_option linter.defProp false
def j0_:=And.intro (And.intro (And.intro (@zA_) (@zz_)) (And.intro (@ajk_) (@vI_))) (And.intro (And.intro (@vz_) (@vA_)) (And.intro (@jG_) (And.intro (@Sx.tup2_0) (@Sx.tup2_1))))
theorem ajN_ (b1 bk bm:Nat) (o:Obj) (v0:Value) (l:List PartL) (k:Nat) (ts:List (List UInt8)) (w:World) (h1k:b1<bk) (hne1:b1≠bm) (hne2:bk≠bm)
  (hv:v8_ w v0 l) (hb:BndL l) (hl:l.length<1000000) (hk:k<l.length) (hts:x2_ l k= .ok ts) (ho:MapT o ts) (hv1: ∀b,slB v0=some b→b∉keys (clX b1 bk bm v0 o))
  (hX: ∀p,p∈clX b1 bk bm v0 o→w.heap[p.1]? =some p.2) (hnd: (keys (clX b1 bk bm v0 o)).Nodup):
  Rets Tryz.prog 89 #[vi k,vp b1 0,vp bk 0] w (XS w (clX b1 bk bm v0 o) (ClS l k ts b1 bk bm v0)):=by
 obtain⟨bb,off,cc,arr,E,fz,hr,-,hvv⟩:=id hv
 have hbX:bb∉keys (clX b1 bk bm v0 o):=by
  rcases hvv with⟨e1,e2,e3⟩ | ⟨e1,-,-⟩
  ·exfalso;subst_vars;simp at hk
  ·exact hv1 bb (by rw[e1];rfl)
 have htl:=wN_ k ts hts
 have hva: ∀w',Hp w (clX b1 bk bm v0 o) w'→v8_ w' v0 l:=fun w' hw'=>hv.old hw' fun b hb _=>hv1 b hb
 unfold clX at hX hnd hva hbX ⊢
 refine Rets.enterX Tryz.func89 rfl (rs:= [.tmp 4, .tmp 5]) Tryz.results89 Tryz.ntmps89 hX hnd ?_
 refine kf ?_
 first|with_reducible refine ks [] @j0_ ?_|refine kp @j0_ ?_
 refine Ow.callC rfl rfl Tryz.call90 (fun w' hw'=>WM_ v0 l (k:Int) w' (hva w' hw') hl) (fun B1 v1 D1 hA1 hB1 hN1 hS1=> ?_)
 have hN1':=hN1.mono hB1
 unfold aiC_ at hS1
 cases hp:jZ_ l (k:Nat) with
 |error e=>
  rw[hp] at hS1
  have hS1':v1= .tuple #[.slice none 0 0,vi e]:=hS1
  subst hS1'
  have e0: (e !=0)=true:=by rw[bne_iff_ne];exact QA_ hp
  refine ko (And.intro @j0_ @e0) ?_
  first|with_reducible refine ks [] @j0_ ?_|refine kp @j0_ ?_
  refine⟨_,(ke @j0_), ?_⟩
  refine⟨ajZ_ (X:= [_,_,_]) hN1', ?_⟩
  refine⟨by unfold partV;rw[hp];rfl,o,D1,rfl,fun s hs=> ?_⟩
  unfold partV at hs
  rw[hp] at hs
  cases hs
 |ok p=>
  rw[hp] at hS1
  obtain⟨x,rfl,hp5,hg⟩:=hS1
  have hpk:=ac2_ hk hts hp
  have hlen: ∀m,wt_ (.sl m) x=some (vi p.length):=fun m=>by
   obtain⟨X,-,h⟩:=hg;exact h.len m
  have hb0:0<l.length:=by omega
  have hbl:=hr.lt hb0
  have i2:=hr.idx true k hk
  have ld:=hr.load jx_ (by omega) hk
  have hpx:=hb k hk
  have rd:zk_ w ((b1,Obj.cells #[v0] 43 (0,0)):: (bk,Obj.cells #[vm bm] 154 (0,0)):: (bm,o)::D1) bb=some (.cells arr E fz):=by
   have hno:bb∉keys ([(b1,Obj.cells #[v0] 43 (0,0)),(bk,Obj.cells #[vm bm] 154 (0,0)),(bm,o)]++D1):=by rw[ze_,List.mem_append,not_or];exact⟨hbX,hN1'.not hbl⟩
   exact(zX_ hno).trans (hr.has hb0)
  generalize l.getD k z6_=pt at*
  have hlk:Sx.look ((b1,Obj.cells #[v0] 43 (0,0)):: (bk,Obj.cells #[vm bm] 154 (0,0)):: (bm,o)::D1) bm=some o:=by rw[qx_ _ _ _ _ hne1,qx_ _ _ _ _ hne2];exact zP_ _ _ _
  have hset: ∀o1,setB ((b1,Obj.cells #[v0] 43 (0,0)):: (bk,Obj.cells #[vm bm] 154 (0,0)):: (bm,o)::D1) bm o1=((b1,Obj.cells #[v0] 43 (0,0)):: (bk,Obj.cells #[vm bm] 154 (0,0)):: (bm,o1)::D1):=fun o1=>by
   rw[q2_ _ _ _ _ _ hne1,q2_ _ _ _ _ _ hne2,jc_]
  have ext_new': ∀ {o1:Obj},New w.heap.size D1→Ext w [(b1,Obj.cells #[v0] 43 (0,0)),(bk,Obj.cells #[vm bm] 154 (0,0)),(bm,o)] ((b1,Obj.cells #[v0] 43 (0,0)):: (bk,Obj.cells #[vm bm] 154 (0,0)):: (bm,o1)::D1):=fun h=>(ajZ_ (X:= [_,_,_]) h).keys rfl
  by_cases h1:1<p.length
  ·have d1:decide ((1:Int)< (p.length:Int))=true:=decide_eq_true (by omega)
   rw[if_pos h1] at hpk
   refine ko (And.intro @j0_ (And.intro @hlen (@d1))) ?_
   first|with_reducible refine ks [] @j0_ ?_|refine kp @j0_ ?_
   refine Cw.world fun wz hwz=> ?_
   rcases anY_ hg (fun q hq=>by simp[hq]) hwz with h0| ⟨bp,cp,rp,rfl,hkp,rdp⟩
   ·omega
   have lp:=alP_ (E:=3) (rest:=rp) 1 1 h1
   have hz:zI_ Tryz.prog 9=some (vs []):=Tryz.zr9
   have hbase:p.getD 1 0<ts.length:=by have:=an4_ hk hp h1;omega
   have hge:=ams_ [] hbase
   refine Cw.regionS [bk,bp] [1,2,0,3,4,5] [] (by kernel_rfl) (by kernel_rfl) (by kernel_rfl) ?_
   refine kya ?_
   refine kq (And.intro @j0_ (And.intro @rdp (@lp))) ?_
   refine Ow.softA ?_
   refine Ow.mapGetG (k:=((p.getD 1 0:Nat):Int)) (z:= []) rfl rfl Tryz.underlying154 (KeyOk.int Tryz.underlying3) hz rfl rfl (zt_ hlk) ho ?_
   rw[hge]
   with_reducible refine Ow.nilD ?_
   refine kq (And.intro @j0_ (And.intro @i2 (And.intro @rd (@ld)))) ?_
   refine Ow.callFV rfl Tryz.call91 (fun w' hw'=>Wm_ pt (ts.getD (p.getD 1 0) []) w' hpx) ?_
   refine ko @j0_ ?_
   first|with_reducible refine ks [] @j0_ ?_|refine kp @j0_ ?_
   refine Ow.mapUpdateG (k:=(k:Int)) (v:=(jD_ pt (ts.getD (p.getD 1 0) [])).1) rfl rfl Tryz.underlying154 (KeyOk.int Tryz.underlying3) rfl rfl rfl hlk ho (fun o1 ho1=> ?_)
   rw[aeW_ _ _ htl] at ho1
   rw[hset o1]
   refine ko @j0_ ?_
   first|with_reducible refine ks [] @j0_ ?_|refine kp @j0_ ?_
   refine⟨_,(ke @j0_), ?_⟩
   refine⟨ext_new' hN1', ?_⟩
   refine⟨?_,o1,D1,rfl,fun s hs=> ?_⟩
   ·rw[hpk]
    by_cases he: (jD_ pt (ts.getD (p.getD 1 0) [])).2=0
    ·rw[if_pos he,he];rfl
    ·rw[if_neg he,W5_ he];rfl
   ·rw[hpk] at hs
    split at hs
    ·cases hs;exact ho1
    ·cases hs
  ·have d1:decide ((1:Int)< (p.length:Int))=false:=decide_eq_false (by omega)
   rw[if_neg h1] at hpk
   refine ko (And.intro @j0_ (And.intro @hlen (@d1))) ?_
   first|with_reducible refine ks [] (And.intro @j0_ (And.intro @i2 (And.intro @rd (@ld)))) ?_|refine kp (And.intro @j0_ (And.intro @i2 (And.intro @rd (@ld)))) ?_
   refine Ow.callFV rfl Tryz.call91 (fun w' hw'=>Wm_ pt [] w' hpx) ?_
   refine ko @j0_ ?_
   first|with_reducible refine ks [] @j0_ ?_|refine kp @j0_ ?_
   refine Ow.mapUpdateG (k:=(k:Int)) (v:=(jD_ pt []).1) rfl rfl Tryz.underlying154 (KeyOk.int Tryz.underlying3) rfl rfl rfl hlk ho (fun o1 ho1=> ?_)
   rw[aeW_ _ _ htl] at ho1
   rw[hset o1]
   refine ko @j0_ ?_
   first|with_reducible refine ks [] @j0_ ?_|refine kp @j0_ ?_
   refine⟨_,(ke @j0_), ?_⟩
   refine⟨ext_new' hN1', ?_⟩
   refine⟨?_,o1,D1,rfl,fun s hs=> ?_⟩
   ·rw[hpk]
    by_cases he: (jD_ pt []).2=0
    ·rw[if_pos he,he];rfl
    ·rw[if_neg he,W5_ he];rfl
   ·rw[hpk] at hs
    split at hs
    ·cases hs;exact ho1
    ·cases hs
end Go.Proofs
end
section
open Go Go.Proofs Go.Sx Go.StP Go.Flo
namespace Go.Proofs
set_option maxRecDepth 10000
set_option maxHeartbeats 400000
set_option linter.unusedSimpArgs false
theorem aaE_ {l:List PartL} {e:Int}: ∀ (p:List Nat),w5_ l p= .error e→e≠0
 | [],h=>by cases h
 |a::p,h=>by
  unfold w5_ at h
  cases hp:w5_ l p with
  |error x=>rw[hp] at h;cases h;exact aaE_ p hp
  |ok s=>
   rw[hp] at h
   change(if(jD_ (l.getD a z6_) s).2=0 then _ else _)=_ at h
   split at h
   ·cases h
   ·rename_i hne;cases h;exact hne
theorem abc_ {l:List PartL} {a e:Int} (h:partV l a= .error e):e≠0:=by
 unfold partV at h
 cases hp:jZ_ l a with
 |error x=>rw[hp] at h;cases h;exact QA_ hp
 |ok p=>rw[hp] at h;exact aaE_ p h
theorem ak2_ {l:List PartL} {k:Nat} {ts:List (List UInt8)} {s:List UInt8} (h:x2_ l k= .ok ts) (hs:partV l (k:Nat)= .ok s):x2_ l (k+1)= .ok (ts++ [s]):=by
 unfold x2_;rw[h];show(partV l (k:Nat)).map _=_;rw[hs];rfl
theorem ad6_ {l:List PartL} {k:Nat} {ts:List (List UInt8)} {e:Int} (h:x2_ l k= .ok ts) (hs:partV l (k:Nat)= .error e): ∀j,k<j→x2_ l j= .error e
 |0,hj=>by omega
 |j+1,hj=>by
  unfold x2_
  by_cases hjk:j=k
  ·subst hjk;rw[h];show(partV l (j:Nat)).map _=_;rw[hs];rfl
  ·rw[ad6_ h hs j (by omega)];rfl
def V0_ (s:List UInt8):List Value:= [vs s]
theorem aeF_ (s:List UInt8): (V0_ s).length=1:=rfl
structure AlG where
 ts:List (List UInt8)
 v:Value
 o:Obj
 D:zb_
def AllS (l:List PartL) (v:Value) (D:zb_):Prop:=match JB_ l with
 | .ok ts=> ∃x,v= .tuple #[x,vi 0]∧GrI D 9 1 x ts.length (ts.map V0_).flatten
 | .error e=>v= .tuple #[.slice none 0 0,vi e]
theorem arp_:zI_ Tryz.prog 154=some (.map none):=id (by kernel_rfl)
theorem af8_ (b:Nat) (E:TypeId) (x:Value):zn_ (some (false,1)) (some (.cells #[x] E (0,0))) 0 (vm b)=some (.cells #[vm b] E (0,0)):=(rfl)
set_option linter.defProp false
def jP_:=And.intro (And.intro (@zA_) (And.intro (@zz_) (@ajk_))) (And.intro (@af8_) (And.intro (@Sx.tup2_0) (@Sx.tup2_1)))
theorem ajv_ (v0:Value) (l:List PartL) (w:World) (hv:v8_ w v0 l) (hb:BndL l) (hl:l.length<1000000):
  Rets Tryz.prog 53 #[v0] w (XS w [] (AllS l)):=by
 have ln:=hv.len
 have hcl:v0.cells= #[v0]:=by
  obtain⟨bb,off,cc,arr,E,fz,hr,-,hvv⟩:=id hv
  rcases hvv with⟨e1,-,-⟩ | ⟨e1,-,-⟩<;>rw[e1]<;>rfl
 have hvb: ∀b,slB v0=some b→b<w.heap.size:=by
  intro b hb
  obtain⟨bb,off,cc,arr,E,fz,hr,-,hvv⟩:=id hv
  rcases hvv with⟨e1,-,-⟩ | ⟨e1,hh,-⟩
  ·rw[e1] at hb;cases hb
  ·rw[e1] at hb;cases hb;exact(Array.getElem?_eq_some_iff.1 hh).1
 refine Rets.enterX Tryz.func53 rfl (rs:= [.tmp 2, .tmp 3]) Tryz.results53 Tryz.ntmps53 (fun p hp=>by cases hp) (by simp[keys]) ?_
 refine kf ?_
 first|with_reducible refine ks [] @jP_ ?_|refine kp @jP_ ?_
 refine Ow.box rfl rfl fun b1 hb1 hw1=> ?_
 simp only[zD_,zH_,zG_,za_,List.nil_append,List.cons_append]
 refine Ow.go rfl ?_
 simp(disch:=(first|assumption|omega| (simp only[wr_,we_,UInt64.reduceToNat];try omega))) only[↓Sx.S0,Sx.S1,Tryz.fx,jP_,Nat.reduceAdd,Nat.reducePow,Int.reducePow,Nat.reduceBEq, ↓reduceIte,UInt8.reduceToNat,UInt16.reduceToNat,UInt32.reduceToNat,UInt64.reduceToNat,Int.reduceToNat]
 rw[hcl]
 by_cases h2:200<l.length
 ·have d1:decide ((200:Int)< (l.length:Int))=true:=decide_eq_true (by omega)
  first|with_reducible refine ks [] (And.intro @jP_ (And.intro @ln (@d1))) ?_|refine kp (And.intro @jP_ (And.intro @ln (@d1))) ?_
  refine⟨_,(ke @jP_), ?_⟩
  refine⟨Ext.of_new ⟨hw1,trivial⟩, ?_⟩
  unfold AllS JB_;rw[if_pos h2];rfl
 ·have d1:decide ((200:Int)< (l.length:Int))=false:=decide_eq_false (by omega)
  first|with_reducible refine ks [] (And.intro @jP_ (And.intro @ln (@d1))) ?_|refine kp (And.intro @jP_ (And.intro @ln (@d1))) ?_
  refine Ow.makeMapG (encK:=vi) (encV:=vs) rfl rfl fun bm o hbm hwm hm0=> ?_
  rw[List.cons_append,List.nil_append]
  refine ko @jP_ ?_
  first|with_reducible refine ks [] @jP_ ?_|refine kp @jP_ ?_
  refine Ow.alloc rfl rfl arp_ fun bk hbk hwk=> ?_
  simp only[za_,List.nil_append,List.cons_append]
  rw[show Value.cells (.map none)= #[.map none] from rfl]
  have hbmk:bm<bk:=zh_ hbk (by simp[keys])
  have hb1m:b1<bm:=zh_ hbm (by simp[keys])
  have hb1k:b1<bk:=by omega
  have hv1: ∀o b,slB v0=some b→b∉keys (clX b1 bk bm v0 o):=by
   intro o b hbb
   have:=hvb b hbb
   simp only[clX,keys,List.map_cons,List.map_nil,List.mem_cons,List.not_mem_nil,or_false,not_or]
   omega
  have hXn: ∀o,New w.heap.size (clX b1 bk bm v0 o):=fun o=>⟨hw1,hwk,hwm,trivial⟩
  refine Ow.permL (M:= [(b1,Obj.cells #[v0] 43 (0,0)),(bk, .cells #[.map none] 154 (0,0)),(bm,o)]) (by classical exact List.perm_iff_count.2 fun a=>by simp only[List.count_append,List.count_cons,List.count_nil]<;>omega) ?_
  refine ko @jP_ ?_
  first|with_reducible refine ks [] (And.intro @jP_ @ln) ?_|refine kp (And.intro @jP_ @ln) ?_
  simp only[List.map_toArray,List.map_cons,List.map_nil,zD_,zG_,zH_]
  refine Cw.loopG (G:=AlG) [18,19,7,21,22,23,20,24,25,8,9,26,27,28,2,3,29,30,31,32,6,33,17] (fun g=> [(6,g.v),(17,vi g.ts.length)]) (fun g=>(b1,Obj.cells #[v0] 43 (0,0)):: (bk, .cells #[vm bm] 154 (0,0)):: (bm,g.o)::g.D) (fun g=>g.ts.length≤l.length∧x2_ l g.ts.length= .ok g.ts∧MapT g.o g.ts∧New w.heap.size g.D∧Gr g.D 9 1 g.v g.ts.length (g.ts.map V0_).flatten) (fun g=>l.length - g.ts.length) ⟨[], .slice none 0 0,o,[]⟩ rfl rfl ?_ ?_
  ·exact⟨Nat.zero_le _,rfl,hm0,trivial,Gr.nl⟩
  intro g j hg
  refine kv ?_
  obtain⟨ts,v,o,D⟩:=g
  simp only at hg ⊢
  obtain⟨hgl,hgo,hM,hN,hG⟩:=hg
  by_cases hlt:ts.length<l.length
  ·have d2:decide ((ts.length:Int)< (l.length:Int))=true:=decide_eq_true (by omega)
   first|with_reducible refine ks [] (And.intro @jP_ @d2) ?_|refine kp (And.intro @jP_ @d2) ?_
   refine Ow.callFnXC (b:=vi ts.length) (ars:= #[vi ts.length,vp b1 0,vp bk 0]) rfl (X:=clX b1 bk bm v0 o) (Y:=D) (S:=ClS l ts.length ts b1 bk bm v0) rfl rfl rfl rfl rfl Tryz.call89 (fun w' hw' hX hn=>ajN_ b1 bk bm o v0 l ts.length ts w' hb1k (by omega) (by omega) (hv.oldN hw' ((hXn o).app hN)) hb hl hlt hgo hM (hv1 o) hX hn) (fun v2 D2 hC hS=> ?_)
   obtain⟨rfl,o2,D3,rfl,hok⟩:=hS
   have hN3:New w.heap.size D3:=New.of_le fun c hc=>by
    rcases hC.new c (by rw[ze_];exact List.mem_append_right _ hc) with h|h
    ·exact(hXn o).le c h
    ·exact h.2
   have hpm: (clX b1 bk bm v0 o2++D3)++D=(b1,Obj.cells #[v0] 43 (0,0)):: (bk, .cells #[vm bm] 154 (0,0)):: (bm,o2):: (D3++D):=rfl
   rw[hpm]
   cases hp:partV l (ts.length:Nat) with
   |error e=>
    have hal:JB_ l= .error e:=by unfold JB_;rw[if_neg h2];exact ad6_ hgo hp _ hlt
    have e0: (e !=0)=true:=by rw[bne_iff_ne];exact abc_ hp
    unfold aoV_
    refine ko @jP_ ?_
    first|with_reducible refine ks [] (And.intro @jP_ @e0) ?_|refine kp (And.intro @jP_ @e0) ?_
    refine⟨_,(ke @jP_), ?_⟩
    refine⟨Ext.of_new ⟨hw1,hwk,hwm,hN3.app hN⟩, ?_⟩
    unfold AllS;rw[hal];rfl
   |ok s=>
    have e0: ((0:Int) !=0)=false:=rfl
    unfold aoV_
    refine ko @jP_ ?_
    first|with_reducible refine ks [] (And.intro @jP_ @e0) ?_|refine kp (And.intro @jP_ @e0) ?_
    refine Ow.buildSlice (e:=9) #[vs s] rfl rfl (by kernel_rfl) fun b9 hb9 hw9=> ?_
    have hM2:=hok s hp
    refine Ow.permL (M:=D++ ((b1,Obj.cells #[v0] 43 (0,0)):: (bk, .cells #[vm bm] 154 (0,0)):: (bm,o2):: (D3++ [(b9, .cells #[vs s] 9 (0,0))]))) (by classical exact List.perm_iff_count.2 fun a=>by simp only[List.count_append,List.count_cons,List.count_nil]<;>omega) ?_
    refine ko @jP_ ?_
    refine Ow.appendXG (e:=9) (k:=1) (new:=V0_ s) (X:=D) v rfl rfl rfl rfl Tryz.underlying81 (id (by kernel_rfl):qc_ Tryz.prog 9=some (false,1)) (by kernel_rfl) (id (by kernel_rfl):zI_ Tryz.prog 9=some (vs [])) rfl Tryz.underlying81 (by intro k h;cases h) hG (fun w' hw'=>AppX.one1 (hw'.has b9 (.cells #[vs s] 9 (0,0)) (by simp)) (aeF_ s) rfl) (by omega) (fun B4 v4 D4 hA4 hB4 hG4 hk14 hk24 hlk4=> ?_)
    have hN4:New w.heap.size D4:=New.of_le fun c hc=>by
     rcases hk24 c hc with h|h
     ·exact hN.le c h
     ·omega
    have hG5:Gr (D4++ (D3++ [(b9,Obj.cells #[vs s] 9 (0,0))])) 9 1 v4 (ts++ [s]).length ((ts++ [s]).map V0_).flatten:=by
     have:=hG4.app (M:=D3++ [(b9,Obj.cells #[vs s] 9 (0,0))])
     simpa using this
    have hN5:New w.heap.size (D4++ (D3++ [(b9,Obj.cells #[vs s] 9 (0,0))])):=hN4.app (hN3.app ⟨hw9,trivial⟩)
    refine Ow.permL (M:=(b1,Obj.cells #[v0] 43 (0,0)):: (bk, .cells #[vm bm] 154 (0,0)):: (bm,o2):: (D4++ (D3++ [(b9, .cells #[vs s] 9 (0,0))]))) (by classical exact List.perm_iff_count.2 fun a=>by simp only[List.count_append,List.count_cons,List.count_nil]<;>omega) ?_
    generalize D4++ (D3++ [(b9,Obj.cells #[vs s] 9 (0,0))])=D6 at*
    refine ko @jP_ ?_
    first|with_reducible refine ks [] @jP_ ?_|refine kp @jP_ ?_
    have hlt2: (ts++ [s]).length=ts.length+1:=by simp
    refine Again.mk ⟨ts++ [s],v4,o2,D6⟩ (by show l.length - (ts++ [s]).length<l.length - ts.length;omega) ⟨by show(ts++ [s]).length≤l.length;omega,by show x2_ l (ts++ [s]).length= .ok (ts++ [s]);rw[hlt2];exact ak2_ hgo hp,hM2,hN5,hG5⟩ rfl (by simp only[hlt2];rfl)
  ·have e:ts.length=l.length:=by omega
   have d2:decide ((ts.length:Int)< (l.length:Int))=false:=decide_eq_false (by omega)
   first|with_reducible refine ks [] (And.intro @jP_ @d2) ?_|refine kp (And.intro @jP_ @d2) ?_
   refine⟨_,(ke @jP_), ?_⟩
   refine⟨Ext.of_new ⟨hw1,hwk,hwm,hN⟩, ?_⟩
   have hal:JB_ l= .ok ts:=by unfold JB_;rw[if_neg h2,←e];exact hgo
   unfold AllS
   rw[hal]
   exact⟨v,rfl,Gr.i hG fun q hq=>by simp[hq]⟩
end Go.Proofs
end
namespace Go.Dig
open Go.Sx
def rgt (x:UInt32) (n:UInt64):UInt32:=qo_ x n.toNat|||jS_ x (32 - n).toNat
def rol (x:UInt32) (k:Int):UInt32:=jS_ x (UInt64.ofInt k&&&31).toNat|||qo_ x (32 - (UInt64.ofInt k&&&31)).toNat
def aiE_ (x:UInt32) (a b c:Int):UInt32:=rol x (-a)^^^rol x (-b)^^^qo_ x c.toNat
def ahe_ (x:UInt32) (a b c:Int):UInt32:=rol x (-a)^^^rol x (-b)^^^rol x (-c)
def S1 (e:UInt32):UInt32:=rgt e 6^^^rgt e 11^^^rgt e 25
def S0 (a:UInt32):UInt32:=rgt a 2^^^rgt a 13^^^rgt a 22
def s1 (y:UInt32):UInt32:=rgt y 17^^^rgt y 19^^^qo_ y 10
def s0 (x:UInt32):UInt32:=rgt x 7^^^rgt x 18^^^qo_ x 3
theorem rol6 (x:UInt32):rol x (-6)=rgt x 6:=by unfold rol rgt;rw[UInt32.or_comm];rfl
theorem aqR_ (x:UInt32):rol x (-11)=rgt x 11:=by unfold rol rgt;rw[UInt32.or_comm];rfl
theorem aqT_ (x:UInt32):rol x (-25)=rgt x 25:=by unfold rol rgt;rw[UInt32.or_comm];rfl
theorem rol2 (x:UInt32):rol x (-2)=rgt x 2:=by unfold rol rgt;rw[UInt32.or_comm];rfl
theorem arj_ (x:UInt32):rol x (-13)=rgt x 13:=by unfold rol rgt;rw[UInt32.or_comm];rfl
theorem aqF_ (x:UInt32):rol x (-22)=rgt x 22:=by unfold rol rgt;rw[UInt32.or_comm];rfl
theorem aqI_ (x:UInt32):rol x (-17)=rgt x 17:=by unfold rol rgt;rw[UInt32.or_comm];rfl
theorem aro_ (x:UInt32):rol x (-19)=rgt x 19:=by unfold rol rgt;rw[UInt32.or_comm];rfl
theorem rol7 (x:UInt32):rol x (-7)=rgt x 7:=by unfold rol rgt;rw[UInt32.or_comm];rfl
theorem aq9_ (x:UInt32):rol x (-18)=rgt x 18:=by unfold rol rgt;rw[UInt32.or_comm];rfl
theorem arb_ (x:UInt32):ahe_ x 6 11 25=S1 x:=by unfold ahe_ S1;rw[rol6,aqR_,aqT_]
theorem aqE_ (x:UInt32):ahe_ x 2 13 22=S0 x:=by unfold ahe_ S0;rw[rol2,arj_,aqF_]
theorem aq7_ (x:UInt32):aiE_ x 17 19 10=s1 x:=by unfold aiE_ s1;rw[aqI_,aro_];rfl
theorem aq4_ (x:UInt32):aiE_ x 7 18 3=s0 x:=by unfold aiE_ s0;rw[rol7,aq9_];rfl
def kL:List UInt32:= [1116352408,1899447441,3049323471,3921009573,961987163,1508970993,2453635748,2870763221,3624381080,310598401,607225278,1426881987,1925078388,2162078206,2614888103,3248222580,3835390401,4022224774,264347078,604807628,770255983,1249150122,1555081692,1996064986,2554220882,2821834349,2952996808,3210313671,3336571891,3584528711,113926993,338241895,666307205,773529912,1294757372,1396182291,1695183700,1986661051,2177026350,2456956037,2730485921,2820302411,3259730800,3345764771,3516065817,3600352804,4094571909,275423344,430227734,506948616,659060556,883997877,958139571,1322822218,1537002063,1747873779,1955562222,2024104815,2227730452,2361852424,2428436474,2756734187,3204031479,3329325298]
def initL:List UInt32:= [1779033703,3144134277,1013904242,2773480762,1359893119,2600822924,528734635,1541459225]
def ak4_ (b:List UInt8) (i:Nat):UInt32:=
 UInt32.ofNat (b.getD (4*i) 0).toNat*16777216+UInt32.ofNat (b.getD (4*i+1) 0).toNat*65536+UInt32.ofNat (b.getD (4*i+2) 0).toNat*256+UInt32.ofNat (b.getD (4*i+3) 0).toNat
def Kw_ (b:List UInt8) (i:Nat):List UInt32:=(List.range 64).map fun j=>if j<i then ak4_ b j else 0
theorem kC_ (b:List UInt8) (i:Nat): (Kw_ b i).length=64:=by simp[Kw_]
theorem WD_ (b:List UInt8) (i:Nat): (Kw_ b i).set i (ak4_ b i)=Kw_ b (i+1):=by
 apply List.ext_getElem
 ·simp[Kw_]
 intro k hk1 hk2
 have hk:k<64:=by simpa [Kw_] using hk2
 rw[List.getElem_set]
 by_cases h:i=k
 ·subst h;simp[Kw_]
 ·rw[if_neg h]
  simp only[Kw_,List.getElem_map,List.getElem_range]
  by_cases h1:k<i
  ·rw[if_pos h1,if_pos (by omega)]
  ·rw[if_neg h1,if_neg (by omega)]
theorem WS_ (b:List UInt8):Kw_ b 0=List.replicate 64 0:=by
 apply List.ext_getElem
 ·simp[Kw_]
 intro k hk1 hk2
 simp only[Kw_,List.getElem_map,List.getElem_range,List.getElem_replicate]
 rw[if_neg (by omega)]
def alL_ (w:List UInt32) (g:Nat):List UInt32:=w.set g (s1 (w.getD (g - 2) 0)+w.getD (g - 7) 0+s0 (w.getD (g - 15) 0)+w.getD (g - 16) 0)
def wGo (w:List UInt32):Nat→List UInt32
 |0=>w
 |n+1=>alL_ (wGo w n) (16+n)
theorem Kj_ (w:List UInt32) (n:Nat): (wGo w n).length=w.length:=by
 induction n with
 |zero=>rfl
 |succ n ih=>simp[wGo,alL_,ih]
def Wy_ (b:List UInt8):List UInt32:=wGo (Kw_ b 16) 48
theorem QM_ (b:List UInt8): (Wy_ b).length=64:=by rw[Wy_,Kj_,kC_]
def aoo_ (s:List UInt32) (k w:UInt32):List UInt32:=
 let t:=s.getD 7 0+S1 (s.getD 4 0)+ (s.getD 4 0&&&s.getD 5 0||| ~~~ s.getD 4 0&&&s.getD 6 0)+k+w
 let u:=S0 (s.getD 0 0)+ (s.getD 0 0&&&s.getD 1 0|||s.getD 0 0&&&s.getD 2 0|||s.getD 1 0&&&s.getD 2 0)
 [t+u,s.getD 0 0,s.getD 1 0,s.getD 2 0,s.getD 3 0+t,s.getD 4 0,s.getD 5 0,s.getD 6 0]
def rGo (st w:List UInt32):Nat→List UInt32
 |0=>st
 |n+1=>aoo_ (rGo st w n) (kL.getD n 0) (w.getD n 0)
theorem afh_ (st w:List UInt32) (n:Nat) (h:st.length=8): (rGo st w n).length=8:=by
 cases n with
 |zero=>exact h
 |succ n=>rfl
def xj_ (st s:List UInt32) (i:Nat):List UInt32:=(List.range 8).map fun j=>if j<i then st.getD j 0+s.getD j 0 else st.getD j 0
theorem w6_ (st s:List UInt32) (i:Nat): (xj_ st s i).length=8:=by simp[xj_]
theorem aga_ (st s:List UInt32) (i j:Nat) (hj:j<8): (xj_ st s i).getD j 0=if j<i then st.getD j 0+s.getD j 0 else st.getD j 0:=by
 simp[xj_,List.getD_eq_getElem?_getD,hj]
theorem acT_ (st s:List UInt32) (i:Nat): (xj_ st s i).set i (st.getD i 0+s.getD i 0)=xj_ st s (i+1):=by
 apply List.ext_getElem
 ·simp[xj_]
 intro k hk1 hk2
 rw[List.getElem_set]
 by_cases h:i=k
 ·subst h;simp[xj_]
 ·rw[if_neg h]
  simp only[xj_,List.getElem_map,List.getElem_range]
  by_cases h1:k<i
  ·rw[if_pos h1,if_pos (by omega)]
  ·rw[if_neg h1,if_neg (by omega)]
theorem ab2_ (st s:List UInt32) (h:st.length=8):xj_ st s 0=st:=by
 apply List.ext_getElem
 ·simp[xj_,h]
 intro k hk1 hk2
 simp[xj_,List.getD_eq_getElem?_getD,hk2]
def comp (st:List UInt32) (b:List UInt8):List UInt32:=xj_ st (rGo st (Wy_ b) 64) 8
theorem ws_ (st:List UInt32) (b:List UInt8): (comp st b).length=8:=w6_ _ _ _
def v9_ (st:List UInt32) (m:List UInt8):Nat→List UInt32
 |0=>st
 |n+1=>comp (v9_ st m n) ((m.drop (64*n)).take 64)
theorem WX_ (st:List UInt32) (m:List UInt8) (n:Nat) (h:st.length=8): (v9_ st m n).length=8:=by
 cases n with
 |zero=>exact h
 |succ n=>exact ws_ _ _
theorem aae_ (st:List UInt32) (m x:List UInt8) (n:Nat) (h:64*n≤m.length):v9_ st (m++x) n=v9_ st m n:=by
 induction n with
 |zero=>rfl
 |succ n ih=>
  simp only[v9_]
  rw[ih (by omega),List.drop_append_of_le_length (by omega),List.take_append_of_le_length (by simp;omega)]
def kR_ (bg:Bool) (st:List UInt32) (rest:List UInt8) (many:Int) (taken:UInt64):List Value:=
 .bool bg:: (st.map (fun x=>Value.int .u32 (x.toNat:Int))++ (rest.map (fun x=>Value.int .u8 (x.toNat:Int))++ [vi many,v64 taken]))
def zQ_ (bg:Bool) (st:List UInt32) (rest:List UInt8) (many:Int) (taken:UInt64):Array Value:=(kR_ bg st rest many taken).toArray
section
variable {bg:Bool} {st:List UInt32} {rest:List UInt8} {many:Int} {taken:UInt64} {E:TypeId}
theorem jy_ (h:st.length=8∧rest.length=64): (zQ_ bg st rest many taken).size=75:=by simp[zQ_,kR_,h]
theorem ahj_: (zQ_ bg st rest many taken)[0]? =some (.bool bg):=rfl
theorem aix_ (k:Nat) (hk:k<8) (h:st.length=8): (zQ_ bg st rest many taken)[1+k]? =some (v32 (st.getD k 0)):=by
 have:1+k=k+1:=by omega
 rw[this,zQ_,List.getElem?_toArray,kR_,List.getElem?_cons_succ,List.getElem?_append_left (by simp;omega)]
 simp[v32,List.getD_eq_getElem?_getD,h,hk]
theorem aaR_ (k:Nat) (hk:k<64) (h:st.length=8∧rest.length=64): (zQ_ bg st rest many taken)[9+k]? =some (v8 (rest.getD k 0)):=by
 have:9+k=(8+k)+1:=by omega
 rw[this,zQ_,List.getElem?_toArray,kR_,List.getElem?_cons_succ,List.getElem?_append_right (by simp;omega),List.getElem?_append_left (by simp;omega)]
 have e:8+k - (List.map (fun x:UInt32=>Value.int .u32 (x.toNat:Int)) st).length=k:=by simp;omega
 rw[e]
 simp[v8,List.getD_eq_getElem?_getD,h,hk]
theorem ahz_ (h:st.length=8∧rest.length=64): (zQ_ bg st rest many taken)[73]? =some (vi many):=by
 rw[zQ_,List.getElem?_toArray,kR_,List.getElem?_cons_succ,List.getElem?_append_right (by simp;omega),List.getElem?_append_right (by simp;omega)]
 simp[h]
theorem ah2_ (h:st.length=8∧rest.length=64): (zQ_ bg st rest many taken)[74]? =some (v64 taken):=by
 rw[zQ_,List.getElem?_toArray,kR_,List.getElem?_cons_succ,List.getElem?_append_right (by simp;omega),List.getElem?_append_right (by simp;omega)]
 simp[h]
theorem Ka_ (n:Nat):zl_ (some (false,n)) (some (.cells (zQ_ bg st rest many taken) E (0,0))) 0=some (.bool bg):=ahj_
theorem KB_ (n k:Nat) (h:k<8∧st.length=8):zl_ (some (false,n)) (some (.cells (zQ_ bg st rest many taken) E (0,0))) (1+k)=some (v32 (st.getD k 0)):=aix_ k h.1 h.2
theorem XY_ (n k:Nat) (h:k<64∧st.length=8∧rest.length=64):zl_ (some (false,n)) (some (.cells (zQ_ bg st rest many taken) E (0,0))) (9+k)=some (v8 (rest.getD k 0)):=aaR_ k h.1 h.2
theorem Q2_ (n j k:Nat) (h:j+k<64∧st.length=8∧rest.length=64):zl_ (some (false,n)) (some (.cells (zQ_ bg st rest many taken) E (0,0))) (9+j+k)=some (v8 (rest.getD (j+k) 0)):=by
 rw[Nat.add_assoc];exact aaR_ (j+k) h.1 h.2
theorem Ko_ (n:Nat) (h:st.length=8∧rest.length=64):zl_ (some (false,n)) (some (.cells (zQ_ bg st rest many taken) E (0,0))) 73=some (vi many):=ahz_ h
theorem KF_ (n:Nat) (h:st.length=8∧rest.length=64):zl_ (some (false,n)) (some (.cells (zQ_ bg st rest many taken) E (0,0))) 74=some (v64 taken):=ah2_ h
theorem JM_ (h:st.length=8∧rest.length=64):zl_ (some (true,8)) (some (.cells (zQ_ bg st rest many taken) E (0,0))) 1=some (.agg (a32 st)):=by
 have hs:1+8≤ (zQ_ bg st rest many taken).size:=by rw[jy_ h];omega
 simp only[zl_,hs, ↓reduceIte]
 congr 2
 rw[zQ_,a32,kR_]
 simp only[List.extract_toArray,List.extract_eq_take_drop]
 congr 1
 simp[h]
theorem ZN_ (h:st.length=8∧rest.length=64):zl_ (some (true,75)) (some (.cells (zQ_ bg st rest many taken) E (0,0))) 0=some (.agg (zQ_ bg st rest many taken)):=xn_ _ _ _ _ (jy_ h)
theorem alZ_: (zQ_ bg st rest many taken).toList.all Value.oneCell'=true:=by
 simp[zQ_,kR_,Value.oneCell',vi,v64]
theorem kx_ (old:Array Value) (h:st.length=8∧rest.length=64∧old.size=75):zn_ (some (true,75)) (some (.cells old E (0,0))) 0 (.agg (zQ_ bg st rest many taken))=some (.cells (zQ_ bg st rest many taken) E (0,0)):=
 wB_ _ _ _ _ _ ⟨jy_ ⟨h.1,h.2.1⟩,h.2.2⟩ alZ_
theorem k7_ (i:Nat) (v:Value): (zQ_ bg st rest many taken).setIfInBounds i v=((kR_ bg st rest many taken).set i v).toArray:=by simp[zQ_]
theorem Ji_ (b:Bool) (h:st.length=8∧rest.length=64):zn_ (some (false,1)) (some (.cells (zQ_ bg st rest many taken) E (0,0))) 0 (.bool b)=some (.cells (zQ_ b st rest many taken) E (0,0)):=by
 rw[xI_ _ _ _ _ _ (by rw[jy_ h];omega) rfl rfl,k7_];rfl
theorem Qv_ (k:Nat) (x:UInt32) (h:k<8∧st.length=8∧rest.length=64):zn_ (some (false,1)) (some (.cells (zQ_ bg st rest many taken) E (0,0))) (1+k) (v32 x)=some (.cells (zQ_ bg (st.set k x) rest many taken) E (0,0)):=by
 have e:1+k=k+1:=by omega
 rw[xI_ _ _ _ _ _ (by rw[jy_ h.2];omega) rfl rfl,k7_,e,kR_,List.set_cons_succ,List.set_append_left _ _ (by simp;omega)]
 simp only[zQ_,kR_,List.map_set];rfl
theorem Jw_ (k:Nat) (x:UInt8) (h:k<64∧st.length=8∧rest.length=64):zn_ (some (false,1)) (some (.cells (zQ_ bg st rest many taken) E (0,0))) (9+k) (v8 x)=some (.cells (zQ_ bg st (rest.set k x) many taken) E (0,0)):=by
 have e:9+k=(8+k)+1:=by omega
 rw[xI_ _ _ _ _ _ (by rw[jy_ h.2];omega) rfl rfl,k7_,e,kR_,List.set_cons_succ,List.set_append_right _ _ (by simp;omega),List.set_append_left _ _ (by simp;omega)]
 have e2:8+k - (List.map (fun x:UInt32=>Value.int .u32 (x.toNat:Int)) st).length=k:=by simp;omega
 rw[e2]
 simp only[zQ_,kR_,List.map_set];rfl
theorem Q1_ (m:Int) (h:st.length=8∧rest.length=64):zn_ (some (false,1)) (some (.cells (zQ_ bg st rest many taken) E (0,0))) 73 (vi m)=some (.cells (zQ_ bg st rest m taken) E (0,0)):=by
 rw[xI_ _ _ _ _ _ (by rw[jy_ h];omega) rfl rfl,k7_,kR_,List.set_cons_succ,List.set_append_right _ _ (by simp;omega),List.set_append_right _ _ (by simp;omega)]
 simp[zQ_,kR_,h]
theorem QX_ (t:UInt64) (h:st.length=8∧rest.length=64):zn_ (some (false,1)) (some (.cells (zQ_ bg st rest many taken) E (0,0))) 74 (v64 t)=some (.cells (zQ_ bg st rest many t) E (0,0)):=by
 rw[xI_ _ _ _ _ _ (by rw[jy_ h];omega) rfl rfl,k7_,kR_,List.set_cons_succ,List.set_append_right _ _ (by simp;omega),List.set_append_right _ _ (by simp;omega)]
 simp[zQ_,kR_,h]
theorem ZU_ (st':List UInt32) (h:st.length=8∧rest.length=64∧st'.length=8):zn_ (some (true,8)) (some (.cells (zQ_ bg st rest many taken) E (0,0))) 1 (.agg (a32 st'))=some (.cells (zQ_ bg st' rest many taken) E (0,0)):=by
 have hs:1+8≤ (zQ_ bg st rest many taken).size:=by rw[jy_ ⟨h.1,h.2.1⟩];omega
 have hp:vV_ (zQ_ bg st rest many taken) 1 (a32 st').toList=zQ_ bg st' rest many taken:=by
  have:=QC_ (a32 st').toList [.bool bg] (st.map fun x=>Value.int .u32 (x.toNat:Int)) (rest.map (fun x=>Value.int .u8 (x.toNat:Int))++ [vi many,v64 taken]) (by simp[a32,h])
  simpa [zQ_,kR_,a32] using this
 have h1: (a32 st').size=8:=by rw[wQ_];exact h.2.2
 simp only[zn_,za_,h1,hs,Nat.le_refl,true_or,ahV_,and_self, ↓reduceIte,hp]
end
def acc (b:List UInt8) (i:Nat):Nat→UInt32
 |0=>0
 |k+1=>jS_ (acc b i k) 8|||UInt32.ofNat (b.getD (4*i+k) 0).toNat
theorem Qd_ (x:UInt32) (c:UInt8) (h:x.toNat<16777216): (jS_ x 8|||UInt32.ofNat c.toNat).toNat=x.toNat*256+c.toNat:=by
 have hc:=c.toNat_lt
 rw[UInt32.toNat_or,jS_,UInt32.toNat_ofNat',UInt32.toNat_ofNat',Nat.mod_eq_of_lt (by omega),Nat.mod_eq_of_lt (by omega),←Nat.shiftLeft_eq,←Nat.shiftLeft_add_eq_or_of_lt (by omega:c.toNat<2^8),Nat.shiftLeft_eq]
theorem aks_ (b:List UInt8) (i:Nat):acc b i 4=ak4_ b i:=by
 have h0:=(b.getD (4*i) 0).toNat_lt
 have h1:=(b.getD (4*i+1) 0).toNat_lt
 have h2:=(b.getD (4*i+2) 0).toNat_lt
 have h3:=(b.getD (4*i+3) 0).toNat_lt
 have e1: (acc b i 1).toNat=(b.getD (4*i) 0).toNat:=by
  have:=Qd_ 0 (b.getD (4*i+0) 0) (by decide)
  simpa [acc] using this
 have l1: (acc b i 1).toNat<16777216:=by omega
 have e2: (acc b i 2).toNat=(acc b i 1).toNat*256+ (b.getD (4*i+1) 0).toNat:=Qd_ _ _ l1
 have l2: (acc b i 2).toNat<16777216:=by omega
 have e3: (acc b i 3).toNat=(acc b i 2).toNat*256+ (b.getD (4*i+2) 0).toNat:=Qd_ _ _ l2
 have l3: (acc b i 3).toNat<16777216:=by omega
 have e4: (acc b i 4).toNat=(acc b i 3).toNat*256+ (b.getD (4*i+3) 0).toNat:=Qd_ _ _ l3
 apply UInt32.toNat.inj
 rw[e4,e3,e2,e1]
 unfold ak4_
 simp only[UInt32.toNat_add,UInt32.toNat_mul,UInt32.toNat_ofNat']
 have k1: (16777216:UInt32).toNat=16777216:=rfl
 have k2: (65536:UInt32).toNat=65536:=rfl
 have k3: (256:UInt32).toNat=256:=rfl
 rw[k1,k2,k3]
 omega
theorem agS_ (b:List UInt8) (g:Nat):Kw_ b g=(Kw_ b g).set g (acc b g 0):=by
 apply List.ext_getElem
 ·simp
 intro k hk1 hk2
 rw[List.getElem_set]
 by_cases h:g=k
 ·subst h;simp[Kw_,acc]
 ·rw[if_neg h]
theorem xl_ {α:Type} (l:List α) (i:Nat) (x d:α) (h:i<l.length): (l.set i x).getD i d=x:=by
 simp[List.getD_eq_getElem?_getD,h]
def wG (b:List UInt8) (g:Nat):List UInt32:=wGo (Kw_ b 16) (g - 16)
theorem aap_ (b:List UInt8) (g:Nat): (wG b g).length=64:=by rw[wG,Kj_,kC_]
theorem ahl_ (b:List UInt8) (g:Nat) (h:16≤g):wG b (g+1)=alL_ (wG b g) g:=by
 unfold wG
 have:g+1 - 16=(g - 16)+1:=by omega
 rw[this]
 show alL_ _ (16+ (g - 16))=_
 rw[show 16+ (g - 16)=g from by omega]
theorem amX_ (b:List UInt8):wG b 64=Wy_ b:=rfl
theorem aer_ (b:List UInt8):Kw_ b 16=wG b 16:=rfl
theorem apY_ (a b c:UInt32): (a&&&b^^^ ~~~a&&&c)=(a&&&b||| ~~~a&&&c):=by
 apply UInt32.toBitVec_inj.1
 simp only[UInt32.toBitVec_xor,UInt32.toBitVec_or,UInt32.toBitVec_and,UInt32.toBitVec_not]
 ext i hi
 simp only[BitVec.getElem_xor,BitVec.getElem_or,BitVec.getElem_and,BitVec.getElem_not]
 cases a.toBitVec[i]<;>simp
theorem an8_ (a b c:UInt32): (a&&&b^^^a&&&c^^^b&&&c)=(a&&&b|||a&&&c|||b&&&c):=by
 apply UInt32.toBitVec_inj.1
 simp only[UInt32.toBitVec_xor,UInt32.toBitVec_or,UInt32.toBitVec_and]
 ext i hi
 simp only[BitVec.getElem_xor,BitVec.getElem_or,BitVec.getElem_and]
 cases a.toBitVec[i]<;>cases b.toBitVec[i]<;>simp
def Glob (w:World):Prop:= ∃e0 e1 f0 f1,w.heap[0]? =some (.cells (a32 initL) e0 f0)∧w.heap[1]? =some (.cells (a32 kL) e1 f1)
theorem Glob.of {w0 w:World} {L:zb_} (hg:Glob w0) (h:Hp w0 L w) (hk: ∀b,b∈keys L→1<b):Glob w:=by
 obtain⟨e0,e1,f0,f1,h0,h1⟩:=hg
 refine⟨e0,e1,f0,f1, ?_, ?_⟩
 ·rw[h.old 0 (Array.getElem?_eq_some_iff.1 h0).1 (fun hm=>by have:=hk 0 hm;omega)];exact h0
 ·rw[h.old 1 (Array.getElem?_eq_some_iff.1 h1).1 (fun hm=>by have:=hk 1 hm;omega)];exact h1
structure Hs where
 st:List UInt32
 rest:List UInt8
 many:Nat
structure Hs.Ok (s:Hs):Prop where
 st:s.st.length=8
 rest:s.rest.length=64
 many:s.many<64
def J4_ (s:Hs) (x:UInt8):Hs:=
 if s.many+1=64 then⟨comp s.st (s.rest.set s.many x),s.rest.set s.many x,0⟩ else⟨s.st,s.rest.set s.many x,s.many+1⟩
theorem KP_ {s:Hs} (x:UInt8) (h:s.Ok): (J4_ s x).Ok:=by
 unfold J4_
 split
 ·exact⟨ws_ _ _,by simp[h.rest],by show(0:Nat)<64;omega⟩
 ·exact⟨h.st,by simp[h.rest],by show s.many+1<64;have:=h.many;omega⟩
def qX_ (s:Hs) (l:List UInt8):Hs:=l.foldl J4_ s
theorem kJ_ {s:Hs} (l:List UInt8) (h:s.Ok): (qX_ s l).Ok:=by
 induction l generalizing s with
 |nil=>exact h
 |cons x r ih=>exact ih (KP_ x h)
theorem jI_ (s:Hs) (a b:List UInt8):qX_ s (a++b)=qX_ (qX_ s a) b:=List.foldl_append
theorem x6_ {α:Type} (l:List α) (g:Nat) (d:α) (h:g<l.length):l.take (g+1)=l.take g++ [l.getD g d]:=by
 rw[List.take_add_one]
 simp[List.getD_eq_getElem?_getD,h]
theorem Kb_ (s:Hs) (l:List UInt8) (g:Nat) (h:g<l.length):qX_ s (l.take (g+1))=J4_ (qX_ s (l.take g)) (l.getD g 0):=by
 rw[x6_ l g 0 h,jI_];rfl
def v2_ (bg:Bool) (s:Hs):Hs:=if bg then s else{s with st:=initL}
theorem Wq_ {s:Hs} (bg:Bool) (h:s.Ok): (v2_ bg s).Ok:=by
 unfold v2_;split
 ·exact h
 ·exact⟨rfl,h.rest,h.many⟩
def x1_ (s:Hs) (taken:UInt64):Array Value:=zQ_ true s.st s.rest s.many taken
def kn_ (t:UInt64) (l:List (List UInt8)):UInt64:=l.foldl (fun t a=>t+UInt64.ofNat a.length) t
theorem acP_ (t:UInt64) (l:List (List UInt8)) (g:Nat) (h:g<l.length):kn_ t (l.take (g+1))=kn_ t (l.take g)+UInt64.ofNat (l.getD g []).length:=by
 rw[x6_ l g [] h,kn_,List.foldl_append];rfl
theorem aah_ (l:List (List UInt8)) (g:Nat) (h:g<l.length): (l.take (g+1)).flatten=(l.take g).flatten++l.getD g []:=by
 rw[x6_ l g [] h,List.flatten_append];simp
theorem loadV_one (cs:Array Value) (E:TypeId) (fz:Nat×Nat) (n i:Nat):zl_ (some (false,n)) (some (.cells cs E fz)) i=cs[i]? :=(rfl)
end Go.Dig
section
open Go Go.Proofs Go.Sx Go.Dig
namespace Go.Proofs
set_option maxRecDepth 10000
set_option maxHeartbeats 4000000
set_option linter.unusedSimpArgs false
def GlobE (w:World):Prop:= ∃e0 e1 f0 f1,w.heap[1]? =some (.cells (a32 initL) e0 f0)∧w.heap[3]? =some (.cells (a32 kL) e1 f1)
theorem GlobE.of {w0 w:World} {L:zb_} (hg:GlobE w0) (h:Hp w0 L w) (hk: ∀b,b∈keys L→3<b):GlobE w:=by
 obtain⟨e0,e1,f0,f1,h0,h1⟩:=hg
 refine⟨e0,e1,f0,f1, ?_, ?_⟩
 ·rw[h.old _ (Array.getElem?_eq_some_iff.1 h0).1 (fun hm=>by have:=hk _ hm;omega)];exact h0
 ·rw[h.old _ (Array.getElem?_eq_some_iff.1 h1).1 (fun hm=>by have:=hk _ hm;omega)];exact h1
theorem vh_ (x:UInt32) (k:Int) (w:World):Rets Tryz.prog 150 #[v32 x,vi k] w (fun v D=>v=v32 (rol x k)∧D= []):=by
 refine Rets.enterV Tryz.func150 rfl (rs:= [.tmp 4]) Tryz.results150 Tryz.ntmps150 ?_
 refine kf ?_
 first|with_reducible refine ks [] @Nat.add_zero ?_|refine kp @Nat.add_zero ?_
 refine⟨_,(ke @Nat.add_zero),trivial, ?_⟩
 rfl
theorem q1_ (x:UInt32) (n:UInt64) (w:World):Rets Tryz.prog 98 #[v32 x,v64 n] w (fun v D=>v=v32 (rgt x n)∧D= []):=by
 refine Rets.enterV Tryz.func98 rfl (rs:= [.tmp 4]) Tryz.results98 Tryz.ntmps98 ?_
 refine kf ?_
 first|with_reducible refine ks [] @Nat.add_zero ?_|refine kp @Nat.add_zero ?_
 refine⟨_,(ke @Nat.add_zero),trivial, ?_⟩
 rfl
theorem aab_ (x:UInt32) (a b c:Int) (ha:0≤a∧a≤64) (hb:0≤b∧b≤64) (hc:0≤c∧c≤64) (w:World):Rets Tryz.prog 142 #[v32 x,vi a,vi b,vi c] w (fun v D=>v=v32 (aiE_ x a b c)∧D= []):=by
 refine Rets.enterV Tryz.func142 rfl (rs:= [.tmp 8]) Tryz.results142 Tryz.ntmps142 ?_
 refine kf ?_
 first|with_reducible refine ks [] @Nat.add_zero ?_|refine kp @Nat.add_zero ?_
 refine Cw.regionO [0,1,2,4,5,6,9,10,11,3,7,8,12,13] [] rfl (by kernel_rfl) (by kernel_rfl) ?_
 refine kya ?_
 refine kq @Nat.add_zero ?_
 refine Ow.callFV rfl Tryz.call150 (fun w' hw'=>vh_ _ _ w') ?_
 refine kq @Nat.add_zero ?_
 refine Ow.callFV rfl Tryz.call150 (fun w' hw'=>vh_ _ _ w') ?_
 refine kq @Nat.add_zero ?_
 first|with_reducible refine ks [] @Nat.add_zero ?_|refine kp @Nat.add_zero ?_
 refine⟨_,(ke @Nat.add_zero),trivial, ?_⟩
 rfl
theorem aaV_ (x:UInt32) (a b c:Int) (ha:0≤a∧a≤64) (hb:0≤b∧b≤64) (hc:0≤c∧c≤64) (w:World):Rets Tryz.prog 143 #[v32 x,vi a,vi b,vi c] w (fun v D=>v=v32 (ahe_ x a b c)∧D= []):=by
 refine Rets.enterV Tryz.func143 rfl (rs:= [.tmp 8]) Tryz.results143 Tryz.ntmps143 ?_
 refine kf ?_
 first|with_reducible refine ks [] @Nat.add_zero ?_|refine kp @Nat.add_zero ?_
 refine Ow.callFV rfl Tryz.call150 (fun w' hw'=>vh_ _ _ w') ?_
 refine ko @Nat.add_zero ?_
 refine Ow.callFV rfl Tryz.call150 (fun w' hw'=>vh_ _ _ w') ?_
 refine ko @Nat.add_zero ?_
 refine Ow.callFV rfl Tryz.call150 (fun w' hw'=>vh_ _ _ w') ?_
 refine ko @Nat.add_zero ?_
 first|with_reducible refine ks [] @Nat.add_zero ?_|refine kp @Nat.add_zero ?_
 refine⟨_,(ke @Nat.add_zero),trivial, ?_⟩
 rfl
theorem ab7_ (w:World):Rets Tryz.prog 99 #[] w (fun v D=>v= .agg (a32 kL)∧D= []):=by
 refine Rets.enterV Tryz.func99 rfl (rs:= [.cell 0 164]) Tryz.results99 Tryz.ntmps99 ?_
 refine kf ?_
 first|with_reducible refine ks [] @Nat.add_zero ?_|refine kp @Nat.add_zero ?_
 have hkl:kL.length=64:=rfl
 refine Ow.alloc rfl rfl Tryz.zr164 fun b1 _ hw1=> ?_
 refine ko @Nat.add_zero ?_
 first|with_reducible refine ks [] @Nat.add_zero ?_|refine kp @Nat.add_zero ?_
 refine Ow.build (.agg (a32 kL)) rfl (by kernel_rfl) ?_
 refine ko @Nat.add_zero ?_
 first|with_reducible refine ks [] @Nat.add_zero ?_|refine kp @Nat.add_zero ?_
 refine⟨_,(ke @Nat.add_zero),⟨hw1,trivial⟩, ?_⟩
 rfl
end Go.Proofs
end
section
open Go Go.Proofs Go.Sx Go.Dig
namespace Go.Proofs
set_option maxRecDepth 10000
set_option maxHeartbeats 4000000
set_option linter.unusedSimpArgs false
set_option linter.defProp false
def qj_:=And.intro (And.intro (And.intro (And.intro (@Ka_) (@KB_)) (And.intro (@XY_) (@Q2_))) (And.intro (And.intro (@Ko_) (@KF_)) (And.intro (@JM_) (@ZN_)))) (And.intro (And.intro (And.intro (@kx_) (@Ji_)) (And.intro (@Qv_) (@Jw_))) (And.intro (And.intro (@Q1_) (@QX_)) (And.intro (@ZU_) (@xl_))))
theorem ahr_ (b:Nat) (bg:Bool) (st:List UInt32) (rest:List UInt8) (many:Int) (taken:UInt64) (w:World) (hG:GlobE w) (hb:3<b) (hs:st.length=8) (hr:rest.length=64)
  (ho:w.heap[b]? =some (.cells (zQ_ bg st rest many taken) 141 (0,0))):
  Rets Tryz.prog 125 #[vp b 0] w (fun v D=> ∃o,D= [(b,o)]∧v= .tuple #[]∧o= .cells (zQ_ bg (comp st rest) rest 0 taken) 141 (0,0)):=by
 obtain⟨e0,e1,f0,f1,h0,h1⟩:=hG
 have hbl:=(Array.getElem?_eq_some_iff.1 ho).1
 have hkl:kL.length=64:=rfl
 refine Rets.enterM Tryz.func125 rfl (rs:= []) Tryz.results125 Tryz.ntmps125 ho ?_
 refine kf ?_
 first|with_reducible refine ks [] @qj_ ?_|refine kp @qj_ ?_
 refine Ow.alloc rfl rfl Tryz.zr164 fun b1 hb1 hw1=> ?_
 obtain⟨h01,-⟩:=hb1
 refine ko @qj_ ?_
 first|with_reducible refine ks [] @qj_ ?_|refine kp @qj_ ?_
 rw[←WS_ rest]
 refine Cw.loopG (G:=Nat) [14,15,3,16,17,18,19,20,21,22,23,24,25,26,27,28,29,5,30,31,32,33,34,35,36,37,38,39,40,13] (fun g=> [(13,vi g)]) (fun g=> [(b, .cells (zQ_ bg st rest many taken) 141),(b1, .cells (a32 (Kw_ rest g)) 164)]) (fun g=>g≤16) (fun g=>16 - g) 0 rfl rfl ?_ ?_
 ·omega
 intro g j hg
 refine kv ?_
 have hlen:=kC_ rest g
 by_cases hlt:g<16
 ·first|with_reducible refine ks [] @qj_ ?_|refine kp @qj_ ?_
  rw[agS_ rest g]
  refine Cw.loopG (G:=Nat) [27,28,29,5,30,31,32,33,34,35,36,37,38,39,26] (fun k=> [(26,vi k)]) (fun k=> [(b, .cells (zQ_ bg st rest many taken) 141 (0,0)),(b1, .cells (a32 ((Kw_ rest g).set g (acc rest g k))) 164 (0,0))]) (fun k=>k≤4) (fun k=>4 - k) 0 rfl rfl ?_ ?_
  ·omega
  intro k jk hk
  refine kv ?_
  by_cases hk4:k<4
  ·first|with_reducible refine ks [] @qj_ ?_|refine kp @qj_ ?_
   exact Again.mk (k+1) (by omega) (by omega) rfl rfl
  ·have hk:k=4:=by omega
   subst hk
   first|with_reducible refine ks [] @qj_ ?_|refine kp @qj_ ?_
   refine Again.mk (g+1) (by omega) (by omega) ?_ rfl
   rw[aks_,WD_]
 ·have hg16:g=16:=by omega
  subst hg16
  first|with_reducible refine ks [] @qj_ ?_|refine kp @qj_ ?_
  rw[aer_]
  refine Cw.loopG (G:=Nat) [41,42,45,46,47,48,49,50,51,52,53,54,55,56,57,58,59,60,61,62,63,64,65,66,67,43,44,6] (fun g=> [(6,vi g)]) (fun g=> [(b, .cells (zQ_ bg st rest many taken) 141 (0,0)),(b1, .cells (a32 (wG rest g)) 164)]) (fun g=>16≤g∧g≤64) (fun g=>64 - g) 16 rfl rfl ?_ ?_
  ·omega
  intro g j hg
  refine kv ?_
  obtain⟨hg1,hg2⟩:=hg
  have hlen:=aap_ rest g
  by_cases hlt:g<64
  ·first|with_reducible refine ks [] @qj_ ?_|refine kp @qj_ ?_
   refine Cw.regionO [0,1,2,3,6,7,8,11,12,13,17,18,19,4,9,14,20,5,10,15,16,21,22,23] [23] rfl (by kernel_rfl) (by kernel_rfl) ?_
   refine kya ?_
   refine kq @qj_ ?_
   refine Ow.callFV rfl Tryz.call142 (fun w' hw'=>aab_ _ _ _ _ (by omega) (by omega) (by omega) w') ?_
   refine kq @qj_ ?_
   refine Ow.callFV rfl Tryz.call142 (fun w' hw'=>aab_ _ _ _ _ (by omega) (by omega) (by omega) w') ?_
   refine kq @qj_ ?_
   refine Ow.store rfl rfl rfl (ke @qj_) ?_
   refine ko @qj_ ?_
   first|with_reducible refine ks [] @qj_ ?_|refine kp @qj_ ?_
   refine Again.mk (g+1) (by omega) (by omega) ?_ rfl
   rw[ahl_ rest g hg1,aq7_,aq4_];rfl
  ·have hg64:g=64:=by omega
   subst hg64
   rw[amX_]
   have hwl:=QM_ rest
   first|with_reducible refine ks [] (And.intro @qj_ @h1) ?_|refine kp (And.intro @qj_ @h1) ?_
   refine Ow.alloc rfl rfl Tryz.zr127 fun b2 hb2 hw2=> ?_
   obtain⟨h02,h12,-⟩:=hb2
   refine ko (And.intro @qj_ @h1) ?_
   first|with_reducible refine ks [] (And.intro @qj_ @h1) ?_|refine kp (And.intro @qj_ @h1) ?_
   refine Cw.loopG (G:=Nat) [74,75,76,8,9,77,78,79,80,81,82,83,84,85,86,87,88,89,90,91,92,93,94,95,96,97,98,99,100,101,10,102,103,104,105,106,107,108,109,110,111,112,113,114,115,116,117,118,119,120,121,122,11,123,124,125,126,127,128,129,130,131,132,133,134,135,136,137,138,139,140,141,142,143,73] (fun g=> [(73,vi g)]) (fun g=> [(b, .cells (zQ_ bg st rest many taken) 141 (0,0)),(b1, .cells (a32 (Wy_ rest)) 164),(b2, .cells (a32 (rGo st (Wy_ rest) g)) 127)]) (fun g=>g≤64) (fun g=>64 - g) 0 rfl rfl ?_ ?_
   ·omega
   ·intro g j hg
    refine kv ?_
    have hrl:=afh_ st (Wy_ rest) g hs
    by_cases hlt:g<64
    ·first|with_reducible refine ks [] @qj_ ?_|refine kp @qj_ ?_
     refine Cw.regionO [0,2,6,8,11,14,19,21,22,1,3,7,9,10,12,13,15,16,17,23,4,5,18,20,24,25] [] rfl (by kernel_rfl) (by kernel_rfl) ?_
     refine kya ?_
     refine kq @qj_ ?_
     refine Ow.callFV rfl Tryz.call143 (fun w' hw'=>aaV_ _ _ _ _ (by omega) (by omega) (by omega) w') ?_
     refine kq @qj_ ?_
     first|with_reducible refine ks [] @qj_ ?_|refine kp @qj_ ?_
     refine Cw.regionO [0,3,5,8,10,14,16,1,4,6,7,9,11,12,13,15,17,18,19,2,20,21] [] rfl (by kernel_rfl) (by kernel_rfl) ?_
     refine kya ?_
     refine kq @qj_ ?_
     refine Ow.callFV rfl Tryz.call143 (fun w' hw'=>aaV_ _ _ _ _ (by omega) (by omega) (by omega) w') ?_
     refine kq @qj_ ?_
     first|with_reducible refine ks [] @qj_ ?_|refine kp @qj_ ?_
     rw[arb_,aqE_,apY_,an8_]
     refine Ow.build (.agg (a32 (aoo_ (rGo st (Wy_ rest) g) (kL.getD g 0) ((Wy_ rest).getD g 0)))) rfl (by kernel_rfl) ?_
     have hrl2: (aoo_ (rGo st (Wy_ rest) g) (kL.getD g 0) ((Wy_ rest).getD g 0)).length=8:=rfl
     refine ko @qj_ ?_
     first|with_reducible refine ks [] @qj_ ?_|refine kp @qj_ ?_
     exact Again.mk (g+1) (by omega) (by omega) rfl rfl
    ·have hg64:g=64:=by omega
     subst hg64
     first|with_reducible refine ks [] @qj_ ?_|refine kp @qj_ ?_
     rw[←ab2_ st (rGo st (Wy_ rest) 64) hs]
     refine Cw.loopG (G:=Nat) [145,146,12,147,148,149,150,151,152,153,154,155,156,157,158,159,160,144] (fun k=> [(144,vi k)]) (fun k=> [(b, .cells (zQ_ bg (xj_ st (rGo st (Wy_ rest) 64) k) rest many taken) 141 (0,0)),(b1, .cells (a32 (Wy_ rest)) 164),(b2, .cells (a32 (rGo st (Wy_ rest) 64)) 127)]) (fun k=>k≤8) (fun k=>8 - k) 0 rfl rfl ?_ ?_
     ·omega
     intro k jk hk
     refine kv ?_
     have hal:=w6_ st (rGo st (Wy_ rest) 64) k
     by_cases hk8:k<8
     ·first|with_reducible refine ks [] @qj_ ?_|refine kp @qj_ ?_
      refine Cw.regionO [0,1,2,3,4,6,7,10,11,5,8,9,12,13] [13] rfl (by kernel_rfl) (by kernel_rfl) ?_
      refine kya ?_
      refine kq @qj_ ?_
      refine Ow.store rfl rfl rfl (ke @qj_) ?_
      refine ko @qj_ ?_
      first|with_reducible refine ks [] @qj_ ?_|refine kp @qj_ ?_
      refine Again.mk (k+1) (by omega) (by omega) ?_ rfl
      rw[←acT_,aga_ _ _ _ _ (by omega),if_neg (by omega)]
     ·have hk8':k=8:=by omega
      subst hk8'
      first|with_reducible refine ks [] @qj_ ?_|refine kp @qj_ ?_
      refine⟨_,_,_,(ke @qj_),rfl,⟨hw1,hw2,trivial⟩, ?_⟩
      exact⟨rfl,rfl⟩
end Go.Proofs
end
section
open Go Go.Proofs Go.Sx Go.Dig
namespace Go.Proofs
set_option maxRecDepth 10000
set_option maxHeartbeats 1000000
set_option linter.unusedSimpArgs false
theorem JY_ (n:Nat):UInt64.ofInt (n:Int)=UInt64.ofNat n:=by
 apply UInt64.toNat.inj
 rw[show UInt64.ofInt (n:Int)=UInt64.ofNat ((n:Int)%2^64).toNat from rfl,UInt64.toNat_ofNat',UInt64.toNat_ofNat']
 omega
theorem arl_ (b o:Nat):qL_ Tryz.prog .eql 177 (vp b o) (.pointer none)=some (.bool false):=by
 simp[qL_,eqX,qZ_,qF_,Tryz.underlying177,vp]
theorem aqb_:qL_ Tryz.prog .eql 177 (.pointer none) (.pointer none)=some (.bool true):=by
 simp[qL_,eqX,qZ_,qF_,Tryz.underlying177]
theorem aqe_ (b o:Nat):qL_ Tryz.prog .neq 177 (vp b o) (.pointer none)=some (.bool true):=by
 simp[qL_,eqX,qZ_,qF_,Tryz.underlying177,vp]
theorem aoS_:qL_ Tryz.prog .neq 177 (.pointer none) (.pointer none)=some (.bool false):=by
 simp[qL_,eqX,qZ_,qF_,Tryz.underlying177]
set_option linter.defProp false
def zB_:=And.intro (And.intro (And.intro (And.intro (@Ka_) (@KB_)) (And.intro (@XY_) (And.intro (@Q2_) (@Ko_)))) (And.intro (And.intro (@KF_) (@JM_)) (And.intro (@ZN_) (And.intro (@kx_) (@Ji_))))) (And.intro (And.intro (And.intro (@Qv_) (@Jw_)) (And.intro (@Q1_) (And.intro (@QX_) (@ZU_)))) (And.intro (And.intro (@xl_) (@arl_)) (And.intro (@aqb_) (And.intro (@aqe_) (@aoS_)))))
theorem Ks_ (b:Nat) (bg:Bool) (st:List UInt32) (rest:List UInt8) (many:Int) (taken:UInt64) (w:World) (hG:GlobE w) (hb:3<b) (hs:st.length=8) (hr:rest.length=64)
  (ho:w.heap[b]? =some (.cells (zQ_ bg st rest many taken) 141 (0,0))):
  Rets Tryz.prog 106 #[vp b 0] w (fun v D=> ∃o,D= [(b,o)]∧v= .tuple #[]∧o= .cells (zQ_ true (if bg then st else initL) rest many taken) 141 (0,0)):=by
 obtain⟨e0,e1,f0,f1,h0,h1⟩:=hG
 have hil:initL.length=8:=rfl
 refine Rets.enterM Tryz.func106 rfl (rs:= []) Tryz.results106 Tryz.ntmps106 ho ?_
 refine kf ?_
 cases bg
 ·first|with_reducible refine ks [] (And.intro @zB_ @h0) ?_|refine kp (And.intro @zB_ @h0) ?_
  refine⟨_,_,_,(ke @zB_),rfl,trivial, ?_⟩
  exact⟨rfl,rfl⟩
 ·first|with_reducible refine ks [] (And.intro @zB_ @h0) ?_|refine kp (And.intro @zB_ @h0) ?_
  refine⟨_,_,_,(ke @zB_),rfl,trivial, ?_⟩
  exact⟨rfl,rfl⟩
theorem Z5_ (b:Nat) (s:Hs) (taken:UInt64) (x:UInt8) (w:World) (hG:GlobE w) (hb:3<b) (hs:s.Ok)
  (ho:w.heap[b]? =some (.cells (x1_ s taken) 141 (0,0))):
  Rets Tryz.prog 107 #[vp b 0,v8 x] w (fun v D=> ∃o,D= [(b,o)]∧v= .tuple #[]∧o= .cells (x1_ (J4_ s x) taken) 141 (0,0)):=by
 obtain⟨st,rest,many⟩:=s
 obtain⟨hst,hrt,hmn⟩:=hs
 simp only[x1_] at ho hst hrt hmn ⊢
 refine Rets.enterM Tryz.func107 rfl (rs:= []) Tryz.results107 Tryz.ntmps107 ho ?_
 refine kf ?_
 first|with_reducible refine ks [] @zB_ ?_|refine kp @zB_ ?_
 refine Cw.regionO [0,1,2,3,5,6,7,4,8,9] [9] rfl (by kernel_rfl) (by kernel_rfl) ?_
 refine kya ?_
 refine kq @zB_ ?_
 refine Ow.store rfl rfl rfl (ke @zB_) ?_
 refine ko @zB_ ?_
 first|with_reducible refine ks [] @zB_ ?_|refine kp @zB_ ?_
 unfold J4_
 by_cases h64:many+1=64
 ·simp only[h64, ↓reduceIte]
  have h64': (many:Int)+1=64:=by omega
  have h63:many=63:=by omega
  subst h63
  rw[apW_ _ _ _ _ _ _ (by omega)]
  first|with_reducible refine ks [] @zB_ ?_|refine kp @zB_ ?_
  refine Ow.callM rfl rfl Tryz.call125 (by simp[keys]) (fun w' hw'=>ahr_ _ _ _ _ _ _ w' (GlobE.of hG hw' (by simp[keys];omega)) hb hst (by simp[hrt]) (hw'.has _ _ List.mem_cons_self)) ?_
  refine ko @zB_ ?_
  first|with_reducible refine ks [] @zB_ ?_|refine kp @zB_ ?_
  refine⟨_,_,_,(ke @zB_),rfl,trivial, ?_⟩
  exact⟨rfl,rfl⟩
 ·rw[apz_ _ _ _ _ _ _ (by omega)]
  simp only[h64, ↓reduceIte]
  first|with_reducible refine ks [] @zB_ ?_|refine kp @zB_ ?_
  refine⟨_,_,_,(ke @zB_),rfl,trivial, ?_⟩
  exact⟨rfl,by rw[if_neg h64];simp⟩
theorem abm_ (b:Nat) (bg:Bool) (s:Hs) (taken:UInt64) (x:Value) (b2 off:Nat) (l:List (List UInt8)) (arr:Array Value) (E:TypeId) (fz:Nat×Nat) (w:World) (hG:GlobE w) (hb:3<b) (hs:s.Ok) (hne:0<l.length→b≠b2)
  (hS:StrS w x l b2 off arr E fz) (hn:l.length<1099511627776) (hz: ∀i,i<l.length→(l.getD i []).length<1099511627776)
  (ho:w.heap[b]? =some (.cells (zQ_ bg s.st s.rest s.many taken) 141 (0,0))):
  Rets Tryz.prog 73 #[vp b 0,x] w (fun v D=> ∃o,D= [(b,o)]∧v= .tuple #[]∧o= .cells (x1_ (qX_ (v2_ bg s) l.flatten) (kn_ taken l)) 141 (0,0)):=by
 obtain⟨e0,e1,f0,f1,h0,h1⟩:=id hG
 obtain⟨st,rest,many⟩:=s
 obtain⟨hst,hrt,hmn⟩:=id hs
 simp only[x1_] at ho hst hrt hmn ⊢
 refine Rets.enterM Tryz.func73 rfl (rs:= []) Tryz.results73 Tryz.ntmps73 ho ?_
 refine kf ?_
 first|with_reducible refine ks [] @zB_ ?_|refine kp @zB_ ?_
 refine Ow.callM rfl rfl Tryz.call106 (by simp[keys]) (fun w' hw'=>Ks_ _ _ _ _ _ _ w' (GlobE.of hG hw' (by simp[keys];omega)) hb hst hrt (hw'.has _ _ List.mem_cons_self)) ?_
 refine ko @zB_ ?_
 first|with_reducible refine ks [] (And.intro @zB_ hS.len) ?_|refine kp (And.intro @zB_ hS.len) ?_
 have e:zQ_ true (if bg=true then st else initL) rest many taken=x1_ (qX_ (v2_ bg ⟨st,rest,many⟩) (l.take 0).flatten) (kn_ taken (l.take 0)):=by cases bg<;>rfl
 rw[e]
 have hok0:=Wq_ bg hs
 generalize v2_ bg ⟨st,rest,many⟩=S0 at*
 refine Cw.loopG (G:=Nat) [14,15,16,5,17,18,19,20,21,6,22,23,24,25,26,27,28,29,30,31,32,33,34,35,36,37,38,13] (fun g=> [(13,vi g)]) (fun g=> [(b, .cells (x1_ (qX_ S0 (l.take g).flatten) (kn_ taken (l.take g))) 141 (0,0))]) (fun g=>g≤l.length) (fun g=>l.length - g) 0 rfl rfl ?_ ?_
 ·omega
 intro g j hg
 refine kv ?_
 by_cases hlt:g<l.length
 ·have hlg:=hS.get g hlt
  have hb2:=hS.has (by omega)
  have hne2:=hne (by omega)
  have hzg:=hz g hlt
  first|with_reducible refine ks [] (And.intro @zB_ (And.intro @Sx.loadV_one (And.intro @hb2 (And.intro @hlg (hS.idx))))) ?_|refine kp (And.intro @zB_ (And.intro @Sx.loadV_one (And.intro @hb2 (And.intro @hlg (hS.idx))))) ?_
  have hok:=kJ_ (l.take g).flatten hok0
  rw[show x1_ (qX_ S0 (l.take g).flatten) (kn_ taken (l.take g))=x1_ (qX_ (qX_ S0 (l.take g).flatten) ((l.getD g []).take 0)) (kn_ taken (l.take g)) from rfl]
  refine Cw.loopG (G:=Nat) [20,21,6,22,23,24,25,26,27,19] (fun k=> [(19,vi k)]) (fun k=> [(b, .cells (x1_ (qX_ (qX_ S0 (l.take g).flatten) ((l.getD g []).take k)) (kn_ taken (l.take g))) 141 (0,0))]) (fun k=>k≤ (l.getD g []).length) (fun k=>(l.getD g []).length - k) 0 rfl rfl ?_ ?_
  ·omega
  intro k jk hk
  refine kv ?_
  by_cases hlk:k< (l.getD g []).length
  ·first|with_reducible refine ks [] @zB_ ?_|refine kp @zB_ ?_
   refine Ow.callM rfl rfl Tryz.call107 (by simp[keys]) (fun w' hw'=>Z5_ _ _ _ _ w' (GlobE.of hG hw' (by simp[keys];omega)) hb (kJ_ _ hok) (hw'.has _ _ List.mem_cons_self)) ?_
   refine ko @zB_ ?_
   first|with_reducible refine ks [] @zB_ ?_|refine kp @zB_ ?_
   refine Again.mk (k+1) (by omega) (by omega) ?_ rfl
   rw[Kb_ _ _ _ hlk]
  ·have hke:k=(l.getD g []).length:=by omega
   subst hke
   have hok2:=kJ_ (l.getD g []) hok
   have hok3:=hok2.st
   have hok4:=hok2.rest
   rw[List.take_length]
   unfold x1_
   first|with_reducible refine ks [] @zB_ ?_|refine kp @zB_ ?_
   refine Again.mk (g+1) (by omega) (by omega) ?_ rfl
   rw[aah_ _ _ hlt,jI_,acP_ _ _ _ hlt,show UInt64.ofInt ((l.getD g []).length:Int)=UInt64.ofNat (l.getD g []).length from JY_ _]
 ·have hge:g=l.length:=by omega
  subst hge
  first|with_reducible refine ks [] @zB_ ?_|refine kp @zB_ ?_
  rw[List.take_length]
  refine⟨_,_,_,(ke @zB_),rfl,trivial, ?_⟩
  exact⟨rfl,rfl⟩
end Go.Proofs
end
namespace Go.Dig
open Go.Sx
def kc_ (m:Nat):Nat:=(120 - m)%64
def lenB (t:UInt64) (g:Nat):UInt8:=UInt8.ofNat (xg_ (8*t) (56 - 8*g)).toNat
def len8 (t:UInt64):List UInt8:=(List.range 8).map (lenB t)
def outB (st:List UInt32) (j:Nat):UInt8:=UInt8.ofNat (qo_ (st.getD (j / 4) 0) (24 - 8* (j%4))).toNat
def jW_ (st:List UInt32) (k:Nat):List UInt8:=(List.range 32).map fun j=>if j<k then outB st j else 0
def ae0_ (s:Hs) (taken:UInt64):Hs:=qX_ (qX_ (J4_ s 128) (List.replicate (kc_ (J4_ s 128).many) 0)) (len8 taken)
def hsum (s:Hs) (taken:UInt64):List UInt8:=jW_ (ae0_ s taken).st 32
def H0:Hs:=⟨initL,List.replicate 64 0,0⟩
theorem ap5_:H0.Ok:=⟨rfl,by simp[H0],by show(0:Nat)<64;omega⟩
def sumV (l:List (List UInt8)):List UInt8:=hsum (qX_ H0 l.flatten) (kn_ 0 l)
theorem ajw_ {s:Hs} (x:UInt8) (h:s.Ok): (J4_ s x).many=(s.many+1)%64:=by
 have:=h.many
 unfold J4_
 split
 ·show 0=_;omega
 ·show s.many+1=_;omega
theorem af7_ {s:Hs} (l:List UInt8) (h:s.Ok): (qX_ s l).many=(s.many+l.length)%64:=by
 induction l generalizing s with
 |nil=>have:=h.many;show s.many=_;simp;omega
 |cons x r ih=>
  show(qX_ (J4_ s x) r).many=_
  rw[ih (KP_ x h),ajw_ x h,List.length_cons];omega
theorem aib_ (s:Hs) (x:UInt8) (j:Nat):qX_ s (List.replicate (j+1) x)=J4_ (qX_ s (List.replicate j x)) x:=by
 rw[List.replicate_succ',jI_];rfl
theorem outPre_length (st:List UInt32) (k:Nat): (jW_ st k).length=32:=by simp[jW_]
theorem JA_ (st:List UInt32):jW_ st 0=List.replicate 32 0:=by
 apply List.ext_getElem
 ·simp[jW_]
 intro k hk1 hk2
 simp only[jW_,List.getElem_map,List.getElem_range,List.getElem_replicate]
 rw[if_neg (by omega)]
theorem xL_ (st:List UInt32) (k:Nat): (jW_ st k).set k (outB st k)=jW_ st (k+1):=by
 apply List.ext_getElem
 ·simp[jW_]
 intro j hk1 hk2
 rw[List.getElem_set]
 by_cases h:k=j
 ·subst h;simp[jW_]
 ·rw[if_neg h]
  simp only[jW_,List.getElem_map,List.getElem_range]
  by_cases h1:j<k
  ·rw[if_pos h1,if_pos (by omega)]
  ·rw[if_neg h1,if_neg (by omega)]
theorem VR_ (st:List UInt32) (i r:Nat) (h:r<4):outB st (4*i+r)=UInt8.ofNat (qo_ (st.getD i 0) (24 - 8*r)).toNat:=by
 unfold outB
 rw[show(4*i+r) / 4=i by omega,show(4*i+r)%4=r by omega]
theorem Wz_ (x:UInt32):qo_ x 0=x:=by
 apply UInt32.toNat.inj
 have:=x.toNat_lt
 rw[qo_,UInt32.toNat_ofNat']
 simp
theorem adE_ (st:List UInt32) (i:Nat):
  ((((jW_ st (4*i)).set (4*i) (UInt8.ofNat (qo_ (st.getD i 0) 24).toNat)).set (4*i+1) (UInt8.ofNat (qo_ (st.getD i 0) 16).toNat)).set (4*i+2) (UInt8.ofNat (qo_ (st.getD i 0) 8).toNat)).set (4*i+3) (UInt8.ofNat (st.getD i 0).toNat)=jW_ st (4* (i+1)):=by
 have h0:=VR_ st i 0 (by omega)
 have h1:=VR_ st i 1 (by omega)
 have h2:=VR_ st i 2 (by omega)
 have h3:=VR_ st i 3 (by omega)
 rw[Nat.add_zero] at h0
 rw[show 24 - 8*3=0 from rfl,Wz_] at h3
 rw[←h3,←h2,←h1,←h0,xL_,xL_,xL_,xL_]
 rw[show 4* (i+1)=4*i+1+1+1+1 by omega]
theorem QP_ (t:UInt64): (len8 t).length=8:=by simp[len8]
theorem ajP_ (t:UInt64) (g:Nat) (h:g<8): (len8 t).getD g 0=lenB t g:=by simp[len8,List.getD_eq_getElem?_getD,h]
end Go.Dig
section
open Go Go.Proofs Go.Sx Go.Dig
namespace Go.Proofs
set_option maxRecDepth 10000
set_option maxHeartbeats 1000000
set_option linter.unusedSimpArgs false
set_option linter.defProp false
theorem amY_:zI_ Tryz.prog 141=some (.agg (zQ_ false (List.replicate 8 0) (List.replicate 64 0) 0 0)):=id (by kernel_rfl)
theorem Kf_ (bg:Bool) (st:List UInt32) (rest:List UInt8) (many:Int) (taken:UInt64):Value.cells (.agg (zQ_ bg st rest many taken))=zQ_ bg st rest many taken:=za_ _
theorem v7_ {bg bg':Bool} {st st':List UInt32} {rest rest':List UInt8} {many many':Int} {taken taken':UInt64} {E:TypeId} (h:st.length=8∧rest.length=64∧st'.length=8∧rest'.length=64):
  zn_ (some (true,75)) (some (.cells (zQ_ bg' st' rest' many' taken') E (0,0))) 0 (.agg (zQ_ bg st rest many taken))=some (.cells (zQ_ bg st rest many taken) E (0,0)):=
 kx_ _ ⟨h.1,h.2.1,jy_ h.2.2⟩
theorem ahg_ (b:Nat) (bg:Bool) (s:Hs) (taken:UInt64) (w:World) (hG:GlobE w) (hb:3<b) (hs:s.Ok)
  (ho:w.heap[b]? =some (.cells (zQ_ bg s.st s.rest s.many taken) 141 (0,0))):
  Rets Tryz.prog 74 #[vp b 0] w (fun v D=>v= .agg (a8 (hsum (v2_ bg s) taken))∧D= []):=by
 obtain⟨e0,e1,f0,f1,h0,h1⟩:=id hG
 obtain⟨st,rest,many⟩:=s
 obtain⟨hst,hrt,hmn⟩:=id hs
 simp only at ho hst hrt hmn ⊢
 refine Rets.enterV Tryz.func74 rfl (rs:= [.cell 2 41]) Tryz.results74 Tryz.ntmps74 ?_
 refine kf ?_
 first|with_reducible refine ks [] @zB_ ?_|refine kp @zB_ ?_
 refine Ow.alloc rfl rfl Tryz.zr41 fun b1 hb1 hw1=> ?_
 refine ko @zB_ ?_
 first|with_reducible refine ks [] @zB_ ?_|refine kp @zB_ ?_
 refine Ow.alloc rfl rfl amY_ fun b2 hb2 hw2=> ?_
 obtain⟨h12,-⟩:=hb2
 have hbl:=(Array.getElem?_eq_some_iff.1 ho).1
 rw[Kf_]
 refine ko @zB_ ?_
 first|with_reducible refine ks [] (And.intro @zB_ (And.intro @ho (@v7_))) ?_|refine kp (And.intro @zB_ (And.intro @ho (@v7_))) ?_
 refine Ow.callM rfl rfl Tryz.call106 (by simp[keys]) (fun w' hw'=>Ks_ _ _ _ _ _ _ w' (GlobE.of hG hw' (by simp[keys];omega)) (by omega) hst hrt (hw'.has _ _ (List.mem_cons_of_mem _ List.mem_cons_self))) ?_
 refine ko @zB_ ?_
 first|with_reducible refine ks [] @zB_ ?_|refine kp @zB_ ?_
 have e:zQ_ true (if bg=true then st else initL) rest many taken=x1_ (v2_ bg ⟨st,rest,many⟩) taken:=by cases bg<;>rfl
 rw[e]
 have hok0:=Wq_ bg hs
 generalize v2_ bg ⟨st,rest,many⟩=S0 at*
 refine Ow.callM rfl rfl Tryz.call107 (by simp[keys]) (fun w' hw'=>Z5_ _ _ _ 128 w' (GlobE.of hG hw' (by simp[keys];omega)) (by omega) hok0 (hw'.has _ _ (List.mem_cons_of_mem _ List.mem_cons_self))) ?_
 refine ko @zB_ ?_
 have hok1:=KP_ 128 hok0
 have ep:ae0_ S0 taken=qX_ (qX_ (J4_ S0 128) (List.replicate (kc_ (J4_ S0 128).many) 0)) (len8 taken):=rfl
 unfold hsum
 rw[ep]
 generalize J4_ S0 128=S1 at*
 first|with_reducible refine ks [] @zB_ ?_|refine kp @zB_ ?_
 rw[show x1_ S1 taken=x1_ (qX_ S1 (List.replicate 0 0)) taken from rfl]
 have hz: (S1.many+kc_ S1.many)%64=56∧kc_ S1.many<64:=by have:=hok1.many;unfold kc_;omega
 refine Cw.loopG (G:=Nat) [15,16,17,18] (fun g=> []) (fun g=> [(b1, .cells (a8 (List.replicate 32 0)) 41 (0,0)),(b2, .cells (x1_ (qX_ S1 (List.replicate g 0)) taken) 141 (0,0))]) (fun g=>g≤kc_ S1.many) (fun g=>kc_ S1.many - g) 0 rfl rfl ?_ ?_
 ·omega
 intro g j hg
 refine kv ?_
 have hokg:=kJ_ (List.replicate g 0) hok1
 have hm:=af7_ (List.replicate g 0) hok1
 rw[List.length_replicate] at hm
 have hg1:=hokg.st
 have hg2:=hokg.rest
 by_cases hlt:g<kc_ S1.many
 ·have hzz: (S1.many+g)%64≠56:=by have:=hok1.many;unfold kc_ at hlt;omega
  unfold x1_
  first|with_reducible refine ks [] @zB_ ?_|refine kp @zB_ ?_
  refine Ow.callM rfl rfl Tryz.call107 (by simp[keys]) (fun w' hw'=>Z5_ _ _ _ 0 w' (GlobE.of hG hw' (by simp[keys];omega)) (by omega) hokg (hw'.has _ _ (List.mem_cons_of_mem _ List.mem_cons_self))) ?_
  refine ko @zB_ ?_
  first|with_reducible refine ks [] @zB_ ?_|refine kp @zB_ ?_
  refine Again.mk (g+1) (by omega) (by omega) ?_ rfl
  rw[aib_];rfl
 ·have hge:g=kc_ S1.many:=by omega
  subst hge
  unfold x1_
  first|with_reducible refine ks [] @zB_ ?_|refine kp @zB_ ?_
  generalize qX_ S1 (List.replicate (kc_ S1.many) 0)=S2 at*
  rw[show zQ_ true S2.st S2.rest S2.many taken=x1_ (qX_ S2 ((len8 taken).take 0)) taken from rfl]
  have h8:=QP_ taken
  refine Cw.loopG (G:=Nat) [19,20,23,24,25,26,27,28,29,21,22,4] (fun k=> [(4,vi (56 - 8*k))]) (fun k=> [(b1, .cells (a8 (List.replicate 32 0)) 41 (0,0)),(b2, .cells (x1_ (qX_ S2 ((len8 taken).take k)) taken) 141 (0,0))]) (fun k=>k≤8) (fun k=>8 - k) 0 rfl rfl ?_ ?_
  ·omega
  intro k jk hk
  refine kv ?_
  have hokk:=kJ_ ((len8 taken).take k) hokg
  have hk1:=hokk.st
  have hk2:=hokk.rest
  by_cases hk8:k<8
  ·unfold x1_
   first|with_reducible refine ks [] @zB_ ?_|refine kp @zB_ ?_
   rw[show(56 - 8* (k:Int)).toNat=56 - 8*k from by omega]
   refine Ow.callM rfl rfl Tryz.call107 (by simp[keys]) (fun w' hw'=>Z5_ _ _ _ (lenB taken k) w' (GlobE.of hG hw' (by simp[keys];omega)) (by omega) hokk (hw'.has _ _ (List.mem_cons_of_mem _ List.mem_cons_self))) ?_
   refine ko @zB_ ?_
   first|with_reducible refine ks [] @zB_ ?_|refine kp @zB_ ?_
   refine Again.mk (k+1) (by omega) (by omega) ?_ ?_
   ·rw[Kb_ _ _ _ (by omega),ajP_ _ _ hk8];rfl
   ·rw[show(56 - 8* ((k+1:Nat):Int))=56 - 8* (k:Int) - 8 from by omega];rfl
  ·have hke:k=8:=by omega
   subst hke
   first|with_reducible refine ks [] @zB_ ?_|refine kp @zB_ ?_
   rw[List.take_of_length_le (show(len8 taken).length≤8 by omega)] at*
   generalize qX_ S2 (len8 taken)=S3 at*
   refine Ow.alloc rfl rfl Tryz.zr41 fun b3 hb3 hw3=> ?_
   obtain⟨h13,h23,-⟩:=hb3
   unfold x1_
   refine ko @zB_ ?_
   first|with_reducible refine ks [] @zB_ ?_|refine kp @zB_ ?_
   rw[show a8 (List.replicate 32 0)=a8 (jW_ S3.st (4*0)) from by rw[JA_]]
   have h3s:=(kJ_ (len8 taken) hokg).st
   have hS3:S3.st.length=8:=hk1
   refine Cw.loopG (G:=Nat) [33,34,35,6,7,36,37,38,39,40,41,42,43,44,45,46,47,48,49,50,51,52,53,54,55,56,57,58,59,60,61,62,32] (fun i=> [(32,vi i)]) (fun i=> [(b1, .cells (a8 (jW_ S3.st (4*0))) 41 (0,0)),(b2, .cells (zQ_ true S3.st S3.rest S3.many taken) 141 (0,0)),(b3, .cells (a8 (jW_ S3.st (4*i))) 41 (0,0))]) (fun i=>i≤8) (fun i=>8 - i) 0 rfl rfl ?_ ?_
   ·omega
   intro i ji hi
   refine kv ?_
   have hol:=outPre_length S3.st (4*i)
   have hol0:=outPre_length S3.st (4*0)
   by_cases hi8:i<8
   ·first|with_reducible refine ks [] @zB_ ?_|refine kp @zB_ ?_
    refine Again.mk (i+1) (by omega) (by omega) ?_ rfl
    rw[adE_]
   ·have hie:i=8:=by omega
    subst hie
    first|with_reducible refine ks [] @zB_ ?_|refine kp @zB_ ?_
    rw[show 4*8=32 from rfl]
    refine⟨_,(ke @zB_),⟨hw1,hw2,hw3,trivial⟩, ?_⟩
    rfl
end Go.Proofs
end
section
open Go Go.Proofs Go.Sx Go.Dig
namespace Go.Proofs
set_option maxRecDepth 10000
set_option maxHeartbeats 1000000
set_option linter.unusedSimpArgs false
set_option linter.defProp false
theorem ajm_ (x:Value) (b2 off:Nat) (l:List (List UInt8)) (arr:Array Value) (E:TypeId) (fz:Nat×Nat) (w:World) (hG:GlobE w)
  (hS:StrS w x l b2 off arr E fz) (hn:l.length<1099511627776) (hz: ∀i,i<l.length→(l.getD i []).length<1099511627776):
  Rets Tryz.prog 41 #[x] w (fun v D=>v= .agg (a8 (sumV l))∧D= []):=by
 obtain⟨e0,e1,f0,f1,h0,h1⟩:=id hG
 have hg1:3<w.heap.size:=(Array.getElem?_eq_some_iff.1 h1).1
 have hbl:0<l.length→b2<w.heap.size:=fun h=>(Array.getElem?_eq_some_iff.1 (hS.has h)).1
 refine Rets.enterV Tryz.func41 rfl (rs:= [.cell 2 41]) Tryz.results41 Tryz.ntmps41 ?_
 refine kf ?_
 first|with_reducible refine ks [] @zB_ ?_|refine kp @zB_ ?_
 refine Ow.alloc rfl rfl Tryz.zr41 fun b1 hb1 hw1=> ?_
 refine ko @zB_ ?_
 first|with_reducible refine ks [] @zB_ ?_|refine kp @zB_ ?_
 refine Ow.alloc rfl rfl amY_ fun b3 hb3 hw3=> ?_
 obtain⟨h13,-⟩:=hb3
 rw[Kf_]
 refine ko @zB_ ?_
 first|with_reducible refine ks [] @zB_ ?_|refine kp @zB_ ?_
 refine Ow.callM rfl rfl Tryz.call73 (by simp[keys]) (fun w' hw'=>abm_ _ _ ⟨List.replicate 8 0,List.replicate 64 0,0⟩ _ _ _ _ _ _ _ _ w' (GlobE.of hG hw' (by simp[keys];omega)) (by omega) ⟨by simp,by simp,by simp⟩ (fun h=>by have:=hbl h;omega) (hS.old hw' (fun h=>by have:=hbl h;simp[keys];omega)) hn hz (hw'.has _ _ (List.mem_cons_of_mem _ List.mem_cons_self))) ?_
 refine ko @zB_ ?_
 first|with_reducible refine ks [] @zB_ ?_|refine kp @zB_ ?_
 have hok:=kJ_ l.flatten ap5_
 have e:v2_ false ⟨List.replicate 8 0,List.replicate 64 0,0⟩=H0:=rfl
 rw[e]
 refine Ow.callFV rfl Tryz.call74 (fun w' hw'=>ahg_ _ true _ _ w' (GlobE.of hG hw' (by simp[keys];omega)) (by omega) hok (hw'.has _ _ (List.mem_cons_of_mem _ List.mem_cons_self))) ?_
 have hsl: (hsum (v2_ true (qX_ H0 l.flatten)) (kn_ 0 l)).length=32:=outPre_length _ _
 refine ko @zB_ ?_
 first|with_reducible refine ks [] @zB_ ?_|refine kp @zB_ ?_
 refine⟨_,(ke @zB_),⟨hw1,hw3,trivial⟩, ?_⟩
 rfl
end Go.Proofs
end
namespace Go.Dig
open Go.Sx
def quoN (t:UInt64):Nat→UInt64
 |0=>t
 |n+1=>quoN t n / 256
theorem agE_ (t:UInt64) (n:Nat): (quoN t n).toNat=t.toNat / 256^n:=by
 induction n with
 |zero=>simp[quoN]
 |succ n ih=>
  show(quoN t n / 256).toNat=_
  rw[UInt64.toNat_div,ih,Nat.pow_succ,Nat.div_div_eq_div_mul];rfl
def aoQ_ (t:UInt64) (j:Nat):UInt8:=UInt8.ofNat (xg_ t (56 - 8*j)).toNat
theorem alF_ (t:UInt64) (i:Nat) (h:i<8):UInt8.ofNat (quoN t i%256).toNat=aoQ_ t (7 - i):=by
 apply UInt8.toNat.inj
 unfold aoQ_
 rw[UInt8.toNat_ofNat',UInt8.toNat_ofNat',UInt64.toNat_mod,agE_,xg_,UInt64.toNat_ofNat']
 have e:56 - 8* (7 - i)=8*i:=by omega
 have ht:=t.toNat_lt
 have hd:t.toNat / 2^ (8*i)≤t.toNat:=Nat.div_le_self _ _
 rw[e,Nat.mod_eq_of_lt (a:=t.toNat / 2^ (8*i)) (by omega)]
 have e2:256^i=2^ (8*i):=by rw[Nat.pow_mul]
 rw[e2,show(256:UInt64).toNat=256 from rfl]
 omega
def jr_ (t:UInt64) (i:Nat):List UInt8:=(List.range 8).map fun j=>if 8≤j+i then aoQ_ t j else 0
theorem Xv_ (t:UInt64) (i:Nat): (jr_ t i).length=8:=by simp[jr_]
theorem aaW_ (t:UInt64):jr_ t 0=List.replicate 8 0:=by
 apply List.ext_getElem
 ·simp[jr_]
 intro k hk1 hk2
 have:k<8:=by simpa [jr_] using hk1
 simp only[jr_,List.getElem_map,List.getElem_range,List.getElem_replicate]
 rw[if_neg (by omega)]
theorem aaH_ (t:UInt64) (i:Nat) (h:i<8): (jr_ t i).set (7 - i) (UInt8.ofNat (quoN t i%256).toNat)=jr_ t (i+1):=by
 rw[alF_ t i h]
 apply List.ext_getElem
 ·simp[jr_]
 intro j hj1 hj2
 have hj:j<8:=by simpa [jr_] using hj2
 rw[List.getElem_set]
 by_cases h1:7 - i=j
 ·rw[if_pos h1]
  simp only[jr_,List.getElem_map,List.getElem_range]
  rw[if_pos (by omega),h1]
 ·rw[if_neg h1]
  simp only[jr_,List.getElem_map,List.getElem_range]
  by_cases h2:8≤j+i
  ·rw[if_pos h2,if_pos (by omega)]
  ·rw[if_neg h2,if_neg (by omega)]
theorem abX_ (t:UInt64):jr_ (8*t) 8=len8 t:=by
 unfold jr_ len8
 apply List.map_congr_left
 intro j hj
 rw[if_pos (by omega)];rfl
def padR (m:List UInt8):List UInt8:=m++ [128]++List.replicate (kc_ ((m.length+1)%64)) 0++len8 (UInt64.ofNat m.length)
theorem XQ_ (n:Nat): (n+kc_ (n%64))%64=56∧kc_ (n%64)<64:=by unfold kc_;omega
theorem adb_ (m:List UInt8): (padR m).length%64=0∧(padR m).length≤m.length+72:=by
 have:=XQ_ (m.length+1)
 simp only[padR,List.length_append,List.length_replicate,QP_,List.length_cons,List.length_nil]
 omega
def shaR (m:List UInt8):List UInt8:=jW_ (v9_ initL (padR m) ((padR m).length / 64)) 32
theorem agt_ (st s:List UInt32):xj_ st s 8= [st.getD 0 0+s.getD 0 0,st.getD 1 0+s.getD 1 0,st.getD 2 0+s.getD 2 0,st.getD 3 0+s.getD 3 0,st.getD 4 0+s.getD 4 0,st.getD 5 0+s.getD 5 0,st.getD 6 0+s.getD 6 0,st.getD 7 0+s.getD 7 0]:=rfl
end Go.Dig
