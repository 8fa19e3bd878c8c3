/-
  Part 4 of the walk: contracts of the functions that the law reaches, and the calculus they stand on.
  No conditions.
-/
import Derived.Test.YtlpbaodcpnennaaGreatDoorS3
import Derived.ProofKit
import Derived.OpenShut
import Derived.WideKeyArgs
import Derived.ChangeSame
import Derived.ChangeMaps5
import Derived.Lib.LaidTab
import Derived.SliceStrings
import Derived.DataReads
import Derived.Deep.Strs
section
open Go Go.Proofs Go.Sx
namespace Go.Proofs
set_option maxRecDepth 10000
set_option maxHeartbeats 4000000
set_option linter.unusedSimpArgs false
def vS_ (n:UInt32):UInt32:=if n%2==1 then n / 2^^^3988292384 else n / 2
theorem VV_ (n:UInt32): (vS_ n).toBitVec=stB n.toBitVec:=by
 have hd: (n / 2).toBitVec=n.toBitVec>>>1:=by
  apply BitVec.eq_of_toNat_eq
  rw[UInt32.toBitVec_div,BitVec.toNat_udiv,BitVec.toNat_ushiftRight]
  rfl
 have hm: (n%2==1)=n.toBitVec.getLsbD 0:=by
  rw[BitVec.getLsbD,Nat.testBit_eq_decide_div_mod_eq,Nat.pow_zero,Nat.div_one,Bool.eq_iff_iff,beq_iff_eq,decide_eq_true_eq,←UInt32.toNat_inj,UInt32.toNat_mod]
  rfl
 unfold vS_ stB
 rw[hm]
 cases n.toBitVec.getLsbD 0
 ·rw[if_neg (by decide),hd];simp[kB]
 ·rw[if_pos rfl,UInt32.toBitVec_xor,hd];rfl
theorem aan_ (n:UInt32):W9_ n=vS_ (vS_ (vS_ (vS_ n))):=by
 apply UInt32.toBitVec_inj.1
 rw[VV_,VV_,VV_,VV_,arE_]
 unfold W9_
 rw[UInt32.toBitVec_xor]
 congr 1
 ·apply BitVec.eq_of_toNat_eq
  unfold qj_
  rw[BitVec.toNat_ushiftRight,Nat.shiftRight_eq_div_pow]
  have:=n.toNat_lt
  simp only[UInt32.toNat_toBitVec,UInt32.toNat_ofNat']
  omega
 ·have e: (n&&&15).toNat=n.toBitVec.toNat%16:=by
   rw[UInt32.toNat_and,show(15:UInt32).toNat=2^4 - 1 from rfl,Nat.and_two_pow_sub_one_eq_mod]
   rfl
  rw[e]
  have hlt:n.toBitVec.toNat%16<16:=Nat.mod_lt _ (by omega)
  generalize n.toBitVec.toNat%16=m at hlt
  have: ∀m,m<16→(hvL.getD m 0).toBitVec=hvB.getD m 0:=by decide
  exact this m hlt
def amu_ (n:UInt32):Nat→UInt32
 |0=>n
 |k+1=>vS_ (amu_ n k)
theorem agS_ (n:UInt32):amu_ n 8=aov_ n 2:=by
 show vS_ (vS_ (vS_ (vS_ (vS_ (vS_ (vS_ (vS_ n)))))))=W9_ (W9_ n)
 rw[aan_,aan_]
set_option linter.defProp false
def qa_:=And.intro (And.intro (@zn_) (@wy_)) (And.intro (@wv_) (And.intro (@wk_) (@zm_)))
theorem ajC_ (n:UInt32) (w:World):Rets Tryz.prog 144 #[v32 n] w (fun v D=>v=v32 (vS_ n)∧D= []):=by
 have hrem:zp_ .rem (v32 n) (v32 2)=some (v32 (n%2)):=xK_ _ _ (by decide)
 have hquo:zp_ .quo (v32 n) (v32 2)=some (v32 (n / 2)):=xV_ _ _ (by decide)
 refine Rets.enterV Tryz.func144 rfl (rs:= [.tmp 2]) Tryz.results144 Tryz.ntmps144 ?_
 refine kf ?_
 unfold vS_
 first|with_reducible refine ks [] (And.intro @qa_ (And.intro @hrem (@hquo))) ?_|refine kp (And.intro @qa_ (And.intro @hrem (@hquo))) ?_
 cases h: (n%2==1)
 ·first|with_reducible refine ks [] (And.intro @qa_ @hquo) ?_|refine kp (And.intro @qa_ @hquo) ?_
  refine⟨_,(ke @qa_),trivial, ?_⟩
  rfl
 ·first|with_reducible refine ks [] (And.intro @qa_ @hquo) ?_|refine kp (And.intro @qa_ @hquo) ?_
  refine⟨_,(ke @qa_),trivial, ?_⟩
  rfl
theorem aj8_ (n:UInt32) (b:UInt8) (w:World):Rets Tryz.prog 140 #[v32 n,v8 b] w (fun v D=>v=v32 (all_ n b)∧D= []):=by
 refine Rets.enterV Tryz.func140 rfl (rs:= [.tmp 4]) Tryz.results140 Tryz.ntmps140 ?_
 refine kf ?_
 first|with_reducible refine ks [] @qa_ ?_|refine kp @qa_ ?_
 unfold all_
 generalize n^^^UInt32.ofNat b.toNat=m
 rw[←agS_,show v32 m=v32 (amu_ m 0) from rfl]
 refine Cw.loopG (G:=Nat) [10,11,14,15,0,12,13,5] (fun g=> [(0,v32 (amu_ m g)),(5,vi g)]) (fun g=> []) (fun g=>g≤8) (fun g=>8 - g) 0 rfl rfl ?_ ?_
 ·omega
 intro g j hg
 refine kv ?_
 by_cases hlt:g<8
 ·first|with_reducible refine ks [] @qa_ ?_|refine kp @qa_ ?_
  refine Ow.callFV rfl Tryz.call144 (fun w' hw'=>ajC_ _ w') ?_
  refine ko @qa_ ?_
  first|with_reducible refine ks [] @qa_ ?_|refine kp @qa_ ?_
  refine Again.mk (g+1) (by omega) (by omega) rfl rfl
 ·obtain rfl:g=8:=by omega
  first|with_reducible refine ks [] @qa_ ?_|refine kp @qa_ ?_
  refine⟨_,(ke @qa_),trivial, ?_⟩
  rfl
theorem aoW_ (n:UInt32):4294967295 - n= ~~~ n:=by
 apply UInt32.toBitVec_inj.1
 rw[UInt32.toBitVec_sub,UInt32.toBitVec_not,←BitVec.allOnes_sub_eq_not]
 rfl
theorem adp_ (s:List UInt8) (w:World) (hs:s.length<1099511627776):Rets Tryz.prog 124 #[vs s] w (fun v D=>v=v32 (crcV s)∧D= []):=by
 refine Rets.enterV Tryz.func124 rfl (rs:= [.tmp 2]) Tryz.results124 Tryz.ntmps124 ?_
 refine kf ?_
 first|with_reducible refine ks [] @qa_ ?_|refine kp @qa_ ?_
 rw[show v32 4294967295=v32 (ahz_ (~~~ (0:UInt32)) (s.take 0)) from rfl]
 refine Cw.loopG (G:=Nat) [5,6,7,8,11,12,13,14,15,3,9,10,4] (fun g=> [(3,v32 (ahz_ (~~~ (0:UInt32)) (s.take g))),(4,vi g)]) (fun g=> []) (fun g=>g≤s.length) (fun g=>s.length - g) 0 rfl rfl ?_ ?_
 ·omega
 intro g j hg
 refine kv ?_
 by_cases hlt:g<s.length
 ·first|with_reducible refine ks [] @qa_ ?_|refine kp @qa_ ?_
  refine Ow.callFV rfl Tryz.call140 (fun w' hw'=>aj8_ _ _ w') ?_
  refine ko @qa_ ?_
  first|with_reducible refine ks [] @qa_ ?_|refine kp @qa_ ?_
  refine Again.mk (g+1) (by omega) (by omega) rfl ?_
  rw[ahg_ _ _ _ hlt]
  rfl
 ·obtain rfl:g=s.length:=by omega
  first|with_reducible refine ks [] @qa_ ?_|refine kp @qa_ ?_
  rw[List.take_length]
  rw[aoW_]
  refine⟨_,(ke @qa_),trivial, ?_⟩
  rfl
theorem aoj_ (n:UInt32):sum4 n= [UInt8.ofNat (n%256).toNat,UInt8.ofNat (n / 256%256).toNat,UInt8.ofNat (n / 65536%256).toNat,UInt8.ofNat (n / 16777216).toNat]:=by
 show [UInt8.ofNat (qj_ n 0).toNat,UInt8.ofNat (qj_ n 8).toNat,UInt8.ofNat (qj_ n 16).toNat,UInt8.ofNat (qj_ n 24).toNat]=_
 have hn:=n.toNat_lt
 congr 1
 ·apply UInt8.toNat_inj.1
  simp[qj_]
 ·congr 1
  ·apply UInt8.toNat_inj.1
   simp[qj_]
  ·congr 1
   ·apply UInt8.toNat_inj.1
    simp[qj_]
   ·congr 1
    apply UInt8.toNat_inj.1
    simp[qj_]
theorem W5_ (s:List UInt8) (w:World) (hs:s.length<1099511627776):
  Rets Tryz.prog 96 #[vs s] w (fun v D=>v=vs (alu_ s)∧D= []):=by
 refine Rets.enterV Tryz.func96 rfl (rs:= [.tmp 2]) Tryz.results96 Tryz.ntmps96 ?_
 refine kf ?_
 first|with_reducible refine ks [] @qa_ ?_|refine kp @qa_ ?_
 refine Ow.callFV rfl Tryz.call124 (fun w' hw'=>adp_ s w' hs) ?_
 refine ko @qa_ ?_
 unfold alu_
 rw[aoj_]
 generalize crcV s=n
 have h1:zp_ .rem (v32 n) (v32 256)=some (v32 (n%256)):=xK_ _ _ (by decide)
 have h2:zp_ .quo (v32 n) (v32 256)=some (v32 (n / 256)):=xV_ _ _ (by decide)
 have h3:zp_ .rem (v32 (n / 256)) (v32 256)=some (v32 (n / 256%256)):=xK_ _ _ (by decide)
 have h4:zp_ .quo (v32 n) (v32 65536)=some (v32 (n / 65536)):=xV_ _ _ (by decide)
 have h5:zp_ .rem (v32 (n / 65536)) (v32 256)=some (v32 (n / 65536%256)):=xK_ _ _ (by decide)
 have h6:zp_ .quo (v32 n) (v32 16777216)=some (v32 (n / 16777216)):=xV_ _ _ (by decide)
 first|with_reducible refine ks [] (And.intro @qa_ (And.intro @h1 (And.intro @h2 (And.intro @h3 (And.intro @h4 (And.intro @h5 (@h6))))))) ?_|refine kp (And.intro @qa_ (And.intro @h1 (And.intro @h2 (And.intro @h3 (And.intro @h4 (And.intro @h5 (@h6))))))) ?_
 generalize UInt8.ofNat (n%256).toNat=q0
 generalize UInt8.ofNat (n / 256%256).toNat=q1
 generalize UInt8.ofNat (n / 65536%256).toNat=q2
 generalize UInt8.ofNat (n / 16777216).toNat=q3
 refine Ow.buildSlice (e:=5) #[v8 q0,v8 q1,v8 q2,v8 q3] rfl rfl (by kernel_rfl) fun b1 hb1 hw1=> ?_
 rw[show(#[v8 q0,v8 q1,v8 q2,v8 q3]:Array Value)=a8 [q0,q1,q2,q3] from rfl]
 have hl4: [q0,q1,q2,q3].length=4:=rfl
 have e4:List.take 4 (List.drop 0 [q0,q1,q2,q3])= [q0,q1,q2,q3]:=rfl
 generalize [q0,q1,q2,q3]=q at*
 refine ko (And.intro @qa_ @e4) ?_
 first|with_reducible refine ks [] @qa_ ?_|refine kp @qa_ ?_
 refine⟨_,(ke @qa_),⟨hw1,trivial⟩, ?_⟩
 rfl
theorem X1_ (s:List UInt8) (w:World) (hs:s.length<1099511627776):
  Rets Tryz.prog 78 #[vs s] w (fun v D=>v= .tuple #[vs (jt_ s).1, .bool (jt_ s).2]∧D= []):=by
 refine Rets.enterV Tryz.func78 rfl (rs:= [.tmp 2, .tmp 3]) Tryz.results78 Tryz.ntmps78 ?_
 refine kf ?_
 first|with_reducible refine ks [] @qa_ ?_|refine kp @qa_ ?_
 unfold jt_
 by_cases h4:s.length<4
 ·have e1:decide ((s.length:Int)<4)=true:=decide_eq_true (by omega)
  rw[if_pos h4]
  first|with_reducible refine ks [] (And.intro @qa_ @e1) ?_|refine kp (And.intro @qa_ @e1) ?_
  refine⟨_,(ke @qa_),trivial, ?_⟩
  rfl
 ·have e1:decide ((s.length:Int)<4)=false:=decide_eq_false (by omega)
  have e2: ((s.length:Int) - 4).toNat=s.length - 4:=by omega
  rw[if_neg h4]
  first|with_reducible refine ks [] (And.intro @qa_ (And.intro @e1 (@e2))) ?_|refine kp (And.intro @qa_ (And.intro @e1 (@e2))) ?_
  refine Ow.callFV rfl Tryz.call96 (fun w' hw'=>W5_ (s.take (s.length - 4)) w' (by rw[List.length_take];omega)) ?_
  refine ko @qa_ ?_
  cases hq: (alu_ (s.take (s.length - 4)) !=s)
  ·rw[if_pos (by simpa using hq)]
   first|with_reducible refine ks [] (And.intro @qa_ (And.intro @hq (@e2))) ?_|refine kp (And.intro @qa_ (And.intro @hq (@e2))) ?_
   refine⟨_,(ke @qa_),trivial, ?_⟩
   rfl
  ·rw[if_neg (by simpa using hq)]
   first|with_reducible refine ks [] (And.intro @qa_ @hq) ?_|refine kp (And.intro @qa_ @hq) ?_
   refine⟨_,(ke @qa_),trivial, ?_⟩
   rfl
end Go.Proofs
end
section
open Go Go.Proofs Go.Sx Go.StP Go.Flo
namespace Go.Proofs
set_option maxRecDepth 10000
set_option maxHeartbeats 1000000
set_option linter.unusedSimpArgs false
set_option linter.defProp false
end Go.Proofs
end
section
open Go Go.Proofs Go.Sx Go.StP Go.Flo
namespace Go.Proofs
set_option maxRecDepth 10000
set_option maxHeartbeats 1000000
set_option linter.unusedSimpArgs false
theorem XV_ {s:List UInt8} (h:s.length<4∨s.take 4≠magB):x1_ s=(0,false,(jM_ s 0 0 4).2):=by
 unfold x1_
 rw[if_neg]
 unfold jM_
 rw[if_neg (by decide),if_neg (by decide)]
 split
 ·decide
 ·rename_i h1
  rcases h with h|h
  ·omega
  ·exact h
theorem aky_ {s:List UInt8} (h4:4≤s.length) (h:s.take 4=magB):x1_ s=((zF_ s 4 0 200).1,(zF_ s 4 0 200).2.2==0,(zF_ s 4 0 200).2):=by
 have e:jM_ s 0 0 4=(s.take 4,4,0):=by
  unfold jM_
  rw[if_neg (by decide),if_neg (by decide),if_neg (by omega)]
  rfl
 unfold x1_
 rw[e]
 simp only
 rw[if_pos h]
def XB_ (s:List UInt8) (v:Value) (D:ze_):Prop:=
 if(x1_ s).2.1=true then∃x y n A,v= .tuple #[x,y,vi n,vi A, .bool true]∧n=(x1_ s).1∧0≤n∧n≤200∧GrI D 193 3 x (kR_ s).1.length ((kR_ s).1.map qx_).flatten∧GrI D 3 1 y (kR_ s).2.1.length ((kR_ s).2.1.map natC).flatten∧
  (((kR_ s).2.2.2=0∧A=(kR_ s).2.2.1∧((kR_ s).1.length:Int)=n)∨((kR_ s).2.2.2≠0∧((kR_ s).1.length:Int)<n))
 else v= .tuple #[.slice none 0 0, .slice none 0 0,vi 0,vi 0, .bool false]
structure RdDG where
 l:List PartL
 sp:List Nat
 a:Nat
 v1:Value
 v2:Value
 D1:ze_
 D2:ze_
 DG:ze_
theorem aio_ (s:List UInt8):qM_ (xX_ Tryz.prog 162) (zK_ Tryz.prog 162) [(0,vs s),(1,vi 4)]=some (.agg #[vs s,vi 4,vi 0]):=by
 rw[show xX_ Tryz.prog 162=some [(0,1),(1,1),(2,1)] from id (by kernel_rfl),zrRR];rfl
theorem Wp_ (b:Nat) (s:List UInt8) (a:Nat) (e most:Int) (w:World) (ha:a≤s.length) (hs:s.length<1099511627776) (ho:w.heap[b]? =some (rrO s a e)):
  Rets Tryz.prog 97 #[vp b 0,vi most] w (fun v D=> ∃o,D= [(b,o)]∧v=vs (zX_ s a e most).1∧o=rrO s (zX_ s a e most).2.1 (zX_ s a e most).2.2):=kc_ b s a e most w ha hs ho
set_option linter.defProp false
def qb_:=And.intro (And.intro (@zn_) (And.intro (@zm_) (@afb_))) (And.intro (And.intro (@afQ_) (@aeL_)) (And.intro (@wh_) (@agK_)))
theorem W1_ (s:List UInt8) (w:World) (hs:s.length<1099511627776):Rets Tryz.prog 99 #[vs s] w (XS w [] (XB_ s)):=by
 refine Rets.enterX Tryz.func99 rfl (rs:= [.tmp 2, .tmp 3, .tmp 4, .tmp 5, .tmp 6]) Tryz.results99 Tryz.ntmps99 (fun p hp=>by cases hp) (by simp[keys]) ?_
 refine kf ?_
 by_cases h4:s.length<4
 ·have d1:decide ((s.length:Int)<4)=true:=decide_eq_true (by omega)
  first|with_reducible refine ks [] (And.intro @qb_ @d1) ?_|refine kp (And.intro @qb_ @d1) ?_
  refine⟨_,(ke @qb_), ?_⟩
  refine⟨Ext.of_new trivial, ?_⟩
  unfold XB_
  rw[XV_ (.inl h4)]
  rfl
 have d1:decide ((s.length:Int)<4)=false:=decide_eq_false (by omega)
 have d1':decide ((0:Int)≤4∧(4:Int)≤ (s.length:Int))=true:=decide_eq_true (by omega)
 by_cases hm:s.take 4=magB
 ·have d2: (s.take 4 != [83,80,75,49])=false:=bne_eq_false_iff_eq.2 hm
  have hhd:=aky_ (by omega) hm
  first|with_reducible refine ks [] (And.intro @qb_ (And.intro @d1 (@d2))) ?_|refine kp (And.intro @qb_ (And.intro @d1 (@d2))) ?_
  refine Ow.build (.agg #[vs s,vi 4,vi 0]) rfl (aio_ s) ?_
  refine ko @qb_ ?_
  refine Ow.box rfl rfl fun br hbr hwr=> ?_
  simp only[qm_,ql_,qu_,zh_,List.nil_append]
  refine Ow.permL (M:= [(br,rrO s 4 0)]) (List.Perm.refl _) ?_
  refine ko @qb_ ?_
  first|with_reducible refine ks [] @qb_ ?_|refine kp @qb_ ?_
  have l1:=q6_ (s:=s) (a:=4) (e:=0) (most:=200) (by omega)
  have m1:=jo_ (s:=s) (a:=4) (e:=0) (most:=200) (by omega)
  refine Ow.callM rfl rfl Tryz.call101 (by simp[keys]) (fun w' hw'=>qN_ br s 4 0 200 w' (by omega) (by omega) (hw'.has _ _ List.mem_cons_self)) ?_
  have hrp:kR_ s=jv_ s (x1_ s).1.toNat 0 (x1_ s).2.2.1 (x1_ s).2.2.2:=rfl
  rw[hhd] at hrp
  generalize zF_ s 4 0 200=q at*
  obtain⟨n0,a0,e0⟩:=q
  simp only at l1 m1 hhd hrp ⊢
  obtain⟨n,rfl⟩: ∃n:Nat,n0=(n:Int):=⟨n0.toNat,by omega⟩
  rw[Int.toNat_natCast] at hrp
  refine kn ?_
  refine ko @qb_ ?_
  by_cases he:e0=0
  ·subst he
   have hd0: ((0:Int) !=0)=false:=rfl
   have hE: (x1_ s).2.1=true:=by rw[hhd];rfl
   have hn1: (x1_ s).1=(n:Int):=by rw[hhd]
   clear hhd
   first|with_reducible refine ks [11] (And.intro @qb_ @hd0) ?_|refine kp (And.intro @qb_ @hd0) ?_
   refine Cw.permL (M:=(br,rrO s a0 0):: ([]++ ([]++ []))) (List.Perm.refl _) ?_
   refine Cw.loopG (G:=RdDG) [34,35,36,39,40,41,42,12,43,44,13,45,46,14,47,48,49,50,51,52,53,54,55,2,3,4,5,6,56,57,15,58,59,60,61,62,63,64,65,66,67,68,9,69,70,71,72,10,37,38,11] (fun g=> [(9,g.v1),(10,g.v2),(11,vi g.l.length)]) (fun g=>(br,rrO s g.a 0):: (g.D1++ (g.D2++g.DG))) (fun g=>g.l.length≤n∧g.sp.length=g.l.length∧g.a≤s.length∧New w.heap.size g.D1∧New w.heap.size g.D2∧New w.heap.size g.DG∧Gr g.D1 193 3 g.v1 g.l.length (g.l.map qx_).flatten∧Gr g.D2 3 1 g.v2 g.sp.length (g.sp.map natC).flatten∧kR_ s=(g.l++ (jv_ s (n - g.l.length) g.l.length g.a 0).1,g.sp++ (jv_ s (n - g.l.length) g.l.length g.a 0).2.1,(jv_ s (n - g.l.length) g.l.length g.a 0).2.2)) (fun g=>n - g.l.length) ⟨[],[],a0, .slice none 0 0, .slice none 0 0,[],[],[]⟩ rfl rfl ?_ ?_
   ·exact⟨Nat.zero_le _,rfl,l1.2,trivial,trivial,trivial,Gr.nl,Gr.nl,by rw[hrp];rfl⟩
   intro g j hg
   refine kv ?_
   obtain⟨l,sp,a,v1,v2,D1,D2,DG⟩:=g
   simp only at hg ⊢
   obtain⟨hln,hsl,hal,hN1,hN2,hNG,hG1,hG2,hpr⟩:=hg
   have hNr:New w.heap.size (D1++ (D2++DG)):=hN1.app (hN2.app hNG)
   by_cases hlt:l.length<n
   ·have d3:decide ((l.length:Int)< (n:Int))=true:=decide_eq_true (by omega)
    have hk:n - l.length=(n - (l.length+1))+1:=by omega
    rw[hk] at hpr
    have hle1:=q6_ (s:=s) (a:=a) (e:=0) (most:=200) hal
    have hm1:=jo_ (s:=s) (a:=a) (e:=0) (most:=200) (by omega)
    have hpc:QN_ s l.length a 0=(⟨decide (0< (zF_ s a 0 200).1),if 0< (zF_ s a 0 200).1 then((l.length:Nat):Int) - (zF_ s a 0 200).1 else 0,(zX_ s (zF_ s a 0 200).2.1 (zF_ s a 0 200).2.2 65536).1⟩,(zX_ s (zF_ s a 0 200).2.1 (zF_ s a 0 200).2.2 65536).2):=rfl
    first|with_reducible refine ks [1000018] (And.intro @qb_ @d3) ?_|refine kp (And.intro @qb_ @d3) ?_
    refine Ow.callM rfl rfl Tryz.call101 (by simp[keys]) (fun w' hw'=>qN_ br s a 0 200 w' hal (by omega) (hw'.has _ _ List.mem_cons_self)) ?_
    generalize zF_ s a 0 200=x at*
    obtain⟨F,a1,e1⟩:=x
    simp only at hle1 hm1 hpc ⊢
    have hle2:=k7_ (s:=s) (a:=a1) (e:=e1) (most:=65536) hle1.2
    refine kn ?_
    refine ko @qb_ ?_
    first|with_reducible refine ks [] @qb_ ?_|refine kp @qb_ ?_
    refine Ow.callM rfl rfl Tryz.call97 (by simp[keys]) (fun w' hw'=>Wp_ br s a1 e1 65536 w' hle1.2 hs (hw'.has _ _ List.mem_cons_self)) ?_
    generalize zX_ s a1 e1 65536=x at*
    obtain⟨t,a2,e2⟩:=x
    simp only at hle2 hpc ⊢
    refine kn ?_
    refine ko @qb_ ?_
    rw[jv_,hpc] at hpr
    simp only at hpr
    by_cases he2:e2=0
    ·subst he2
     rw[if_pos rfl] at hpr
     have d4: ((0:Int) !=0)=false:=rfl
     first|with_reducible refine ks [] (And.intro @qb_ @d4) ?_|refine kp (And.intro @qb_ @d4) ?_
     refine Ow.build (.agg (qx_ ⟨false,0,t⟩).toArray) rfl (adF_ t) ?_
     refine ko @qb_ ?_
     refine Ow.alloc rfl rfl aaD_ fun b15 hb15 hw15=> ?_
     simp only[zh_,List.nil_append,List.cons_append]
     have hb15r:br<b15:=zx_ hb15 (by simp[keys])
     have hst:=K2_ ⟨false,0,t⟩ j1_ 193
     refine Ow.permL (M:=(b15, .cells (qx_ j1_).toArray 193 (0,0)):: (br,rrO s a2 0):: (D1++ (D2++DG))) (by classical exact List.perm_iff_count.2 fun a=>by simp only[List.count_append,List.count_cons,List.count_nil]<;>omega) ?_
     refine ko (And.intro @qb_ @hst) ?_
     obtain⟨p,hp⟩: ∃p,p=(⟨decide (0<F),if 0<F then((l.length:Nat):Int) - F else 0,t⟩:PartL):=⟨_,rfl⟩
     rw[←hp] at hpr
     refine Cw.cutO (G:=PartL) [58,59,60,61,62,63,64] (fun g=> []) (fun g=>(b15, .cells (qx_ g).toArray 193 (0,0)):: (br,rrO s a2 0):: (D1++ (D2++DG))) (fun g=>g=p) ?_ ?_
     ·by_cases hF:0<F
      ·have d5:decide ((0:Int)<F)=true:=decide_eq_true hF
       have hs1:=aej_ ⟨false,0,t⟩ 193
       have hs2:=acz_ ⟨true,0,t⟩ 193
       first|with_reducible refine ks [] (And.intro @qb_ (And.intro @d5 (And.intro @hs1 (@hs2)))) ?_|refine kp (And.intro @qb_ (And.intro @d5 (And.intro @hs1 (@hs2)))) ?_
       refine CutO.mk _ ?_ rfl rfl
       rw[hp,decide_eq_true hF,if_pos hF]
      ·have d5:decide ((0:Int)<F)=false:=decide_eq_false hF
       first|with_reducible refine ks [] (And.intro @qb_ @d5) ?_|refine kp (And.intro @qb_ @d5) ?_
       refine CutO.mk _ ?_ rfl rfl
       rw[hp,decide_eq_false hF,if_neg hF]
     ·intro g j hg
      refine kv ?_
      obtain rfl:=hg
      clear hp
      first|with_reducible refine ks [] @qb_ ?_|refine kp @qb_ ?_
      refine Ow.buildSlice (e:=193) (qx_ g).toArray rfl rfl (zT_ (cs:=qx_ g) Tryz.underlying164 Tryz.ag193 aaD_ (by decide) rfl) fun ba hba hwa=> ?_
      refine ko @qb_ ?_
      refine Ow.permL (M:=D1++ ((b15, .cells (qx_ g).toArray 193 (0,0)):: (br,rrO s a2 0):: (D2++ (DG++ [(ba, .cells (qx_ g).toArray 193 (0,0))])))) (by classical exact List.perm_iff_count.2 fun a=>by simp only[List.count_append,List.count_cons,List.count_nil]<;>omega) ?_
      refine Ow.appendXG (e:=193) (k:=1) (new:=qx_ g) (X:=D1) v1 rfl rfl rfl rfl Tryz.underlying164 Tryz.ag193 (by kernel_rfl) aaD_ (by rw[wh_];rfl) Tryz.underlying164 (by intro k h;cases h) hG1 (fun w' hw'=>AppX.one1 (hw'.has ba (.cells (qx_ g).toArray 193 (0,0)) (by simp)) (Xn_ _) (aaN_ _)) (by omega) (fun B4 v4 D4 hA4 hB4 hG4 hk41 hk42 hlk4=> ?_)
      have hN4:New w.heap.size D4:=New.of_le fun q hq=>by
       rcases hk42 q hq with h|h
       ·exact hN1.le q h
       ·omega
      refine Ow.permL (M:=(br,rrO s a2 0):: (D4++ (D2++ ((b15, .cells (qx_ g).toArray 193 (0,0)):: (DG++ [(ba, .cells (qx_ g).toArray 193 (0,0))]))))) (by classical exact List.perm_iff_count.2 fun a=>by simp only[List.count_append,List.count_cons,List.count_nil]<;>omega) ?_
      refine ko @qb_ ?_
      first|with_reducible refine ks [] @qb_ ?_|refine kp @qb_ ?_
      refine Ow.buildSlice (e:=3) #[vi a] rfl rfl (by kernel_rfl) fun bc hbc hwc=> ?_
      refine ko @qb_ ?_
      refine Ow.permL (M:=D2++ ((br,rrO s a2 0):: (D4++ ((b15, .cells (qx_ g).toArray 193 (0,0)):: (DG++ [(ba, .cells (qx_ g).toArray 193 (0,0)),(bc, .cells #[vi a] 3 (0,0))]))))) (by classical exact List.perm_iff_count.2 fun a=>by simp only[List.count_append,List.count_cons,List.count_nil]<;>omega) ?_
      refine Ow.appendXG (e:=3) (k:=1) (new:=natC a) (X:=D2) v2 rfl rfl rfl rfl Tryz.underlying37 (id (by kernel_rfl):qf_ Tryz.prog 3=some (false,1)) (by kernel_rfl) (id (by kernel_rfl):zK_ Tryz.prog 3=some (vi 0)) rfl Tryz.underlying37 (by intro k h;cases h) hG2 (fun w' hw'=>AppX.one1 (hw'.has bc (.cells #[vi a] 3 (0,0)) (by simp)) (afP_ a) rfl) (by omega) (fun B5 v5 D5 hA5 hB5 hG5 hk51 hk52 hlk5=> ?_)
      have hN5:New w.heap.size D5:=New.of_le fun q hq=>by
       rcases hk52 q hq with h|h
       ·exact hN2.le q h
       ·omega
      refine Ow.permL (M:=(br,rrO s a2 0):: (D4++ (D5++ ((b15, .cells (qx_ g).toArray 193 (0,0)):: (DG++ [(ba, .cells (qx_ g).toArray 193 (0,0)),(bc, .cells #[vi a] 3 (0,0))]))))) (by classical exact List.perm_iff_count.2 fun a=>by simp only[List.count_append,List.count_cons,List.count_nil]<;>omega) ?_
      refine ko @qb_ ?_
      first|with_reducible refine ks [] @qb_ ?_|refine kp @qb_ ?_
      have hl1: (l++ [g]).length=l.length+1:=by simp
      have hl2: (sp++ [a]).length=sp.length+1:=by simp
      refine Again.mk ⟨l++ [g],sp++ [a],a2,v4,v5,D4,D5,(b15, .cells (qx_ g).toArray 193 (0,0)):: (DG++ [(ba, .cells (qx_ g).toArray 193 (0,0)),(bc, .cells #[vi a] 3 (0,0))])⟩ (by show n - (l++ [g]).length<n - l.length;omega) ⟨by show(l++ [g]).length≤n;omega,by show(sp++ [a]).length=(l++ [g]).length;omega,hle2.2,hN4,hN5,⟨hw15,hNG.app ⟨hwa,hwc,trivial⟩⟩,by simpa using hG4,by simpa using hG5, ?_⟩ rfl (by simp only[hl1];rfl)
      show kR_ s=_
      rw[hpr,hl1]
      simp
    ·have d4: (e2 !=0)=true:=bne_iff_ne.2 he2
     rw[if_neg he2] at hpr
     first|with_reducible refine ks [] (And.intro @qb_ @d4) ?_|refine kp (And.intro @qb_ @d4) ?_
     refine⟨_,(ke @qb_), ?_⟩
     refine⟨Ext.of_new ⟨hwr,hNr⟩, ?_⟩
     unfold XB_
     rw[if_pos hE,hpr,hn1]
     simp only[List.append_nil]
     exact⟨v1,v2,_,_,rfl,rfl,by omega,by omega,Gr.i hG1 fun c hc=>by simp[hc],Gr.i hG2 fun c hc=>by simp[hc], .inr ⟨he2,by omega⟩⟩
   ·obtain hln':l.length=n:=by omega
    have d3:decide ((l.length:Int)< (n:Int))=false:=decide_eq_false (by omega)
    rw[hln',Nat.sub_self] at hpr
    first|with_reducible refine ks [] (And.intro @qb_ @d3) ?_|refine kp (And.intro @qb_ @d3) ?_
    refine Cw.regionS [br] [0,1,2,3,4,5,7,8,9,6,10,11] [] (by kernel_rfl) (by kernel_rfl) (by kernel_rfl) ?_
    simp only[zj_, ↓zf_, ↓zc_, ↓zw_, ↓zv_,zd_]
    refine kq @qb_ ?_
    first|with_reducible refine ks [] @qb_ ?_|refine kp @qb_ ?_
    refine⟨_,(ke @qb_), ?_⟩
    refine⟨Ext.of_new ⟨hwr,hNr⟩, ?_⟩
    unfold XB_
    rw[if_pos hE,hpr,hn1]
    simp only[jv_,List.append_nil]
    exact⟨v1,v2,_,_,rfl,rfl,by omega,by omega,Gr.i hG1 fun c hc=>by simp[hc],Gr.i hG2 fun c hc=>by simp[hc], .inl ⟨trivial,rfl,by omega⟩⟩
  ·have hd0: (e0 !=0)=true:=bne_iff_ne.2 he
   have hE: (x1_ s).2.1=false:=by rw[hhd];exact beq_eq_false_iff_ne.2 he
   first|with_reducible refine ks [] (And.intro @qb_ @hd0) ?_|refine kp (And.intro @qb_ @hd0) ?_
   refine⟨_,(ke @qb_), ?_⟩
   refine⟨Ext.of_new ⟨hwr,trivial⟩, ?_⟩
   unfold XB_
   rw[hE]
   rfl
 ·have d2: (s.take 4 != [83,80,75,49])=true:=bne_iff_ne.2 hm
  first|with_reducible refine ks [] (And.intro @qb_ (And.intro @d1 (@d2))) ?_|refine kp (And.intro @qb_ (And.intro @d1 (@d2))) ?_
  refine⟨_,(ke @qb_), ?_⟩
  refine⟨Ext.of_new trivial, ?_⟩
  unfold XB_
  rw[XV_ (.inr hm)]
  rfl
end Go.Proofs
end
section
open Go Go.Proofs Go.Sx Go.StP Go.Flo
namespace Go.Proofs
set_option maxRecDepth 10000
set_option maxHeartbeats 1000000
set_option linter.unusedSimpArgs false
theorem BndD.ofSmall {l:List PartL} (h:anx_ l):BndD l:=fun g hg=>by have:=h g hg;omega
theorem aqX_ (a b c d e:Value): #[a,b,c,d,e][0]? =some a:=rfl
theorem ap7_ (a b c d e:Value): #[a,b,c,d,e][1]? =some b:=rfl
theorem aqp_ (a b c d e:Value): #[a,b,c,d,e][2]? =some c:=rfl
theorem aqO_ (a b c d e:Value): #[a,b,c,d,e][3]? =some d:=rfl
theorem ap9_ (a b c d e:Value): #[a,b,c,d,e][4]? =some e:=rfl
set_option linter.defProp false
end Go.Proofs
end
section
open Go Go.Proofs Go.Sx Go.StP Go.Flo
namespace Go.Proofs
set_option maxRecDepth 10000
set_option maxHeartbeats 400000
set_option linter.unusedSimpArgs false
structure SaG where
 k:Nat
 out:List ObL
 v:Value
 D:ze_
 DG:ze_
theorem Zs_ {o:ObL} {l:List ObL} {j:Nat} (h:j<l.length):decide (o∈l.take (j+1))=(decide (o∈l.take j) ||decide (l.getD j ob0=o)):=by
 rw[StP.take_snoc (z:=ob0) h]
 by_cases h1:o∈l.take j
 ·rw[decide_eq_true h1,decide_eq_true (List.mem_append_left _ h1)];rfl
 ·by_cases h2:l.getD j ob0=o
  ·rw[decide_eq_true h2,Bool.or_true]
   exact decide_eq_true (List.mem_append_right _ (by rw[h2];exact List.mem_singleton.2 rfl))
  ·rw[decide_eq_false h1,decide_eq_false h2]
   exact decide_eq_false fun h=>by
    rcases List.mem_append.1 h with h|h
    ·exact h1 h
    ·exact h2 (List.mem_singleton.1 h).symm
set_option linter.defProp false
def qg_:=And.intro (And.intro (And.intro (@zn_) (And.intro (@zm_) (@Sx.tup2_0))) (And.intro (And.intro (@Sx.tup2_1) (@aqX_)) (And.intro (@ap7_) (@aqp_)))) (And.intro (And.intro (@aqO_) (And.intro (@ap9_) (@Qe_))) (And.intro (And.intro (@wA_) (@wp_)) (And.intro (@wg_) (@aq8_))))
theorem agh_ (b:List UInt8) (w:World) (hb:b.length<1099511627776):
  Rets Tryz.prog 80 #[vs b] w (XS w [] (fun v D=>GrI D 116 2 v (V3_ b).length ((V3_ b).map obC).flatten)):=by
 have hrl:=(abv_ b).1
 have hrs:=ado_ b
 refine Rets.enterX Tryz.func80 rfl (rs:= [.tmp 2]) Tryz.results80 Tryz.ntmps80 (fun p hp=>by cases hp) (by simp[keys]) ?_
 refine kf ?_
 first|with_reducible refine ks [] @qg_ ?_|refine kp @qg_ ?_
 refine Ow.callC rfl rfl Tryz.call99 (fun w' hw'=>W1_ b w' hb) (fun B1 v1 D1 hA1 hB1 hN1 hS1=> ?_)
 have hN1':New w.heap.size D1:=hN1.mono hB1
 unfold XB_ at hS1
 unfold V3_
 rw[List.nil_append]
 cases hok: (x1_ b).2.1 with
 |false=>
  rw[hok,if_neg (by simp)] at hS1
  rw[if_neg (by simp)]
  subst hS1
  refine ko @qg_ ?_
  first|with_reducible refine ks [] @qg_ ?_|refine kp @qg_ ?_
  refine⟨_,(ke @qg_), ?_⟩
  exact⟨Ext.of_new hN1',Gr.i (X:= []) Gr.nl fun p hp=>by cases hp⟩
 |true=>
  rw[hok,if_pos rfl] at hS1
  rw[if_pos rfl]
  obtain⟨x,y,n,A,rfl,-,-,-,hg1,hg2,-⟩:=hS1
  generalize (kR_ b).1=l at*
  have ln:=kr_ hg1
  refine ko @qg_ ?_
  first|with_reducible refine ks [] (And.intro @qg_ @ln) ?_|refine kp (And.intro @qg_ @ln) ?_
  refine Cw.permL (M:=D1++ ([]++ [])) (by simp) ?_
  refine Cw.loopG (G:=SaG) [26,27,28,29,33,34,35,32,36,37,10,11,38,39,41,42,40,43,44,12,13,14,15,45,46,47,48,51,52,53,54,55,56,57,58,59,49,50,60,61,62,63,64,65,66,67,68,8,30,31,9] (fun g=> [(8,g.v),(9,vi g.k)]) (fun g=>D1++ (g.D++g.DG)) (fun g=>g.k≤l.length∧g.out=kw_ l g.k∧New w.heap.size g.D∧New w.heap.size g.DG∧Gr g.D 116 2 g.v g.out.length (g.out.map obC).flatten) (fun g=>l.length - g.k) ⟨0,[], .slice none 0 0,[],[]⟩ rfl rfl ?_ ?_
  ·exact⟨Nat.zero_le _,rfl,trivial,trivial,Gr.nl⟩
  intro g j hg
  refine kv ?_
  obtain⟨k,out,v6,D6,DG⟩:=g
  simp only at hg ⊢
  obtain⟨hk,hout,hN6,hNG,hG6⟩:=hg
  have hol:=Z2_ l k
  rw[←hout] at hol
  have hNr:New w.heap.size (D1++ (D6++DG)):=hN1'.app (hN6.app hNG)
  by_cases hlt:k<l.length
  ·have d1:decide ((k:Int)< (l.length:Int))=true:=decide_eq_true (by omega)
   have hsv:kw_ l (k+1)=match partV l (k:Nat) with
    | .ok s=>if frOk s=true∧vF_ s∉kw_ l k then kw_ l k++ [vF_ s] else kw_ l k
    | .error _=>kw_ l k:=rfl
   first|with_reducible refine ks [7] (And.intro @qg_ (And.intro @d1 (@ln))) ?_|refine kp (And.intro @qg_ (And.intro @d1 (@ln))) ?_
   refine Ow.callFV rfl Tryz.call100 (fun w' hw'=>aet_ x l (k:Int) w' ((hg1.mono (fun q hq=>by simp[hq])).slV hw' rfl rfl Xn_) (BndD.ofSmall hrs)) ?_
   rw[←hout] at hsv
   cases hp:partV l (k:Nat) with
   |error e2=>
    rw[hp] at hsv
    simp only at hsv
    have e0: (e2 !=0)=true:=bne_iff_ne.2 (ak4_ hp)
    unfold ahH_
    refine ko @qg_ ?_
    first|with_reducible refine ks [] (And.intro @qg_ @e0) ?_|refine kp (And.intro @qg_ @e0) ?_
    first|with_reducible refine ks [] @qg_ ?_|refine kp @qg_ ?_
    exact Again.mk ⟨k+1,out,v6,D6,DG⟩ (by show l.length - (k+1)<l.length - k;omega) ⟨hlt,by exact hsv.symm,hN6,hNG,hG6⟩ rfl rfl
   |ok s=>
    rw[hp] at hsv
    simp only at hsv
    have hsl:=ahP_ hp
    have e0: ((0:Int) !=0)=false:=rfl
    have hrd1: (if lfOk s then lfK s else 0)=(vF_ s).k:=by rw[Jd_]
    have hrd2: (if lfOk s then(lfT (s.drop 1)).1 else [])=(vF_ s).t:=by rw[Jd_]
    have hfl2:=(anS_ s).1
    unfold ahH_
    refine ko @qg_ ?_
    first|with_reducible refine ks [] (And.intro @qg_ @e0) ?_|refine kp (And.intro @qg_ @e0) ?_
    refine Ow.callFV rfl Tryz.call79 (fun w' hw'=>Vp_ s w' (by omega)) ?_
    rw[hrd1,hrd2,←hfl2]
    refine ko @qg_ ?_
    refine Ow.alloc rfl rfl zrOb fun b12 hb12 hw12=> ?_
    simp only[zh_,List.nil_append,List.cons_append]
    refine Ow.permL (M:=(b12, .cells #[vi 0,vs []] 116 (0,0)):: (D1++ (D6++DG))) (by classical exact List.perm_iff_count.2 fun a=>by simp only[List.count_append,List.count_cons,List.count_nil]<;>omega) ?_
    refine ko @qg_ ?_
    generalize hro:vF_ s=o at*
    obtain⟨ok,ot⟩:=o
    have hNr2:New w.heap.size ((b12,Obj.cells #[vi ok,vs ot] 116 (0,0)):: (D1++ (D6++DG))):=⟨hw12,hNr⟩
    refine Cw.world fun wz hwz=> ?_
    have hnd:=hwz.nodup
    clear hwz wz
    have lno: ∀m,Zz_ (.sl m) v6=some (vi out.length):=fun m=>kr_ (Gr.i hG6 (fun p hp=>hp)) m
    first|with_reducible refine ks [] (And.intro @qg_ @lno) ?_|refine kp (And.intro @qg_ @lno) ?_
    refine Cw.loopG (G:=Nat) [45,46,47,48,51,52,53,54,55,56,57,58,59,14,49,50,15] (fun g=> [(14, .bool (decide ((⟨ok,ot⟩:ObL)∈out.take g))),(15,vi g)]) (fun g=>(b12, .cells #[vi ok,vs ot] 116 (0,0)):: (D1++ (D6++DG))) (fun g=>g≤out.length) (fun g=>out.length - g) 0 rfl rfl ?_ ?_
    ·exact Nat.zero_le _
    ·intro j jj hj
     refine kv ?_
     by_cases hjt:j<out.length
     ·have d2:decide ((j:Int)< (out.length:Int))=true:=decide_eq_true (by omega)
      have hnx:=Zs_ (o:=⟨ok,ot⟩) hjt
      have hnd6: (keys D6).Nodup:=by
       simp only[keys,List.map_cons,List.map_append,List.nodup_cons,List.nodup_append] at hnd
       exact hnd.2.2.1.1
      obtain h0| ⟨rb,rc,rest,rfl,hbs,hlk⟩:=ZO_ (Gr.i hG6 (fun p hp=>hp)) hnd6
      ·omega
      have hb12':rb≠b12:=by
       rintro rfl
       simp only[keys,List.map_cons,List.map_append,List.nodup_cons,List.mem_append,not_or] at hnd
       exact hnd.1.2.1 hbs
      have rdb:zy_ w ((b12, .cells #[vi ok,vs ot] 116 (0,0)):: (D1++ (D6++DG))) rb=some (vo_ obC 116 rest out):=by
       have hn1:rb∉keys D1:=by
        simp only[keys,List.map_cons,List.map_append,List.nodup_cons,List.nodup_append,List.mem_append] at hnd
        intro hm
        exact hnd.2.2.2 rb hm rb (.inl hbs) rfl
       exact za_ (by rw[kC_ _ _ _ _ (Ne.symm hb12'),zM_ hn1];exact zi_ hlk)
      have ld:zk_ (some (true,2)) (some (vo_ obC 116 rest out)) (j*2)=some (obV (out.getD j ob0).k (out.getD j ob0).t):=Jn_ (E:=116) (rest:=rest) (z:=ob0) k8_ j hjt
      generalize out.getD j ob0=p at*
      first|with_reducible refine ks [] (And.intro @qg_ (And.intro @d2 (@lno))) ?_|refine kp (And.intro @qg_ (And.intro @d2 (@lno))) ?_
      cases hin:decide ((⟨ok,ot⟩:ObL)∈out.take j) with
      |true=>
       rw[hin,Bool.true_or] at hnx
       refine Cw.regionS [rb,b12] [0,1,2,3,4,5,6,7,8,9] [] (by kernel_rfl) (by kernel_rfl) (by kernel_rfl) ?_
       simp only[zj_, ↓zf_, ↓zc_, ↓zw_, ↓zv_,zd_]
       refine kq (And.intro @qg_ (And.intro @rdb (@ld))) ?_
       first|with_reducible refine ks [] @qg_ ?_|refine kp @qg_ ?_
       exact Again.mk (j+1) (by omega) (by omega) rfl (by rw[hnx];rfl)
      |false=>
       rw[hin,Bool.false_or] at hnx
       refine Cw.regionS [rb,b12] [0,1,2,3,4,5,6,7,8,9] [] (by kernel_rfl) (by kernel_rfl) (by kernel_rfl) ?_
       simp only[zj_, ↓zf_, ↓zc_, ↓zw_, ↓zv_,zd_]
       refine kq (And.intro @qg_ (And.intro @rdb (@ld))) ?_
       first|with_reducible refine ks [] @qg_ ?_|refine kp @qg_ ?_
       exact Again.mk (j+1) (by omega) (by omega) rfl (by rw[hnx];rfl)
     ·obtain rfl:j=out.length:=by omega
      have d2:decide ((out.length:Int)< (out.length:Int))=false:=decide_eq_false (by omega)
      rw[List.take_length]
      first|with_reducible refine ks [] (And.intro @qg_ (And.intro @d2 (@lno))) ?_|refine kp (And.intro @qg_ (And.intro @d2 (@lno))) ?_
      cases hfr:frOk s with
      |false=>
       rw[if_neg (fun h=>by rw[hfr] at h;cases h.1)] at hsv
       first|with_reducible refine ks [] (And.intro @qg_ @hfr) ?_|refine kp (And.intro @qg_ @hfr) ?_
       refine Cw.permL (M:=D1++ (D6++ ((b12, .cells #[vi ok,vs ot] 116 (0,0))::DG))) (by classical exact List.perm_iff_count.2 fun a=>by simp only[List.count_append,List.count_cons,List.count_nil]<;>omega) ?_
       first|with_reducible refine ks [] @qg_ ?_|refine kp @qg_ ?_
       exact Again.mk ⟨k+1,out,v6,D6,(b12, .cells #[vi ok,vs ot] 116 (0,0))::DG⟩ (by show l.length - (k+1)<l.length - k;omega) ⟨hlt,by exact hsv.symm,hN6,⟨hw12,hNG⟩,hG6⟩ rfl rfl
      |true=>
       cases hin:decide ((⟨ok,ot⟩:ObL)∈out) with
       |true=>
        rw[if_neg (fun h=>h.2 (of_decide_eq_true hin))] at hsv
        first|with_reducible refine ks [] (And.intro @qg_ (And.intro @hfr (@hin))) ?_|refine kp (And.intro @qg_ (And.intro @hfr (@hin))) ?_
        refine Cw.permL (M:=D1++ (D6++ ((b12, .cells #[vi ok,vs ot] 116 (0,0))::DG))) (by classical exact List.perm_iff_count.2 fun a=>by simp only[List.count_append,List.count_cons,List.count_nil]<;>omega) ?_
        first|with_reducible refine ks [] @qg_ ?_|refine kp @qg_ ?_
        exact Again.mk ⟨k+1,out,v6,D6,(b12, .cells #[vi ok,vs ot] 116 (0,0))::DG⟩ (by show l.length - (k+1)<l.length - k;omega) ⟨hlt,by exact hsv.symm,hN6,⟨hw12,hNG⟩,hG6⟩ rfl rfl
       |false=>
        rw[if_pos ⟨hfr,of_decide_eq_false hin⟩] at hsv
        first|with_reducible refine ks [] (And.intro @qg_ (And.intro @hfr (@hin))) ?_|refine kp (And.intro @qg_ (And.intro @hfr (@hin))) ?_
        refine Ow.buildSlice (e:=116) #[vi ok,vs ot] rfl rfl (zT_ (cs:=obC ⟨ok,ot⟩) Tryz.underlying58 Tryz.ag116 zrOb (by decide) rfl) fun bc hbc hwc=> ?_
        refine ko @qg_ ?_
        refine Ow.permL (M:=D6++ ((b12, .cells #[vi ok,vs ot] 116 (0,0)):: (D1++ (DG++ [(bc, .cells #[vi ok,vs ot] 116 (0,0))])))) (by classical exact List.perm_iff_count.2 fun a=>by simp only[List.count_append,List.count_cons,List.count_nil]<;>omega) ?_
        refine Ow.appendXG (e:=116) (k:=1) (new:=obC ⟨ok,ot⟩) (X:=D6) v6 rfl rfl rfl rfl Tryz.underlying58 Tryz.ag116 (by kernel_rfl) zrOb (by rw[obV,zh_];rfl) Tryz.underlying58 (by intro k h;cases h) hG6 (fun w' hw'=>AppX.one1 (hw'.has bc (.cells (obC ⟨ok,ot⟩).toArray 116 (0,0)) (by simp[obC])) (k8_ _) (XG_ _)) (by omega) (fun B5 v5 D5 hA5 hB5 hG5 hk51 hk52 hlk5=> ?_)
        have hN5:New w.heap.size D5:=New.of_le fun q hq=>by
         rcases hk52 q hq with h|h
         ·exact hN6.le q h
         ·omega
        refine ko @qg_ ?_
        refine Cw.permL (M:=D1++ (D5++ ((b12, .cells #[vi ok,vs ot] 116 (0,0)):: (DG++ [(bc, .cells #[vi ok,vs ot] 116 (0,0))])))) (by classical exact List.perm_iff_count.2 fun a=>by simp only[List.count_append,List.count_cons,List.count_nil]<;>omega) ?_
        first|with_reducible refine ks [] @qg_ ?_|refine kp @qg_ ?_
        exact Again.mk ⟨k+1,out++ [⟨ok,ot⟩],v5,D5,(b12, .cells #[vi ok,vs ot] 116 (0,0)):: (DG++ [(bc, .cells #[vi ok,vs ot] 116 (0,0))])⟩ (by show l.length - (k+1)<l.length - k;omega) ⟨hlt,by exact hsv.symm,hN5,⟨hw12,hNG.app ⟨hwc,trivial⟩⟩,by simpa using hG5⟩ rfl rfl
  ·obtain rfl:k=l.length:=by omega
   have d1:decide ((l.length:Int)< (l.length:Int))=false:=decide_eq_false (by omega)
   first|with_reducible refine ks [] (And.intro @qg_ (And.intro @d1 (@ln))) ?_|refine kp (And.intro @qg_ (And.intro @d1 (@ln))) ?_
   refine⟨_,(ke @qg_), ?_⟩
   refine⟨Ext.of_new hNr, ?_⟩
   rw[←hout]
   exact Gr.i hG6 fun p hp=>by simp[hp]
end Go.Proofs
end
section
open Go Go.Proofs Go.Sx Go.StP Go.Flo
namespace Go.Proofs
set_option maxRecDepth 10000
set_option maxHeartbeats 400000
set_option linter.unusedSimpArgs false
def magO:List UInt8:= [83,76,79,49]
def aam_ (b:List UInt8):List ObL:=if(jt_ b).2=true∧4≤ (jt_ b).1.length∧(jt_ b).1.take 4=magO∧frOk ((jt_ b).1.drop 4)=true then [vF_ ((jt_ b).1.drop 4)] else []
def aip_ (b:List UInt8):List ObL:=aam_ b++V3_ b
def wX_ (l:List FiL):List ObL:=(l.map fun f=>aip_ f.data).flatten
theorem WX_ (b:List UInt8): (V3_ b).length≤200:=by
 unfold V3_
 split
 ·exact Nat.le_trans (Z2_ _ _) (abv_ b).1
 ·exact Nat.zero_le _
theorem Xi_ (b:List UInt8): (aip_ b).length≤201:=by
 have:=WX_ b
 unfold aip_ aam_
 split
 ·simp;omega
 ·simp;omega
theorem Vl_ (l:List FiL) {k:Nat} (h:k<l.length):wX_ (l.take (k+1))=wX_ (l.take k)++aip_ (l.getD k fi0).data:=by
 unfold wX_
 rw[StP.take_snoc (z:=fi0) h,List.map_append,List.flatten_append]
 simp
theorem Xs_ (l:List FiL): ∀k,k≤l.length→(wX_ (l.take k)).length≤k*201
 |0,_=>by simp[wX_]
 |k+1,h=>by
  have h1:=Xs_ l k (by omega)
  have h2:=Xi_ (l.getD k fi0).data
  rw[Vl_ l (by omega),List.length_append]
  omega
theorem alK_ (s:List UInt8): (jt_ s).1.length≤s.length:=by
 unfold jt_
 split
 ·simp
 ·split
  ·simp only[List.length_take];omega
  ·simp
structure ObjC where
 os:List ObL
 v:Value
 D:ze_
 DG:ze_
structure ObjG where
 k:Nat
 v:Value
 D:ze_
 DG:ze_
set_option linter.defProp false
def jG_:=And.intro (And.intro (And.intro (@zn_) (@zm_)) (And.intro (@Sx.tup2_0) (@Sx.tup2_1))) (And.intro (And.intro (@Qe_) (@wA_)) (And.intro (@wp_) (@wg_)))
theorem abR_ (v:Value) (l:List FiL) (w:World) (hv:FiSl w v l) (hl:l.length≤1000) (hb:FiB l):
  Rets Tryz.prog 51 #[v] w (XS w [] (fun v D=> ∃D1 D2,D=D1++D2∧Gr D1 116 2 v (wX_ l).length ((wX_ l).map obC).flatten)):=by
 have ln:=hv.len
 obtain⟨rb,off,arr,E,fz,hr⟩:=hv.row
 refine Rets.enterX Tryz.func51 rfl (rs:= [.tmp 2]) Tryz.results51 Tryz.ntmps51 (fun p hp=>by cases hp) (by simp[keys]) ?_
 refine kf ?_
 first|with_reducible refine ks [] (And.intro @jG_ @ln) ?_|refine kp (And.intro @jG_ @ln) ?_
 refine Cw.permL (M:= []++ []) (List.Perm.refl _) ?_
 refine Cw.loopG (G:=ObjG) [9,10,11,12,16,17,18,19,20,21,15,22,23,5,6,24,25,26,27,28,29,30,31,32,33,34,36,37,38,35,39,40,7,8,41,42,43,44,45,3,46,47,48,49,50,51,52,53,13,14,4] (fun g=> [(3,g.v),(4,vi g.k)]) (fun g=>g.D++g.DG) (fun g=>g.k≤l.length∧New w.heap.size g.D∧New w.heap.size g.DG∧Gr g.D 116 2 g.v (wX_ (l.take g.k)).length ((wX_ (l.take g.k)).map obC).flatten) (fun g=>l.length - g.k) ⟨0, .slice none 0 0,[],[]⟩ rfl rfl ?_ ?_
 ·exact⟨Nat.zero_le _,trivial,trivial,Gr.nl⟩
 intro g j hg
 refine kv ?_
 obtain⟨k,v3,D,DG⟩:=g
 simp only at hg ⊢
 obtain⟨hk,hN,hNG,hG⟩:=hg
 have hol:=Xs_ l k hk
 by_cases hlt:k<l.length
 ·have d1:decide ((k:Int)< (l.length:Int))=true:=decide_eq_true (by omega)
  have hrl:=hr.lt (by omega)
  have ixl:=hr.idx true k hlt
  have ld2: ∀n,zk_ (some (false,n)) (some (.cells arr E fz)) (off+k*3+2)=some (vs (l.getD k fi0).data):=fun n=>acI_ hr hlt n
  have hhas:=hr.has (show 0<l.length by omega)
  have rdl: ∀L,New w.heap.size L→zy_ w L rb=some (.cells arr E fz):=fun L hL=>by rw[z6_ (hL.not hrl)];exact hhas
  have hfb:=(hb (l.getD k fi0) (by rw[List.getD_eq_getElem?_getD,List.getElem?_eq_getElem hlt];exact List.getElem_mem _)).2
  have hnx:=Vl_ l hlt
  have hfl:=Xi_ (l.getD k fi0).data
  generalize (l.getD k fi0).data=b at*
  generalize hosE:wX_ (l.take k)=os at*
  have rd1:=rdl _ (hN.app hNG)
  have hun:=alK_ b
  have hfo:aip_ b=aam_ b++V3_ b:=rfl
  have hlo:aam_ b=if(jt_ b).2=true∧4≤ (jt_ b).1.length∧(jt_ b).1.take 4=magO∧frOk ((jt_ b).1.drop 4)=true then [vF_ ((jt_ b).1.drop 4)] else []:=rfl
  have hsl:=WX_ b
  first|with_reducible refine ks [8,1000006] (And.intro @jG_ (And.intro @d1 (And.intro @ln (And.intro @ixl (And.intro @rd1 (@ld2)))))) ?_|refine kp (And.intro @jG_ (And.intro @d1 (And.intro @ln (And.intro @ixl (And.intro @rd1 (@ld2)))))) ?_
  refine Ow.callFV rfl Tryz.call78 (fun w' hw'=>X1_ b w' hfb) ?_
  generalize jt_ b=u at*
  obtain⟨s,ok⟩:=u
  simp only at hun hlo ⊢
  refine ko @jG_ ?_
  refine Cw.cutO (G:=ObjC) [3,7,8,24,25,26,27,28,29,30,31,32,33,34,35,36,37,38,39,40,41,42,43,44,45] (fun g=> [(3,g.v)]) (fun g=>g.D++g.DG) (fun g=>New w.heap.size g.D∧New w.heap.size g.DG∧Gr g.D 116 2 g.v g.os.length (g.os.map obC).flatten∧g.os=os++aam_ b) ?_ ?_
  ·cases ok with
   |false=>
    rw[if_neg (by simp)] at hlo
    first|with_reducible refine ks [] @jG_ ?_|refine kp @jG_ ?_
    exact CutO.mk ⟨os,v3,D,DG⟩ ⟨hN,hNG,hG,by rw[hlo,List.append_nil]⟩ rfl rfl
   |true=>
    by_cases h4:4≤s.length
    ·have d4:decide ((4:Int)≤ (s.length:Int))=true:=decide_eq_true (by omega)
     have d4':decide ((0:Int)≤4∧(4:Int)≤ (s.length:Int))=true:=decide_eq_true (by omega)
     have d4'':decide ((4:Int)≤ (s.length:Int)∧(s.length:Int)≤ (s.length:Int))=true:=decide_eq_true (by omega)
     by_cases hm:s.take 4=magO
     ·have d5: (s.take 4== [83,76,79,49])=true:=beq_iff_eq.2 hm
      first|with_reducible refine ks [8] (And.intro @jG_ (And.intro @d4 (And.intro @d4' (@d5)))) ?_|refine kp (And.intro @jG_ (And.intro @d4 (And.intro @d4' (@d5)))) ?_
      refine Ow.callFV rfl Tryz.call79 (fun w' hw'=>Vp_ (s.drop 4) w' (by rw[List.length_drop];omega)) ?_
      have hrd1: (if lfOk (s.drop 4) then lfK (s.drop 4) else 0)=(vF_ (s.drop 4)).k:=by rw[Jd_]
      have hrd2: (if lfOk (s.drop 4) then(lfT ((s.drop 4).drop 1)).1 else [])=(vF_ (s.drop 4)).t:=by rw[Jd_]
      have hfl2:=(anS_ (s.drop 4)).1
      rw[hrd1,hrd2,←hfl2]
      refine ko @jG_ ?_
      refine Ow.alloc rfl rfl zrOb fun b7 hb7 hw7=> ?_
      simp only[zh_,List.nil_append,List.cons_append]
      refine Ow.permL (M:=(b7, .cells #[vi 0,vs []] 116 (0,0)):: (D++DG)) (by classical exact List.perm_iff_count.2 fun a=>by simp only[List.count_append,List.count_cons,List.count_nil]<;>omega) ?_
      refine ko @jG_ ?_
      generalize vF_ (s.drop 4)=o at*
      obtain⟨ok,ot⟩:=o
      cases hfr:frOk (s.drop 4) with
      |false=>
       rw[if_neg (fun h=>by rw[hfr] at h;cases h.2.2.2)] at hlo
       refine Cw.permL (M:=D++ ((b7, .cells #[vi ok,vs ot] 116 (0,0))::DG)) (by classical exact List.perm_iff_count.2 fun a=>by simp only[List.count_append,List.count_cons,List.count_nil]<;>omega) ?_
       first|with_reducible refine ks [] (And.intro @jG_ @hfr) ?_|refine kp (And.intro @jG_ @hfr) ?_
       exact CutO.mk ⟨os,v3,D,(b7, .cells #[vi ok,vs ot] 116 (0,0))::DG⟩ ⟨hN,⟨hw7,hNG⟩,hG,by rw[hlo,List.append_nil]⟩ rfl rfl
      |true=>
       rw[if_pos ⟨rfl,h4,hm,hfr⟩] at hlo
       first|with_reducible refine ks [] (And.intro @jG_ @hfr) ?_|refine kp (And.intro @jG_ @hfr) ?_
       refine Ow.buildSlice (e:=116) #[vi ok,vs ot] rfl rfl (zT_ (cs:=obC ⟨ok,ot⟩) Tryz.underlying58 Tryz.ag116 zrOb (by decide) rfl) fun bc hbc hwc=> ?_
       refine ko @jG_ ?_
       refine Ow.permL (M:=D++ ((b7, .cells #[vi ok,vs ot] 116 (0,0)):: (DG++ [(bc, .cells #[vi ok,vs ot] 116 (0,0))]))) (by classical exact List.perm_iff_count.2 fun a=>by simp only[List.count_append,List.count_cons,List.count_nil]<;>omega) ?_
       refine Ow.appendXG (e:=116) (k:=1) (new:=obC ⟨ok,ot⟩) (X:=D) v3 rfl rfl rfl rfl Tryz.underlying58 Tryz.ag116 (by kernel_rfl) zrOb (by rw[obV,zh_];rfl) Tryz.underlying58 (by intro k h;cases h) hG (fun w' hw'=>AppX.one1 (hw'.has bc (.cells (obC ⟨ok,ot⟩).toArray 116 (0,0)) (by simp[obC])) (k8_ _) (XG_ _)) (by omega) (fun B5 v5 D5 hA5 hB5 hG5 hk51 hk52 hlk5=> ?_)
       have hN5:New w.heap.size D5:=New.of_le fun q hq=>by
        rcases hk52 q hq with h|h
        ·exact hN.le q h
        ·omega
       refine ko @jG_ ?_
       first|with_reducible refine ks [] @jG_ ?_|refine kp @jG_ ?_
       exact CutO.mk ⟨os++ [⟨ok,ot⟩],v5,D5,(b7, .cells #[vi ok,vs ot] 116 (0,0)):: (DG++ [(bc, .cells #[vi ok,vs ot] 116 (0,0))])⟩ ⟨hN5,⟨hw7,hNG.app ⟨hwc,trivial⟩⟩,by simpa using hG5,by rw[hlo]⟩ rfl rfl
     ·have d5: (s.take 4== [83,76,79,49])=false:=beq_eq_false_iff_ne.2 hm
      rw[if_neg (fun h=>hm h.2.2.1)] at hlo
      first|with_reducible refine ks [] (And.intro @jG_ (And.intro @d4 (And.intro @d4' (@d5)))) ?_|refine kp (And.intro @jG_ (And.intro @d4 (And.intro @d4' (@d5)))) ?_
      exact CutO.mk ⟨os,v3,D,DG⟩ ⟨hN,hNG,hG,by rw[hlo,List.append_nil]⟩ rfl rfl
    ·have d4:decide ((4:Int)≤ (s.length:Int))=false:=decide_eq_false (by omega)
     rw[if_neg (fun h=>h4 h.2.1)] at hlo
     first|with_reducible refine ks [] (And.intro @jG_ @d4) ?_|refine kp (And.intro @jG_ @d4) ?_
     exact CutO.mk ⟨os,v3,D,DG⟩ ⟨hN,hNG,hG,by rw[hlo,List.append_nil]⟩ rfl rfl
  ·intro g j hg
   refine kv ?_
   obtain⟨os2,v4,D4,DG4⟩:=g
   simp only at hg ⊢
   obtain⟨hN4,hNG4,hG4,hos4⟩:=hg
   have hol2:os2.length≤k*201+201:=by
    have:=Xi_ b
    rw[hfo,List.length_append] at this
    rw[hos4,List.length_append]
    omega
   have rd2:=rdl _ (hN4.app hNG4)
   first|with_reducible refine ks [] (And.intro @jG_ (And.intro @ln (And.intro @ixl (And.intro @rd2 (@ld2))))) ?_|refine kp (And.intro @jG_ (And.intro @ln (And.intro @ixl (And.intro @rd2 (@ld2))))) ?_
   refine Ow.callC rfl rfl Tryz.call80 (fun w' hw'=>agh_ b w' hfb) (fun B9 v9 D9 hA9 hB9 hN9 hS9=> ?_)
   have hN9':New w.heap.size D9:=hN9.mono hB9
   refine ko @jG_ ?_
   refine Ow.permL (M:=D4++ (DG4++D9)) (by classical exact List.perm_iff_count.2 fun a=>by simp only[List.count_append,List.count_cons,List.count_nil]<;>omega) ?_
   refine Ow.appendXG (e:=116) (k:=(V3_ b).length) (new:=((V3_ b).map obC).flatten) (X:=D4) v4 rfl rfl rfl rfl Tryz.underlying58 Tryz.ag116 (by kernel_rfl) zrOb (by rw[obV,zh_];rfl) Tryz.underlying58 (by intro k h;cases h) hG4 (fun w' hw'=>((hS9.mono (fun q hq=>by simp[hq])).slV (z:=ob0) hw' rfl rfl k8_).appX k8_ XG_) (by omega) (fun B5 v5 D5 hA5 hB5 hG5 hk51 hk52 hlk5=> ?_)
   have hN5:New w.heap.size D5:=New.of_le fun q hq=>by
    rcases hk52 q hq with h|h
    ·exact hN4.le q h
    ·omega
   refine ko @jG_ ?_
   first|with_reducible refine ks [] @jG_ ?_|refine kp @jG_ ?_
   exact Again.mk ⟨k+1,v5,D5,DG4++D9⟩ (by show l.length - (k+1)<l.length - k;omega) ⟨hlt,hN5,hNG4.app hN9',by rw[hnx,hfo,←List.append_assoc,←hos4,List.length_append,List.map_append,List.flatten_append];exact hG5⟩ rfl rfl
 ·obtain rfl:k=l.length:=by omega
  have d1:decide ((l.length:Int)< (l.length:Int))=false:=decide_eq_false (by omega)
  rw[List.take_length] at hG
  first|with_reducible refine ks [] (And.intro @jG_ (And.intro @d1 (@ln))) ?_|refine kp (And.intro @jG_ (And.intro @d1 (@ln))) ?_
  refine⟨_,(ke @jG_), ?_⟩
  exact⟨Ext.of_new (hN.app hNG),D,DG,rfl,hG⟩
end Go.Proofs
end
section
open Go Go.Proofs Go.Sx Go.StP Go.Flo
namespace Go.Proofs
set_option maxRecDepth 10000
set_option maxHeartbeats 400000
set_option linter.unusedSimpArgs false
def idQ (o:ObL):IdL:=⟨Dig.shaR (QK_ o.k o.t),VW_ _⟩
def vN_ (all:List ObL):Nat→Option (List ObL)
 |0=>some []
 |i+1=>match vN_ all i with
  |none=>none
  |some had=>if xP_ (all.getD i ob0).k (all.getD i ob0).t=true∧all.getD i ob0∉had then(if had.any (fun h=>(idQ h).l==(idQ (all.getD i ob0)).l)=true then none else some (had++ [all.getD i ob0])) else some had
def aax_ (all:List ObL):Bool:=(vN_ all all.length).isNone
theorem Xr_ {all:List ObL}: ∀ {j i:Nat},vN_ all i=none→i≤j→vN_ all j=none
 |0,i,h,hij=>by
  obtain rfl:i=0:=by omega
  exact h
 |j+1,i,h,hij=>by
  by_cases e:i=j+1
  ·subst e;exact h
  ·have:=Xr_ (j:=j) h (by omega)
   unfold vN_
   rw[this]
theorem KU_ {all:List ObL}: ∀ {i:Nat} {had:List ObL},vN_ all i=some had→had.length≤i
 |0,had,h=>by cases h;exact Nat.le_refl _
 |i+1,had,h=>by
  unfold vN_ at h
  cases hc:vN_ all i with
  |none=>rw[hc] at h;cases h
  |some had'=>
   have h1:=KU_ hc
   rw[hc] at h
   simp only at h
   split at h
   ·split at h
    ·cases h
    ·cases h;rw[List.length_append];simp;omega
   ·cases h;omega
structure ThG where
 j:Nat
 c:Bool
structure ClG where
 i:Nat
 had:List ObL
 v6:Value
 v7:Value
 D6:ze_
 D7:ze_
 DG:ze_
set_option linter.defProp false
def z9_:=And.intro (And.intro (And.intro (@zn_) (@zm_)) (And.intro (@Sx.tup2_0) (And.intro (@Sx.tup2_1) (@Qe_)))) (And.intro (And.intro (@wA_) (And.intro (@wp_) (@wg_))) (And.intro (@aq8_) (And.intro (@apK_) (@V0_))))
theorem agW_ (v1 v2:Value) (l:List FiL) (more:List ObL) (w:World) (hv:FiSl w v1 l) (hl:l.length≤1000) (hb:FiB l) (hm:ObSl w v2 more) (hml:more.length≤1000000):
  Rets Tryz.prog 26 #[v1,v2] w (fun v D=>v= .bool (aax_ (wX_ l++more))∧D= []):=by
 have ln2:=hm.len
 have hol:=Xs_ l l.length (Nat.le_refl _)
 rw[List.take_length] at hol
 refine Rets.enterV Tryz.func26 rfl (rs:= [.tmp 4]) Tryz.results26 Tryz.ntmps26 ?_
 refine kf ?_
 first|with_reducible refine ks [] @z9_ ?_|refine kp @z9_ ?_
 refine Ow.callC rfl rfl Tryz.call51 (fun w' hw'=>abR_ v1 l w' (hv.oldN hw' trivial) hl hb) (fun B1 v4 D0 hA1 hB1 hN1 hS1=> ?_)
 obtain⟨D1,DG1,rfl,hG1⟩:=hS1
 have hN1':=hN1.mono hB1
 rw[List.nil_append]
 refine ko @z9_ ?_
 refine Ow.appendXG (e:=116) (k:=more.length) (new:=(more.map obC).flatten) (X:=D1) v4 rfl rfl rfl rfl Tryz.underlying58 Tryz.ag116 (by kernel_rfl) zrOb (by rw[obV,zh_];rfl) Tryz.underlying58 (by intro k h;cases h) hG1 (fun w' hw'=>(hm.oldN hw' hN1').appX k8_ XG_) (by omega) (fun B5 v5 D5 hA5 hB5 hG5 hk51 hk52 hlk5=> ?_)
 have hN5:New w.heap.size D5:=New.of_le fun q hq=>by
  rcases hk52 q hq with h|h
  ·exact hN1'.le q (by rw[zo_];exact List.mem_append_left _ h)
  ·omega
 rw[←List.flatten_append,←List.map_append,←List.length_append] at hG5
 have hal: (wX_ l++more).length≤1300000:=by rw[List.length_append];omega
 have hNG1:New w.heap.size DG1:=New.of_le fun q hq=>hN1'.le q (by rw[zo_];exact List.mem_append_right _ hq)
 generalize wX_ l++more=all at*
 have hGi:=Gr.i hG5 (fun p hp=>hp)
 have lna: ∀m,Zz_ (.sl m) v5=some (vi all.length):=fun m=>kr_ hGi m
 refine ko @z9_ ?_
 first|with_reducible refine ks [] (And.intro @z9_ @lna) ?_|refine kp (And.intro @z9_ @lna) ?_
 refine Cw.permL (M:=D5++ ([]++ ([]++DG1))) (by classical exact List.perm_iff_count.2 fun a=>by simp only[List.count_append,List.count_cons,List.count_nil]<;>omega) ?_
 refine Cw.loopG (G:=ClG) [18,19,20,21,24,25,26,27,28,29,9,10,30,31,32,33,34,35,36,37,40,41,42,43,44,45,46,47,48,38,39,49,50,51,52,53,54,11,12,55,56,57,58,61,62,63,64,65,66,4,59,60,67,68,69,70,71,72,73,6,74,75,76,77,7,22,23,8] (fun g=> [(6,g.v6),(7,g.v7),(8,vi g.i)]) (fun g=>D5++ (g.D6++ (g.D7++g.DG))) (fun g=>g.i≤all.length∧vN_ all g.i=some g.had∧New w.heap.size g.D6∧New w.heap.size g.D7∧New w.heap.size g.DG∧Gr g.D6 116 2 g.v6 g.had.length (g.had.map obC).flatten∧Gr g.D7 118 32 g.v7 g.had.length ((g.had.map idQ).map WQ_).flatten) (fun g=>all.length - g.i) ⟨0,[], .slice none 0 0, .slice none 0 0,[],[],DG1⟩ rfl rfl ?_ ?_
 ·exact⟨Nat.zero_le _,rfl,trivial,trivial,hNG1,Gr.nl,Gr.nl⟩
 intro g j hg
 refine kv ?_
 obtain⟨i,had,v6,v7,D6,D7,DG⟩:=g
 simp only at hg ⊢
 obtain⟨hi,hcl,hN6,hN7,hNG,hG6,hG7⟩:=hg
 have hhl:=KU_ hcl
 have hNr:New w.heap.size (D5++ (D6++ (D7++DG))):=hN5.app (hN6.app (hN7.app hNG))
 by_cases hlt:i<all.length
 ·have d1:decide ((i:Int)< (all.length:Int))=true:=decide_eq_true (by omega)
  have hcs:vN_ all (i+1)=if xP_ (all.getD i ob0).k (all.getD i ob0).t=true∧all.getD i ob0∉had then(if had.any (fun h=>(idQ h).l==(idQ (all.getD i ob0)).l)=true then none else some (had++ [all.getD i ob0])) else some had:=by
   show(match vN_ all i with|none=>none|some had=>_)=_
   rw[hcl]
  refine Cw.world fun wz hwz=> ?_
  have hnd:=hwz.nodup
  clear hwz wz
  simp only[zo_,List.nodup_append,List.mem_append] at hnd
  obtain h0| ⟨ra,ca,resta,rfl,hka,hlka⟩:=ZO_ hGi hnd.1
  ·omega
  have rda: ∀Y,zy_ w (D5++Y) ra=some (vo_ obC 116 resta all):=fun Y=>za_ (zi_ hlka)
  have lda:zk_ (some (true,2)) (some (vo_ obC 116 resta all)) (i*2)=some (obV (all.getD i ob0).k (all.getD i ob0).t):=Jn_ (E:=116) (rest:=resta) (z:=ob0) k8_ i hlt
  have lnh: ∀m,Zz_ (.sl m) v6=some (vi had.length):=fun m=>kr_ (Gr.i hG6 (fun p hp=>hp)) m
  have lni: ∀m,Zz_ (.sl m) v7=some (vi had.length):=fun m=>kr_ (Gr.i hG7 (fun p hp=>hp)) m
  generalize all.getD i ob0=o at*
  obtain⟨ok,ot⟩:=o
  simp only at lda hcs
  first|with_reducible refine ks [7] (And.intro @z9_ (And.intro @d1 (And.intro @lna (And.intro @lda (@rda))))) ?_|refine kp (And.intro @z9_ (And.intro @d1 (And.intro @lna (And.intro @lda (@rda))))) ?_
  refine Ow.callFV rfl Tryz.call52 (fun w' hw'=>JJ_ ok ot w') ?_
  refine ko @z9_ ?_
  first|with_reducible refine ks [] (And.intro @z9_ @lnh) ?_|refine kp (And.intro @z9_ @lnh) ?_
  refine Cw.loopG (G:=ThG) [30,31,32,33,34,35,36,37,40,41,42,43,44,45,46,47,48,9,38,39,10] (fun g=> [(9, .bool g.c),(10,vi g.j)]) (fun g=>D5++ (D6++ (D7++DG))) (fun g=>g.j≤had.length∧g.c=(!xP_ ok ot||decide ((⟨ok,ot⟩:ObL)∈had.take g.j))) (fun g=>had.length - g.j) ⟨0, !xP_ ok ot⟩ rfl rfl ?_ ?_
  ·exact⟨Nat.zero_le _,by simp⟩
  intro g j hg
  refine kv ?_
  obtain⟨j,c⟩:=g
  simp only at hg ⊢
  obtain⟨hj,hc⟩:=hg
  by_cases hjt:j<had.length
  ·have d2:decide ((j:Int)< (had.length:Int))=true:=decide_eq_true (by omega)
   cases c with
   |true=>
    have hno: ¬ (xP_ ok ot=true∧(⟨ok,ot⟩:ObL)∉had):=by
     rintro⟨h1,h2⟩
     rw[h1,decide_eq_false (fun h=>h2 (List.mem_of_mem_take h))] at hc
     cases hc
    first|with_reducible refine ks [] (And.intro @z9_ (And.intro @d2 (@lnh))) ?_|refine kp (And.intro @z9_ (And.intro @d2 (@lnh))) ?_
    rw[if_neg hno] at hcs
    first|with_reducible refine ks [] @z9_ ?_|refine kp @z9_ ?_
    exact Again.mk ⟨i+1,had,v6,v7,D6,D7,DG⟩ (by show all.length - (i+1)<all.length - i;omega) ⟨hlt,hcs,hN6,hN7,hNG,hG6,hG7⟩ rfl rfl
   |false=>
    have hc':=hc.symm
    rw[Bool.or_eq_false_iff] at hc'
    have hnx:=Zs_ (o:=⟨ok,ot⟩) hjt
    rw[hc'.2,Bool.false_or] at hnx
    obtain h0| ⟨rh,ch,resth,rfl,hkh,hlkh⟩:=ZO_ (Gr.i hG6 (fun p hp=>hp)) hnd.2.1.1
    ·omega
    have hn1:rh∉keys D5:=fun hm=>hnd.2.2 rh hm rh (.inl hkh) rfl
    have rdh:zy_ w (D5++ (D6++ (D7++DG))) rh=some (vo_ obC 116 resth had):=za_ (by rw[zM_ hn1];exact zi_ hlkh)
    have ldh:zk_ (some (true,2)) (some (vo_ obC 116 resth had)) (j*2)=some (obV (had.getD j ob0).k (had.getD j ob0).t):=Jn_ (E:=116) (rest:=resth) (z:=ob0) k8_ j hjt
    generalize had.getD j ob0=p at*
    first|with_reducible refine ks [] (And.intro @z9_ (And.intro @d2 (@lnh))) ?_|refine kp (And.intro @z9_ (And.intro @d2 (@lnh))) ?_
    refine Cw.regionS [rh,ra] [0,1,2,4,5,6,3,7,8,9] [] (by kernel_rfl) (by kernel_rfl) (by kernel_rfl) ?_
    simp only[zj_, ↓zf_, ↓zc_, ↓zw_, ↓zv_,zd_]
    refine kq (And.intro @z9_ (And.intro @rdh (And.intro @ldh (And.intro @rda (@lda))))) ?_
    first|with_reducible refine ks [] @z9_ ?_|refine kp @z9_ ?_
    exact Again.mk ⟨j+1,_⟩ (by show had.length - (j+1)<had.length - j;omega) ⟨hjt,by rw[hc'.1,Bool.false_or];exact hnx.symm⟩ rfl rfl
  ·obtain rfl:j=had.length:=by omega
   have d2:decide ((had.length:Int)< (had.length:Int))=false:=decide_eq_false (by omega)
   rw[List.take_length] at hc
   cases c with
   |true=>
    have hno: ¬ (xP_ ok ot=true∧(⟨ok,ot⟩:ObL)∉had):=by
     rintro⟨h1,h2⟩
     rw[h1,decide_eq_false h2] at hc
     cases hc
    first|with_reducible refine ks [] (And.intro @z9_ (And.intro @d2 (@lnh))) ?_|refine kp (And.intro @z9_ (And.intro @d2 (@lnh))) ?_
    rw[if_neg hno] at hcs
    first|with_reducible refine ks [] @z9_ ?_|refine kp @z9_ ?_
    exact Again.mk ⟨i+1,had,v6,v7,D6,D7,DG⟩ (by show all.length - (i+1)<all.length - i;omega) ⟨hlt,hcs,hN6,hN7,hNG,hG6,hG7⟩ rfl rfl
   |false=>
    have hc':=hc.symm
    rw[Bool.or_eq_false_iff] at hc'
    have hrt:xP_ ok ot=true:=by simpa using hc'.1
    have htl:ot.length<100000:=by have:=alH_ (k:=ok) (t:=ot) (by rw[K8_];exact hrt);omega
    rw[if_pos ⟨hrt,of_decide_eq_false hc'.2⟩] at hcs
    first|with_reducible refine ks [] (And.intro @z9_ (And.intro @d2 (And.intro @lnh (And.intro @rda (@lda))))) ?_|refine kp (And.intro @z9_ (And.intro @d2 (And.intro @lnh (And.intro @rda (@lda))))) ?_
    refine Ow.callFV rfl Tryz.call53 (fun w' hw'=>amR_ ok ot w' htl) ?_
    have hid:Dig.shaR (QK_ ok ot)=(idQ ⟨ok,ot⟩).l:=rfl
    rw[hid] at*
    have hil:=(idQ ⟨ok,ot⟩).h
    have hi0:=id0.h
    generalize hx:idQ ⟨ok,ot⟩=x at*
    refine ko @z9_ ?_
    refine Ow.alloc rfl rfl ago_ fun b11 hb11 hw11=> ?_
    simp only[zh_,List.nil_append,List.cons_append]
    refine Ow.permL (M:=(b11, .cells (a8 id0.l) 118 (0,0)):: (D5++ (D6++ (D7++DG)))) (by classical exact List.perm_iff_count.2 fun a=>by simp only[List.count_append,List.count_cons,List.count_nil]<;>omega) ?_
    refine ko @z9_ ?_
    first|with_reducible refine ks [] (And.intro @z9_ @lni) ?_|refine kp (And.intro @z9_ @lni) ?_
    refine Cw.loopG (G:=Nat) [55,56,57,58,61,62,63,64,65,66,4,59,60,12] (fun g=> [(12,vi g)]) (fun g=>(b11, .cells (a8 x.l) 118 (0,0)):: (D5++ (D6++ (D7++DG)))) (fun g=>g≤had.length∧(had.take g).any (fun h=>(idQ h).l==x.l)=false) (fun g=>had.length - g) 0 rfl rfl ?_ ?_
    ·exact⟨Nat.zero_le _,rfl⟩
    intro m jm hm
    refine kv ?_
    obtain⟨hm1,hm2⟩:=hm
    by_cases hmt:m<had.length
    ·have d3:decide ((m:Int)< (had.length:Int))=true:=decide_eq_true (by omega)
     obtain h0| ⟨rq,cq,restq,rfl,hkq,hlkq⟩:=ZO_ (l:=had.map idQ) (enc:=WQ_) (by rw[List.length_map];exact Gr.i hG7 (fun p hp=>hp)) hnd.2.1.2.1.1
     ·rw[List.length_map] at h0;omega
     rw[List.length_map] at*
     have hn1:rq∉keys D5:=fun hm=>hnd.2.2 rq hm rq (.inr (.inl hkq)) rfl
     have hn2:rq∉keys D6:=fun hm=>hnd.2.1.2.2 rq hm rq (.inl hkq) rfl
     have hq11:rq<b11:=zx_ hb11 (by simp only[zo_,List.mem_append];exact .inr (.inr (.inl hkq)))
     have rdq:zy_ w ((b11, .cells (a8 x.l) 118 (0,0)):: (D5++ (D6++ (D7++DG)))) rq=some (vo_ WQ_ 118 restq (had.map idQ)):=za_ (by rw[kC_ _ _ _ _ (by omega),zM_ hn1,zM_ hn2];exact zi_ hlkq)
     have ldq:zk_ (some (true,32)) (some (vo_ WQ_ 118 restq (had.map idQ))) (m*32)=some (.agg (a8 (idQ (had.getD m ob0)).l)):=by
      have:=Jn_ (E:=118) (rest:=restq) (z:=id0) wd_ m (show m< (had.map idQ).length by rw[List.length_map];exact hmt)
      rw[ahU_,show(had.map idQ).getD m id0=idQ (had.getD m ob0) from by rw[List.getD_eq_getElem?_getD,List.getD_eq_getElem?_getD,List.getElem?_map,List.getElem?_eq_getElem hmt];rfl] at this
      exact this
     have hpm:had.getD m ob0∈had:=xd_ hmt
     have hnx: (had.take (m+1)).any (fun h=>(idQ h).l==x.l)=((idQ (had.getD m ob0)).l==x.l):=by
      rw[StP.take_snoc (z:=ob0) hmt,List.any_append,hm2];simp
     generalize had.getD m ob0=p at*
     first|with_reducible refine ks [] (And.intro @z9_ (And.intro @d3 (@lni))) ?_|refine kp (And.intro @z9_ (And.intro @d3 (@lni))) ?_
     refine Cw.regionS [rq,b11] [0,1,2,3,4,5] [] (by kernel_rfl) (by kernel_rfl) (by kernel_rfl) ?_
     simp only[zj_, ↓zf_, ↓zc_, ↓zw_, ↓zv_,zd_]
     refine kq (And.intro @z9_ (And.intro @rdq (@ldq))) ?_
     cases hq: ((idQ p).l==x.l) with
     |true=>
      have hany:had.any (fun h=>(idQ h).l==x.l)=true:=List.any_eq_true.2 ⟨p,hpm,hq⟩
      rw[if_pos hany] at hcs
      have hnn:=Xr_ hcs (show i+1≤all.length by omega)
      first|with_reducible refine ks [] (And.intro @z9_ @hq) ?_|refine kp (And.intro @z9_ @hq) ?_
      refine⟨_,(ke @z9_),(show New w.heap.size ((b11,_):: (D5++ (D6++ (D7++DG)))) from⟨hw11,hNr⟩), ?_⟩
      (unfold aax_;rw[hnn];rfl)
     |false=>
      rw[hq] at hnx
      first|with_reducible refine ks [] (And.intro @z9_ @hq) ?_|refine kp (And.intro @z9_ @hq) ?_
      exact Again.mk (m+1) (by omega) ⟨hmt,hnx⟩ rfl rfl
    ·obtain rfl:m=had.length:=by omega
     have d3:decide ((had.length:Int)< (had.length:Int))=false:=decide_eq_false (by omega)
     rw[List.take_length] at hm2
     rw[if_neg (by rw[hm2];simp)] at hcs
     have ha11:ra<b11:=zx_ hb11 (by simp only[zo_,List.mem_append];exact .inl hka)
     have rda2: ∀O Y,zy_ w ((b11,O):: (D5++Y)) ra=some (vo_ obC 116 resta all):=fun O Y=>za_ (by rw[kC_ _ _ _ _ (by omega)];exact zi_ hlka)
     first|with_reducible refine ks [] (And.intro @z9_ (And.intro @d3 (And.intro @lni (And.intro @rda2 (@lda))))) ?_|refine kp (And.intro @z9_ (And.intro @d3 (And.intro @lni (And.intro @rda2 (@lda))))) ?_
     refine Ow.buildSlice (e:=116) #[vi ok,vs ot] rfl rfl (zT_ (cs:=obC ⟨ok,ot⟩) Tryz.underlying58 Tryz.ag116 zrOb (by decide) rfl) fun bc hbc hwc=> ?_
     refine ko @z9_ ?_
     refine Ow.permL (M:=D6++ ((b11, .cells (a8 x.l) 118 (0,0)):: (D5++ (D7++ (DG++ [(bc, .cells #[vi ok,vs ot] 116 (0,0))]))))) (by classical exact List.perm_iff_count.2 fun a=>by simp only[List.count_append,List.count_cons,List.count_nil]<;>omega) ?_
     refine Ow.appendXG (e:=116) (k:=1) (new:=obC ⟨ok,ot⟩) (X:=D6) v6 rfl rfl rfl rfl Tryz.underlying58 Tryz.ag116 (by kernel_rfl) zrOb (by rw[obV,zh_];rfl) Tryz.underlying58 (by intro k h;cases h) hG6 (fun w' hw'=>AppX.one1 (hw'.has bc (.cells (obC ⟨ok,ot⟩).toArray 116 (0,0)) (by simp[obC])) (k8_ _) (XG_ _)) (by omega) (fun B8 va8 D8 hA8 hB8 hG8 hk81 hk82 hlk8=> ?_)
     have hN8:New w.heap.size D8:=New.of_le fun q hq=>by
      rcases hk82 q hq with h|h
      ·exact hN6.le q h
      ·omega
     refine Ow.permL (M:=(b11, .cells (a8 x.l) 118 (0,0)):: (D5++ (D8++ (D7++ (DG++ [(bc, .cells #[vi ok,vs ot] 116 (0,0))]))))) (by classical exact List.perm_iff_count.2 fun a=>by simp only[List.count_append,List.count_cons,List.count_nil]<;>omega) ?_
     refine ko @z9_ ?_
     first|with_reducible refine ks [] @z9_ ?_|refine kp @z9_ ?_
     refine Ow.buildSlice (e:=118) (a8 x.l) rfl rfl (zT_ (cs:=x.l.map v8) Tryz.underlying113 ae7_ ago_ (by decide) (by simp[x.h])) fun ba hba hwa=> ?_
     refine ko @z9_ ?_
     refine Ow.permL (M:=D7++ ((b11, .cells (a8 x.l) 118 (0,0)):: (D5++ (D8++ (DG++ [(bc, .cells #[vi ok,vs ot] 116 (0,0)),(ba, .cells (a8 x.l) 118 (0,0))]))))) (by classical exact List.perm_iff_count.2 fun a=>by simp only[List.count_append,List.count_cons,List.count_nil]<;>omega) ?_
     refine Ow.appendXG (e:=118) (k:=1) (new:=WQ_ x) (X:=D7) v7 rfl rfl rfl rfl Tryz.underlying113 ae7_ (by kernel_rfl) ago_ (by rw[zh_,Qi_,id0.h]) Tryz.underlying113 (by intro k h;cases h) hG7 (fun w' hw'=>AppX.one1 (by rw[ahU_];exact hw'.has ba (.cells (a8 x.l) 118 (0,0)) (by simp)) (wd_ _) (W4_ _)) (by omega) (fun B9 va9 D9 hA9 hB9 hG9 hk91 hk92 hlk9=> ?_)
     have hN9:New w.heap.size D9:=New.of_le fun q hq=>by
      rcases hk92 q hq with h|h
      ·exact hN7.le q h
      ·omega
     refine ko @z9_ ?_
     refine Cw.permL (M:=D5++ (D8++ (D9++ ((b11, .cells (a8 x.l) 118 (0,0)):: (DG++ [(bc, .cells #[vi ok,vs ot] 116 (0,0)),(ba, .cells (a8 x.l) 118 (0,0))]))))) (by classical exact List.perm_iff_count.2 fun a=>by simp only[List.count_append,List.count_cons,List.count_nil]<;>omega) ?_
     first|with_reducible refine ks [] @z9_ ?_|refine kp @z9_ ?_
     have hl1: (had++ [(⟨ok,ot⟩:ObL)]).length=had.length+1:=by simp
     exact Again.mk ⟨i+1,had++ [⟨ok,ot⟩],va8,va9,D8,D9,(b11, .cells (a8 x.l) 118 (0,0)):: (DG++ [(bc, .cells #[vi ok,vs ot] 116 (0,0)),(ba, .cells (a8 x.l) 118 (0,0))])⟩ (by show all.length - (i+1)<all.length - i;omega) ⟨hlt,hcs,hN8,hN9,⟨hw11,hNG.app ⟨hwc,hwa,trivial⟩⟩,by simpa using hG8,by rw[←hx] at hG9;simpa using hG9⟩ rfl rfl
 ·obtain rfl:i=all.length:=by omega
  have d1:decide ((all.length:Int)< (all.length:Int))=false:=decide_eq_false (by omega)
  first|with_reducible refine ks [] (And.intro @z9_ (And.intro @d1 (@lna))) ?_|refine kp (And.intro @z9_ (And.intro @d1 (@lna))) ?_
  refine⟨_,(ke @z9_),hNr, ?_⟩
  (unfold aax_;rw[hcl];rfl)
end Go.Proofs
end
section
open Go Go.Proofs Go.Sx Go.StP Go.Flo
namespace Go.Proofs
set_option maxRecDepth 10000
set_option maxHeartbeats 400000
set_option linter.unusedSimpArgs false
def sumF (l:List FiL):Nat:=(l.map fun f=>f.data.length / 100+f.name.length).sum
def J5_ (l:List FiL) (more:List ObL):Bool:=decide (60<l.length) ||decide (1000<sumF l) ||aax_ (wX_ l++more)
theorem aiA_ (l:List FiL) {k:Nat} (h:k<l.length):sumF (l.take (k+1))=sumF (l.take k)+ (l.getD k fi0).data.length / 100+ (l.getD k fi0).name.length:=by
 unfold sumF
 rw[StP.take_snoc (z:=fi0) h,List.map_append,List.sum_append,List.map_singleton,List.sum_singleton,Nat.add_assoc]
theorem aoa_ (l:List FiL) (k:Nat):sumF (l.take k)≤sumF l:=by
 have:sumF l=sumF (l.take k)+sumF (l.drop k):=by
  unfold sumF
  rw[←List.sum_append,←List.map_append,List.take_append_drop]
 omega
theorem alJ_ {l:List FiL} {f:FiL} (h:f∈l):f.data.length / 100+f.name.length≤sumF l:=by
 unfold sumF
 induction l with
 |nil=>cases h
 |cons g l ih=>
  rw[List.map_cons,List.sum_cons]
  rcases List.mem_cons.1 h with rfl|h
  ·omega
  ·have:=ih h;omega
theorem akR_ {l:List FiL} {more:List ObL} (h:J5_ l more=false):l.length≤60∧aax_ (wX_ l++more)=false∧ ∀f,f∈l→f.name.length≤1000∧f.data.length<100100:=by
 unfold J5_ at h
 simp only[Bool.or_eq_false_iff,decide_eq_false_iff_not] at h
 refine⟨by omega,h.2,fun f hf=> ?_⟩
 have:=alJ_ hf
 omega
structure GfG where
 n:Nat
 k:Nat
set_option linter.defProp false
def vl_:=And.intro (@zn_) (@zm_)
theorem aa5_ (v1 v2:Value) (l:List FiL) (more:List ObL) (w:World) (hv:FiSl w v1 l) (hb:FiB l) (hm:ObSl w v2 more) (hml:more.length≤1000000):
  Rets Tryz.prog 5 #[v1,v2] w (fun v D=>v= .bool (J5_ l more)∧D= []):=by
 have ln:=hv.len
 obtain⟨rb,off,arr,E,fz,hr⟩:=hv.row
 refine Rets.enterV Tryz.func5 rfl (rs:= [.tmp 4]) Tryz.results5 Tryz.ntmps5 ?_
 refine kf ?_
 by_cases h60:60<l.length
 ·have d1:decide ((60:Int)< (l.length:Int))=true:=decide_eq_true (by omega)
  first|with_reducible refine ks [] (And.intro @vl_ (And.intro @ln (@d1))) ?_|refine kp (And.intro @vl_ (And.intro @ln (@d1))) ?_
  refine⟨_,(ke @vl_),trivial, ?_⟩
  (unfold J5_;rw[decide_eq_true h60];rfl)
 ·have d1:decide ((60:Int)< (l.length:Int))=false:=decide_eq_false (by omega)
  first|with_reducible refine ks [] (And.intro @vl_ (And.intro @ln (@d1))) ?_|refine kp (And.intro @vl_ (And.intro @ln (@d1))) ?_
  refine Cw.loopG (G:=GfG) [10,11,12,13,16,17,18,19,20,21,22,23,24,25,26,27,28,29,30,31,5,32,33,4,14,15,6] (fun g=> [(5,vi g.n),(6,vi g.k)]) (fun g=> []) (fun g=>g.k≤l.length∧g.n≤1000∧g.n=sumF (l.take g.k)) (fun g=>l.length - g.k) ⟨0,0⟩ rfl rfl ?_ ?_
  ·exact⟨Nat.zero_le _,Nat.zero_le _,rfl⟩
  intro g j hg
  refine kv ?_
  obtain⟨n,k⟩:=g
  simp only at hg ⊢
  obtain⟨hk,hn,hs⟩:=hg
  by_cases hlt:k<l.length
  ·have d2:decide ((k:Int)< (l.length:Int))=true:=decide_eq_true (by omega)
   have ix:=hr.idx true k hlt
   have hh:=hr.has (by omega)
   have ld1: ∀n,zk_ (some (false,n)) (some (.cells arr E fz)) (off+k*3+1)=some (vs (l.getD k fi0).name):=fun n=>aiM_ hr hlt n
   have ld2: ∀n,zk_ (some (false,n)) (some (.cells arr E fz)) (off+k*3+2)=some (vs (l.getD k fi0).data):=fun n=>acI_ hr hlt n
   have hbs:=hb (l.getD k fi0) (by rw[List.getD_eq_getElem?_getD,List.getElem?_eq_getElem hlt];exact List.getElem_mem _)
   have hsn:=aiA_ l hlt
   have hsl:=aoa_ l (k+1)
   generalize l.getD k fi0=r at*
   have es: ((n:Int)+ (r.data.length:Int).tdiv 100)+ (r.name.length:Int)=((n+r.data.length / 100+r.name.length:Nat):Int):=by
    rw[Int.tdiv_eq_ediv_of_nonneg (by omega)];omega
   have es2: ((n:Int)+ (r.data.length:Int) / 100)+ (r.name.length:Int)=((n+r.data.length / 100+r.name.length:Nat):Int):=by omega
   first|with_reducible refine ks [] (And.intro @vl_ (And.intro @ln (@d2))) ?_|refine kp (And.intro @vl_ (And.intro @ln (@d2))) ?_
   refine Cw.regionS [rb] [0,1,2,3,4,9,10,11,12,5,6,7,8,13,14,15,16] [] (by kernel_rfl) (by kernel_rfl) (by kernel_rfl) ?_
   simp only[zj_, ↓zf_, ↓zc_, ↓zw_, ↓zv_,zd_]
   refine kq (And.intro @vl_ (And.intro @ln (And.intro @ix (And.intro @hh (And.intro @ld1 (And.intro @ld2 (And.intro @es (@es2)))))))) ?_
   by_cases hgt:1000<n+r.data.length / 100+r.name.length
   ·have d3:decide ((1000:Int)< ((n+r.data.length / 100+r.name.length:Nat):Int))=true:=decide_eq_true (by omega)
    first|with_reducible refine ks [] (And.intro @vl_ @d3) ?_|refine kp (And.intro @vl_ @d3) ?_
    refine⟨_,(ke @vl_),trivial, ?_⟩
    (unfold J5_;rw[decide_eq_true (show 1000<sumF l by omega),Bool.or_true];rfl)
   ·have d3:decide ((1000:Int)< ((n+r.data.length / 100+r.name.length:Nat):Int))=false:=decide_eq_false (by omega)
    first|with_reducible refine ks [] (And.intro @vl_ @d3) ?_|refine kp (And.intro @vl_ @d3) ?_
    exact Again.mk ⟨n+r.data.length / 100+r.name.length,k+1⟩ (by show l.length - (k+1)<l.length - k;omega) ⟨hlt,by show n+r.data.length / 100+r.name.length≤1000;omega,by show n+r.data.length / 100+r.name.length=sumF (l.take (k+1));omega⟩ rfl rfl
  ·have d2:decide ((k:Int)< (l.length:Int))=false:=decide_eq_false (by omega)
   rw[show l.take k=l from List.take_of_length_le (by omega)] at hs
   first|with_reducible refine ks [] (And.intro @vl_ (And.intro @ln (@d2))) ?_|refine kp (And.intro @vl_ (And.intro @ln (@d2))) ?_
   refine Ow.callFV rfl Tryz.call26 (fun w' hw'=>agW_ v1 v2 l more w' (hv.oldN hw' trivial) (by omega) hb (hm.oldN hw' trivial) hml) ?_
   refine ko @vl_ ?_
   first|with_reducible refine ks [] @vl_ ?_|refine kp @vl_ ?_
   refine⟨_,(ke @vl_),trivial, ?_⟩
   (unfold J5_;rw[decide_eq_false h60,decide_eq_false (show¬1000<sumF l by omega)];rfl)
instance:DecidableEq FiL:=fun a b=>if h:a.dir=b.dir∧a.name=b.name∧a.data=b.data then .isTrue (by cases a;cases b;simp only at h;obtain⟨rfl,rfl,rfl⟩:=h;rfl) else .isFalse (fun e=>h (by rw[e];exact⟨rfl,rfl,rfl⟩))
set_option linter.defProp false
def wF_:=And.intro (And.intro (@zn_) (@zm_)) (And.intro (@aid_) (@neFi))
theorem X3_ (v1 v2:Value) (a b:List FiL) (w:World) (ha:FiSl w v1 a) (hb:FiSl w v2 b) (hal:a.length<1000000000):
  Rets Tryz.prog 37 #[v1,v2] w (fun v D=>v= .bool (decide (a=b))∧D= []):=by
 have ln1:=ha.len
 have ln2:=hb.len
 obtain⟨ra,offa,arra,Ea,fza,hra⟩:=ha.row
 obtain⟨rb,offb,arrb,Eb,fzb,hrb⟩:=hb.row
 refine Rets.enterV Tryz.func37 rfl (rs:= [.tmp 4]) Tryz.results37 Tryz.ntmps37 ?_
 refine kf ?_
 by_cases hll:a.length=b.length
 ·have d1: ((a.length:Int) !=(b.length:Int))=false:=by rw[hll];exact bne_self_eq_false _
  first|with_reducible refine ks [] (And.intro @wF_ (And.intro @ln1 (And.intro @ln2 (@d1)))) ?_|refine kp (And.intro @wF_ (And.intro @ln1 (And.intro @ln2 (@d1)))) ?_
  refine Cw.loopG (G:=Nat) [11,12,13,14,17,18,19,20,21,22,23,24,25,4,15,16,5] (fun g=> [(5,vi g)]) (fun g=> []) (fun g=>g≤a.length∧a.take g=b.take g) (fun g=>a.length - g) 0 rfl rfl ?_ ?_
  ·exact⟨Nat.zero_le _,rfl⟩
  intro k jk hk
  refine kv ?_
  obtain⟨hk1,hk2⟩:=hk
  by_cases hlt:k<a.length
  ·have hltb:k<b.length:=by omega
   have d2:decide ((k:Int)< (a.length:Int))=true:=decide_eq_true (by omega)
   have ixa:=hra.idx true k hlt
   have ixb:=hrb.idx true k hltb
   have rda:=hra.has (show 0<a.length by omega)
   have rdb:=hrb.has (show 0<b.length by omega)
   have lda:=anC_ hra hlt
   have ldb:=anC_ hrb hltb
   have hnx:a.take (k+1)=b.take (k+1)↔a.getD k fi0=b.getD k fi0:=by
    rw[StP.take_snoc (z:=fi0) hlt,StP.take_snoc (z:=fi0) hltb,hk2]
    constructor
    ·intro h;simpa using h
    ·intro h;rw[h]
   have hgo:a=b→a.getD k fi0=b.getD k fi0:=fun h=>by rw[h]
   generalize a.getD k fi0=x at*
   generalize b.getD k fi0=y at*
   first|with_reducible refine ks [] (And.intro @wF_ (And.intro @ln1 (@d2))) ?_|refine kp (And.intro @wF_ (And.intro @ln1 (@d2))) ?_
   refine Cw.regionS [ra,rb] [0,1,2,4,5,6,3,7,8] [] (by kernel_rfl) (by kernel_rfl) (by kernel_rfl) ?_
   simp only[zj_, ↓zf_, ↓zc_, ↓zw_, ↓zv_,zd_]
   refine kq (And.intro @wF_ (And.intro @ixa (And.intro @ixb (And.intro @rda (And.intro @rdb (And.intro @lda (@ldb))))))) ?_
   cases hq: (x.dir==y.dir&&x.name==y.name&&x.data==y.data) with
   |true=>
    have e:x=y:=by
     simp only[Bool.and_eq_true,beq_iff_eq] at hq
     cases x;cases y;simp only at hq;obtain⟨⟨rfl,rfl⟩,rfl⟩:=hq;rfl
    first|with_reducible refine ks [] (And.intro @wF_ @hq) ?_|refine kp (And.intro @wF_ @hq) ?_
    exact Again.mk (k+1) (by omega) ⟨hlt,hnx.2 e⟩ rfl rfl
   |false=>
    first|with_reducible refine ks [] (And.intro @wF_ @hq) ?_|refine kp (And.intro @wF_ @hq) ?_
    refine⟨_,(ke @wF_),trivial, ?_⟩
    (rw[decide_eq_false (fun h=>by have e:=hgo h;rw[e] at hq;simp at hq)];rfl)
  ·obtain rfl:k=a.length:=by omega
   have d2:decide ((a.length:Int)< (a.length:Int))=false:=decide_eq_false (by omega)
   first|with_reducible refine ks [] (And.intro @wF_ (And.intro @ln1 (@d2))) ?_|refine kp (And.intro @wF_ (And.intro @ln1 (@d2))) ?_
   refine⟨_,(ke @wF_),trivial, ?_⟩
   (rw[List.take_length,hll,List.take_length] at hk2;rw[decide_eq_true hk2];rfl)
 ·have d1: ((a.length:Int) !=(b.length:Int))=true:=bne_iff_ne.2 (by omega)
  first|with_reducible refine ks [] (And.intro @wF_ (And.intro @ln1 (And.intro @ln2 (@d1)))) ?_|refine kp (And.intro @wF_ (And.intro @ln1 (And.intro @ln2 (@d1)))) ?_
  refine⟨_,(ke @wF_),trivial, ?_⟩
  (rw[decide_eq_false (fun h=>hll (by rw[h]))];rfl)
end Go.Proofs
end
section
open Go Go.Proofs Go.Sx Go.StP
namespace Go.Proofs
set_option maxRecDepth 10000
set_option maxHeartbeats 400000
set_option linter.unusedSimpArgs false
theorem afu_ {w:World} {L:ze_} (hg:QX_ w) (hn:New w.heap.size L):0∉keys L:=by
 obtain⟨e,fz,hgl⟩:=hg
 exact hn.not (Array.getElem?_eq_some_iff.1 hgl).1
theorem jy_ {w w':World} {L:ze_} (hg:QX_ w) (h:Hp w L w') (hn:New w.heap.size L):QX_ w':=by
 have hno:=afu_ hg hn
 obtain⟨e,fz,hgl⟩:=hg
 exact⟨e,fz,(h.old _ (Array.getElem?_eq_some_iff.1 hgl).1 hno).trans hgl⟩
set_option linter.defProp false
end Go.Proofs
end
section
open Go Go.Proofs Go.Sx Go.StP
namespace Go.Proofs
set_option maxRecDepth 10000
set_option maxHeartbeats 400000
set_option linter.unusedSimpArgs false
set_option linter.defProp false
end Go.Proofs
end
section
open Go Go.Proofs Go.Sx Go.StP Go.Flo
namespace Go.Proofs
set_option maxRecDepth 10000
set_option maxHeartbeats 1000000
set_option linter.unusedSimpArgs false
set_option linter.defProp false
end Go.Proofs
end
section
open Go Go.Proofs Go.Sx Go.StP Go.Flo
namespace Go.Proofs
set_option maxRecDepth 10000
set_option maxHeartbeats 1000000
set_option linter.unusedSimpArgs false
theorem ActOk.old {w w':World} {L:ze_} {a:ActL} (h:ActOk w a) (hw:Hp w L w') (hn:New w.heap.size L):ActOk w' a:=
 ⟨h.pk.old hw fun hl _b hb=>hn.not (h.pk.blk hl hb),h.n⟩
set_option linter.defProp false
end Go.Proofs
end
section
open Go Go.Proofs Go.Sx Go.StP Go.Flo
namespace Go.Proofs
set_option maxRecDepth 10000
set_option maxHeartbeats 1000000
set_option linter.unusedSimpArgs false
theorem alz_ {S S':DiskL} {kind:Int} {dir name s:List UInt8} {e:Nat} (h:StepD S kind dir name s S' e):S'.files.length≤S.files.length+1:=by
 obtain⟨-,hb2,-⟩:=jb_ S
 cases h with
 |same=>exact Nat.le_succ _
 |burn=>rw[hb2];exact Nat.le_succ _
 |create=>show((zl_ S).1.files++ [qO_]).length≤_;rw[hb2,List.length_append];exact Nat.le_refl _
 |append=>show((zl_ S).1.files.set _ _).length≤_;rw[List.length_set,hb2];exact Nat.le_succ _
 |sync=>show((zl_ S).1.files.set _ _).length≤_;rw[List.length_set,hb2];exact Nat.le_succ _
 |syncDir=>show(zl_ S).1.files.length≤_;rw[hb2];exact Nat.le_succ _
 |rename=>show(zl_ S).1.files.length≤_;rw[hb2];exact Nat.le_succ _
 |remove=>show(zl_ S).1.files.length≤_;rw[hb2];exact Nat.le_succ _
theorem ape_ (q:Int) (l:List FiL): (ofD q l).files.length≤l.length:=by
 have: ∀i,i≤l.length→(ofN l q i).files.length≤i∧ ∀k,((ofN l q i).dir k).seen.length≤i:=fun i=>by
  induction i with
  |zero=>exact fun _=>⟨Nat.le_refl _,fun _=>Nat.le_refl _⟩
  |succ i ih=>exact fun h=>by rw[afE_ l q (by omega)];exact Vq_ _ _ (ih (by omega))
 have h:=(this l.length (Nat.le_refl _)).1
 unfold ofN at h
 rw[List.take_length] at h
 exact h
theorem DkP.worldM {X L:ze_} {G:DkG} {S:DiskL} {w0 w:World} (h:DkP X G S) (hw:Hp w0 L w) (hm: ∀p,p∈X→p∈L):DkW w G S:=⟨X,fun b o hb=>hw.has b o (hm _ (zq_ hb)),h⟩
theorem DcP.worldM {X L:ze_} {G:DcG} {S:DiskL} {w0 w:World} (h:DcP X G S) (hw:Hp w0 L w) (hm: ∀p,p∈X→p∈L):DcW w G S:=⟨X,fun b o hb=>hw.has b o (hm _ (zq_ hb)),h⟩
theorem aer_ (X:ze_) (G:DcG) (S:DiskL) (n:Int) (w:World) (hX: ∀p,p∈X→w.heap[p.1]? =some p.2) (hnd: (keys X).Nodup) (hP:DcP X G S) (hn: -9223372036854775808≤n∧n<9223372036854775808):
  Rets Tryz.prog 10 #[vp G.bd 0,vi n] w (XS w X (fun v D=>v=kD_ []∧ ∃G',G'.bd=G.bd∧DcP D G' {S with fuse:=n,fused:=decide (0≤n)})):=by
 refine Rets.mono (Rets.chunk hX hnd (zg_ hP.disk) (acR_ G S n w hn (hX _ (zq_ hP.disk)))) ?_
 rintro v D ⟨hE,o,rfl,rfl,rfl⟩
 exact⟨hE,rfl,G,rfl,hP.setD {S with fuse:=n,fused:=decide (0≤n)} rfl rfl⟩
theorem q2_ {w0:World} {L X D:ze_} {b:Nat} (hC:Came w0 L X D) (hX:b∉keys X) (hL:b∈keys L):b∉keys D:=fun hm=>by
 rcases hC.new b hm with h| ⟨h,-⟩
 ·exact hX h
 ·have:=zx_ h hL;omega
set_option linter.defProp false
end Go.Proofs
end
section
open Go Go.Proofs Go.Sx Go.StP
namespace Go.Proofs
set_option maxRecDepth 10000
set_option maxHeartbeats 400000
set_option linter.unusedSimpArgs false
structure GoodS (S:DiskL):Prop where
 srt: ∀k,k<3→SrtN (S.dir k).seen
 lt:LtS S
 uniq:aq0_ S
theorem DkOk.good {S:DiskL} (ok:DkOk S) (hu:aq0_ S):GoodS S:=⟨ok.seen,ok.seenN,hu⟩
def jw_ (s:List UInt8):List UInt8:=s++ [46,116,109,112]
section
variable {S S':DiskL} {kind:Int} {dir name s:List UInt8} {e:Nat}
end
end Go.Proofs
end
section
open Go Go.Proofs Go.Sx Go.StP
namespace Go.Proofs
set_option maxRecDepth 10000
set_option maxHeartbeats 400000
set_option linter.unusedSimpArgs false
structure TkL where
 dir:List UInt8
 name:List UInt8
 data:List UInt8
 light:Bool
 next:Nat
 made:Bool
 ended:Bool
structure PhR where
 did:Bool
 e:Nat
 t:TkL
 S:DiskL
def aft_ (t:TkL) (S:DiskL):PhR:=if(km_ S t.dir (jw_ t.name)).2≠0 then⟨false,0,t,S⟩ else⟨true,(zR_ S t.dir (jw_ t.name)).2,t,(zR_ S t.dir (jw_ t.name)).1⟩
def ada_ (t:TkL) (S:DiskL):PhR:=⟨true,(j3_ S t.dir (jw_ t.name)).2,{t with made:=(j3_ S t.dir (jw_ t.name)).2==0},(j3_ S t.dir (jw_ t.name)).1⟩
def aee_ (t:TkL) (S:DiskL):PhR:=⟨true,(xH_ S t.dir (jw_ t.name) t.data).2,t,(xH_ S t.dir (jw_ t.name) t.data).1⟩
def amJ_ (t:TkL) (S:DiskL):PhR:=if t.light=true then⟨false,0,t,S⟩ else⟨true,(Xo_ S t.dir (jw_ t.name)).2,t,(Xo_ S t.dir (jw_ t.name)).1⟩
def ac9_ (t:TkL) (S:DiskL):PhR:=⟨true,(j7_ S t.dir (jw_ t.name) t.name).2,{t with made:=t.made&& (j7_ S t.dir (jw_ t.name) t.name).2 !=0},(j7_ S t.dir (jw_ t.name) t.name).1⟩
def Wt_ (t:TkL) (S:DiskL):PhR:=if t.light=true then⟨false,0,t,S⟩ else⟨true,(zS_ S t.dir).2,t,(zS_ S t.dir).1⟩
def phT (k:Nat) (t:TkL) (S:DiskL):PhR:=match k with
 |0=>aft_ t S
 |1=>ada_ t S
 |2=>aee_ t S
 |3=>amJ_ t S
 |4=>ac9_ t S
 |_=>Wt_ t S
structure StR where
 done:Bool
 e:Nat
 t:TkL
 S:DiskL
def nxT (r:PhR):TkL:={r.t with next:=r.t.next+1}
def KG_ (t:TkL):Bool:=t.next==6|| (t.light&&t.next==5)
def xg_ (r:PhR):StR:=if(nxT r).made=true∧r.e≠9 then⟨false,r.e,{nxT r with ended:=true},(zR_ r.S r.t.dir (jw_ r.t.name)).1⟩ else⟨false,r.e,{nxT r with ended:=true},r.S⟩
def xS_ (r:PhR):TkL:={nxT r with ended:=KG_ (nxT r)}
def qX_:Nat→TkL→DiskL→StR
 |0,t,S=>⟨false,0,t,S⟩
 |f+1,t,S=>
  if(phT t.next t S).e≠0 then xg_ (phT t.next t S)
  else if(phT t.next t S).did=false∧KG_ (nxT (phT t.next t S))=false then qX_ f (xS_ (phT t.next t S)) (phT t.next t S).S
  else⟨KG_ (nxT (phT t.next t S)),0,xS_ (phT t.next t S),(phT t.next t S).S⟩
def jI_ (t:TkL) (S:DiskL):StR:=if t.ended=true then⟨false,15,t,S⟩ else qX_ (6 - t.next) t S
def runG:Nat→TkL→DiskL→Nat×TkL×DiskL
 |0,t,S=>(0,t,S)
 |f+1,t,S=>if(jI_ t S).done=true∨(jI_ t S).e≠0 then((jI_ t S).e,(jI_ t S).t,(jI_ t S).S) else runG f (jI_ t S).t (jI_ t S).S
def phG:Nat→TkL→DiskL→Nat×DiskL
 |0,_,S=>(0,S)
 |f+1,t,S=>
  if(phT t.next t S).e≠0 then((xg_ (phT t.next t S)).e,(xg_ (phT t.next t S)).S)
  else if KG_ (nxT (phT t.next t S))=true then(0,(phT t.next t S).S)
  else phG f (xS_ (phT t.next t S)) (phT t.next t S).S
theorem arK_ (f:Nat) (t:TkL) (S:DiskL):phG (f+1) t S=(if(phT t.next t S).e≠0 then((xg_ (phT t.next t S)).e,(xg_ (phT t.next t S)).S)
  else if KG_ (nxT (phT t.next t S))=true then(0,(phT t.next t S).S)
  else phG f (xS_ (phT t.next t S)) (phT t.next t S).S):=rfl
theorem al1_ (k:Nat) (t:TkL) (S:DiskL): (phT k t S).t.dir=t.dir∧(phT k t S).t.name=t.name∧(phT k t S).t.data=t.data∧(phT k t S).t.light=t.light∧(phT k t S).t.next=t.next∧(phT k t S).t.ended=t.ended:=by
 unfold phT
 split
 ·unfold aft_;split<;>exact⟨rfl,rfl,rfl,rfl,rfl,rfl⟩
 ·exact⟨rfl,rfl,rfl,rfl,rfl,rfl⟩
 ·exact⟨rfl,rfl,rfl,rfl,rfl,rfl⟩
 ·unfold amJ_;split<;>exact⟨rfl,rfl,rfl,rfl,rfl,rfl⟩
 ·exact⟨rfl,rfl,rfl,rfl,rfl,rfl⟩
 ·unfold Wt_;split<;>exact⟨rfl,rfl,rfl,rfl,rfl,rfl⟩
theorem aih_ (k:Nat) (t:TkL) (S:DiskL): (xS_ (phT k t S)).dir=t.dir∧(xS_ (phT k t S)).name=t.name∧(xS_ (phT k t S)).data=t.data∧(xS_ (phT k t S)).light=t.light∧(xS_ (phT k t S)).next=t.next+1:=by
 obtain⟨h1,h2,h3,h4,h5,-⟩:=al1_ k t S
 exact⟨h1,h2,h3,h4,congrArg (· +1) h5⟩
theorem alv_ (r:PhR): (xg_ r).e=r.e∧(xg_ r).done=false:=by
 unfold xg_
 split<;>exact⟨rfl,rfl⟩
theorem adJ_: ∀ (f:Nat) (t:TkL) (S:DiskL),f+t.next=6→0<f→
  ((qX_ f t S).e≠0∧phG f t S=((qX_ f t S).e,(qX_ f t S).S))∨
  ((qX_ f t S).e=0∧(qX_ f t S).done=true∧phG f t S=(0,(qX_ f t S).S))∨
  ((qX_ f t S).e=0∧(qX_ f t S).done=false∧(qX_ f t S).t.ended=false∧t.next< (qX_ f t S).t.next∧(qX_ f t S).t.next<6∧phG f t S=phG (6 - (qX_ f t S).t.next) (qX_ f t S).t (qX_ f t S).S)
 |0,_,_,_,h=>absurd h (Nat.lt_irrefl 0)
 |f+1,t,S,hf,_=>by
  obtain⟨-,-,-,-,hn,-⟩:=al1_ t.next t S
  have hfn: (xS_ (phT t.next t S)).next=t.next+1:=(aih_ t.next t S).2.2.2.2
  have hfe: (xS_ (phT t.next t S)).ended=KG_ (nxT (phT t.next t S)):=rfl
  unfold qX_
  rw[arK_]
  by_cases he: (phT t.next t S).e≠0
  ·rw[if_pos he,if_pos he]
   exact .inl ⟨by rw[(alv_ _).1];exact he,rfl⟩
  ·rw[if_neg he,if_neg he]
   cases hen:KG_ (nxT (phT t.next t S)) with
   |true=>
    rw[if_neg (fun h=>by cases h.2),if_pos rfl]
    exact .inr (.inl ⟨rfl,rfl,rfl⟩)
   |false=>
    have hlt:t.next+1<6:=by
     have h1: (nxT (phT t.next t S)).next=t.next+1:=congrArg (· +1) hn
     unfold KG_ at hen
     rw[h1] at hen
     simp only[Bool.or_eq_false_iff,beq_eq_false_iff_ne] at hen
     have:=hen.1
     omega
    rw[if_neg (show¬ (false=true) by simp)]
    by_cases hd: (phT t.next t S).did=false
    ·rw[if_pos ⟨hd,rfl⟩]
     have ih:=adJ_ f (xS_ (phT t.next t S)) (phT t.next t S).S (by rw[hfn];omega) (by omega)
     rw[hfn] at ih
     rcases ih with h|h| ⟨h1,h2,h3,h4,h5⟩
     ·exact .inl h
     ·exact .inr (.inl h)
     ·exact .inr (.inr ⟨h1,h2,h3,by omega,h5⟩)
    ·rw[if_neg fun h=>hd h.1]
     refine .inr (.inr ⟨rfl,rfl,hfe.trans hen,by show t.next< (xS_ (phT t.next t S)).next;rw[hfn];omega,by show(xS_ (phT t.next t S)).next<6;rw[hfn];exact hlt, ?_⟩)
     show phG f _ _=phG (6 - (xS_ (phT t.next t S)).next) _ _
     rw[hfn,show 6 - (t.next+1)=f by omega]
theorem anN_: ∀ (n f:Nat) (t:TkL) (S:DiskL),6 - t.next≤n→t.next<6→t.ended=false→6 - t.next≤f→((runG f t S).1,(runG f t S).2.2)=phG (6 - t.next) t S
 |0,_,_,_,hn,hl,_,_=>by omega
 |n+1,0,_,_,_,hl,_,hf=>by omega
 |n+1,f+1,t,S,hn,hl,he,hf=>by
  have hs:jI_ t S=qX_ (6 - t.next) t S:=by unfold jI_;rw[if_neg (by rw[he];simp)]
  unfold runG
  rw[hs]
  rcases adJ_ (6 - t.next) t S (by omega) (by omega) with⟨h1,h2⟩ | ⟨h1,h2,h3⟩ | ⟨h1,h2,h3,h4,h5,h6⟩
  ·rw[if_pos (.inr h1),h2]
  ·rw[if_pos (.inl h2),h3,h1]
  ·rw[if_neg (by rw[h1,h2];simp),h6]
   exact anN_ n f _ _ (by omega) h5 h3 (by omega)
def tk0 (dir name data:List UInt8) (light:Bool):TkL:=⟨dir,name,data,light,0,false,false⟩
def pubV (S:DiskL) (dir name data:List UInt8) (light:Bool):Nat×DiskL:=phG 6 (tk0 dir name data light) S
theorem ajT_ (S:DiskL) (dir name data:List UInt8) (light:Bool): ((runG 6 (tk0 dir name data light) S).1,(runG 6 (tk0 dir name data light) S).2.2)=pubV S dir name data light:=anN_ 6 6 (tk0 dir name data light) S (Nat.le_refl 6) (Nat.succ_pos 5) rfl (Nat.le_refl 6)
end Go.Proofs
end
section
open Go Go.Proofs Go.Sx Go.StP
namespace Go.Proofs
set_option maxRecDepth 10000
set_option maxHeartbeats 400000
set_option linter.unusedSimpArgs false
section
variable {S:DiskL} {dir x:List UInt8} {k:Nat}
end
end Go.Proofs
end
section
open Go Go.Proofs Go.Sx Go.StP
namespace Go.Proofs
set_option maxRecDepth 10000
set_option maxHeartbeats 400000
set_option linter.unusedSimpArgs false
def tkN (dir nm data:List UInt8) (light:Bool) (n:Nat) (made:Bool):TkL:=⟨dir,nm,data,light,n,made,false⟩
end Go.Proofs
end
section
open Go Go.Proofs Go.Sx Go.StP
namespace Go.Proofs
set_option maxRecDepth 10000
set_option maxHeartbeats 400000
set_option linter.unusedSimpArgs false
theorem aen_ {S:DiskL} (ok:DkOk S) {k:Nat} (hk:k<3) {c:CallL} (hok:okC (S.dir k).seen c) (hc:c.kind=0→c.n<S.files.length):DkOk (w2_ S k c):=
 kJ_ ok _ (Wg_ c (ok.seen k hk)) (ok.stl k hk) (Jc_ (ok.seenN k hk) hok hc) (ok.stlN k hk) (fun d hd=>by
  rcases List.mem_append.1 hd with hd|hd
  ·exact ok.pendN k hk d hd
  ·rw[List.mem_singleton.1 hd];exact hc)
theorem apz_ {S S':DiskL} {kind:Int} {dir name s:List UInt8} {e:Nat} (ok:DkOk S) (h:StepD S kind dir name s S' e):DkOk S':=by
 obtain⟨hb1,hb2,-⟩:=jb_ S
 have okb:=xT_ ok
 cases h with
 |same=>exact ok
 |burn=>exact okb
 |create k hk hf hn hb=>
  refine aen_ (afg_ okb ⟨Nat.zero_le _,Nat.le_refl _⟩) (z3_ hk).1 (fun e=>by cases e) fun _=> ?_
  show S.files.length< ((zl_ S).1.files++ [qO_]).length
  rw[hb2,List.length_append];exact Nat.lt_succ_self _
 |append k m hk hm hf hb=>
  have hml:=ok.seenN k (z3_ hk).1 _ (q1_ hm)
  obtain⟨h1,h2⟩:=vb_ ok (n:=m) hml
  refine ws_ okb ⟨?_, ?_⟩
  ·rw[List.length_append]
   unfold vu_ at hf
   simp only[Bool.or_eq_false_iff,decide_eq_false_iff_not] at hf
   have:=hf.1.1
   show(zz_ S m).data.length+s.length≤1048576
   omega
  ·rw[List.length_append]
   show(zz_ S m).stl≤ (zz_ S m).data.length+s.length
   omega
 |sync k m hk hm hb=>
  have hml:=ok.seenN k (z3_ hk).1 _ (q1_ hm)
  obtain⟨h1,h2⟩:=vb_ ok (n:=m) hml
  exact ws_ okb ⟨h1,Nat.le_refl _⟩
 |syncDir k hk hb=>
  have hk3:=(z3_ hk).1
  exact kJ_ okb _ (okb.seen k hk3) (okb.seen k hk3) (okb.seenN k hk3) (okb.seenN k hk3) fun c hc=>by cases hc
 |rename k m h4 hk hm hf hne hb=>
  exact aen_ okb (z3_ hk).1 (by rw[hb1];exact akh_ hm hne) fun e=>by cases e
 |remove k m hk hm hb=>exact aen_ okb (z3_ hk).1 (fun e=>by cases e) fun e=>by cases e
structure DsA (S:DiskL) (N:Nat):Prop where
 ok:DkOk S
 B:DkN N S
 fl:S.files.length≤N
theorem DsA.step {S S':DiskL} {N:Nat} {kind:Int} {dir name s:List UInt8} {e:Nat} (h:DsA S N) (hst:StepD S kind dir name s S' e) (hn:name.length≤1000000) (hs:s.length≤1000000):DsA S' (N+1):=
 ⟨apz_ h.ok hst,aeN_ h.B hn hs hst,Nat.le_trans (alz_ hst) (Nat.succ_le_succ h.fl)⟩
theorem DsA.mono {S:DiskL} {N M:Nat} (h:DsA S N) (hm:N≤M):DsA S M:=⟨h.ok,h.B.mono hm,Nat.le_trans h.fl hm⟩
theorem DsA.do {S:DiskL} {N:Nat} (h:DsA S N) (_hN:N<900000) (kind:Int) (dir name s:List UInt8) (hn:name.length≤1000000) (hs:s.length≤1000000):DsA (doV S kind dir name s).1 (N+1):=h.step (apm_ S kind dir name s) hn hs
theorem kZ_ (X:ze_) (G:DcG) (S:DiskL) (N:Nat) (kind:Int) (dir name s:List UInt8) (w:World) (hX: ∀p,p∈X→w.heap[p.1]? =some p.2) (hn: (keys X).Nodup) (hP:DcP X G S) (hA:DsA S N) (hN:N<900000) (hK:0≤kind∧kind<6) (hnm:name.length≤1000000) (hsl:s.length≤1000000):
  Rets Tryz.prog 36 #[vp G.bd 0,vi kind,vs dir,vs name,vs s] w (XS w X (DoS G (doV S kind dir name s))):=
 alV_ X G S kind dir name s w hX hn hP hA.ok (hA.B.b (by omega)) hK (by omega) (by omega) (fun k _=>by have:=(hA.B k).stl;omega) (by have:=hA.fl;omega) (by have:=afM_ hA.ok hA.B;omega)
def zJ_ (light:Bool):List Nat:=if light=true then [1,2,3,5] else [1,2,3,4,5,6]
def kK_ (s:Nat) (dir nm data:List UInt8) (S:DiskL):DiskL×Nat:=
 if s=1 then zR_ S dir (jw_ nm) else if s=2 then j3_ S dir (jw_ nm) else if s=3 then xH_ S dir (jw_ nm) data else if s=4 then Xo_ S dir (jw_ nm) else if s=5 then j7_ S dir (jw_ nm) nm else zS_ S dir
def w3_ (s:Nat) (made:Bool) (e:Nat):Bool:=if s=2 then e==0 else if s=5 then made&&e !=0 else made
structure DsR where
 done:Bool
 e:Nat
 k:Nat
 made:Bool
 S:DiskL
def atK (k:Nat) (dir nm:List UInt8) (S:DiskL):Nat:=if k=0∧(km_ S dir (jw_ nm)).2≠0 then 1 else k
def vz_ (light:Bool) (k:Nat) (made:Bool) (dir nm data:List UInt8) (S:DiskL):DsR:=
 let k1:=atK k dir nm S
 let s:=(zJ_ light).getD k1 0
 let r:=kK_ s dir nm data S
 let m:=w3_ s made r.2
 if r.2≠0 then⟨false,r.2,k1+1,m,if m=true∧r.2≠9 then(zR_ r.1 dir (jw_ nm)).1 else r.1⟩ else⟨k1+1==(zJ_ light).length,0,k1+1,m,r.1⟩
section
variable {dir nm data:List UInt8}
end
end Go.Proofs
end
namespace Go.Sx
open Go
theorem Ext.perm {w:World} {X D D':ze_} (h:Ext w X D) (hp:D'.Perm D):Ext w X D':=
 ⟨fun c hc=>h.new c ((hp.map Prod.fst).mem_iff.1 hc),fun c hc=>(hp.map Prod.fst).mem_iff.2 (h.all c hc)⟩
section
variable {P:Program} {w0:World} {f:Fr} {L:ze_} {N:Fr→ze_→Prop} {ops:Array Oper} {rest:List Oper} {md:Md} {d:Option Tmp} {ty:TypeId} {ps:String} {af:Array Edge} {g:Option (Nat×Bool)}
theorem Ow.callFnX2 {x y y2:Operand} {b b2:Value} {ts:Array TypeId} {k:FuncId} {X Y:ze_} {S:Value→ze_→Prop} {md':Md} (hL:L=X++Y) (he:md.turn=some md')
  (hs:zs_ ops f ⟨d, .call ⟨.value x, #[y,y2],ts⟩,ty,ps,af,g⟩=false)
  (hx:ev f x= .func (.func k) #[] #[]) (hy:ev f y=b) (hy2:ev f y2=b2)
  (hk: ∀a w,(callFunc k a).run P w= .ok (.enter k a) w)
  (hc: ∀w,Hp w0 L w→(∀p,p∈X→w.heap[p.1]? =some p.2)→(keys X).Nodup→Rets P k #[b,b2] w (XS w X S))
  (hn: ∀v D,Came w0 L X D→S v D→Ow P w0 ops md' rest (qA_ f d v) (D++Y) N):
  Ow P w0 ops md (⟨d, .call ⟨.value x, #[y,y2],ts⟩,ty,ps,af,g⟩::rest) f L N:=by
 subst hL
 have hnd: ∀w,Hp w0 (X++Y) w→(keys X).Nodup∧ ∀c,c∈keys Y→c∉keys X:=by
  intro w hw
  have:=hw.nodup
  rw[zo_,List.nodup_append] at this
  exact⟨this.1,fun c hc hx=>this.2.2 c hx c hc rfl⟩
 refine Ow.call (S:=fun B v D=>((∀c,c∈keys D→c∈keys X∨B≤c)∧(∀c,c∈keys X→c∈keys D)∧S v D)∧ ∃w,Hp w0 (X++Y) w∧w.heap.size=B) he hs hx hk (fun w hw=> ?_) ?_
 ·show Rets P k (#[]++ #[y,y2].map (ev f)++ #[]) w _
  rw[show(#[]++ #[y,y2].map (ev f)++ #[]:Array Value)= #[b,b2] by simp[hy,hy2]]
  refine Calls.mono (hc w hw (fun p hp=>hw.has _ _ (List.mem_append_left _ hp)) (hnd w hw).1) ?_
  rintro e w' ⟨v,D,he,hp,hS⟩
  exact⟨v,D,he,hp,⟨hS.1.new,hS.1.all,hS.2⟩,w,hw,rfl⟩
 ·rintro B v D hab hB ⟨⟨h1,h2,h3⟩,w1,hw1,hwB⟩
  refine⟨D++Y, ?_,hn v D ⟨fun c hc=>(h1 c hc).imp id fun h=>⟨z2_ fun b hb=>by have:=hw1.lt hb;omega,by have:=hw1.size;omega⟩,h2⟩ h3⟩
  intro w w' hwb h k
  have ht:=h.trans k
  have hY: ∀c,c∈keys Y→c∉keys D:=by
   intro c hc hd
   rcases h1 c hd with hx|hx
   ·exact(hnd w h).2 c hc hx
   ·have:=h.lt (b:=c) (by rw[zo_];exact List.mem_append_right _ hc)
    omega
  have e1:X.filter (fun p=> !(keys D).contains p.1)= []:=by
   rw[List.filter_eq_nil_iff]
   intro p hp
   have:=h2 p.1 (List.mem_map.2 ⟨p,hp,rfl⟩)
   simpa using this
  have e2:Y.filter (fun p=> !(keys D).contains p.1)=Y:=jg_ hY
  rw[List.filter_append,e1,e2,List.nil_append] at ht
  refine ht.same (fun p=>by simp[or_comm]) ?_
  have:=ht.nodup
  rw[zo_] at this ⊢
  exact(List.perm_append_comm.nodup_iff).1 this
end
end Go.Sx
section
open Go Go.Proofs Go.Sx Go.StP
namespace Go.Proofs
set_option maxRecDepth 10000
set_option maxHeartbeats 1000000
set_option linter.unusedSimpArgs false
def dtO (dir nm data:List UInt8) (v:Value) (made:Bool):Obj:= .cells #[vs dir,vs nm,vs data,v, .bool made] 39 (0,0)
def spO (light:Bool):Obj:= .cells ((zJ_ light).map fun n:Nat=>vi (n:Int)).toArray 3 (0,0)
def spV (light:Bool) (k bs:Nat):Value:=vsl bs (if(zJ_ light).length≤k then(zJ_ light).length - 1 else k) ((zJ_ light).length - k) ((zJ_ light).length - k)
section
variable {dir nm data:List UInt8} {v:Value} {made:Bool}
theorem VN_ (n:Nat):zk_ (some (false,n)) (some (dtO dir nm data v made)) 0=some (vs dir):=(rfl)
theorem VB_ (n:Nat):zk_ (some (false,n)) (some (dtO dir nm data v made)) 1=some (vs nm):=(rfl)
theorem WN_ (n:Nat):zk_ (some (false,n)) (some (dtO dir nm data v made)) 2=some (vs data):=(rfl)
theorem Jo_ (n:Nat):zk_ (some (false,n)) (some (dtO dir nm data v made)) 3=some v:=(rfl)
theorem VA_ (n:Nat):zk_ (some (false,n)) (some (dtO dir nm data v made)) 4=some (.bool made):=(rfl)
theorem vD_ (a:Bool) {q:Value} (hq:Value.oneCell' q=true∧q.cells= #[q]):zu_ (some (a,1)) (some (dtO dir nm data v made)) 3 q=some (dtO dir nm data q made):=zt_ [vs dir,vs nm,vs data] [v] [q] [.bool made] a _ 39 rfl rfl hq.2 rfl (by simp[hq.1])
theorem Zl_ (a b:Bool):zu_ (some (a,1)) (some (dtO dir nm data v made)) 4 (.bool b)=some (dtO dir nm data v b):=zt_ [vs dir,vs nm,vs data,v] [.bool made] [.bool b] [] a _ 39 rfl rfl rfl rfl rfl
end
theorem afN_ (light:Bool) (k bs:Nat) (m:Bool×Nat):Zz_ (.sl m) (spV light k bs)=some (vi (((zJ_ light).length - k:Nat):Int)):=(rfl)
theorem anI_ {light:Bool} {k:Nat} (bs:Nat) (hk:k< (zJ_ light).length) (a:Bool):zN_ (.sl (a,1)) (spV light k bs) (some 0)=some (vp bs k):=by
 have h:=qk_ (a,1) bs k ((zJ_ light).length - k) ((zJ_ light).length - k) 0 (by omega)
 unfold spV
 rw[if_neg (by omega)]
 simpa using h
theorem kL_ (light:Bool): (zJ_ light).length≤6:=by cases light<;>decide
theorem aiK_ {light:Bool} {k:Nat} (hk:k< (zJ_ light).length) (n:Nat):zk_ (some (false,n)) (some (spO light)) k=some (vi (((zJ_ light).getD k 0:Nat):Int)):=by
 have h6:=kL_ light
 have hk6:k=0∨k=1∨k=2∨k=3∨k=4∨k=5:=by omega
 cases light with
 |true=>rcases hk6 with rfl|rfl|rfl|rfl|rfl|rfl<;>first|rfl|exact absurd hk (by decide)
 |false=>rcases hk6 with rfl|rfl|rfl|rfl|rfl|rfl<;>rfl
theorem aeU_ {light:Bool} {k:Nat} (bs:Nat) (hk:k< (zJ_ light).length) (a:Bool):qY_ (.sl (a,1)) (spV light k bs) (some (some 1)) none=some (spV light (k+1) bs):=by
 have hb: (0:Int)≤ ((1:Nat):Int)∧((1:Nat):Int)≤ (((zJ_ light).length - k:Nat):Int):=⟨by omega,by omega⟩
 unfold spV
 rw[if_neg (by omega)]
 show qY_ (.sl (a,1)) (vsl bs k ((zJ_ light).length - k) ((zJ_ light).length - k)) (some (some ((1:Nat):Int))) none=_
 unfold qY_ vsl
 simp only[akc_ _ _ _ hb,Int.toNat_natCast]
 by_cases h: (zJ_ light).length - k=1
 ·rw[if_pos h,if_pos (by omega)]
  simp only[h,Nat.sub_self]
  rw[show(zJ_ light).length - 1=k by omega,show(zJ_ light).length - (k+1)=0 by omega]<;>rfl
 ·rw[if_neg h,if_neg (by omega)]
  simp only[jc_,Option.map_some]
  rw[show(zJ_ light).length - (k+1)=(zJ_ light).length - k - 1 by omega]<;>rfl
theorem aaX_ {light:Bool} {k:Nat} (hk:k< (zJ_ light).length): ((((zJ_ light).getD k 0:Nat):Int)==1)=decide (k=0):=by
 have h6:=kL_ light
 have hk6:k=0∨k=1∨k=2∨k=3∨k=4∨k=5:=by omega
 cases light with
 |true=>rcases hk6 with rfl|rfl|rfl|rfl|rfl|rfl<;>first|rfl|exact absurd hk (by decide)
 |false=>rcases hk6 with rfl|rfl|rfl|rfl|rfl|rfl<;>rfl
theorem aep_ (light:Bool) (k bs:Nat):Value.oneCell' (spV light k bs)=true∧(spV light k bs).cells= #[spV light k bs]:=⟨rfl,rfl⟩
theorem afa_ (dir nm data:List UInt8) (bs n c:Nat):qM_ (xX_ Tryz.prog 39) (zK_ Tryz.prog 39) [(0,vs dir),(1,vs nm),(2,vs data),(3,vsl bs 0 n c)]=some (.agg #[vs dir,vs nm,vs data,vsl bs 0 n c, .bool false]):=by
 rw[show xX_ Tryz.prog 39=some [(0,1),(1,1),(2,1),(3,1),(4,1)] from id (by kernel_rfl),Tryz.zr39]
 rfl
set_option linter.defProp false
def ac7_:=And.intro (And.intro (And.intro (@zn_) (@zm_)) (And.intro (@Sx.tup2_0) (And.intro (@Sx.tup2_1) (@VN_)))) (And.intro (And.intro (@VB_) (@WN_)) (And.intro (@Jo_) (And.intro (@VA_) (@Zl_))))
theorem af8_ (C:DcG) (S:DiskL) (N bt:Nat) (dir nm data:List UInt8) (v:Value) (made:Bool) (w:World) (hC:DcW w C S) (hA:DsA S N) (hN:N<900000) (hb:w.heap[bt]? =some (dtO dir nm data v made)) (hnm:nm.length≤900000):
  Rets Tryz.prog 35 #[vp C.bd 0,vp bt 0] w (fun r D=>r= .bool ((km_ S dir (jw_ nm)).2==0)∧D= []):=by
 have htl: (jw_ nm).length≤900004:=by unfold jw_;rw[List.length_append];simp;omega
 have hi: ∀e:Nat,((e:Int)==0)=(e==0):=fun e=>by cases e<;>rfl
 refine Rets.enterV Tryz.func35 rfl (rs:= [.tmp 4]) Tryz.results35 Tryz.ntmps35 ?_
 refine kf ?_
 first|with_reducible refine ks [1] @ac7_ ?_|refine kp @ac7_ ?_
 refine Cw.regionS [bt] [0,1,2,3,5,6,7,4,8,9,10,11,12,13,14,15] [] (by kernel_rfl) (by kernel_rfl) (by kernel_rfl) ?_
 simp only[zj_, ↓zf_, ↓zc_, ↓zw_, ↓zv_,zd_]
 refine kq (And.intro @ac7_ @hb) ?_
 refine Ow.soft rfl rfl rfl ?_
 refine Ow.callFV rfl Tryz.call66 (fun w' hw'=>ag7_ w' C S dir (jw_ nm) (hC.old hw' trivial) hA.ok (hA.B.b (by omega)) (by omega)) ?_
 with_reducible refine Ow.nil ?_
 refine⟨by intro b hb;simp only[List.mem_cons,List.not_mem_nil,or_false] at hb;(try subst hb);rfl, ?_⟩
 refine kq @ac7_ ?_
 have hie:=hi (km_ S dir (jw_ nm)).2
 first|with_reducible refine ks [] (And.intro @ac7_ @hie) ?_|refine kp (And.intro @ac7_ @hie) ?_
 refine⟨_,(ke @ac7_),trivial, ?_⟩
 rfl
end Go.Proofs
end
section
open Go Go.Proofs Go.Sx Go.StP
namespace Go.Proofs
set_option maxRecDepth 10000
set_option maxHeartbeats 1000000
set_option linter.unusedSimpArgs false
theorem ajr_ {light:Bool} {k:Nat} (hk:k< (zJ_ light).length):1≤ (zJ_ light).getD k 0∧(zJ_ light).getD k 0≤6:=by
 have h6:=kL_ light
 have hk6:k=0∨k=1∨k=2∨k=3∨k=4∨k=5:=by omega
 cases light with
 |true=>rcases hk6 with rfl|rfl|rfl|rfl|rfl|rfl<;>first|decide|exact absurd hk (by decide)
 |false=>rcases hk6 with rfl|rfl|rfl|rfl|rfl|rfl<;>decide
def StC (C:DcG) (bt bs:Nat) (light:Bool) (dir nm data:List UInt8) (N:Nat) (R:DsR) (v:Value) (D:ze_):Prop:=
 v= .tuple #[.bool R.done,vi (R.e:Nat)]∧ ∃X' C' q,(X'++ [(bt,dtO dir nm data q R.made),(bs,spO light)]).Perm D∧C'.bd=C.bd∧DcP X' C' R.S∧DsA R.S N∧((R.e=0→q=spV light R.k bs)∧(R.e≠0→q= .slice none 0 0))
theorem aqH_ {X:ze_} {bt bs:Nat} {O1 O2:Obj} (h1:bt∉keys X) (h2:bs∉keys X) (h3:bt≠bs) (w:World):zy_ w (X++ [(bt,O1),(bs,O2)]) bt=some O1∧zy_ w (X++ [(bt,O1),(bs,O2)]) bs=some O2:=
 ⟨za_ (by rw[zM_ h1];simp[Sx.look]),za_ (by rw[zM_ h2];simp[Sx.look,h3])⟩
theorem afB_ {X:ze_} {bt bs:Nat} {O1 O2:Obj} (h1:bt∉keys X):Sx.look (X++ [(bt,O1),(bs,O2)]) bt=some O1:=by
 rw[zM_ h1];simp[Sx.look]
theorem anH_ {X:ze_} {bt bs:Nat} {O O1 O2:Obj} (h1:bt∉keys X):setB (X++ [(bt,O1),(bs,O2)]) bt O=X++ [(bt,O),(bs,O2)]:=by
 induction X with
 |nil=>simp[setB]
 |cons p X ih=>
  obtain⟨c,o⟩:=p
  simp only[keys,List.map_cons,List.mem_cons,not_or] at h1
  rw[List.cons_append,setB,if_neg (fun h=>h1.1 h.symm),ih h1.2,List.cons_append]
section
variable {S:DiskL} {dir nm data:List UInt8}
theorem aoP_:doV S 5 dir (jw_ nm) []=kK_ 1 dir nm data S:=(rfl)
theorem anU_:doV S 0 dir (jw_ nm) []=kK_ 2 dir nm data S:=(rfl)
theorem an7_:doV S 1 dir (jw_ nm) data=kK_ 3 dir nm data S:=(rfl)
theorem aor_:doV S 2 dir (jw_ nm) []=kK_ 4 dir nm data S:=(rfl)
theorem aoD_:doV S 4 dir (jw_ nm) nm=kK_ 5 dir nm data S:=(rfl)
theorem aoS_:doV S 3 dir [] []=kK_ 6 dir nm data S:=(rfl)
theorem anr_ {made:Bool} {e:Nat}:w3_ 5 made e=(made&&e !=0):=(rfl)
end
structure SbG where
 C:DcG
 X:ze_
set_option linter.defProp false
def zP_:=And.intro (And.intro (And.intro (@zn_) (@zm_)) (And.intro (@Sx.tup2_0) (And.intro (@Sx.tup2_1) (@VN_)))) (And.intro (And.intro (@VB_) (And.intro (@WN_) (@Jo_))) (And.intro (@VA_) (And.intro (@Zl_) (@afN_))))
theorem abM_ (X:ze_) (C:DcG) (S:DiskL) (N bt bs k:Nat) (light made:Bool) (dir nm data:List UInt8) (w:World) (hX: ∀p,p∈X++ [(bt,dtO dir nm data (spV light k bs) made),(bs,spO light)]→w.heap[p.1]? =some p.2) (hn: (keys (X++ [(bt,dtO dir nm data (spV light k bs) made),(bs,spO light)])).Nodup) (hP:DcP X C S) (hA:DsA S N) (hN:N<800000) (hk:k< (zJ_ light).length) (hk1:k=0→1< (zJ_ light).length) (hnm:nm.length≤900000) (hdt:data.length≤1000000):
  Rets Tryz.prog 16 #[vp bt 0,vp C.bd 0] w (XS w (X++ [(bt,dtO dir nm data (spV light k bs) made),(bs,spO light)]) (StC C bt bs light dir nm data (N+2) (vz_ light k made dir nm data S))):=by
 obtain⟨R,hR⟩: ∃R,vz_ light k made dir nm data S=R:=⟨_,rfl⟩
 rw[hR]
 refine Rets.enterX Tryz.func16 rfl (rs:= [.tmp 4, .tmp 5]) Tryz.results16 Tryz.ntmps16 hX hn ?_
 refine kf ?_
 have hE0:Ext w (X++ [(bt,dtO dir nm data (spV light k bs) made),(bs,spO light)]) ((bt,dtO dir nm data (spV light k bs) made):: (bs,spO light)::X):=(Ext.refl w (X++ [(bt,dtO dir nm data (spV light k bs) made),(bs,spO light)])).perm (by classical exact List.perm_iff_count.2 fun a=>by simp only[List.count_append,List.count_cons,List.count_nil]<;>omega)
 have hnd: (keys X).Nodup∧bt∉keys X∧bs∉keys X∧bt≠bs:=by
  have h:=hn
  rw[zo_] at h
  obtain⟨h1,h2,h3⟩:=List.nodup_append.1 h
  simp only[keys,List.map_cons,List.map_nil,List.mem_cons,List.not_mem_nil,or_false] at h2 h3
  refine⟨h1,fun hm=>h3 _ hm bt (.inl rfl) rfl,fun hm=>h3 _ hm bs (.inr rfl) rfl, ?_⟩
  simpa using h2
 obtain⟨hnx,hbt,hbs,hne⟩:=hnd
 have hl0: ((((zJ_ light).length - k:Nat):Int)==0)=false:=by rw[beq_eq_false_iff_ne];omega
 refine Cw.permL (M:=(bt,dtO dir nm data (spV light k bs) made):: (bs,spO light)::X) (by classical exact List.perm_iff_count.2 fun a=>by simp only[List.count_append,List.count_cons,List.count_nil]<;>omega) ?_
 have rds: ∀o w,zy_ w ((bt,o):: (bs,spO light)::X) bs=some (spO light):=fun o w=>za_ (by simp[Sx.look,hne])
 have ix:=fun a=>anI_ (light:=light) bs hk a
 have ld:=fun n=>aiK_ (light:=light) hk n
 have sl:=fun a=>aeU_ (light:=light) bs hk a
 first|with_reducible refine ks [1000003] (And.intro @zP_ @hl0) ?_|refine kp (And.intro @zP_ @hl0) ?_
 refine Cw.cutO (G:=Unit) [14,15,16,17,18,19,20,21,22,23,24,25,26,27,28,29,30,31,32,33,34] (fun g=> []) (fun g=>(bt,dtO dir nm data (spV light (atK k dir nm S) bs) made):: (bs,spO light)::X) (fun g=>True) ?_ ?_
 ·by_cases hk0:k=0
  ·subst hk0
   have s1: ((((zJ_ light).getD 0 0:Nat):Int)==1)=true:=by rw[aaX_ hk];rfl
   first|with_reducible refine ks [4] (And.intro @zP_ (And.intro @rds (And.intro @ix (And.intro @ld (@s1))))) ?_|refine kp (And.intro @zP_ (And.intro @rds (And.intro @ix (And.intro @ld (@s1))))) ?_
   refine Ow.callFV rfl Tryz.call35 (fun w' hw'=>af8_ C S N bt dir nm data (spV light 0 bs) made w' (hP.worldM hw' (fun p hp=>by simp[hp])) hA (by omega) (hw'.has _ _ (List.mem_cons_self ..)) hnm) ?_
   cases hr: ((km_ S dir (jw_ nm)).2==0) with
   |true=>
    have ha:atK 0 dir nm S=0:=by unfold atK;rw[if_neg (fun h=>h.2 (by simpa using hr))]
    refine ko @zP_ ?_
    first|with_reducible refine ks [] @zP_ ?_|refine kp @zP_ ?_
    rw[ha]
    exact CutO.mk () trivial rfl rfl
   |false=>
    have ha:atK 0 dir nm S=1:=by unfold atK;rw[if_pos ⟨rfl,by simpa using hr⟩]
    have st:=fun a=>vD_ (dir:=dir) (nm:=nm) (data:=data) (v:=spV light 0 bs) (made:=made) a (aep_ light 1 bs)
    refine ko @zP_ ?_
    first|with_reducible refine ks [] (And.intro @zP_ (And.intro @sl (@st))) ?_|refine kp (And.intro @zP_ (And.intro @sl (@st))) ?_
    rw[ha]
    exact CutO.mk () trivial rfl rfl
  ·have s1: ((((zJ_ light).getD k 0:Nat):Int)==1)=false:=by rw[aaX_ hk];simpa using hk0
   have ha:atK k dir nm S=k:=by unfold atK;rw[if_neg (fun h=>hk0 h.1)]
   first|with_reducible refine ks [] (And.intro @zP_ (And.intro @rds (And.intro @ix (And.intro @ld (@s1))))) ?_|refine kp (And.intro @zP_ (And.intro @rds (And.intro @ix (And.intro @ld (@s1))))) ?_
   rw[ha]
   exact CutO.mk () trivial rfl rfl
 ·intro g j hg
  refine kv ?_
  have hk1l:atK k dir nm S< (zJ_ light).length:=by
   unfold atK
   split
   ·rename_i h;exact hk1 h.1
   ·exact hk
  have hE1:Ext w (X++ [(bt,dtO dir nm data (spV light k bs) made),(bs,spO light)]) (X++ [(bt,dtO dir nm data (spV light (atK k dir nm S) bs) made),(bs,spO light)]):=(Ext.refl w _).keys (by simp[keys])
  unfold vz_ at hR
  simp only at hR
  generalize hX0:X++ [(bt,dtO dir nm data (spV light k bs) made),(bs,spO light)]=X0 at*
  clear hX hn hE0 ix ld sl hX0 hk1 hk hl0
  generalize atK k dir nm S=k at*
  obtain⟨hs1,hs6⟩:=ajr_ hk1l
  generalize hsd: (zJ_ light).getD k 0=s at*
  have htl: (jw_ nm).length≤900004:=by unfold jw_;rw[List.length_append];simp;omega
  have ix:=fun a=>anI_ (light:=light) bs hk1l a
  have ld: ∀n,zk_ (some (false,n)) (some (spO light)) k=some (vi (s:Int)):=fun n=>by rw[aiK_ (light:=light) hk1l n,hsd]
  have sl:=fun a=>aeU_ (light:=light) bs hk1l a
  first|with_reducible refine ks [1000007] @zP_ ?_|refine kp @zP_ ?_
  refine Cw.cutO (G:=SbG) [7,40,41,42,43,44,45,46,47,48,49,50,51,52,53,54,55,56,57,58,59,60,61,62,63,64,65,66,67,68,69,70,71,72,73,74,75,76,77,78,79,80,81,82,83,84,85,86,87,88,89,90,91,92,93,94,95,96,97,98,99,100,101,102,103,104,105,106,107,108,109,110,111,112,113,114,115,116] (fun g=> [(7,vi ((kK_ s dir nm data S).2:Nat))]) (fun g=>g.X++ [(bt,dtO dir nm data (spV light k bs) (w3_ s made (kK_ s dir nm data S).2)),(bs,spO light)]) (fun g=>DcP g.X g.C (kK_ s dir nm data S).1∧g.C.bd=C.bd∧bt∉keys g.X∧bs∉keys g.X∧Ext w X0 (g.X++ [(bt,dtO dir nm data (spV light k bs) made),(bs,spO light)])) ?_ ?_
  ·first|with_reducible refine ks [8] (And.intro @zP_ (And.intro @rds (And.intro @ix (@ld)))) ?_|refine kp (And.intro @zP_ (And.intro @rds (And.intro @ix (@ld)))) ?_
   have rd0:=aqH_ (O1:=dtO dir nm data (spV light k bs) made) (O2:=spO light) hbt hbs hne w
   obtain⟨rdt,-⟩:=rd0
   have i0: ∀e:Nat,((e:Int)==0)=(e==0):=fun e=>by cases e<;>rfl
   refine Cw.permL (M:=X++ [(bt,dtO dir nm data (spV light k bs) made),(bs,spO light)]) (by classical exact List.perm_iff_count.2 fun a=>by simp only[List.count_append,List.count_cons,List.count_nil]<;>omega) ?_
   rcases(by omega:s=1∨s=2∨s=3∨s=4∨s=5∨s=6) with rfl|rfl|rfl|rfl|rfl|rfl
   ·have q1: ((((1:Nat):Int))==1)=true:=rfl
    first|with_reducible refine ks [] (And.intro @zP_ (And.intro @q1 (@rdt))) ?_|refine kp (And.intro @zP_ (And.intro @q1 (@rdt))) ?_
    refine kq (And.intro @zP_ @rdt) ?_
    refine Ow.callX (X:=X) (Y:= [(bt,dtO dir nm data (spV light k bs) made),(bs,spO light)]) rfl rfl rfl Tryz.call36 (fun w' hw' hX' hn'=>kZ_ X C S N 5 dir (jw_ nm) [] w' hX' hn' hP hA (by omega) ⟨by decide,by decide⟩ (by omega) (Nat.zero_le _)) (fun v4 D4 hC4 hS4=> ?_)
    obtain⟨rfl,C4,hcd4,hP4⟩:=hS4
    rw[aoP_ (data:=data)] at hP4 ⊢
    have hbt4:=q2_ hC4 hbt (by simp[keys])
    have hbs4:=q2_ hC4 hbs (by simp[keys])
    have hE4:=hE1.came hC4
    refine kq @zP_ ?_
    exact CutO.mk ⟨C4,D4⟩ ⟨hP4,hcd4,hbt4,hbs4,hE4⟩ rfl rfl
   ·have q1: ((((2:Nat):Int))==1)=false:=rfl
    have q2: ((((2:Nat):Int))==2)=true:=rfl
    first|with_reducible refine ks [] (And.intro @zP_ (And.intro @q1 (And.intro @q2 (@rdt)))) ?_|refine kp (And.intro @zP_ (And.intro @q1 (And.intro @q2 (@rdt)))) ?_
    refine kq (And.intro @zP_ @rdt) ?_
    refine Ow.callX (X:=X) (Y:= [(bt,dtO dir nm data (spV light k bs) made),(bs,spO light)]) rfl rfl rfl Tryz.call36 (fun w' hw' hX' hn'=>kZ_ X C S N 0 dir (jw_ nm) [] w' hX' hn' hP hA (by omega) ⟨by decide,by decide⟩ (by omega) (Nat.zero_le _)) (fun v4 D4 hC4 hS4=> ?_)
    obtain⟨rfl,C4,hcd4,hP4⟩:=hS4
    rw[anU_ (data:=data)] at hP4 ⊢
    have hbt4:=q2_ hC4 hbt (by simp[keys])
    have hbs4:=q2_ hC4 hbs (by simp[keys])
    have hE4:=hE1.came hC4
    refine kq @zP_ ?_
    generalize kK_ 2 dir nm data S=q at*
    obtain⟨S1,e⟩:=q
    simp only at hP4 ⊢
    have ie:=i0 e
    have lk:=afB_ (O1:=dtO dir nm data (spV light k bs) made) (bs:=bs) (O2:=spO light) hbt4
    have st:=fun a=>Zl_ (dir:=dir) (nm:=nm) (data:=data) (v:=spV light k bs) (made:=made) a (e==0)
    first|with_reducible refine ks [] (And.intro @zP_ (And.intro @ie (And.intro @lk (And.intro @st (@j0_))))) ?_|refine kp (And.intro @zP_ (And.intro @ie (And.intro @lk (And.intro @st (@j0_))))) ?_
    exact CutO.mk ⟨C4,D4⟩ ⟨hP4,hcd4,hbt4,hbs4,hE4⟩ (anH_ hbt4) rfl
   ·have q1: ((((3:Nat):Int))==1)=false:=rfl
    have q2: ((((3:Nat):Int))==2)=false:=rfl
    have q3: ((((3:Nat):Int))==3)=true:=rfl
    first|with_reducible refine ks [14] (And.intro @zP_ (And.intro @q1 (And.intro @q2 (@q3)))) ?_|refine kp (And.intro @zP_ (And.intro @q1 (And.intro @q2 (@q3)))) ?_
    refine Cw.regionO [0,1,2,3,5,6,7,8,4,9,10,11] [10] rfl (by kernel_rfl) (by kernel_rfl) ?_
    simp only[zj_, ↓zf_, ↓zc_, ↓zw_, ↓zv_,zd_]
    refine kq (And.intro @zP_ @rdt) ?_
    refine Ow.callX (X:=X) (Y:= [(bt,dtO dir nm data (spV light k bs) made),(bs,spO light)]) rfl rfl rfl Tryz.call36 (fun w' hw' hX' hn'=>kZ_ X C S N 1 dir (jw_ nm) data w' hX' hn' hP hA (by omega) ⟨by decide,by decide⟩ (by omega) (by omega)) (fun v4 D4 hC4 hS4=> ?_)
    obtain⟨rfl,C4,hcd4,hP4⟩:=hS4
    rw[an7_] at hP4 ⊢
    have hbt4:=q2_ hC4 hbt (by simp[keys])
    have hbs4:=q2_ hC4 hbs (by simp[keys])
    have hE4:=hE1.came hC4
    refine kq @zP_ ?_
    exact CutO.mk ⟨C4,D4⟩ ⟨hP4,hcd4,hbt4,hbs4,hE4⟩ rfl rfl
   ·have q1: ((((4:Nat):Int))==1)=false:=rfl
    have q2: ((((4:Nat):Int))==2)=false:=rfl
    have q3: ((((4:Nat):Int))==3)=false:=rfl
    have q4: ((((4:Nat):Int))==4)=true:=rfl
    first|with_reducible refine ks [] (And.intro @zP_ (And.intro @q1 (And.intro @q2 (And.intro @q3 (And.intro @q4 (@rdt)))))) ?_|refine kp (And.intro @zP_ (And.intro @q1 (And.intro @q2 (And.intro @q3 (And.intro @q4 (@rdt)))))) ?_
    refine kq (And.intro @zP_ @rdt) ?_
    refine Ow.callX (X:=X) (Y:= [(bt,dtO dir nm data (spV light k bs) made),(bs,spO light)]) rfl rfl rfl Tryz.call36 (fun w' hw' hX' hn'=>kZ_ X C S N 2 dir (jw_ nm) [] w' hX' hn' hP hA (by omega) ⟨by decide,by decide⟩ (by omega) (Nat.zero_le _)) (fun v4 D4 hC4 hS4=> ?_)
    obtain⟨rfl,C4,hcd4,hP4⟩:=hS4
    rw[aor_ (data:=data)] at hP4 ⊢
    have hbt4:=q2_ hC4 hbt (by simp[keys])
    have hbs4:=q2_ hC4 hbs (by simp[keys])
    have hE4:=hE1.came hC4
    refine kq @zP_ ?_
    exact CutO.mk ⟨C4,D4⟩ ⟨hP4,hcd4,hbt4,hbs4,hE4⟩ rfl rfl
   ·have q1: ((((5:Nat):Int))==1)=false:=rfl
    have q2: ((((5:Nat):Int))==2)=false:=rfl
    have q3: ((((5:Nat):Int))==3)=false:=rfl
    have q4: ((((5:Nat):Int))==4)=false:=rfl
    have q5: ((((5:Nat):Int))==5)=true:=rfl
    first|with_reducible refine ks [18] (And.intro @zP_ (And.intro @q1 (And.intro @q2 (And.intro @q3 (And.intro @q4 (@q5)))))) ?_|refine kp (And.intro @zP_ (And.intro @q1 (And.intro @q2 (And.intro @q3 (And.intro @q4 (@q5)))))) ?_
    refine Cw.regionO [0,1,2,3,5,6,7,8,4,9,10,11] [10] rfl (by kernel_rfl) (by kernel_rfl) ?_
    simp only[zj_, ↓zf_, ↓zc_, ↓zw_, ↓zv_,zd_]
    refine kq (And.intro @zP_ @rdt) ?_
    refine Ow.callX (X:=X) (Y:= [(bt,dtO dir nm data (spV light k bs) made),(bs,spO light)]) rfl rfl rfl Tryz.call36 (fun w' hw' hX' hn'=>kZ_ X C S N 4 dir (jw_ nm) nm w' hX' hn' hP hA (by omega) ⟨by decide,by decide⟩ (by omega) (by omega)) (fun v4 D4 hC4 hS4=> ?_)
    obtain⟨rfl,C4,hcd4,hP4⟩:=hS4
    rw[aoD_ (data:=data)] at hP4 ⊢
    have hbt4:=q2_ hC4 hbt (by simp[keys])
    have hbs4:=q2_ hC4 hbs (by simp[keys])
    have hE4:=hE1.came hC4
    refine kq @zP_ ?_
    generalize kK_ 5 dir nm data S=q at*
    obtain⟨S1,e⟩:=q
    simp only at hP4 ⊢
    have ie:=i0 e
    cases he: (e==0) with
    |true=>
     rw[he] at ie
     have hm:w3_ 5 made e=false:=by rw[anr_,bne,he];simp
     rw[hm]
     have lk:=afB_ (O1:=dtO dir nm data (spV light k bs) made) (bs:=bs) (O2:=spO light) hbt4
     have st:=fun a=>Zl_ (dir:=dir) (nm:=nm) (data:=data) (v:=spV light k bs) (made:=made) a false
     first|with_reducible refine ks [] (And.intro @zP_ (And.intro @ie (And.intro @lk (And.intro @st (@j0_))))) ?_|refine kp (And.intro @zP_ (And.intro @ie (And.intro @lk (And.intro @st (@j0_))))) ?_
     exact CutO.mk ⟨C4,D4⟩ ⟨hP4,hcd4,hbt4,hbs4,hE4⟩ (anH_ hbt4) rfl
    |false=>
     rw[he] at ie
     have hm:w3_ 5 made e=made:=by rw[anr_,bne,he];simp
     rw[hm]
     first|with_reducible refine ks [] (And.intro @zP_ @ie) ?_|refine kp (And.intro @zP_ @ie) ?_
     exact CutO.mk ⟨C4,D4⟩ ⟨hP4,hcd4,hbt4,hbs4,hE4⟩ rfl rfl
   ·have q1: ((((6:Nat):Int))==1)=false:=rfl
    have q2: ((((6:Nat):Int))==2)=false:=rfl
    have q3: ((((6:Nat):Int))==3)=false:=rfl
    have q4: ((((6:Nat):Int))==4)=false:=rfl
    have q5: ((((6:Nat):Int))==5)=false:=rfl
    have q6: ((((6:Nat):Int))==6)=true:=rfl
    first|with_reducible refine ks [] (And.intro @zP_ (And.intro @q1 (And.intro @q2 (And.intro @q3 (And.intro @q4 (And.intro @q5 (And.intro @q6 (@rdt)))))))) ?_|refine kp (And.intro @zP_ (And.intro @q1 (And.intro @q2 (And.intro @q3 (And.intro @q4 (And.intro @q5 (And.intro @q6 (@rdt)))))))) ?_
    refine kq (And.intro @zP_ @rdt) ?_
    refine Ow.callX (X:=X) (Y:= [(bt,dtO dir nm data (spV light k bs) made),(bs,spO light)]) rfl rfl rfl Tryz.call36 (fun w' hw' hX' hn'=>kZ_ X C S N 3 dir [] [] w' hX' hn' hP hA (by omega) ⟨by decide,by decide⟩ (Nat.zero_le _) (Nat.zero_le _)) (fun v4 D4 hC4 hS4=> ?_)
    obtain⟨rfl,C4,hcd4,hP4⟩:=hS4
    rw[aoS_ (nm:=nm) (data:=data)] at hP4 ⊢
    have hbt4:=q2_ hC4 hbt (by simp[keys])
    have hbs4:=q2_ hC4 hbs (by simp[keys])
    have hE4:=hE1.came hC4
    refine kq @zP_ ?_
    exact CutO.mk ⟨C4,D4⟩ ⟨hP4,hcd4,hbt4,hbs4,hE4⟩ rfl rfl
  ·intro g j hg
   refine kv ?_
   clear hP hbt hbs hE1
   obtain⟨C1,X1⟩:=g
   simp only at hg ⊢
   obtain⟨hP,hcd,hbt,hbs,hE1⟩:=hg
   rw[←hcd]
   have hA1:DsA (kK_ s dir nm data S).1 (N+1):=by
    rcases(by omega:s=1∨s=2∨s=3∨s=4∨s=5∨s=6) with rfl|rfl|rfl|rfl|rfl|rfl
    ·exact hA.do (by omega) 5 dir (jw_ nm) [] (by omega) (Nat.zero_le _)
    ·exact hA.do (by omega) 0 dir (jw_ nm) [] (by omega) (Nat.zero_le _)
    ·exact hA.do (by omega) 1 dir (jw_ nm) data (by omega) (by omega)
    ·exact hA.do (by omega) 2 dir (jw_ nm) [] (by omega) (Nat.zero_le _)
    ·exact hA.do (by omega) 4 dir (jw_ nm) nm (by omega) (by omega)
    ·exact hA.do (by omega) 3 dir [] [] (Nat.zero_le _) (Nat.zero_le _)
   generalize kK_ s dir nm data S=q at*
   obtain⟨S1,e⟩:=q
   simp only at hR hP hA1 ⊢
   generalize w3_ s made e=m at*
   refine Cw.permL (M:=(bt,dtO dir nm data (spV light k bs) m):: (bs,spO light)::X1) (by classical exact List.perm_iff_count.2 fun a=>by simp only[List.count_append,List.count_cons,List.count_nil]<;>omega) ?_
   have st1:=fun a=>vD_ (dir:=dir) (nm:=nm) (data:=data) (v:=spV light k bs) (made:=m) a (aep_ light (k+1) bs)
   by_cases he:e=0
   ·have e0: ((e:Int) !=0)=false:=by rw[he];rfl
    rw[if_neg (fun h=>h he)] at hR
    have hl: ((((zJ_ light).length - (k+1):Nat):Int)==0)=(k+1==(zJ_ light).length):=by
     rw[Bool.eq_iff_iff,beq_iff_eq,beq_iff_eq];omega
    first|with_reducible refine ks [] (And.intro @zP_ (And.intro @sl (And.intro @st1 (And.intro @e0 (@hl))))) ?_|refine kp (And.intro @zP_ (And.intro @sl (And.intro @st1 (And.intro @e0 (@hl))))) ?_
    refine⟨_,(ke @zP_), ?_⟩
    rw[←hR]
    exact⟨(hE1.keys (D':=X1++ [(bt,dtO dir nm data (spV light (k+1) bs) m),(bs,spO light)]) (by simp[keys])).perm (by classical exact List.perm_iff_count.2 fun a=>by simp only[List.count_append,List.count_cons,List.count_nil]<;>omega),rfl,X1,C1,spV light (k+1) bs,(by classical exact List.perm_iff_count.2 fun a=>by simp only[List.count_append,List.count_cons,List.count_nil]<;>omega),hcd,hP,hA1.mono (by omega),fun _=>rfl,fun h=>absurd rfl h⟩
   ·have e0: ((e:Int) !=0)=true:=by rw[bne_iff_ne];omega
    rw[if_pos he] at hR
    have st2:=fun a=>vD_ (dir:=dir) (nm:=nm) (data:=data) (v:=spV light (k+1) bs) (made:=m) a (q:= .slice none 0 0) ⟨rfl,rfl⟩
    by_cases hm:m=true∧e≠9
    ·rw[if_pos hm] at hR
     have m1:=hm.1
     have e9: ((e:Int) !=9)=true:=by
      rw[bne_iff_ne]
      have:=hm.2
      omega
     subst m1
     first|with_reducible refine ks [27] (And.intro @zP_ (And.intro @sl (And.intro @st1 (And.intro @st2 (And.intro @e0 (@e9)))))) ?_|refine kp (And.intro @zP_ (And.intro @sl (And.intro @st1 (And.intro @st2 (And.intro @e0 (@e9)))))) ?_
     refine Cw.permL (M:=X1++ [(bt,dtO dir nm data (.slice none 0 0) true),(bs,spO light)]) (by classical exact List.perm_iff_count.2 fun a=>by simp only[List.count_append,List.count_cons,List.count_nil]<;>omega) ?_
     obtain⟨rdt,-⟩:=aqH_ (O1:=dtO dir nm data (.slice none 0 0) true) (O2:=spO light) hbt hbs hne w
     first|with_reducible refine ks [] (And.intro @zP_ @rdt) ?_|refine kp (And.intro @zP_ @rdt) ?_
     refine kq (And.intro @zP_ @rdt) ?_
     refine Ow.callX (X:=X1) (Y:= [(bt,dtO dir nm data (.slice none 0 0) true),(bs,spO light)]) rfl rfl rfl Tryz.call36 (fun w' hw' hX' hn'=>kZ_ X1 C1 S1 (N+1) 5 dir (jw_ nm) [] w' hX' hn' hP hA1 (by omega) ⟨by decide,by decide⟩ (by omega) (Nat.zero_le _)) (fun v4 D4 hC4 hS4=> ?_)
     obtain⟨rfl,C4,hcd4,hP4⟩:=hS4
     have hA4:=hA1.do (by omega) 5 dir (jw_ nm) [] (by omega) (Nat.zero_le _)
     have hE2:Ext w X0 (X1++ [(bt,dtO dir nm data (.slice none 0 0) true),(bs,spO light)]):=hE1.keys (by simp[keys])
     refine kq @zP_ ?_
     first|with_reducible refine ks [] @zP_ ?_|refine kp @zP_ ?_
     refine⟨_,(ke @zP_), ?_⟩
     rw[←hR]
     exact⟨hE2.came hC4,rfl,D4,C4,_,List.Perm.refl _,hcd4.trans hcd,hP4,hA4,fun h=>absurd h he,fun _=>rfl⟩
    ·rw[if_neg hm] at hR
     have hE2:Ext w X0 ((bt,dtO dir nm data (.slice none 0 0) m):: (bs,spO light)::X1):=(hE1.keys (D':=X1++ [(bt,dtO dir nm data (.slice none 0 0) m),(bs,spO light)]) (by simp[keys])).perm (by classical exact List.perm_iff_count.2 fun a=>by simp only[List.count_append,List.count_cons,List.count_nil]<;>omega)
     by_cases hm1:m=true
     ·have e9: ((e:Int) !=9)=false:=by
       have h9:e=9:=Decidable.byContradiction fun h=>hm ⟨hm1,h⟩
       rw[h9];rfl
      subst hm1
      first|with_reducible refine ks [] (And.intro @zP_ (And.intro @sl (And.intro @st1 (And.intro @st2 (And.intro @e0 (@e9)))))) ?_|refine kp (And.intro @zP_ (And.intro @sl (And.intro @st1 (And.intro @st2 (And.intro @e0 (@e9)))))) ?_
      refine⟨_,(ke @zP_), ?_⟩
      rw[←hR]
      exact⟨hE2,rfl,X1,C1, .slice none 0 0,(by classical exact List.perm_iff_count.2 fun a=>by simp only[List.count_append,List.count_cons,List.count_nil]<;>omega),hcd,hP,hA1.mono (by omega),fun h=>absurd h he,fun _=>rfl⟩
     ·obtain rfl:m=false:=by simpa using hm1
      first|with_reducible refine ks [] (And.intro @zP_ (And.intro @sl (And.intro @st1 (And.intro @st2 (@e0))))) ?_|refine kp (And.intro @zP_ (And.intro @sl (And.intro @st1 (And.intro @st2 (@e0))))) ?_
      refine⟨_,(ke @zP_), ?_⟩
      rw[←hR]
      exact⟨hE2,rfl,X1,C1, .slice none 0 0,(by classical exact List.perm_iff_count.2 fun a=>by simp only[List.count_append,List.count_cons,List.count_nil]<;>omega),hcd,hP,hA1.mono (by omega),fun h=>absurd h he,fun _=>rfl⟩
end Go.Proofs
end
section
open Go Go.Proofs Go.Sx Go.StP
namespace Go.Proofs
set_option maxRecDepth 10000
set_option maxHeartbeats 1000000
set_option linter.unusedSimpArgs false
set_option linter.defProp false
end Go.Proofs
end
section
open Go Go.Proofs Go.Sx Go.StP
namespace Go.Proofs
set_option maxRecDepth 10000
set_option maxHeartbeats 1000000
set_option linter.unusedSimpArgs false
def NtS (dir nm data:List UInt8) (light:Bool) (v:Value) (D:ze_):Prop:= ∃bt bs Z,v=vp bt 0∧(Z++ [(bt,dtO dir nm data (spV light 0 bs) false),(bs,spO light)]).Perm D
set_option linter.defProp false
def vM_:=And.intro (And.intro (@zn_) (@zm_)) (And.intro (@Sx.tup2_0) (And.intro (@Sx.tup2_1) (@vD_)))
theorem acP_ (dir nm data:List UInt8) (light:Bool) (w:World):
  Rets Tryz.prog 12 #[vs dir,vs nm,vs data, .bool light] w (XS w [] (NtS dir nm data light)):=by
 cases light with
 |false=>
  refine Rets.enterX Tryz.func12 rfl (rs:= [.tmp 8]) Tryz.results12 Tryz.ntmps12 (fun p hp=>by cases hp) (by simp[keys]) ?_
  refine kf ?_
  first|with_reducible refine ks [] @vM_ ?_|refine kp @vM_ ?_
  refine Ow.buildSlice (e:=3) ((zJ_ false).map fun n:Nat=>vi (n:Int)).toArray rfl rfl (by kernel_rfl) fun b1 hb1 hw1=> ?_
  refine ko @vM_ ?_
  refine Ow.build _ rfl (afa_ dir nm data b1 6 6) ?_
  refine Ow.box rfl rfl fun b2 hb2 hw2=> ?_
  simp only[zh_,List.nil_append,List.cons_append]
  refine ko @vM_ ?_
  first|with_reducible refine ks [] @vM_ ?_|refine kp @vM_ ?_
  refine⟨_,(ke @vM_), ?_⟩
  exact⟨Ext.of_new ⟨hw1,hw2,trivial⟩,b2,b1,[],rfl,List.Perm.swap _ _ []⟩
 |true=>
  refine Rets.enterX Tryz.func12 rfl (rs:= [.tmp 8]) Tryz.results12 Tryz.ntmps12 (fun p hp=>by cases hp) (by simp[keys]) ?_
  refine kf ?_
  first|with_reducible refine ks [] @vM_ ?_|refine kp @vM_ ?_
  refine Ow.buildSlice (e:=3) ((zJ_ false).map fun n:Nat=>vi (n:Int)).toArray rfl rfl (by kernel_rfl) fun b1 hb1 hw1=> ?_
  refine ko @vM_ ?_
  refine Ow.build _ rfl (afa_ dir nm data b1 6 6) ?_
  refine Ow.box rfl rfl fun b2 hb2 hw2=> ?_
  simp only[zh_,List.nil_append,List.cons_append]
  refine ko @vM_ ?_
  first|with_reducible refine ks [] @vM_ ?_|refine kp @vM_ ?_
  refine Ow.buildSlice (e:=3) ((zJ_ true).map fun n:Nat=>vi (n:Int)).toArray rfl rfl (by kernel_rfl) fun b3 hb3 hw3=> ?_
  refine Ow.permL (M:=(b2,dtO dir nm data (spV false 0 b1) false):: (b1,spO false):: [(b3,spO true)]) (List.Perm.swap _ _ _) ?_
  have st:=fun a=>vD_ (dir:=dir) (nm:=nm) (data:=data) (v:=spV false 0 b1) (made:=false) a (aep_ true 0 b3)
  have hsb: ∀o o' L,setB ((b2,o)::L) b2 o'=(b2,o')::L:=fun _ _ _=>by simp[setB]
  refine ko (And.intro @vM_ @st) ?_
  first|with_reducible refine ks [] @vM_ ?_|refine kp @vM_ ?_
  refine⟨_,(ke @vM_), ?_⟩
  rw[hsb]
  exact⟨Ext.of_new ⟨hw2,hw1,hw3,trivial⟩,b2,b3,[(b1,spO false)],rfl,List.Perm.swap _ _ _⟩
end Go.Proofs
end
section
open Go Go.Proofs Go.Sx Go.StP
namespace Go.Proofs
set_option maxRecDepth 10000
set_option maxHeartbeats 400000
set_option linter.unusedSimpArgs false
def tkO (t:TkL):Obj:= .cells #[vs t.dir,vs t.name,vs t.data, .bool t.light,vi (t.next:Int), .bool t.made, .bool t.ended] 88 (0,0)
theorem Wn_ (t:TkL) (n:Nat):zk_ (some (false,n)) (some (tkO t)) 0=some (vs t.dir):=(rfl)
theorem WC_ (t:TkL) (n:Nat):zk_ (some (false,n)) (some (tkO t)) 1=some (vs t.name):=(rfl)
theorem Wa_ (t:TkL) (n:Nat):zk_ (some (false,n)) (some (tkO t)) 2=some (vs t.data):=(rfl)
theorem WF_ (t:TkL) (n:Nat):zk_ (some (false,n)) (some (tkO t)) 3=some (.bool t.light):=(rfl)
theorem Wj_ (t:TkL) (n:Nat):zk_ (some (false,n)) (some (tkO t)) 4=some (vi (t.next:Int)):=(rfl)
theorem WE_ (t:TkL) (n:Nat):zk_ (some (false,n)) (some (tkO t)) 5=some (.bool t.made):=(rfl)
theorem VS_ (t:TkL) (n:Nat):zk_ (some (false,n)) (some (tkO t)) 6=some (.bool t.ended):=(rfl)
theorem aaM_ (t:TkL) (x:Nat) (a:Bool):zu_ (some (a,1)) (some (tkO t)) 4 (vi (x:Int))=some (tkO {t with next:=x}):=zt_ [vs t.dir,vs t.name,vs t.data, .bool t.light] [vi (t.next:Int)] [vi (x:Int)] [.bool t.made, .bool t.ended] a _ 88 rfl rfl rfl rfl rfl
theorem aju_ (t:TkL) (x:Bool) (a:Bool):zu_ (some (a,1)) (some (tkO t)) 5 (.bool x)=some (tkO {t with made:=x}):=zt_ [vs t.dir,vs t.name,vs t.data, .bool t.light,vi (t.next:Int)] [.bool t.made] [.bool x] [.bool t.ended] a _ 88 rfl rfl rfl rfl rfl
theorem J7_ (t:TkL) (x:Bool) (a:Bool):zu_ (some (a,1)) (some (tkO t)) 6 (.bool x)=some (tkO {t with ended:=x}):=zt_ [vs t.dir,vs t.name,vs t.data, .bool t.light,vi (t.next:Int), .bool t.made] [.bool t.ended] [.bool x] [] a _ 88 rfl rfl rfl rfl rfl
structure TkB (t:TkL):Prop where
 name:t.name.length≤900000
 data:t.data.length≤1000000
theorem vk_ {t:TkL} (h:TkB t): (jw_ t.name).length≤900004:=by
 unfold jw_
 rw[List.length_append]
 have:=h.name
 simp
 omega
theorem DkA.step {X X':ze_} {G G':DkG} {S S':DiskL} {N:Nat} {kind:Int} {dir name s:List UInt8} {e:Nat} (h:DkA X G S N) (hP:DkP X' G' S') (hst:StepD S kind dir name s S' e) (hn:name.length≤1000000) (hs:s.length≤1000000):DkA X' G' S' (N+1):=⟨hP,aj7_ h.H hst,aeN_ h.B hn hs hst⟩
theorem DkA.up {X:ze_} {G:DkG} {S:DiskL} {N:Nat} (h:DkA X G S N):DkA X G S (N+1):=⟨h.P,h.H,h.B.mono (Nat.le_succ N)⟩
def PhS (G:DkG) (bt:Nat) (r:PhR) (N:Nat) (v:Value) (D:ze_):Prop:=v= .tuple #[.bool r.did,vi (r.e:Nat)]∧ ∃X' G',(X'++ [(bt,tkO r.t)]).Perm D∧G'.bd=G.bd∧DkA X' G' r.S N
theorem arU_ (b o:Nat):q7_ Tryz.prog .eql 33 (vp b o) (.pointer none)=some (.bool false):=by
 simp[q7_,eqX,q8_,qR_,Tryz.underlying33,vp]
theorem ard_:q7_ Tryz.prog .eql 33 (.pointer none) (.pointer none)=some (.bool true):=by
 simp[q7_,eqX,q8_,qR_,Tryz.underlying33]
theorem jW_ {X:ze_} {bt:Nat} {t:TkL} (hn: (keys (X++ [(bt,tkO t)])).Nodup):bt∉keys X∧ ∀X' o,bt∉keys X'→ ∀w,zy_ w (X'++ [(bt,o)]) bt=some o:=by
 rw[zo_,List.nodup_append] at hn
 refine⟨fun hm=>hn.2.2 bt hm bt (by simp[keys]) rfl,fun X' o h w=>za_ (@adj_ _ [] _ _ h)⟩
set_option linter.defProp false
def zZ_:=And.intro (And.intro (And.intro (@zn_) (And.intro (@zm_) (@Wn_))) (And.intro (And.intro (@WC_) (@Wa_)) (And.intro (@WF_) (@Wj_)))) (And.intro (And.intro (@WE_) (And.intro (@VS_) (@aaM_))) (And.intro (And.intro (@aju_) (@J7_)) (And.intro (@Sx.tup2_0) (@Sx.tup2_1))))
theorem afX_ (X:ze_) (G:DkG) (S:DiskL) (N bt:Nat) (t:TkL) (w:World) (hX: ∀p,p∈X++ [(bt,tkO t)]→w.heap[p.1]? =some p.2) (hn: (keys (X++ [(bt,tkO t)])).Nodup) (hA:DkA X G S N) (hN:N<900000) (hB:TkB t):
  Rets Tryz.prog 58 #[vp bt 0,vp G.bd 0] w (XS w (X++ [(bt,tkO t)]) (PhS G bt (aft_ t S) (N+1))):=by
 refine Rets.enterX Tryz.func58 rfl (rs:= [.tmp 4, .tmp 5]) Tryz.results58 Tryz.ntmps58 hX hn ?_
 refine kf ?_
 have hbx:=(jW_ hn).1
 have rdt:=(jW_ hn).2 X (tkO t) hbx w
 have hnl:=vk_ hB
 have hnd:t.name.length≤900000:=hB.name
 have hdl:=hB.data
 have hpd:=hA.pend (by omega)
 have hus:=hA.used (by omega)
 unfold aft_
 first|with_reducible refine ks [] @zZ_ ?_|refine kp @zZ_ ?_
 refine Cw.regionO [0,1,2,3,5,6,7,4,8,9,10,11,12,13,14,15] [] rfl (by kernel_rfl) (by kernel_rfl) ?_
 simp only[zj_, ↓zf_, ↓zc_, ↓zw_, ↓zv_,zd_]
 refine kq (And.intro @zZ_ @rdt) ?_
 refine Ow.callFV rfl Tryz.call22 (fun w' hw'=>KS_ w' G S t.dir (jw_ t.name) ⟨X,fun b o hb=>hw'.has b o (List.mem_append_left _ (zq_ hb)),hA.P⟩ (by omega)) ?_
 refine kq @zZ_ ?_
 by_cases h0: (km_ S t.dir (jw_ t.name)).2≠0
 ·have e1:=ju_ h0
  rw[if_pos h0]
  first|with_reducible refine ks [] (And.intro @zZ_ @e1) ?_|refine kp (And.intro @zZ_ @e1) ?_
  refine⟨_,(ke @zZ_), ?_⟩
  exact⟨Ext.refl w _,rfl,X,G,List.Perm.refl _,rfl,hA.up⟩
 ·have h0': (km_ S t.dir (jw_ t.name)).2=0:=by simpa using h0
  have e1: (((km_ S t.dir (jw_ t.name)).2:Int) !=0)=false:=by rw[h0'];rfl
  rw[if_neg h0]
  first|with_reducible refine ks [] (And.intro @zZ_ @e1) ?_|refine kp (And.intro @zZ_ @e1) ?_
  refine Cw.regionO [0,1,2,3,5,6,7,4,8,9,10,11,12] [10] rfl (by kernel_rfl) (by kernel_rfl) ?_
  simp only[zj_, ↓zf_, ↓zc_, ↓zw_, ↓zv_,zd_]
  refine kq (And.intro @zZ_ @rdt) ?_
  refine Ow.callX (X:=X) (Y:= [(bt,tkO t)]) rfl rfl rfl Tryz.call34 (fun w' hw' hX' hn'=>v9_ X G S t.dir (jw_ t.name) w' hX' hn' hA.P (by omega) hpd) (fun v4 D4 hC4 hS4=> ?_)
  obtain⟨rfl,G',hbd,hP'⟩:=hS4
  refine kq @zZ_ ?_
  first|with_reducible refine ks [] @zZ_ ?_|refine kp @zZ_ ?_
  refine⟨_,(ke @zZ_), ?_⟩
  exact⟨(Ext.refl w _).came hC4,rfl,D4,G',List.Perm.refl _,hbd,hA.step hP' (wN_ S _ _ []) (by omega) (Nat.zero_le _)⟩
theorem WB_ (X:ze_) (G:DkG) (S:DiskL) (N bt:Nat) (t:TkL) (w:World) (hX: ∀p,p∈X++ [(bt,tkO t)]→w.heap[p.1]? =some p.2) (hn: (keys (X++ [(bt,tkO t)])).Nodup) (hA:DkA X G S N) (hN:N<900000) (hB:TkB t):
  Rets Tryz.prog 59 #[vp bt 0,vp G.bd 0] w (XS w (X++ [(bt,tkO t)]) (PhS G bt (ada_ t S) (N+1))):=by
 refine Rets.enterX Tryz.func59 rfl (rs:= [.tmp 4, .tmp 5]) Tryz.results59 Tryz.ntmps59 hX hn ?_
 refine kf ?_
 have hbx:=(jW_ hn).1
 have rdt:=(jW_ hn).2 X (tkO t) hbx w
 have hnl:=vk_ hB
 have hnd:t.name.length≤900000:=hB.name
 have hdl:=hB.data
 have hpd:=hA.pend (by omega)
 have hus:=hA.used (by omega)
 unfold ada_
 first|with_reducible refine ks [2] @zZ_ ?_|refine kp @zZ_ ?_
 refine Cw.regionO [0,1,2,3,5,6,7,4,8,9,10,11] [10] rfl (by kernel_rfl) (by kernel_rfl) ?_
 simp only[zj_, ↓zf_, ↓zc_, ↓zw_, ↓zv_,zd_]
 refine kq (And.intro @zZ_ @rdt) ?_
 refine Ow.callX (X:=X) (Y:= [(bt,tkO t)]) rfl rfl rfl Tryz.call86 (fun w' hw' hX' hn'=>aa7_ X G S t.dir (jw_ t.name) w' hX' hn' hA.P (by omega) hpd) (fun v4 D4 hC4 hS4=> ?_)
 obtain⟨rfl,G',hbd,hP'⟩:=hS4
 refine kq @zZ_ ?_
 refine Cw.permL (M:=(bt,tkO t)::D4) (by classical exact List.perm_iff_count.2 fun a=>by simp only[List.count_append,List.count_cons,List.count_nil]<;>omega) ?_
 have hA':=hA.step hP' (Xf_ S _ _ []) (by omega) (Nat.zero_le _)
 have hE:=(Ext.refl w (X++ [(bt,tkO t)])).came hC4
 generalize j3_ S t.dir (jw_ t.name)=q at*
 obtain⟨S',e⟩:=q
 simp only at hA' ⊢
 have hi: ((e:Int)==0)=(e==0):=by
  cases e with
  |zero=>rfl
  |succ n=>rfl
 first|with_reducible refine ks [] (And.intro @zZ_ @hi) ?_|refine kp (And.intro @zZ_ @hi) ?_
 refine⟨_,(ke @zZ_), ?_⟩
 exact⟨(hE.perm (List.perm_append_comm (l₁:= [(bt,tkO t)]) (l₂:=D4))).keys rfl,rfl,D4,G',List.perm_append_comm (l₁:=D4) (l₂:= [_]),hbd,hA'⟩
theorem WJ_ (X:ze_) (G:DkG) (S:DiskL) (N bt:Nat) (t:TkL) (w:World) (hX: ∀p,p∈X++ [(bt,tkO t)]→w.heap[p.1]? =some p.2) (hn: (keys (X++ [(bt,tkO t)])).Nodup) (hA:DkA X G S N) (hN:N<900000) (hB:TkB t):
  Rets Tryz.prog 60 #[vp bt 0,vp G.bd 0] w (XS w (X++ [(bt,tkO t)]) (PhS G bt (aee_ t S) (N+1))):=by
 refine Rets.enterX Tryz.func60 rfl (rs:= [.tmp 4, .tmp 5]) Tryz.results60 Tryz.ntmps60 hX hn ?_
 refine kf ?_
 have hbx:=(jW_ hn).1
 have rdt:=(jW_ hn).2 X (tkO t) hbx w
 have hnl:=vk_ hB
 have hnd:t.name.length≤900000:=hB.name
 have hdl:=hB.data
 have hpd:=hA.pend (by omega)
 have hus:=hA.used (by omega)
 unfold aee_
 first|with_reducible refine ks [] @zZ_ ?_|refine kp @zZ_ ?_
 refine Cw.regionO [0,1,2,3,5,6,7,10,11,12,4,8,9,13,14,15,16] [14] rfl (by kernel_rfl) (by kernel_rfl) ?_
 simp only[zj_, ↓zf_, ↓zc_, ↓zw_, ↓zv_,zd_]
 refine kq (And.intro @zZ_ @rdt) ?_
 refine Ow.callX (X:=X) (Y:= [(bt,tkO t)]) rfl rfl rfl Tryz.call87 (fun w' hw' hX' hn'=>aaC_ X G S t.dir (jw_ t.name) t.data w' hX' hn' hA.P (by omega) (by omega) hus) (fun v4 D4 hC4 hS4=> ?_)
 obtain⟨rfl,hP'⟩:=hS4
 refine kq @zZ_ ?_
 first|with_reducible refine ks [] @zZ_ ?_|refine kp @zZ_ ?_
 refine⟨_,(ke @zZ_), ?_⟩
 exact⟨(Ext.refl w _).came hC4,rfl,D4,G,List.Perm.refl _,rfl,hA.step hP' (JG_ S _ _ _) (by omega) (by omega)⟩
theorem adk_ (X:ze_) (G:DkG) (S:DiskL) (N bt:Nat) (t:TkL) (w:World) (hX: ∀p,p∈X++ [(bt,tkO t)]→w.heap[p.1]? =some p.2) (hn: (keys (X++ [(bt,tkO t)])).Nodup) (hA:DkA X G S N) (hN:N<900000) (hB:TkB t):
  Rets Tryz.prog 61 #[vp bt 0,vp G.bd 0] w (XS w (X++ [(bt,tkO t)]) (PhS G bt (amJ_ t S) (N+1))):=by
 refine Rets.enterX Tryz.func61 rfl (rs:= [.tmp 4, .tmp 5]) Tryz.results61 Tryz.ntmps61 hX hn ?_
 refine kf ?_
 have hbx:=(jW_ hn).1
 have rdt:=(jW_ hn).2 X (tkO t) hbx w
 have hnl:=vk_ hB
 have hnd:t.name.length≤900000:=hB.name
 have hdl:=hB.data
 have hpd:=hA.pend (by omega)
 have hus:=hA.used (by omega)
 unfold amJ_
 by_cases hl:t.light=true
 ·rw[if_pos hl]
  first|with_reducible refine ks [] (And.intro @zZ_ (And.intro @rdt (@hl))) ?_|refine kp (And.intro @zZ_ (And.intro @rdt (@hl))) ?_
  refine⟨_,(ke @zZ_), ?_⟩
  exact⟨Ext.refl w _,rfl,X,G,List.Perm.refl _,rfl,hA.up⟩
 ·rw[if_neg hl]
  have hl':t.light=false:=by simpa using hl
  first|with_reducible refine ks [] (And.intro @zZ_ (And.intro @rdt (@hl'))) ?_|refine kp (And.intro @zZ_ (And.intro @rdt (@hl'))) ?_
  refine Cw.regionO [0,1,2,3,5,6,7,4,8,9,10,11,12] [10] rfl (by kernel_rfl) (by kernel_rfl) ?_
  simp only[zj_, ↓zf_, ↓zc_, ↓zw_, ↓zv_,zd_]
  refine kq (And.intro @zZ_ @rdt) ?_
  refine Ow.callX (X:=X) (Y:= [(bt,tkO t)]) rfl rfl rfl Tryz.call88 (fun w' hw' hX' hn'=>af4_ X G S t.dir (jw_ t.name) w' hX' hn' hA.P (by omega)) (fun v4 D4 hC4 hS4=> ?_)
  obtain⟨rfl,hP'⟩:=hS4
  refine kq @zZ_ ?_
  first|with_reducible refine ks [] @zZ_ ?_|refine kp @zZ_ ?_
  refine⟨_,(ke @zZ_), ?_⟩
  exact⟨(Ext.refl w _).came hC4,rfl,D4,G,List.Perm.refl _,rfl,hA.step hP' (abl_ S _ _ []) (by omega) (Nat.zero_le _)⟩
theorem Wq_ (X:ze_) (G:DkG) (S:DiskL) (N bt:Nat) (t:TkL) (w:World) (hX: ∀p,p∈X++ [(bt,tkO t)]→w.heap[p.1]? =some p.2) (hn: (keys (X++ [(bt,tkO t)])).Nodup) (hA:DkA X G S N) (hN:N<900000) (hB:TkB t):
  Rets Tryz.prog 63 #[vp bt 0,vp G.bd 0] w (XS w (X++ [(bt,tkO t)]) (PhS G bt (Wt_ t S) (N+1))):=by
 refine Rets.enterX Tryz.func63 rfl (rs:= [.tmp 4, .tmp 5]) Tryz.results63 Tryz.ntmps63 hX hn ?_
 refine kf ?_
 have hbx:=(jW_ hn).1
 have rdt:=(jW_ hn).2 X (tkO t) hbx w
 have hnl:=vk_ hB
 have hnd:t.name.length≤900000:=hB.name
 have hdl:=hB.data
 have hpd:=hA.pend (by omega)
 have hus:=hA.used (by omega)
 unfold Wt_
 by_cases hl:t.light=true
 ·rw[if_pos hl]
  first|with_reducible refine ks [] (And.intro @zZ_ (And.intro @rdt (@hl))) ?_|refine kp (And.intro @zZ_ (And.intro @rdt (@hl))) ?_
  refine⟨_,(ke @zZ_), ?_⟩
  exact⟨Ext.refl w _,rfl,X,G,List.Perm.refl _,rfl,hA.up⟩
 ·rw[if_neg hl]
  have hl':t.light=false:=by simpa using hl
  first|with_reducible refine ks [] (And.intro @zZ_ (And.intro @rdt (@hl'))) ?_|refine kp (And.intro @zZ_ (And.intro @rdt (@hl'))) ?_
  refine kq (And.intro @zZ_ @rdt) ?_
  refine Ow.callX (X:=X) (Y:= [(bt,tkO t)]) rfl rfl rfl Tryz.call47 (fun w' hw' hX' hn'=>Zn_ X G S t.dir w' hX' hn' hA.P) (fun v4 D4 hC4 hS4=> ?_)
  obtain⟨rfl,G',hbd,hP'⟩:=hS4
  refine kq @zZ_ ?_
  first|with_reducible refine ks [] @zZ_ ?_|refine kp @zZ_ ?_
  refine⟨_,(ke @zZ_), ?_⟩
  exact⟨(Ext.refl w _).came hC4,rfl,D4,G',List.Perm.refl _,hbd,hA.step hP' (QC_ S _ [] []) (Nat.zero_le _) (Nat.zero_le _)⟩
theorem VR_ (X:ze_) (G:DkG) (S:DiskL) (N bt:Nat) (t:TkL) (w:World) (hX: ∀p,p∈X++ [(bt,tkO t)]→w.heap[p.1]? =some p.2) (hn: (keys (X++ [(bt,tkO t)])).Nodup) (hA:DkA X G S N) (hN:N<900000) (hB:TkB t):
  Rets Tryz.prog 62 #[vp bt 0,vp G.bd 0] w (XS w (X++ [(bt,tkO t)]) (PhS G bt (ac9_ t S) (N+1))):=by
 refine Rets.enterX Tryz.func62 rfl (rs:= [.tmp 4, .tmp 5]) Tryz.results62 Tryz.ntmps62 hX hn ?_
 refine kf ?_
 have hbx:=(jW_ hn).1
 have rdt:=(jW_ hn).2 X (tkO t) hbx w
 have hnl:=vk_ hB
 have hnd:t.name.length≤900000:=hB.name
 have hdl:=hB.data
 have hpd:=hA.pend (by omega)
 have hus:=hA.used (by omega)
 unfold ac9_
 first|with_reducible refine ks [2] @zZ_ ?_|refine kp @zZ_ ?_
 refine Cw.regionO [0,1,2,3,5,6,7,10,11,12,4,8,9,13,14,15] [14] rfl (by kernel_rfl) (by kernel_rfl) ?_
 simp only[zj_, ↓zf_, ↓zc_, ↓zw_, ↓zv_,zd_]
 refine kq (And.intro @zZ_ @rdt) ?_
 refine Ow.callX (X:=X) (Y:= [(bt,tkO t)]) rfl rfl rfl Tryz.call89 (fun w' hw' hX' hn'=>abT_ X G S t.dir (jw_ t.name) t.name w' hX' hn' hA.P (by omega) (by omega) hpd) (fun v4 D4 hC4 hS4=> ?_)
 obtain⟨rfl,G',hbd,hP'⟩:=hS4
 refine kq @zZ_ ?_
 refine Cw.permL (M:=(bt,tkO t)::D4) (by classical exact List.perm_iff_count.2 fun a=>by simp only[List.count_append,List.count_cons,List.count_nil]<;>omega) ?_
 have hA':=hA.step hP' (Ju_ S _ _ _) (by omega) (by omega)
 have hE:=(Ext.refl w (X++ [(bt,tkO t)])).came hC4
 generalize j7_ S t.dir (jw_ t.name) t.name=q at*
 obtain⟨S',e⟩:=q
 simp only at hA' ⊢
 have hi: ((e:Int) !=0)=(e !=0):=by
  cases e with
  |zero=>rfl
  |succ n=>rfl
 cases hm:t.made with
 |true=>
  rw[Bool.true_and]
  first|with_reducible refine ks [] (And.intro @zZ_ (And.intro @hi (@hm))) ?_|refine kp (And.intro @zZ_ (And.intro @hi (@hm))) ?_
  refine⟨_,(ke @zZ_), ?_⟩
  exact⟨(hE.perm (List.perm_append_comm (l₁:= [(bt,tkO t)]) (l₂:=D4))).keys rfl,rfl,D4,G',List.perm_append_comm (l₁:=D4) (l₂:= [_]),hbd,hA'⟩
 |false=>
  rw[Bool.false_and]
  first|with_reducible refine ks [] (And.intro @zZ_ (And.intro @hi (@hm))) ?_|refine kp (And.intro @zZ_ (And.intro @hi (@hm))) ?_
  refine⟨_,(ke @zZ_), ?_⟩
  exact⟨(hE.perm (List.perm_append_comm (l₁:= [(bt,tkO t)]) (l₂:=D4))).keys rfl,rfl,D4,G',List.perm_append_comm (l₁:=D4) (l₂:= [_]),hbd,hA'⟩
end Go.Proofs
end
section
open Go Go.Proofs Go.Sx Go.StP
namespace Go.Proofs
set_option maxRecDepth 10000
set_option maxHeartbeats 1000000
set_option linter.unusedSimpArgs false
def phF (n:Nat):FuncId:=match n with
 |0=>58
 |1=>59
 |2=>60
 |3=>61
 |4=>62
 |_=>63
def stV:List Value:= [.func (.func (phF 0)) #[] #[], .func (.func (phF 1)) #[] #[], .func (.func (phF 2)) #[] #[], .func (.func (phF 3)) #[] #[], .func (.func (phF 4)) #[] #[], .func (.func (phF 5)) #[] #[]]
def stO:Obj:= .cells stV.toArray 90 (0,0)
theorem ao6_ (n m:Nat) (h:n<6):zk_ (some (false,m)) (some stO) n=some (.func (.func (phF n)) #[] #[]):=by
 rcases(by omega:n=0∨n=1∨n=2∨n=3∨n=4∨n=5) with rfl|rfl|rfl|rfl|rfl|rfl<;>rfl
theorem aoI_ (n:Nat) (h:n<6) (X:ze_) (G:DkG) (S:DiskL) (N bt:Nat) (t:TkL) (w:World) (hX: ∀p,p∈X++ [(bt,tkO t)]→w.heap[p.1]? =some p.2) (hn: (keys (X++ [(bt,tkO t)])).Nodup) (hA:DkA X G S N) (hN:N<900000) (hB:TkB t):
  Rets Tryz.prog (phF n) #[vp bt 0,vp G.bd 0] w (XS w (X++ [(bt,tkO t)]) (PhS G bt (phT n t S) (N+1))):=by
 rcases(by omega:n=0∨n=1∨n=2∨n=3∨n=4∨n=5) with rfl|rfl|rfl|rfl|rfl|rfl
 ·exact afX_ X G S N bt t w hX hn hA hN hB
 ·exact WB_ X G S N bt t w hX hn hA hN hB
 ·exact WJ_ X G S N bt t w hX hn hA hN hB
 ·exact adk_ X G S N bt t w hX hn hA hN hB
 ·exact VR_ X G S N bt t w hX hn hA hN hB
 ·exact Wq_ X G S N bt t w hX hn hA hN hB
theorem apH_ (n:Nat) (h:n<6): ∀a w,(callFunc (phF n) a).run Tryz.prog w= .ok (.enter (phF n) a) w:=by
 rcases(by omega:n=0∨n=1∨n=2∨n=3∨n=4∨n=5) with rfl|rfl|rfl|rfl|rfl|rfl
 ·exact Tryz.call58
 ·exact Tryz.call59
 ·exact Tryz.call60
 ·exact Tryz.call61
 ·exact Tryz.call62
 ·exact Tryz.call63
theorem jn_ (bt:Nat) (t:TkL) (w:World) (hX:w.heap[bt]? =some (tkO t)):Rets Tryz.prog 13 #[vp bt 0] w (fun v D=>v= .bool t.ended∧D= []):=by
 have hnl:=arU_ bt 0
 refine Rets.enterV Tryz.func13 rfl (rs:= [.tmp 2]) Tryz.results13 Tryz.ntmps13 ?_
 refine kf ?_
 first|with_reducible refine ks [] (And.intro @hX @hnl) ?_|refine kp (And.intro @hX @hnl) ?_
 refine⟨_,(ke @Nat.add_zero),trivial, ?_⟩
 rfl
theorem alG_:qM_ (xX_ Tryz.prog 90) (zK_ Tryz.prog 90) [(0, .func (.func (phF 0)) #[] #[]),(1, .func (.func (phF 1)) #[] #[]),(2, .func (.func (phF 2)) #[] #[]),(3, .func (.func (phF 3)) #[] #[]),(4, .func (.func (phF 4)) #[] #[]),(5, .func (.func (phF 5)) #[] #[])]=some (.agg stV.toArray):=by
 rw[show xX_ Tryz.prog 90=some [(0,1),(1,1),(2,1),(3,1),(4,1),(5,1)] from id (by kernel_rfl),Tryz.zr90];rfl
theorem Jm_:zu_ (some (true,6)) (some (.cells #[.nilFunc, .nilFunc, .nilFunc, .nilFunc, .nilFunc, .nilFunc] 90 (0,0))) 0 (.agg stV.toArray)=some stO:=(rfl)
theorem KZ_ (w:World):Rets Tryz.prog 33 #[] w (fun v D=>v= .agg stV.toArray∧D= []):=by
 refine Rets.enterV Tryz.func33 rfl (rs:= [.cell 0 90]) Tryz.results33 Tryz.ntmps33 ?_
 refine kf ?_
 first|with_reducible refine ks [] @Nat.add_zero ?_|refine kp @Nat.add_zero ?_
 refine Ow.alloc rfl rfl Tryz.zr90 fun b1 hb1 hw1=> ?_
 refine ko @Nat.add_zero ?_
 refine Ow.build (.agg stV.toArray) rfl alG_ ?_
 refine ko @Jm_ ?_
 first|with_reducible refine ks [] @Jm_ ?_|refine kp @Jm_ ?_
 refine⟨_,(ke @Nat.add_zero),⟨hw1,trivial⟩, ?_⟩
 rfl
set_option linter.defProp false
def z8_:=And.intro (And.intro (And.intro (@zn_) (@zm_)) (And.intro (@Wn_) (And.intro (@WC_) (@Wa_)))) (And.intro (And.intro (@WF_) (And.intro (@Wj_) (@WE_))) (And.intro (@VS_) (And.intro (@Sx.tup2_0) (@Sx.tup2_1))))
theorem ibeq (n k:Nat): ((n:Int)==(k:Int))=(n==k):=by
 rw[Bool.eq_iff_iff,beq_iff_eq,beq_iff_eq]
 omega
structure SG where
 lab:Nat
 did:Bool
 e:Nat
 t:TkL
 S:DiskL
 G:DkG
 X:ze_
 b8:Nat
 c:Nat
def SJ (w:World) (L0:ze_) (n bd bt N:Nat) (R:StR) (g:SG):Prop:=
 Ext w L0 ((bt,tkO g.t):: (g.b8,stO)::g.X)∧(keys ((bt,tkO g.t):: (g.b8,stO)::g.X)).Nodup∧n≤g.b8∧g.G.bd=bd∧DkA g.X g.G g.S (N+g.c)∧TkB g.t∧
 ((g.lab=0∧g.c+ (6 - g.t.next)≤6∧g.t.next<6∧qX_ (6 - g.t.next) g.t g.S=R)∨
 (g.lab=1∧g.c≤6∧ ∃r:PhR,g.t=nxT r∧g.S=r.S∧g.e=r.e∧xg_ r=R))
def SL (g:SG):Nat:=match g.lab with
 |0=>0
 |_=>1
theorem SL0 (a b c d e f g h):SL ⟨0,a,b,c,d,e,f,g,h⟩=0:=rfl
def SS (g:SG):List (Nat×Value):= [(6, .bool g.did),(7,vi (g.e:Nat)),(8,vp g.b8 0)]
def SH (bt:Nat) (g:SG):ze_:=(bt,tkO g.t):: (g.b8,stO)::g.X
def StS (G:DkG) (bt:Nat) (R:StR) (N:Nat) (v:Value) (D:ze_):Prop:=v= .tuple #[.bool R.done,vi (R.e:Nat)]∧ ∃X' G',(X'++ [(bt,tkO R.t)]).Perm D∧G'.bd=G.bd∧DkA X' G' R.S N
set_option maxHeartbeats 12000000 in
theorem Vv_ (X:ze_) (G:DkG) (S:DiskL) (N bt:Nat) (t:TkL) (w:World) (hX: ∀p,p∈X++ [(bt,tkO t)]→w.heap[p.1]? =some p.2) (hn: (keys (X++ [(bt,tkO t)])).Nodup) (hA:DkA X G S N) (hN:N<800000) (hB:TkB t) (hne:t.ended=false→t.next<6):
  Rets Tryz.prog 15 #[vp bt 0,vp G.bd 0] w (XS w (X++ [(bt,tkO t)]) (StS G bt (jI_ t S) (N+7))):=by
 refine Rets.enterX Tryz.func15 rfl (rs:= [.tmp 4, .tmp 5]) Tryz.results15 Tryz.ntmps15 hX hn ?_
 refine kf ?_
 have hbx:=(jW_ hn).1
 have rdt:=(jW_ hn).2 X (tkO t) hbx w
 unfold jI_
 first|with_reducible refine ks [] @z8_ ?_|refine kp @z8_ ?_
 refine Cw.scopeL (G:=SG) (fun g=>SL g) [9,10,4,5,6,7,11,8,13,14,15,16,17,18,19,20,21,12,22,23,24,25,26,27,28,29,30,31,32,33,34,35,36,37,38,39,40,41,42,43,44,45,46,47,48,49,50,51,52,53,54,55,56,57,58,59,60,61,62,63,64,65,66,67,68,69,70,71,72,73,74,75,76,77,78,79,80,81,82,83,84,85,86,87,88,89] (fun g=>SS g) (fun g=>SH bt g) (fun g=>SJ w (X++ [(bt,tkO t)]) w.heap.size G.bd bt N (if t.ended=true then⟨false,15,t,S⟩ else qX_ (6 - t.next) t S) g) (fun g=>(if g.lab=0 then 6 - g.t.next+1 else 0)) ?_ ?_ ?_
 ·intro g
  unfold SL
  split<;>rfl
 ·intro g j hg
  obtain⟨lab,did,e,t1,S1,G1,X1,b8,c⟩:=g
  obtain⟨hE,hnd,hb8,hbd,hA1,hB1,hg⟩:=hg
  simp only at hE hnd hb8 hbd hA1 hB1 hg
  rcases hg with⟨rfl,hc,hnx,hR⟩ | ⟨rfl,hc,r,rfl,rfl,rfl,hR⟩
  ·simp only[SL,SS,SH]
   simp only[Z6_,hasL,Bool.or_false,Bool.false_or,Bool.or_true,Bool.true_or,Nat.reduceBEq,beq_self_eq_true, ↓reduceIte,Bool.false_eq_true]
   refine kv ?_
   try with_reducible refine QL_ ?_
   have hk:=hnd
   simp only[keys,List.map_cons,List.nodup_cons,List.mem_cons,not_or] at hk
   have hb3:bt≠b8:=hk.1.1
   have hb1:bt∉keys X1:=hk.1.2
   have hb2:b8∉keys X1:=hk.2.1
   have rd8: ∀o w,zy_ w ((bt,o):: (b8,stO)::X1) b8=some stO:=fun o w=>za_ (by simp[Sx.look,hb3])
   have hix: ∀m,zN_ (.arr 6 m) (vp b8 0) (some (t1.next:Int))=some (vp b8 (t1.next*m.2)):=fun m=>by
    rw[Zm_ _ _ _ _ _ ⟨by omega,by omega⟩];simp
   have hld: ∀m,zk_ (some (false,m)) (some stO) t1.next=some (.func (.func (phF t1.next)) #[] #[]):=fun m=>ao6_ _ m hnx
   first|with_reducible refine ks [] (And.intro @z8_ (And.intro @rd8 (And.intro @hix (@hld)))) ?_|refine kp (And.intro @z8_ (And.intro @rd8 (And.intro @hix (@hld)))) ?_
   refine Ow.permL (M:=(X1++ [(bt,tkO t1)])++ [(b8,stO)]) (by classical exact List.perm_iff_count.2 fun a=>by simp only[List.count_append,List.count_cons,List.count_nil]<;>omega) ?_
   refine Ow.callFnX2 (X:=X1++ [(bt,tkO t1)]) (Y:= [(b8,stO)]) (b:=vp bt 0) (b2:=vp G.bd 0) rfl rfl rfl rfl rfl rfl (apH_ t1.next hnx) (fun w' hw' hX' hn'=>by rw[←hbd];exact aoI_ t1.next hnx X1 G1 S1 (N+c) bt t1 w' hX' hn' hA1 (by omega) hB1) (fun v4 D4 hC4 hS4=> ?_)
   obtain⟨rfl,X2,G2,hp2,hbd2,hA2⟩:=hS4
   obtain⟨hr1,hr2,hr3,hr4,hr5,hr6⟩:=al1_ t1.next t1 S1
   have hB2:TkB (phT t1.next t1 S1).t:=⟨by rw[hr2];exact hB1.name,by rw[hr3];exact hB1.data⟩
   have hBn:TkB (nxT (phT t1.next t1 S1)):=⟨hB2.name,hB2.data⟩
   have hBf:TkB (xS_ (phT t1.next t1 S1)):=⟨hB2.name,hB2.data⟩
   obtain⟨q,hq⟩: ∃q,6 - t1.next=q+1:=⟨5 - t1.next,by omega⟩
   rw[hq] at hR
   replace hR: (if(phT t1.next t1 S1).e≠0 then xg_ (phT t1.next t1 S1)
    else if(phT t1.next t1 S1).did=false∧KG_ (nxT (phT t1.next t1 S1))=false then qX_ q (xS_ (phT t1.next t1 S1)) (phT t1.next t1 S1).S
    else⟨KG_ (nxT (phT t1.next t1 S1)),0,xS_ (phT t1.next t1 S1),(phT t1.next t1 S1).S⟩)=_:=hR
   generalize phT t1.next t1 S1=r at*
   have hp3: ((bt,tkO r.t):: (b8,stO)::X2).Perm (D4++ [(b8,stO)]):=(by simpa using(List.perm_append_comm (l₁:= [(bt,tkO r.t),(b8,stO)]) (l₂:=X2)): ((bt,tkO r.t):: (b8,stO)::X2).Perm (X2++ [(bt,tkO r.t),(b8,stO)])).trans (by simpa using hp2.append_right [(b8,stO)])
   have hE1:Ext w (X++ [(bt,tkO t)]) ((X1++ [(bt,tkO t1)])++ [(b8,stO)]):=hE.perm (by classical exact List.perm_iff_count.2 fun a=>by simp only[List.count_append,List.count_cons,List.count_nil]<;>omega)
   have hE2:Ext w (X++ [(bt,tkO t)]) ((bt,tkO r.t):: (b8,stO)::X2):=(Ext.came hE1 hC4).perm hp3
   refine Ow.permL hp3 ?_
   refine Ow.world fun w9 hw9=> ?_
   have hnd2: (keys ((bt,tkO r.t):: (b8,stO)::X2)).Nodup:=hw9.nodup
   have hst7: ∀a,zu_ (some (a,1)) (some (tkO r.t)) 4 (vi ((r.t.next:Int)+1))=some (tkO (nxT r)):=fun a=>aaM_ r.t (r.t.next+1) a
   have hnx2:r.t.next<6:=by omega
   have hA3:DkA (X2++ [(b8,stO)]) G2 r.S (N+7):=⟨hA2.P.mono (X':=X2++ [(b8,stO)]) fun b o h=>zi_ h,hA2.H,hA2.B.mono (by omega)⟩
   refine ko @z8_ ?_
   by_cases he:r.e=0
   ·have e0: ((r.e:Int) !=0)=false:=by rw[he];rfl
    rw[if_neg (fun h=>h he)] at hR
    have hst9: ∀a,zu_ (some (a,1)) (some (tkO (nxT r))) 6 (.bool (KG_ (nxT r)))=some (tkO (xS_ r)):=fun a=>J7_ (nxT r) _ a
    have hfe: (xS_ r).ended=KG_ (nxT r):=rfl
    have hen:KG_ (nxT r)=((nxT r).next==6|| ((nxT r).light&& (nxT r).next==5)):=rfl
    have i6: (((nxT r).next:Int)==6)=((nxT r).next==6):=ibeq _ 6
    have i5: (((nxT r).next:Int)==5)=((nxT r).next==5):=ibeq _ 5
    cases c6: ((nxT r).next==6) with
    |true=>
     have h9:KG_ (nxT r)=true:=by rw[hen,c6];rfl
     rw[c6] at i6
     rw[h9] at hst9 hfe hR
     rw[if_neg (fun h=>by cases h.2)] at hR
     cases hd:r.did with
     |true=>
      first|with_reducible refine ks [] (And.intro @z8_ (And.intro @hst7 (And.intro @e0 (And.intro @hst9 (And.intro @i6 (@hfe)))))) ?_|refine kp (And.intro @z8_ (And.intro @hst7 (And.intro @e0 (And.intro @hst9 (And.intro @i6 (@hfe)))))) ?_
      refine⟨_,(ke @z8_), ?_⟩
      rw[←hR]
      exact⟨hE2.keys rfl,rfl,X2++ [(b8,stO)],G2,(by classical exact List.perm_iff_count.2 fun a=>by simp only[List.count_append,List.count_cons,List.count_nil]<;>omega),hbd2.trans hbd,hA3⟩
     |false=>
      first|with_reducible refine ks [] (And.intro @z8_ (And.intro @hst7 (And.intro @e0 (And.intro @hst9 (And.intro @i6 (@hfe)))))) ?_|refine kp (And.intro @z8_ (And.intro @hst7 (And.intro @e0 (And.intro @hst9 (And.intro @i6 (@hfe)))))) ?_
      refine⟨_,(ke @z8_), ?_⟩
      rw[←hR]
      exact⟨hE2.keys rfl,rfl,X2++ [(b8,stO)],G2,(by classical exact List.perm_iff_count.2 fun a=>by simp only[List.count_append,List.count_cons,List.count_nil]<;>omega),hbd2.trans hbd,hA3⟩
    |false=>
     have hq6:r.t.next+1≠6:=beq_eq_false_iff_ne.1 c6
     rw[c6] at i6
     cases cl: (nxT r).light with
     |false=>
      have h9:KG_ (nxT r)=false:=by rw[hen,c6,cl];rfl
      rw[h9] at hst9 hfe hR
      cases hd:r.did with
      |true=>
       rw[hd,if_neg (fun h=>by cases h.1)] at hR
       first|with_reducible refine ks [] (And.intro @z8_ (And.intro @hst7 (And.intro @e0 (And.intro @hst9 (And.intro @i6 (And.intro @cl (@hfe))))))) ?_|refine kp (And.intro @z8_ (And.intro @hst7 (And.intro @e0 (And.intro @hst9 (And.intro @i6 (And.intro @cl (@hfe))))))) ?_
       refine⟨_,(ke @z8_), ?_⟩
       rw[←hR]
       exact⟨hE2.keys rfl,rfl,X2++ [(b8,stO)],G2,(by classical exact List.perm_iff_count.2 fun a=>by simp only[List.count_append,List.count_cons,List.count_nil]<;>omega),hbd2.trans hbd,hA3⟩
      |false=>
       rw[hd,if_pos ⟨rfl,rfl⟩] at hR
       first|with_reducible refine ks [] (And.intro @z8_ (And.intro @hst7 (And.intro @e0 (And.intro @hst9 (And.intro @i6 (And.intro @cl (@hfe))))))) ?_|refine kp (And.intro @z8_ (And.intro @hst7 (And.intro @e0 (And.intro @hst9 (And.intro @i6 (And.intro @cl (@hfe))))))) ?_
       exact Jump.mk ⟨0,false,r.e,xS_ r,r.S,G2,X2,b8,c+1⟩ rfl (by show 6 - (r.t.next+1)+1<6 - t1.next+1;omega) ⟨hE2.keys rfl,hnd2,hb8,hbd2.trans hbd,hA2,hBf, .inl ⟨rfl,by show c+1+ (6 - (r.t.next+1))≤6;omega,by show r.t.next+1<6;omega,by show qX_ (6 - (r.t.next+1)) _ _=_;rw[show 6 - (r.t.next+1)=q by omega];exact hR⟩⟩ rfl rfl
     |true=>
      cases c5: ((nxT r).next==5) with
      |true=>
       have h9:KG_ (nxT r)=true:=by rw[hen,c6,cl,c5];rfl
       rw[c5] at i5
       rw[h9] at hst9 hfe hR
       rw[if_neg (fun h=>by cases h.2)] at hR
       cases hd:r.did with
       |true=>
        first|with_reducible refine ks [] (And.intro @z8_ (And.intro @hst7 (And.intro @e0 (And.intro @hst9 (And.intro @i6 (And.intro @i5 (And.intro @cl (@hfe)))))))) ?_|refine kp (And.intro @z8_ (And.intro @hst7 (And.intro @e0 (And.intro @hst9 (And.intro @i6 (And.intro @i5 (And.intro @cl (@hfe)))))))) ?_
        refine⟨_,(ke @z8_), ?_⟩
        rw[←hR]
        exact⟨hE2.keys rfl,rfl,X2++ [(b8,stO)],G2,(by classical exact List.perm_iff_count.2 fun a=>by simp only[List.count_append,List.count_cons,List.count_nil]<;>omega),hbd2.trans hbd,hA3⟩
       |false=>
        first|with_reducible refine ks [] (And.intro @z8_ (And.intro @hst7 (And.intro @e0 (And.intro @hst9 (And.intro @i6 (And.intro @i5 (And.intro @cl (@hfe)))))))) ?_|refine kp (And.intro @z8_ (And.intro @hst7 (And.intro @e0 (And.intro @hst9 (And.intro @i6 (And.intro @i5 (And.intro @cl (@hfe)))))))) ?_
        refine⟨_,(ke @z8_), ?_⟩
        rw[←hR]
        exact⟨hE2.keys rfl,rfl,X2++ [(b8,stO)],G2,(by classical exact List.perm_iff_count.2 fun a=>by simp only[List.count_append,List.count_cons,List.count_nil]<;>omega),hbd2.trans hbd,hA3⟩
      |false=>
       have h9:KG_ (nxT r)=false:=by rw[hen,c6,cl,c5];rfl
       rw[c5] at i5
       rw[h9] at hst9 hfe hR
       cases hd:r.did with
       |true=>
        rw[hd,if_neg (fun h=>by cases h.1)] at hR
        first|with_reducible refine ks [] (And.intro @z8_ (And.intro @hst7 (And.intro @e0 (And.intro @hst9 (And.intro @i6 (And.intro @i5 (And.intro @cl (@hfe)))))))) ?_|refine kp (And.intro @z8_ (And.intro @hst7 (And.intro @e0 (And.intro @hst9 (And.intro @i6 (And.intro @i5 (And.intro @cl (@hfe)))))))) ?_
        refine⟨_,(ke @z8_), ?_⟩
        rw[←hR]
        exact⟨hE2.keys rfl,rfl,X2++ [(b8,stO)],G2,(by classical exact List.perm_iff_count.2 fun a=>by simp only[List.count_append,List.count_cons,List.count_nil]<;>omega),hbd2.trans hbd,hA3⟩
       |false=>
        rw[hd,if_pos ⟨rfl,rfl⟩] at hR
        first|with_reducible refine ks [] (And.intro @z8_ (And.intro @hst7 (And.intro @e0 (And.intro @hst9 (And.intro @i6 (And.intro @i5 (And.intro @cl (@hfe)))))))) ?_|refine kp (And.intro @z8_ (And.intro @hst7 (And.intro @e0 (And.intro @hst9 (And.intro @i6 (And.intro @i5 (And.intro @cl (@hfe)))))))) ?_
        exact Jump.mk ⟨0,false,r.e,xS_ r,r.S,G2,X2,b8,c+1⟩ rfl (by show 6 - (r.t.next+1)+1<6 - t1.next+1;omega) ⟨hE2.keys rfl,hnd2,hb8,hbd2.trans hbd,hA2,hBf, .inl ⟨rfl,by show c+1+ (6 - (r.t.next+1))≤6;omega,by show r.t.next+1<6;omega,by show qX_ (6 - (r.t.next+1)) _ _=_;rw[show 6 - (r.t.next+1)=q by omega];exact hR⟩⟩ rfl rfl
   ·have e0: ((r.e:Int) !=0)=true:=by
     rw[bne_iff_ne];omega
    rw[if_pos he] at hR
    first|with_reducible refine ks [] (And.intro @z8_ (And.intro @hst7 (@e0))) ?_|refine kp (And.intro @z8_ (And.intro @hst7 (@e0))) ?_
    exact Jump.mk ⟨1,r.did,r.e,nxT r,r.S,G2,X2,b8,c+1⟩ rfl (by show 0<6 - t1.next+1;omega) ⟨hE2.keys rfl,hnd2,hb8,hbd2.trans hbd,hA2,hBn, .inr ⟨rfl,by show c+1≤6;omega,r,rfl,rfl,rfl,hR⟩⟩ rfl rfl
  ·simp only[SL,SS,SH]
   simp only[Z6_,hasL,Bool.or_false,Bool.false_or,Bool.or_true,Bool.true_or,Nat.reduceBEq,beq_self_eq_true, ↓reduceIte,Bool.false_eq_true]
   refine kv ?_
   try with_reducible refine QL_ ?_
   have hk:=hnd
   simp only[keys,List.map_cons,List.nodup_cons,List.mem_cons,not_or] at hk
   have hb3:bt≠b8:=hk.1.1
   have hb1:bt∉keys X1:=hk.1.2
   have hb2:b8∉keys X1:=hk.2.1
   have rd8: ∀o w,zy_ w ((bt,o):: (b8,stO)::X1) b8=some stO:=fun o w=>za_ (by simp[Sx.look,hb3])
   obtain⟨T1,hT1⟩: ∃T1,T1=({nxT r with ended:=true}:TkL):=⟨_,rfl⟩
   have hst: ∀a,zu_ (some (a,1)) (some (tkO (nxT r))) 6 (.bool true)=some (tkO T1):=fun a=>by rw[hT1];exact J7_ (nxT r) true a
   have d1:T1.dir=r.t.dir:=by rw[hT1];rfl
   have d2:T1.name=r.t.name:=by rw[hT1];rfl
   have d3:T1.made=(nxT r).made:=by rw[hT1]
   have hnd1:T1.name.length≤900000:=by rw[d2];exact hB1.name
   have hBT: (jw_ T1.name).length≤900004:=by rw[d2];exact vk_ (t:=nxT r) hB1
   have hA3:DkA (X1++ [(b8,stO)]) G1 r.S (N+7):=⟨hA1.P.mono (X':=X1++ [(b8,stO)]) fun b o h=>zi_ h,hA1.H,hA1.B.mono (by omega)⟩
   by_cases hm: (nxT r).made=true∧r.e≠9
   ·have m1:T1.made=true:=d3.trans hm.1
    have e9: ((r.e:Int) !=9)=true:=by
     rw[bne_iff_ne]
     have:=hm.2
     omega
    have hw:xg_ r=⟨false,r.e,T1,(zR_ r.S T1.dir (jw_ T1.name)).1⟩:=by
     unfold xg_
     rw[if_pos hm,d1,d2,hT1]
    first|with_reducible refine ks [] (And.intro @z8_ (And.intro @hst (And.intro @m1 (@e9)))) ?_|refine kp (And.intro @z8_ (And.intro @hst (And.intro @m1 (@e9)))) ?_
    refine Cw.permL (M:=X1++ [(bt,tkO T1),(b8,stO)]) (by classical exact List.perm_iff_count.2 fun a=>by simp only[List.count_append,List.count_cons,List.count_nil]<;>omega) ?_
    have rdT:zy_ w (X1++ [(bt,tkO T1),(b8,stO)]) bt=some (tkO T1):=za_ (by rw[zM_ hb1];simp[Sx.look])
    have hsp:=fun(w':World) (hX': ∀p,p∈X1→w'.heap[p.1]? =some p.2) (hn': (keys X1).Nodup)=>v9_ X1 G1 r.S T1.dir (jw_ T1.name) w' hX' hn' hA1.P (by omega) (hA1.pend (by omega))
    simp only[hbd] at hsp
    refine Cw.regionO [0,1,2,3,5,6,7,4,8,9,10] [10] rfl (by kernel_rfl) (by kernel_rfl) ?_
    simp only[zj_, ↓zf_, ↓zc_, ↓zw_, ↓zv_,zd_]
    refine kq (And.intro @z8_ @rdT) ?_
    refine Ow.callX (X:=X1) (Y:= [(bt,tkO T1),(b8,stO)]) rfl rfl rfl Tryz.call34 (fun w' hw' hX' hn'=>hsp w' hX' hn') (fun v4 D4 hC4 hS4=> ?_)
    obtain⟨rfl,G',hbd',hP'⟩:=hS4
    refine kq @z8_ ?_
    first|with_reducible refine ks [] @z8_ ?_|refine kp @z8_ ?_
    refine⟨_,(ke @z8_), ?_⟩
    rw[←hR,hw]
    have hA4:=hA1.step hP' (wN_ r.S T1.dir (jw_ T1.name) []) (by omega) (Nat.zero_le _)
    have hE1:Ext w (X++ [(bt,tkO t)]) (X1++ [(bt,tkO T1),(b8,stO)]):=(hE.keys (D':=(bt,tkO T1):: (b8,stO)::X1) rfl).perm (by classical exact List.perm_iff_count.2 fun a=>by simp only[List.count_append,List.count_cons,List.count_nil]<;>omega)
    exact⟨hE1.came hC4,rfl,D4++ [(b8,stO)],G',(by classical exact List.perm_iff_count.2 fun a=>by simp only[List.count_append,List.count_cons,List.count_nil]<;>omega),hbd',hA4.P.mono (X':=D4++ [(b8,stO)]) fun b o h=>zi_ h,hA4.H,hA4.B.mono (by omega)⟩
   ·have hw:xg_ r=⟨false,r.e,T1,r.S⟩:=by
     unfold xg_
     rw[if_neg hm,hT1]
    by_cases hm1: (nxT r).made=true
    ·have h9:r.e=9:=Decidable.byContradiction fun h=>hm ⟨hm1,h⟩
     have m1:T1.made=true:=d3.trans hm1
     have e9: ((r.e:Int) !=9)=false:=by rw[h9];rfl
     first|with_reducible refine ks [] (And.intro @z8_ (And.intro @hst (And.intro @m1 (@e9)))) ?_|refine kp (And.intro @z8_ (And.intro @hst (And.intro @m1 (@e9)))) ?_
     refine⟨_,(ke @z8_), ?_⟩
     rw[←hR,hw]
     exact⟨hE.keys rfl,rfl,X1++ [(b8,stO)],G1,(by classical exact List.perm_iff_count.2 fun a=>by simp only[List.count_append,List.count_cons,List.count_nil]<;>omega),hbd,hA3⟩
    ·have m1:T1.made=false:=d3.trans (by simpa using hm1)
     first|with_reducible refine ks [] (And.intro @z8_ (And.intro @hst (@m1))) ?_|refine kp (And.intro @z8_ (And.intro @hst (@m1))) ?_
     refine⟨_,(ke @z8_), ?_⟩
     rw[←hR,hw]
     exact⟨hE.keys rfl,rfl,X1++ [(b8,stO)],G1,(by classical exact List.perm_iff_count.2 fun a=>by simp only[List.count_append,List.count_cons,List.count_nil]<;>omega),hbd,hA3⟩
 ·intro key
  repeat ((try with_reducible refine Cw.go [999999] ?_);(simp(disch:=(first|assumption|omega| (simp only[w5_,wR_,UInt64.reduceToNat];try omega))) only[↓Sx.S0,Sx.S1,Tryz.fx,z8_,Nat.reduceAdd,Nat.reducePow,Int.reducePow,Nat.reduceBEq, ↓reduceIte,UInt8.reduceToNat,UInt16.reduceToNat,UInt32.reduceToNat,UInt64.reduceToNat,Int.reduceToNat]))
  refine Ow.callFV rfl Tryz.call13 (fun w' hw'=>jn_ bt t w' (hw'.has _ _ (List.mem_append_right _ (List.mem_singleton.2 rfl)))) ?_
  have htf:t.ended=true∨t.ended=false:=by cases t.ended<;>simp
  rcases htf with hte|hte
  ·refine ko (And.intro @z8_ @hte) ?_
   repeat ((try with_reducible refine Cw.go [999999] ?_);(simp(disch:=(first|assumption|omega| (simp only[w5_,wR_,UInt64.reduceToNat];try omega))) only[↓Sx.S0,Sx.S1,Tryz.fx,z8_,Nat.reduceAdd,Nat.reducePow,Int.reducePow,Nat.reduceBEq, ↓reduceIte,UInt8.reduceToNat,UInt16.reduceToNat,UInt32.reduceToNat,UInt64.reduceToNat,Int.reduceToNat,hte]))
   refine⟨_,(ke @z8_), ?_⟩
   rw[if_pos hte]
   exact⟨Ext.refl w _,rfl,X,G,List.Perm.refl _,rfl,hA.P,hA.H,hA.B.mono (by omega)⟩
  ·have hie: (if t.ended=true then(⟨false,15,t,S⟩:StR) else qX_ (6 - t.next) t S)=qX_ (6 - t.next) t S:=by rw[if_neg (by rw[hte];simp)]
   refine ko (And.intro @z8_ @hte) ?_
   repeat ((try with_reducible refine Cw.go [999999] ?_);(simp(disch:=(first|assumption|omega| (simp only[w5_,wR_,UInt64.reduceToNat];try omega))) only[↓Sx.S0,Sx.S1,Tryz.fx,z8_,Nat.reduceAdd,Nat.reducePow,Int.reducePow,Nat.reduceBEq, ↓reduceIte,UInt8.reduceToNat,UInt16.reduceToNat,UInt32.reduceToNat,UInt64.reduceToNat,Int.reduceToNat,hte]))
   refine Ow.callFV rfl Tryz.call33 (fun w' hw'=>KZ_ w') ?_
   refine ko @z8_ ?_
   repeat ((try with_reducible refine Cw.go [999999] ?_);(simp(disch:=(first|assumption|omega| (simp only[w5_,wR_,UInt64.reduceToNat];try omega))) only[↓Sx.S0,Sx.S1,Tryz.fx,z8_,Nat.reduceAdd,Nat.reducePow,Int.reducePow,Nat.reduceBEq, ↓reduceIte,UInt8.reduceToNat,UInt16.reduceToNat,UInt32.reduceToNat,UInt64.reduceToNat,Int.reduceToNat]))
   refine Ow.alloc rfl rfl Tryz.zr90 fun b8 hb8 hw8=> ?_
   rw[zh_]
   refine Ow.permL (M:=(b8, .cells #[.nilFunc, .nilFunc, .nilFunc, .nilFunc, .nilFunc, .nilFunc] 90 (0,0)):: (X++ [(bt,tkO t)])) (by classical exact List.perm_iff_count.2 fun a=>by simp only[List.count_append,List.count_cons,List.count_nil]<;>omega) ?_
   refine ko (And.intro @z8_ @Jm_) ?_
   repeat ((try with_reducible refine Cw.go [999999] ?_);(simp(disch:=(first|assumption|omega| (simp only[w5_,wR_,UInt64.reduceToNat];try omega))) only[↓Sx.S0,Sx.S1,Tryz.fx,z8_,Nat.reduceAdd,Nat.reducePow,Int.reducePow,Nat.reduceBEq, ↓reduceIte,UInt8.reduceToNat,UInt16.reduceToNat,UInt32.reduceToNat,UInt64.reduceToNat,Int.reduceToNat]))
   refine Cw.permL (M:=(bt,tkO t):: (b8,stO)::X) (by classical exact List.perm_iff_count.2 fun a=>by simp only[List.count_append,List.count_cons,List.count_nil]<;>omega) ?_
   refine Cw.world fun w9 hw9=> ?_
   have hnd9:=hw9.nodup
   have key0:=fun f'=>key (⟨0,false,0,t,S,G,X,b8,0⟩) f'
   simp only[Z6_,hasL,Bool.or_false,Bool.false_or,Bool.or_true,Bool.true_or,Nat.reduceBEq,beq_self_eq_true, ↓reduceIte,Bool.false_eq_true] at key0
   clear key
   simp only[SL0,Z6_,hasL,Bool.or_false,Bool.false_or,Bool.or_true,Bool.true_or,Nat.reduceBEq,beq_self_eq_true, ↓reduceIte,Bool.false_eq_true] at key0
   refine Cw.label ?_
   refine key0 _ ?_ ?_
   ·refine⟨(((Ext.refl w (X++ [(bt,tkO t)])).app (o:=stO) hw8).perm (by classical exact List.perm_iff_count.2 fun a=>by simp only[List.count_append,List.count_cons,List.count_nil]<;>omega)),hnd9,hw8,rfl,hA,hB, .inl ⟨rfl,by show 0+ (6 - t.next)≤6;omega,hne hte,hie.symm⟩⟩
   ·rfl
end Go.Proofs
end
section
open Go Go.Proofs Go.Sx Go.StP
namespace Go.Proofs
set_option maxRecDepth 10000
set_option maxHeartbeats 1000000
set_option linter.unusedSimpArgs false
theorem adv_: ∀ (f:Nat) (t:TkL) (S:DiskL),(qX_ f t S).t.name=t.name∧(qX_ f t S).t.data=t.data
 |0,_,_=>⟨rfl,rfl⟩
 |f+1,t,S=>by
  obtain⟨-,h2,h3,-⟩:=al1_ t.next t S
  have hw: (xg_ (phT t.next t S)).t.name=t.name∧(xg_ (phT t.next t S)).t.data=t.data:=by
   unfold xg_
   split<;>exact⟨h2,h3⟩
  obtain⟨-,f2,f3,-⟩:=aih_ t.next t S
  have ih:=adv_ f (xS_ (phT t.next t S)) (phT t.next t S).S
  rw[f2,f3] at ih
  unfold qX_
  split
  ·exact hw
  ·split
   ·exact ih
   ·exact⟨f2,f3⟩
theorem ao7_ {t:TkL} (h:TkB t) (S:DiskL):TkB (jI_ t S).t:=by
 unfold jI_
 split
 ·exact h
 ·exact⟨by rw[(adv_ _ t S).1];exact h.name,by rw[(adv_ _ t S).2];exact h.data⟩
theorem ajW_ {t:TkL} {S:DiskL} (he:t.ended=false) (hn:t.next<6): ((jI_ t S).done=true∨(jI_ t S).e≠0)∨((jI_ t S).t.ended=false∧t.next< (jI_ t S).t.next∧(jI_ t S).t.next<6):=by
 have hs:jI_ t S=qX_ (6 - t.next) t S:=by unfold jI_;rw[if_neg (by rw[he];simp)]
 rw[hs]
 rcases adJ_ (6 - t.next) t S (by omega) (by omega) with⟨h1,-⟩ | ⟨-,h2,-⟩ | ⟨-,-,h3,h4,h5,-⟩
 ·exact .inl (.inr h1)
 ·exact .inl (.inl h2)
 ·exact .inr ⟨h3,h4,h5⟩
theorem aqM_ (f:Nat) (t:TkL) (S:DiskL):runG (f+1) t S=(if(jI_ t S).done=true∨(jI_ t S).e≠0 then((jI_ t S).e,(jI_ t S).t,(jI_ t S).S) else runG f (jI_ t S).t (jI_ t S).S):=rfl
set_option linter.defProp false
def wY_:=And.intro (And.intro (@zn_) (@zm_)) (And.intro (@Sx.tup2_0) (@Sx.tup2_1))
structure RnG where
 f:Nat
 t:TkL
 S:DiskL
 G:DkG
 X:ze_
def RnS (G:DkG) (bt:Nat) (R:Nat×TkL×DiskL) (N:Nat) (v:Value) (D:ze_):Prop:=v=vi (R.1:Nat)∧ ∃X' G',(X'++ [(bt,tkO R.2.1)]).Perm D∧G'.bd=G.bd∧DkA X' G' R.2.2 N
theorem afn_ (X:ze_) (G:DkG) (S:DiskL) (N bt:Nat) (t:TkL) (w:World) (hX: ∀p,p∈X++ [(bt,tkO t)]→w.heap[p.1]? =some p.2) (hn: (keys (X++ [(bt,tkO t)])).Nodup) (hA:DkA X G S N) (hN:N<700000) (hB:TkB t) (he:t.ended=false) (hne:t.next<6):
  Rets Tryz.prog 43 #[vp G.bd 0,vp bt 0] w (XS w (X++ [(bt,tkO t)]) (RnS G bt (runG 6 t S) (N+42))):=by
 refine Rets.enterX Tryz.func43 rfl (rs:= [.tmp 4]) Tryz.results43 Tryz.ntmps43 hX hn ?_
 refine kf ?_
 first|with_reducible refine ks [] @wY_ ?_|refine kp @wY_ ?_
 refine Cw.loopG (G:=RnG) [8,9,10,7,11,12,5,6,13,14,15,16,17,18,4] (fun g=> []) (fun g=>g.X++ [(bt,tkO g.t)]) (fun g=>runG g.f g.t g.S=runG 6 t S∧6 - g.t.next≤g.f∧g.t.ended=false∧g.t.next<6∧g.G.bd=G.bd∧DkA g.X g.G g.S (N+7* (6 - g.f))∧TkB g.t∧g.f≤6∧Ext w (X++ [(bt,tkO t)]) (g.X++ [(bt,tkO g.t)])) (fun g=>g.f) ⟨6,t,S,G,X⟩ rfl rfl ?_ ?_
 ·exact⟨rfl,by show 6 - t.next≤6;omega,he,hne,rfl,hA,hB,Nat.le_refl 6,Ext.refl w _⟩
 ·intro g j hg
  refine kv ?_
  obtain⟨f,t1,S1,G1,X1⟩:=g
  obtain⟨hR,hf,hen,hnx,hbd,hA1,hB1,hf6,hE⟩:=hg
  simp only at hR hf hen hnx hbd hA1 hB1 hf6 hE
  obtain⟨f,rfl⟩: ∃q,f=q+1:=⟨f - 1,by omega⟩
  rw[aqM_] at hR
  first|with_reducible refine ks [] @wY_ ?_|refine kp @wY_ ?_
  have hsp:=fun(w':World) (hX': ∀p,p∈X1++ [(bt,tkO t1)]→w'.heap[p.1]? =some p.2) (hn': (keys (X1++ [(bt,tkO t1)])).Nodup)=>Vv_ X1 G1 S1 (N+7* (6 - (f+1))) bt t1 w' hX' hn' hA1 (by omega) hB1 (fun _=>hnx)
  simp only[hbd] at hsp
  refine Ow.callX (X:=X1++ [(bt,tkO t1)]) (Y:= []) (List.append_nil _).symm rfl rfl Tryz.call15 (fun w' hw' hX' hn'=>hsp w' hX' hn') (fun v4 D4 hC4 hS4=> ?_)
  obtain⟨rfl,X2,G2,hp2,hbd2,hA2⟩:=hS4
  rw[List.append_nil]
  have hE2:=(hE.came0 hC4).perm hp2
  have hst:=ajW_ (S:=S1) hen hnx
  have hsB:=ao7_ hB1 S1
  refine Ow.permL hp2 ?_
  generalize jI_ t1 S1=r at*
  have hA3:DkA X2 G2 r.S (N+42):=⟨hA2.P,hA2.H,hA2.B.mono (by omega)⟩
  by_cases hd:r.done=true
  ·rw[if_pos (.inl hd)] at hR
   refine ko (And.intro @wY_ @hd) ?_
   first|with_reducible refine ks [] (And.intro @wY_ @hd) ?_|refine kp (And.intro @wY_ @hd) ?_
   refine⟨_,(ke @wY_), ?_⟩
   rw[←hR]
   exact⟨hE2,rfl,X2,G2,List.Perm.refl _,hbd2.trans hbd,hA3⟩
  ·have hd':r.done=false:=by simpa using hd
   by_cases he0:r.e=0
   ·have e0: ((r.e:Int) !=0)=false:=by rw[he0];rfl
    rw[if_neg (fun h=>by rcases h with h|h;exact hd h;exact h he0)] at hR
    obtain⟨s1,s2,s3⟩:=hst.resolve_left (fun h=>by rcases h with h|h;exact hd h;exact h he0)
    refine ko (And.intro @wY_ (And.intro @hd' (@e0))) ?_
    first|with_reducible refine ks [] (And.intro @wY_ (And.intro @hd' (@e0))) ?_|refine kp (And.intro @wY_ (And.intro @hd' (@e0))) ?_
    exact Again.mk ⟨f,r.t,r.S,G2,X2⟩ (Nat.lt_succ_self f) ⟨hR,by show 6 - r.t.next≤f;omega,s1,s3,hbd2.trans hbd,⟨hA2.P,hA2.H,hA2.B.mono (by show _≤N+7* (6 - f);omega)⟩,hsB,by show f≤6;omega,hE2⟩ rfl rfl
   ·have e0: ((r.e:Int) !=0)=true:=by
     rw[bne_iff_ne];omega
    rw[if_pos (.inr he0)] at hR
    refine ko (And.intro @wY_ (And.intro @hd' (@e0))) ?_
    first|with_reducible refine ks [] (And.intro @wY_ (And.intro @hd' (@e0))) ?_|refine kp (And.intro @wY_ (And.intro @hd' (@e0))) ?_
    refine⟨_,(ke @wY_), ?_⟩
    rw[←hR]
    exact⟨hE2,rfl,X2,G2,List.Perm.refl _,hbd2.trans hbd,hA3⟩
end Go.Proofs
end
section
open Go Go.Proofs Go.Sx Go.StP
namespace Go.Proofs
set_option maxRecDepth 10000
set_option maxHeartbeats 400000
set_option linter.unusedSimpArgs false
theorem ami_ (dir name data:List UInt8) (light:Bool):qM_ (xX_ Tryz.prog 88) (zK_ Tryz.prog 88) [(0,vs dir),(1,vs name),(2,vs data),(3, .bool light)]=some (.agg #[vs dir,vs name,vs data, .bool light,vi 0, .bool false, .bool false]):=by
 rw[show xX_ Tryz.prog 88=some [(0,1),(1,1),(2,1),(3,1),(4,1),(5,1),(6,1)] from id (by kernel_rfl),Tryz.zr88];rfl
theorem ZW_ (dir name data:List UInt8) (light:Bool) (w:World):
  Rets Tryz.prog 11 #[vs dir,vs name,vs data, .bool light] w (fun v D=> ∃b,w.heap.size≤b∧v=vp b 0∧D= [(b,tkO (tk0 dir name data light))]):=by
 refine Rets.enter Tryz.func11 rfl (rs:= [.tmp 8]) Tryz.results11 Tryz.ntmps11 ?_
 refine kf ?_
 first|with_reducible refine ks [] @Nat.add_zero ?_|refine kp @Nat.add_zero ?_
 refine Ow.build (.agg #[vs dir,vs name,vs data, .bool light,vi 0, .bool false, .bool false]) rfl (ami_ dir name data light) ?_
 refine Ow.box rfl rfl fun b1 hb1 hw1=> ?_
 refine ko @Nat.add_zero ?_
 first|with_reducible refine ks [] @Nat.add_zero ?_|refine kp @Nat.add_zero ?_
 exact⟨_,rfl,b1,hw1,rfl,rfl⟩
end Go.Proofs
end
section
open Go Go.Proofs Go.Sx Go.StP
namespace Go.Proofs
set_option maxRecDepth 10000
set_option maxHeartbeats 1000000
set_option linter.unusedSimpArgs false
def PubS (G:DkG) (R:Nat×DiskL) (N:Nat) (v:Value) (D:ze_):Prop:=v=vi (R.1:Nat)∧ ∃G',G'.bd=G.bd∧DkA D G' R.2 N
theorem ags_ (X:ze_) (G:DkG) (S:DiskL) (N:Nat) (dir name data:List UInt8) (w:World) (hX: ∀p,p∈X→w.heap[p.1]? =some p.2) (hn: (keys X).Nodup) (hA:DkA X G S N) (hN:N<700000) (hnm:name.length≤900000) (hdt:data.length≤1000000):
  Rets Tryz.prog 19 #[vp G.bd 0,vs dir,vs name,vs data] w (XS w X (PubS G (pubV S dir name data false) (N+42))):=by
 have hB:TkB (tk0 dir name data false):=⟨hnm,hdt⟩
 refine Rets.enterX Tryz.func19 rfl (rs:= [.tmp 8]) Tryz.results19 Tryz.ntmps19 hX hn ?_
 refine kf ?_
 first|with_reducible refine ks [] @Nat.add_zero ?_|refine kp @Nat.add_zero ?_
 refine Ow.callF rfl rfl Tryz.call11 (S:=fun B v D=> ∃b',B≤b'∧v=vp b' 0∧D= [(b',tkO (tk0 dir name data false))]) (fun w' hw'=>ZW_ dir name data false w') ?_
 rintro B v D hab hB0 ⟨b1,hb1,rfl,rfl⟩
 refine⟨_,Mrg.fresh (by intro q hq;simp only[keys,List.map_cons,List.map_nil,List.mem_singleton] at hq;omega), ?_⟩
 refine Ow.callX (X:=X++ [(b1,tkO (tk0 dir name data false))]) (Y:= []) (List.append_nil _).symm rfl rfl Tryz.call43 (fun w' hw' hX' hn'=>afn_ X G S N b1 (tk0 dir name data false) w' hX' hn' hA hN hB rfl (Nat.succ_pos 5)) (fun v4 D4 hC4 hS4=> ?_)
 obtain⟨rfl,X2,G2,hp2,hbd2,hA2⟩:=hS4
 rw[List.append_nil]
 have hE2:=(((Ext.refl w X).app (o:=tkO (tk0 dir name data false)) (by omega)).came0 hC4).perm hp2
 refine Ow.permL hp2 ?_
 have hr:=ajT_ S dir name data false
 rw[←hr]
 refine ko @Nat.add_zero ?_
 first|with_reducible refine ks [] @Nat.add_zero ?_|refine kp @Nat.add_zero ?_
 refine⟨_,(ke @Nat.add_zero), ?_⟩
 exact⟨hE2,rfl,G2,hbd2,hA2.P.mono fun b o h=>zi_ h,hA2.H,hA2.B⟩
theorem afZ_ (X:ze_) (G:DkG) (S:DiskL) (N:Nat) (dir name data:List UInt8) (w:World) (hX: ∀p,p∈X→w.heap[p.1]? =some p.2) (hn: (keys X).Nodup) (hA:DkA X G S N) (hN:N<700000) (hnm:name.length≤900000) (hdt:data.length≤1000000):
  Rets Tryz.prog 20 #[vp G.bd 0,vs dir,vs name,vs data] w (XS w X (PubS G (pubV S dir name data true) (N+42))):=by
 have hB:TkB (tk0 dir name data true):=⟨hnm,hdt⟩
 refine Rets.enterX Tryz.func20 rfl (rs:= [.tmp 8]) Tryz.results20 Tryz.ntmps20 hX hn ?_
 refine kf ?_
 first|with_reducible refine ks [] @Nat.add_zero ?_|refine kp @Nat.add_zero ?_
 refine Ow.callF rfl rfl Tryz.call11 (S:=fun B v D=> ∃b',B≤b'∧v=vp b' 0∧D= [(b',tkO (tk0 dir name data true))]) (fun w' hw'=>ZW_ dir name data true w') ?_
 rintro B v D hab hB0 ⟨b1,hb1,rfl,rfl⟩
 refine⟨_,Mrg.fresh (by intro q hq;simp only[keys,List.map_cons,List.map_nil,List.mem_singleton] at hq;omega), ?_⟩
 refine Ow.callX (X:=X++ [(b1,tkO (tk0 dir name data true))]) (Y:= []) (List.append_nil _).symm rfl rfl Tryz.call43 (fun w' hw' hX' hn'=>afn_ X G S N b1 (tk0 dir name data true) w' hX' hn' hA hN hB rfl (Nat.succ_pos 5)) (fun v4 D4 hC4 hS4=> ?_)
 obtain⟨rfl,X2,G2,hp2,hbd2,hA2⟩:=hS4
 rw[List.append_nil]
 have hE2:=(((Ext.refl w X).app (o:=tkO (tk0 dir name data true)) (by omega)).came0 hC4).perm hp2
 refine Ow.permL hp2 ?_
 have hr:=ajT_ S dir name data true
 rw[←hr]
 refine ko @Nat.add_zero ?_
 first|with_reducible refine ks [] @Nat.add_zero ?_|refine kp @Nat.add_zero ?_
 refine⟨_,(ke @Nat.add_zero), ?_⟩
 exact⟨hE2,rfl,G2,hbd2,hA2.P.mono fun b o h=>zi_ h,hA2.H,hA2.B⟩
end Go.Proofs
end
section
open Go Go.Proofs Go.Sx Go.StP
namespace Go.Proofs
set_option maxRecDepth 10000
set_option maxHeartbeats 400000
set_option linter.unusedSimpArgs false
def amo_ (s:List UInt8):Bool:=decide (4≤s.length)&&s.drop (s.length - 4)== [46,116,109,112]
def jN_ (dir:List UInt8):List (List UInt8)→Nat→DiskL→Nat×Nat×DiskL
 | [],n,S=>(n,0,S)
 |s::l,n,S=>if amo_ s=true then(if(zR_ S dir s).2≠0 then(n,(zR_ S dir s).2,(zR_ S dir s).1) else jN_ dir l (n+1) (zR_ S dir s).1) else jN_ dir l n S
def vr_ (dir:List UInt8) (n:Nat) (S:DiskL):Nat×Nat×DiskL:=
 if(jN_ dir (xy_ S dir) n S).2.1≠0∨(jN_ dir (xy_ S dir) n S).1=n then jN_ dir (xy_ S dir) n S else((jN_ dir (xy_ S dir) n S).1,(zS_ (jN_ dir (xy_ S dir) n S).2.2 dir).2,(zS_ (jN_ dir (xy_ S dir) n S).2.2 dir).1)
def abZ_:Nat→Nat→Nat→DiskL→Nat×Nat×DiskL
 |0,_,n,S=>(n,0,S)
 |f+1,k,n,S=>if(vr_ (qp_ k) n S).2.1≠0 then vr_ (qp_ k) n S else abZ_ f (k+1) (vr_ (qp_ k) n S).1 (vr_ (qp_ k) n S).2.2
def abt_ (S:DiskL):Nat×Nat×DiskL:=abZ_ 3 0 0 S
theorem adf_ {dir:List UInt8} {l:List (List UInt8)} {i:Nat} (h:i<l.length) (n:Nat) (S:DiskL):jN_ dir (l.drop i) n S=if amo_ (l.getD i [])=true then(if(zR_ S dir (l.getD i [])).2≠0 then(n,(zR_ S dir (l.getD i [])).2,(zR_ S dir (l.getD i [])).1) else jN_ dir (l.drop (i+1)) (n+1) (zR_ S dir (l.getD i [])).1) else jN_ dir (l.drop (i+1)) n S:=by
 rw[List.drop_eq_getElem_cons h,List.getD_eq_getElem?_getD,List.getElem?_eq_getElem h]
 rfl
theorem agC_ {dir:List UInt8} {l:List (List UInt8)} (n:Nat) (S:DiskL):jN_ dir (l.drop l.length) n S=(n,0,S):=by
 rw[List.drop_length];rfl
theorem anb_ (f k n:Nat) (S:DiskL):abZ_ (f+1) k n S=(if(vr_ (qp_ k) n S).2.1≠0 then vr_ (qp_ k) n S else abZ_ f (k+1) (vr_ (qp_ k) n S).1 (vr_ (qp_ k) n S).2.2):=rfl
theorem apG_ {S:DiskL} (hB:DkB S) (dir:List UInt8): (xy_ S dir).length≤1000000∧ ∀s,s∈xy_ S dir→s.length≤1000000:=by
 unfold xy_
 split
 ·exact⟨Nat.zero_le _,fun s hs=>by cases hs⟩
 ·rename_i h
  obtain⟨k,hk,-⟩:=Zw_ (S:=S) (dir:=dir) (names:= []) (by omega)
  rw[hk]
  have hk3:=(z3_ hk).1
  refine⟨by rw[List.length_map];exact(hB k hk3).1,fun s hs=> ?_⟩
  obtain⟨p,hp,rfl⟩:=List.mem_map.1 hs
  exact(hB k hk3).2 p hp
set_option linter.defProp false
def vA_:=And.intro (@zn_) (@zm_)
theorem WG_ (s p:List UInt8) (w:World) (hs:s.length<1099511627776):Rets Tryz.prog 77 #[vs s,vs p] w (fun v D=>v= .bool (decide (p.length≤s.length)&& (s.drop (s.length - p.length)==p))∧D= []):=by
 refine Rets.enterV Tryz.func77 rfl (rs:= [.tmp 4]) Tryz.results77 Tryz.ntmps77 ?_
 refine kf ?_
 by_cases h:p.length≤s.length
 ·have e1:decide ((p.length:Int)≤ (s.length:Int))=true:=decide_eq_true (by omega)
  have e2: (s.length:Int) - (p.length:Int)=((s.length - p.length:Nat):Int):=by omega
  have e3:decide (((s.length - p.length:Nat):Int)≤ (s.length:Int)∧(s.length:Int)≤ (s.length:Int))=true:=decide_eq_true (by omega)
  first|with_reducible refine ks [] (And.intro @vA_ (And.intro @e1 (And.intro @e2 (@e3)))) ?_|refine kp (And.intro @vA_ (And.intro @e1 (And.intro @e2 (@e3)))) ?_
  refine⟨_,(ke @vA_),trivial, ?_⟩
  simp[kD_,h]
 ·have e1:decide ((p.length:Int)≤ (s.length:Int))=false:=decide_eq_false (by omega)
  first|with_reducible refine ks [] (And.intro @vA_ @e1) ?_|refine kp (And.intro @vA_ @e1) ?_
  refine⟨_,(ke @vA_),trivial, ?_⟩
  simp[kD_,h]
theorem aaO_ (s p:List UInt8) (w:World) (hs:s.length<1099511627776):Rets Tryz.prog 50 #[vs s,vs p] w (fun v D=>v= .bool (decide (p.length≤s.length)&& (s.drop (s.length - p.length)==p))∧D= []):=by
 refine Rets.enterV Tryz.func50 rfl (rs:= [.tmp 4]) Tryz.results50 Tryz.ntmps50 ?_
 refine kf ?_
 first|with_reducible refine ks [] @vA_ ?_|refine kp @vA_ ?_
 refine Ow.callFV rfl Tryz.call77 (fun w' hw'=>WG_ s p w' hs) ?_
 refine ko @vA_ ?_
 first|with_reducible refine ks [] @vA_ ?_|refine kp @vA_ ?_
 refine⟨_,(ke @vA_),trivial, ?_⟩
 rfl
theorem Xg_ (s:List UInt8) (w:World) (hs:s.length<1099511627776):Rets Tryz.prog 25 #[vs s] w (fun v D=>v= .bool (amo_ s)∧D= []):=by
 refine Rets.enterV Tryz.func25 rfl (rs:= [.tmp 2]) Tryz.results25 Tryz.ntmps25 ?_
 refine kf ?_
 first|with_reducible refine ks [] @vA_ ?_|refine kp @vA_ ?_
 refine Ow.callFV rfl Tryz.call50 (fun w' hw'=>aaO_ s [46,116,109,112] w' hs) ?_
 refine ko @vA_ ?_
 first|with_reducible refine ks [] @vA_ ?_|refine kp @vA_ ?_
 refine⟨_,(ke @vA_),trivial, ?_⟩
 rfl
theorem aoO_ {S:DiskL} {N:Nat} (h:DkN N S) (dir:List UInt8): (xy_ S dir).length≤N:=by
 unfold xy_
 split
 ·exact Nat.zero_le _
 ·rw[List.length_map]
  exact(h _).seen
theorem ag0_ {A B:ze_} (h: (keys (A++B)).Nodup) {b:Nat} {o:Obj} (hb:Sx.look B b=some o):Sx.look (A++B) b=some o:=by
 rw[zo_,List.nodup_append] at h
 rw[zM_ fun hm=>h.2.2 b hm b (List.mem_map.2 ⟨_,zq_ hb,rfl⟩) rfl]
 exact hb
structure ClnG where
 k:Nat
 n:Nat
 S:DiskL
 G:DkG
 X:ze_
 M:Nat
structure CliG where
 j:Nat
 n:Nat
 S:DiskL
 G:DkG
 X:ze_
def ClnS (G:DkG) (R:Nat×Nat×DiskL) (N:Nat) (v:Value) (D:ze_):Prop:=v= .tuple #[vi (R.1:Nat),vi (R.2.1:Nat)]∧ ∃G',G'.bd=G.bd∧DkA D G' R.2.2 N
structure ClnM (N k M:Nat):Prop where
 z:k=0→M≤N
 o:k≤1→M≤2*N
 t:k≤2→M≤4*N
 e:M≤8*N
theorem ClnM.next {N k M m:Nat} (h:ClnM N k M) (hk:k<3) (hm:m≤M):ClnM N (k+1) (M+m):=by
 obtain⟨a,b,c,d⟩:=h
 exact⟨by omega,by omega,by omega,by omega⟩
set_option linter.defProp false
def q5_:=And.intro (And.intro (@zn_) (@zm_)) (And.intro (@Sx.tup2_0) (@Sx.tup2_1))
theorem ahd_ (X:ze_) (G:DkG) (S:DiskL) (N:Nat) (w:World) (hX: ∀p,p∈X→w.heap[p.1]? =some p.2) (hn: (keys X).Nodup) (hA:DkA X G S N) (hN:N≤100000):
  Rets Tryz.prog 23 #[vp G.bd 0] w (XS w X (ClnS G (abt_ S) (8*N))):=by
 refine Rets.enterX Tryz.func23 rfl (rs:= [.tmp 2, .tmp 3]) Tryz.results23 Tryz.ntmps23 hX hn ?_
 refine kf ?_
 first|with_reducible refine ks [] @q5_ ?_|refine kp @q5_ ?_
 refine Ow.build (.agg #[vs qB_,vs vx_,vs WR_]) rfl (by kernel_rfl) ?_
 refine ko @q5_ ?_
 first|with_reducible refine ks [] @q5_ ?_|refine kp @q5_ ?_
 refine Cw.loopG (G:=ClnG) [14,15,6,16,7,17,18,19,20,21,22,23,24,9,25,26,27,28,29,30,31,10,32,33,34,35,2,3,36,37,4,38,39,40,41,42,43,44,11,45,46,47,48,49,13] (fun g=> [(4,vi g.n),(13,vi g.k)]) (fun g=>g.X) (fun g=>g.k≤3∧abZ_ (3 - g.k) g.k g.n g.S=abt_ S∧g.G.bd=G.bd∧DkA g.X g.G g.S g.M∧Ext w X g.X∧ClnM N g.k g.M∧g.n≤g.M) (fun g=>3 - g.k) ⟨0,0,S,G,X,N⟩ rfl rfl ?_ ?_
 ·exact⟨Nat.zero_le _,rfl,rfl,hA,Ext.refl w X,⟨fun _=>Nat.le_refl _,fun _=>by show N≤2*N;omega,fun _=>by show N≤4*N;omega,by show N≤8*N;omega⟩,Nat.zero_le _⟩
 intro g j hg
 refine kv ?_
 obtain⟨k,n,S1,G1,X1,M⟩:=g
 simp only at hg ⊢
 obtain⟨hk,hR,hbd,hA1,hE,hM,hnM⟩:=hg
 have hM8:=hM.e
 rw[←hbd]
 by_cases hlt:k<3
 ·have d1:decide ((k:Int)<3)=true:=decide_eq_true (by omega)
  have ixk:=vQ_ hlt
  have hM4:=hM.t (by omega)
  obtain⟨f,hf⟩: ∃f,3 - k=f+1:=⟨2 - k,by omega⟩
  rw[hf,anb_] at hR
  have hdb:=hA1.b (by omega)
  have hlb:=(apG_ hdb (qp_ k)).2
  have hln:=aoO_ hA1.B (qp_ k)
  have hcd:vr_ (qp_ k) n S1=if(jN_ (qp_ k) (xy_ S1 (qp_ k)) n S1).2.1≠0∨(jN_ (qp_ k) (xy_ S1 (qp_ k)) n S1).1=n then jN_ (qp_ k) (xy_ S1 (qp_ k)) n S1 else((jN_ (qp_ k) (xy_ S1 (qp_ k)) n S1).1,(zS_ (jN_ (qp_ k) (xy_ S1 (qp_ k)) n S1).2.2 (qp_ k)).2,(zS_ (jN_ (qp_ k) (xy_ S1 (qp_ k)) n S1).2.2 (qp_ k)).1):=rfl
  first|with_reducible refine ks [] (And.intro @q5_ (And.intro @d1 (@ixk))) ?_|refine kp (And.intro @q5_ (And.intro @d1 (@ixk))) ?_
  refine Ow.callC rfl rfl Tryz.call24 (fun w' hw'=>wt_ w' G1 S1 (qp_ k) (hA1.P.world hw') hdb) (fun B3 v3 D3 hA3 hB3 hN3 hS3=> ?_)
  rw[←JE_] at hS3
  generalize xy_ S1 (qp_ k)=nms at*
  have hN3':New w.heap.size D3:=hN3.mono hB3
  have ln3:=kr_ hS3
  refine ko (And.intro @q5_ @ln3) ?_
  refine Cw.world fun w1 hw1=> ?_
  obtain⟨rb,off,arr,E,fz,hr3,hlk⟩:=hS3.rowL (z:= []) rfl ((hw1.perm (M:=D3++X1) List.perm_append_comm).part) Wh_
  have rd3: ∀ (Y:ze_),0<nms.length→zy_ w (D3++Y) rb=some (.cells arr E fz):=fun Y h0=>za_ (zi_ (hlk h0))
  clear hw1 hlk
  refine Cw.permL (M:=D3++X1) List.perm_append_comm ?_
  have hE3:Ext w X (X1++D3):=⟨fun c hc=>by
   rw[zo_] at hc
   rcases List.mem_append.1 hc with hc|hc
   ·exact hE.new c hc
   ·exact .inr (hN3'.le c hc),fun c hc=>by rw[zo_];exact List.mem_append_left _ (hE.all c hc)⟩
  refine Cw.loopG (G:=CliG) [22,23,24,9,25,26,27,28,29,30,31,10,32,33,34,35,2,3,36,37,4,38,21] (fun g=> [(4,vi g.n),(21,vi g.j)]) (fun g=>D3++g.X) (fun g=>g.j≤nms.length∧jN_ (qp_ k) (nms.drop g.j) g.n g.S=jN_ (qp_ k) nms n S1∧g.G.bd=G1.bd∧DkA g.X g.G g.S (M+g.j)∧Ext w X (g.X++D3)∧g.n≤M+g.j) (fun g=>nms.length - g.j) ⟨0,n,S1,G1,X1⟩ rfl rfl ?_ ?_
  ·exact⟨Nat.zero_le _,rfl,rfl,hA1,hE3,hnM⟩
  intro g j hg
  refine kv ?_
  clear hA1 hE hE3
  obtain⟨j,n2,S2,G2,X2⟩:=g
  simp only at hg ⊢
  obtain⟨hj,hR2,hbd2,hA2,hE2,hn2⟩:=hg
  rw[←hbd2]
  by_cases hjt:j<nms.length
  ·have d2:decide ((j:Int)< (nms.length:Int))=true:=decide_eq_true (by omega)
   have ix3:=hr3.idx false j hjt
   have ld3:=fun n=>VL_ hr3 hjt n
   have rdj:=rd3 X2 (by omega)
   have hsl:=hlb _ (xd_ (z:= []) hjt)
   rw[adf_ hjt] at hR2
   generalize nms.getD j []=s at*
   first|with_reducible refine ks [10] (And.intro @q5_ (And.intro @d2 (And.intro @ln3 (And.intro @ix3 (And.intro @rdj (@ld3)))))) ?_|refine kp (And.intro @q5_ (And.intro @d2 (And.intro @ln3 (And.intro @ix3 (And.intro @rdj (@ld3)))))) ?_
   refine Ow.callFV rfl Tryz.call25 (fun w' hw'=>Xg_ s w' (by omega)) ?_
   cases ht:amo_ s with
   |false=>
    rw[if_neg (by rw[ht];simp)] at hR2
    refine ko @q5_ ?_
    first|with_reducible refine ks [] @q5_ ?_|refine kp @q5_ ?_
    exact Again.mk ⟨j+1,n2,S2,G2,X2⟩ (by show nms.length - (j+1)<nms.length - j;omega) ⟨hjt,hR2,rfl,⟨hA2.P,hA2.H,hA2.B.mono (by show M+j≤M+ (j+1);omega)⟩,hE2,by show n2≤M+ (j+1);omega⟩ rfl rfl
   |true=>
    rw[if_pos ht] at hR2
    refine ko @q5_ ?_
    refine Cw.permL (M:=X2++D3) List.perm_append_comm ?_
    first|with_reducible refine ks [] @q5_ ?_|refine kp @q5_ ?_
    refine Ow.callX (X:=X2) (Y:=D3) rfl rfl rfl Tryz.call34 (fun w' hw' hX' hn'=>v9_ X2 G2 S2 (qp_ k) s w' hX' hn' hA2.P (by omega) (hA2.pend (by omega))) (fun v4 D4 hC4 hS4=> ?_)
    obtain⟨rfl,G3,hbd3,hP3⟩:=hS4
    have hE4:=hE2.came hC4
    have hA3':DkA D4 G3 (zR_ S2 (qp_ k) s).1 (M+ (j+1)):=⟨hP3,aed_ hA2.H _ _,agH_ hA2.B _ (by omega)⟩
    generalize zR_ S2 (qp_ k) s=q at*
    obtain⟨S3,e⟩:=q
    simp only at hR2 hA3' ⊢
    by_cases h0:e≠0
    ·have e1:=ju_ h0
     rw[if_pos h0] at hR2
     refine ko @q5_ ?_
     first|with_reducible refine ks [] (And.intro @q5_ @e1) ?_|refine kp (And.intro @q5_ @e1) ?_
     refine⟨_,(ke @q5_), ?_⟩
     have hcd':vr_ (qp_ k) n S1=(n2,e,S3):=by rw[hcd,←hR2];exact if_pos (.inl h0)
     rw[hcd',if_pos h0] at hR
     rw[←hR]
     exact⟨hE4,rfl,G3,(hbd3.trans hbd2).trans hbd,(⟨hA3'.P.mono fun b o h=>zi_ h,hA3'.H,hA3'.B.mono (by omega)⟩:DkA (D4++D3) G3 S3 (8*N))⟩
    ·have e1: ((e:Int) !=0)=false:=by rw[show e=0 by simpa using h0];rfl
     rw[if_neg h0] at hR2
     refine Ow.permL (M:=D3++D4) List.perm_append_comm ?_
     refine ko @q5_ ?_
     first|with_reducible refine ks [] (And.intro @q5_ @e1) ?_|refine kp (And.intro @q5_ @e1) ?_
     exact Again.mk ⟨j+1,n2+1,S3,G3,D4⟩ (by show nms.length - (j+1)<nms.length - j;omega) ⟨hjt,hR2,hbd3,hA3',hE4,by show n2+1≤M+ (j+1);omega⟩ rfl rfl
  ·obtain rfl:j=nms.length:=by omega
   have d2:decide ((nms.length:Int)< (nms.length:Int))=false:=decide_eq_false (by omega)
   rw[agC_] at hR2
   rw[←hR2] at hcd
   refine Cw.world fun wz hwz=> ?_
   have hP4:DkP (D3++X2) G2 S2:=hA2.P.mono fun b o h=>ag0_ hwz.nodup h
   have hE2':=hE2.perm (D':=D3++X2) List.perm_append_comm
   clear hwz
   by_cases hnn:n2=n
   ·have e1: ((n2:Int)==(n:Int))=true:=by rw[hnn];exact beq_self_eq_true _
    have hcd':vr_ (qp_ k) n S1=(n2,0,S2):=by rw[hcd];exact if_pos (.inr hnn)
    rw[hcd',if_neg (by simp)] at hR
    first|with_reducible refine ks [] (And.intro @q5_ (And.intro @d2 (And.intro @ln3 (@e1)))) ?_|refine kp (And.intro @q5_ (And.intro @d2 (And.intro @ln3 (@e1)))) ?_
    exact Again.mk ⟨k+1,n2,S2,G2,D3++X2,M+nms.length⟩ (by show 3 - (k+1)<3 - k;omega) ⟨hlt,by rw[show 3 - (k+1)=f by omega];exact hR,rfl,⟨hP4,hA2.H,hA2.B⟩,hE2',hM.next hlt hln,hn2⟩ rfl rfl
   ·have e1: ((n2:Int)==(n:Int))=false:=beq_eq_false_iff_ne.2 (by omega)
    have hcd':vr_ (qp_ k) n S1=(n2,(zS_ S2 (qp_ k)).2,(zS_ S2 (qp_ k)).1):=by rw[hcd];exact if_neg (fun h=>by rcases h with h|h;exact h rfl;exact hnn h)
    rw[hcd'] at hR
    clear hcd hcd'
    first|with_reducible refine ks [] (And.intro @q5_ (And.intro @d2 (And.intro @ln3 (@e1)))) ?_|refine kp (And.intro @q5_ (And.intro @d2 (And.intro @ln3 (@e1)))) ?_
    refine Ow.callX (X:=D3++X2) (Y:= []) (List.append_nil _).symm rfl rfl Tryz.call47 (fun w' hw' hX' hn'=>Zn_ (D3++X2) G2 S2 (qp_ k) w' hX' hn' hP4) (fun v5 D5 hC5 hS5=> ?_)
    rw[List.append_nil]
    obtain⟨rfl,G3,hbd3,hP3⟩:=hS5
    have hE4:=hE2'.came0 hC5
    have hA3':DkA D5 G3 (zS_ S2 (qp_ k)).1 (M+nms.length):=⟨hP3,aat_ hA2.H _,acB_ hA2.B _⟩
    generalize zS_ S2 (qp_ k)=q at*
    obtain⟨S3,e⟩:=q
    simp only at hR hA3' ⊢
    by_cases h0:e≠0
    ·have e2:=ju_ h0
     rw[if_pos h0] at hR
     refine ko @q5_ ?_
     first|with_reducible refine ks [] (And.intro @q5_ @e2) ?_|refine kp (And.intro @q5_ @e2) ?_
     refine⟨_,(ke @q5_), ?_⟩
     rw[←hR]
     exact⟨hE4,rfl,G3,(hbd3.trans hbd2).trans hbd,(⟨hA3'.P,hA3'.H,hA3'.B.mono (hM.next hlt hln).e⟩:DkA D5 G3 S3 (8*N))⟩
    ·have e2: ((e:Int) !=0)=false:=by rw[show e=0 by simpa using h0];rfl
     rw[if_neg h0] at hR
     refine ko @q5_ ?_
     first|with_reducible refine ks [] (And.intro @q5_ @e2) ?_|refine kp (And.intro @q5_ @e2) ?_
     exact Again.mk ⟨k+1,n2,S3,G3,D5,M+nms.length⟩ (by show 3 - (k+1)<3 - k;omega) ⟨hlt,by rw[show 3 - (k+1)=f by omega];exact hR,hbd3,hA3',hE4,hM.next hlt hln,hn2⟩ rfl rfl
 ·obtain rfl:k=3:=by omega
  have d1:decide (((3:Nat):Int)<3)=false:=rfl
  first|with_reducible refine ks [] (And.intro @q5_ @d1) ?_|refine kp (And.intro @q5_ @d1) ?_
  refine⟨_,(ke @q5_), ?_⟩
  rw[←hR]
  exact⟨hE,rfl,G1,hbd,(⟨hA1.P,hA1.H,hA1.B.mono hM8⟩:DkA X1 G1 S1 (8*N))⟩
end Go.Proofs
end
section
open Go Go.Proofs Go.Sx Go.StP Go.Flo
namespace Go.Proofs
set_option maxRecDepth 10000
set_option maxHeartbeats 400000
set_option linter.unusedSimpArgs false
def bl0:DiskL:=wK_ 100
def bl1:DiskL:=(pubV bl0 qB_ [97] [120] false).2
def bl2:DiskL:=(pubV bl1 qB_ [98] [121] true).2
def bl3:DiskL:=JW_ bl2 []
def bl4:DiskL:=(abt_ bl3).2.2
theorem ar1_: (((pubV bl0 qB_ [97] [120] false).1:Nat):Int)=0:=by rfl
theorem arM_: (((pubV bl1 qB_ [98] [121] true).1:Nat):Int)=0:=by rfl
theorem arB_: (km_ bl3 qB_ [97]).1= [120]:=by rfl
theorem arF_: (((km_ bl3 qB_ [97]).2:Nat):Int)=0:=by rfl
theorem arZ_: (((abt_ bl3).1:Nat):Int)=0:=by rfl
theorem arC_: (((abt_ bl3).2.1:Nat):Int)=0:=by rfl
theorem bl_l: (((xy_ bl4 qB_).length:Nat):Int)=1:=by rfl
set_option linter.defProp false
def xL_:=And.intro (And.intro (@zn_) (@zm_)) (And.intro (@Sx.tup2_0) (@Sx.tup2_1))
theorem x4_ (w:World) (hG:QX_ w):Rets Tryz.prog 4 #[] w (fun v D=>v= .bool true∧D= []):=by
 refine Rets.enterV Tryz.func4 rfl (rs:= [.tmp 0]) Tryz.results4 Tryz.ntmps4 ?_
 refine kf ?_
 first|with_reducible refine ks [] @xL_ ?_|refine kp @xL_ ?_
 refine Ow.callC rfl rfl Tryz.call18 (fun w' hw'=>aab_ 100 w' (by decide) (jy_ hG hw' trivial)) (fun B0 v0 D0 hA0 hB0 hN0 hS0=> ?_)
 obtain⟨G0,rfl,hP0⟩:=hS0
 rw[List.nil_append]
 have hE0:Ext w [] D0:=Ext.of_new (hN0.mono hB0)
 have hA0:DkA D0 G0 bl0 0:=⟨hP0,al6_ 100,aiI_ 100⟩
 refine ko @xL_ ?_
 first|with_reducible refine ks [] @xL_ ?_|refine kp @xL_ ?_
 refine Ow.callX (X:=D0) (Y:= []) (List.append_nil _).symm rfl rfl Tryz.call19 (fun w' hw' hX' hn'=>ags_ D0 G0 bl0 0 qB_ [97] [120] w' hX' hn' hA0 (by omega) (by decide) (by decide)) (fun v1 D1 hC1 hS1=> ?_)
 rw[List.append_nil]
 obtain⟨rfl,G1,hb1,hA1⟩:=hS1
 have hE1:=hE0.came0 hC1
 have hA1':DkA D1 G1 bl1 (0+42):=hA1
 rw[ar1_,←hb1]
 refine ko @xL_ ?_
 first|with_reducible refine ks [] @xL_ ?_|refine kp @xL_ ?_
 refine Ow.callX (X:=D1) (Y:= []) (List.append_nil _).symm rfl rfl Tryz.call20 (fun w' hw' hX' hn'=>afZ_ D1 G1 bl1 (0+42) qB_ [98] [121] w' hX' hn' hA1' (by omega) (by decide) (by decide)) (fun v2 D2 hC2 hS2=> ?_)
 rw[List.append_nil]
 obtain⟨rfl,G2,hb2,hA2⟩:=hS2
 have hE2:=hE1.came0 hC2
 have hA2':DkA D2 G2 bl2 84:=hA2
 rw[arM_,←hb2]
 refine ko @xL_ ?_
 first|with_reducible refine ks [] @xL_ ?_|refine kp @xL_ ?_
 refine Ow.callX (X:=D2) (Y:= []) (List.append_nil _).symm rfl rfl Tryz.call21 (fun w' hw' hX' hn'=>acJ_ D2 G2 bl2 (.slice none 0 0) [] w' hX' hn' hA2'.P (jy_ hG hw' hE2.new0) (afu_ hG hE2.new0) ((ZZ_ (q:=(bl2,[])) hA2'.B 3).b (by omega)) (.inl (SlV.nil w')) (fun h=>absurd rfl h) (by decide) (fun k hk=>⟨(hA2'.H k).2,hA2'.pend (by omega) k hk⟩)) (fun v3 D3 hC3 hS3=> ?_)
 rw[List.append_nil]
 obtain⟨G3,hb3,hP3⟩:=hS3
 have hE3:=hE2.came0 hC3
 have hA3:DkA D3 G3 bl3 84:=⟨hP3,agr_ hA2'.H _,ah6_ hA2'.B _⟩
 rw[←hb3]
 refine ko @xL_ ?_
 first|with_reducible refine ks [] @xL_ ?_|refine kp @xL_ ?_
 refine Ow.callFV rfl Tryz.call22 (fun w' hw'=>KS_ w' G3 bl3 qB_ [97] (hA3.P.world hw') (by decide)) ?_
 rw[arB_,arF_]
 refine ko @xL_ ?_
 first|with_reducible refine ks [] @xL_ ?_|refine kp @xL_ ?_
 refine Ow.callX (X:=D3) (Y:= []) (List.append_nil _).symm rfl rfl Tryz.call23 (fun w' hw' hX' hn'=>ahd_ D3 G3 bl3 84 w' hX' hn' hA3 (by omega)) (fun v4 D4 hC4 hS4=> ?_)
 rw[List.append_nil]
 obtain⟨rfl,G4,hb4,hA4⟩:=hS4
 have hE4:=hE3.came0 hC4
 have hA4':DkA D4 G4 bl4 672:=hA4
 rw[arZ_,arC_,←hb4]
 refine ko @xL_ ?_
 have z0: ((0:Int)==0)=true:=rfl
 have z1: ((1:Int)==1)=true:=rfl
 have z2: (([120]:List UInt8)== [120])=true:=rfl
 first|with_reducible refine ks [] (And.intro @xL_ (And.intro @z0 (@z2))) ?_|refine kp (And.intro @xL_ (And.intro @z0 (@z2))) ?_
 refine Ow.callC rfl rfl Tryz.call24 (fun w' hw'=>wt_ w' G4 bl4 qB_ (hA4'.P.world hw') (hA4'.b (by omega))) (fun B5 v5 D5 hA5 hB5 hN5 hS5=> ?_)
 have hN5':New w.heap.size (D4++D5):=hE4.new0.app (hN5.mono hB5)
 have ln5:=kr_ hS5
 rw[bl_l] at ln5
 refine ko (And.intro @xL_ (And.intro @ln5 (And.intro @z0 (And.intro @z1 (@z2))))) ?_
 refine Ow.callFV rfl Tryz.call25 (fun w' hw'=>Xg_ [97,46,116,109,112] w' (by decide)) ?_
 refine ko @xL_ ?_
 refine⟨_,(ke @xL_),hN5', ?_⟩
 rfl
structure JbL where
 dir:List UInt8
 name:List UInt8
 data:List UInt8
 light:Bool
def jbC (r:JbL):List Value:= [vs r.dir]++ ([vs r.name]++ ([vs r.data]++ ([Value.bool r.light])))
theorem apx_ (r:JbL): (jbC r).length=4:=by simp[jbC]
theorem aeK_ (r:JbL):Value.cells (.agg (jbC r).toArray)=(jbC r).toArray:=zh_ _
theorem aqS_ (r:JbL):jbC r=([]:List Value)++ (([vs r.dir])++ ([vs r.name]++ ([vs r.data]++ ([Value.bool r.light])))):=by
 unfold jbC;simp only[List.append_assoc,List.nil_append,List.append_nil]
theorem ae6_ (r:JbL) (n:Nat) (E:TypeId) (fz:Nat×Nat):zk_ (some (false,n)) (some (.cells (jbC r).toArray E fz)) 0=some (vs r.dir):=by
 rw[aqS_];exact qw_ _ _ _ n E fz (by simp)
theorem aqC_ (r:JbL):jbC r=(([vs r.dir]))++ (([vs r.name])++ ([vs r.data]++ ([Value.bool r.light]))):=by
 unfold jbC;simp only[List.append_assoc,List.nil_append,List.append_nil]
theorem afj_ (r:JbL) (n:Nat) (E:TypeId) (fz:Nat×Nat):zk_ (some (false,n)) (some (.cells (jbC r).toArray E fz)) 1=some (vs r.name):=by
 rw[aqC_];exact qw_ _ _ _ n E fz (by simp)
theorem ap5_ (r:JbL):jbC r=(([vs r.dir])++ ([vs r.name]))++ (([vs r.data])++ ([Value.bool r.light])):=by
 unfold jbC;simp only[List.append_assoc,List.nil_append,List.append_nil]
theorem ae9_ (r:JbL) (n:Nat) (E:TypeId) (fz:Nat×Nat):zk_ (some (false,n)) (some (.cells (jbC r).toArray E fz)) 2=some (vs r.data):=by
 rw[ap5_];exact qw_ _ _ _ n E fz (by simp)
theorem ap4_ (r:JbL):jbC r=(([vs r.dir])++ ([vs r.name])++ ([vs r.data]))++ (([Value.bool r.light])++ (([]:List Value))):=by
 unfold jbC;simp only[List.append_assoc,List.nil_append,List.append_nil]
theorem ae2_ (r:JbL) (n:Nat) (E:TypeId) (fz:Nat×Nat):zk_ (some (false,n)) (some (.cells (jbC r).toArray E fz)) 3=some (Value.bool r.light):=by
 rw[ap4_];exact qw_ _ _ _ n E fz (by simp)
theorem aiz_ (r:JbL) (E:TypeId) (fz:Nat×Nat):zk_ (some (true,4)) (some (.cells (jbC r).toArray E fz)) 0=some (.agg (jbC r).toArray):=xa_ _ E fz 4 (by rw[List.size_toArray,apx_])
def WU_ (a:JbL):Bool:=decide (200<a.name.length) ||decide (2000<a.data.length) ||decide (50<a.dir.length)
theorem akq_ {a:JbL} (h:WU_ a=false):a.name.length≤200∧a.data.length≤2000∧a.dir.length≤50:=by
 unfold WU_ at h
 simp only[Bool.or_eq_false_iff,decide_eq_false_iff_not] at h
 omega
set_option linter.defProp false
def QT_:=And.intro (And.intro (And.intro (@zn_) (@zm_)) (And.intro (@aiz_) (@ae6_))) (And.intro (And.intro (@afj_) (@ae9_)) (And.intro (@ae2_) (@aeK_)))
theorem adH_ (a:JbL) (w:World):Rets Tryz.prog 6 #[.agg (jbC a).toArray] w (fun v D=>v= .bool (WU_ a)∧D= []):=by
 refine Rets.enterV Tryz.func6 rfl (rs:= [.tmp 2]) Tryz.results6 Tryz.ntmps6 ?_
 refine kf ?_
 first|with_reducible refine ks [1] @QT_ ?_|refine kp @QT_ ?_
 refine Ow.box rfl rfl fun b1 hb1 hw1=> ?_
 simp only[qm_,ql_,qu_,zh_,List.nil_append,List.cons_append]
 refine Ow.go rfl ?_
 simp(disch:=(first|assumption|omega| (simp only[w5_,wR_,UInt64.reduceToNat];try omega))) only[↓Sx.S0,Sx.S1,Tryz.fx,QT_,Nat.reduceAdd,Nat.reducePow,Int.reducePow,Nat.reduceBEq, ↓reduceIte,UInt8.reduceToNat,UInt16.reduceToNat,UInt32.reduceToNat,UInt64.reduceToNat,Int.reduceToNat]
 unfold WU_
 cases h1:decide ((200:Int)< (a.name.length:Int)) with
 |true=>
  first|with_reducible refine ks [] (And.intro @QT_ @h1) ?_|refine kp (And.intro @QT_ @h1) ?_
  refine⟨_,(ke @QT_),⟨hw1,trivial⟩, ?_⟩
  (rw[decide_eq_true (show 200<a.name.length by have:=of_decide_eq_true h1;omega)];rfl)
 |false=>
  have g1:decide (200<a.name.length)=false:=decide_eq_false (by have:=of_decide_eq_false h1;omega)
  cases h2:decide ((2000:Int)< (a.data.length:Int)) with
  |true=>
   first|with_reducible refine ks [] (And.intro @QT_ (And.intro @h1 (@h2))) ?_|refine kp (And.intro @QT_ (And.intro @h1 (@h2))) ?_
   refine⟨_,(ke @QT_),⟨hw1,trivial⟩, ?_⟩
   (rw[decide_eq_true (show 2000<a.data.length by have:=of_decide_eq_true h2;omega),g1];rfl)
  |false=>
   have g2:decide (2000<a.data.length)=false:=decide_eq_false (by have:=of_decide_eq_false h2;omega)
   have g4:decide (50<a.dir.length)=decide ((50:Int)< (a.dir.length:Int)):=by
    congr 1
    rw[eq_iff_iff];omega
   first|with_reducible refine ks [] (And.intro @QT_ (And.intro @h1 (@h2))) ?_|refine kp (And.intro @QT_ (And.intro @h1 (@h2))) ?_
   refine⟨_,(ke @QT_),⟨hw1,trivial⟩, ?_⟩
   (rw[g1,g2,g4];rfl)
set_option linter.defProp false
end Go.Proofs
end
section
open Go Go.Proofs Go.Sx Go.StP
namespace Go.Proofs
set_option maxRecDepth 10000
set_option maxHeartbeats 1000000
set_option linter.unusedSimpArgs false
set_option linter.defProp false
structure ClkM (N k M:Nat):Prop where
 z:k=0→M≤N
 o:k≤1→M≤2*N+1
 t:k≤2→M≤4*N+3
 e:M≤8*N+7
theorem ClkM.next {N k M m:Nat} (h:ClkM N k M) (hk:k<3) (hm:m≤M):ClkM N (k+1) (M+m+1):=by
 obtain⟨a,b,c,d⟩:=h
 exact⟨by omega,by omega,by omega,by omega⟩
end Go.Proofs
end
section
open Go Go.Proofs Go.Sx Go.StP Go.Flo
namespace Go.Proofs
set_option maxRecDepth 10000
set_option maxHeartbeats 1000000
set_option linter.unusedSimpArgs false
set_option linter.defProp false
def Kw_:=And.intro (And.intro (@zn_) (And.intro (@zm_) (@k3_))) (And.intro (@k6_) (And.intro (@ve_) (@vm_)))
theorem XH_ (w:World) (G:DkG) (G':DcG) (S:DiskL) (hD:DkW w G S) (hC:DcW w G' S) (hG:QX_ w) (ok:DkOk S) {N:Nat} (hN:DkN N S) (hN9:N<900000) (hu:xO_ S<4611686018427387904):
  Rets Tryz.prog 17 #[vp G.bd 0,vp G'.bd 0] w (fun v D=>v= .bool true∧D= []):=by
 have hB:DkB S:=hN.b (by omega)
 have hfl: (ZT_ S).length≤3000000:=wz_ hB 3 (Nat.le_refl _)
 have hu1: ((xO_ S:Int)==(xO_ S:Int))=true:=beq_self_eq_true _
 have ho1:q7_ Tryz.prog .eql 4 (.bool S.off) (.bool S.off)=some (.bool true):=by
  show some (Value.bool (S.off==S.off))=_
  rw[beq_self_eq_true]
 refine Rets.enterV Tryz.func17 rfl (rs:= [.tmp 4]) Tryz.results17 Tryz.ntmps17 ?_
 refine kf ?_
 first|with_reducible refine ks [1] @Kw_ ?_|refine kp @Kw_ ?_
 have hN0:New w.heap.size ([]:ze_):=trivial
 refine Cw.regionS [G'.bd] [0,2,1,3,4,5,6,8,9,10,11,7,12,13,14,15,17,16,18,19,20,21] [] (by kernel_rfl) (by kernel_rfl) (by kernel_rfl) ?_
 simp only[zj_, ↓zf_, ↓zc_, ↓zw_, ↓zv_,zd_]
 refine kq @Kw_ ?_
 refine Ow.soft rfl rfl rfl ?_
 refine Ow.callC rfl rfl Tryz.call38 (fun w' hw'=>adN_ w' G S (hD.old hw' hN0) (jy_ hG hw' hN0) hB) (fun B2 v2 D2 hA2 hB2 hN2 hS2=> ?_)
 rw[List.nil_append]
 have hN2':New w.heap.size D2:=hN2.mono hB2
 obtain⟨X,hX,hP⟩:=id hC
 have hd:=hX _ _ hP.disk
 have hR: ∀ {Y Z:ze_},New w.heap.size Y→New w.heap.size Z→ ∀r,r∈ [G'.bd]→zy_ w Y r=zy_ w Z r:=fun h1 h2 r hr=>by
  rw[List.mem_singleton] at hr
  subst hr
  exact(kP_ hd h1).trans (kP_ hd h2).symm
 with_reducible refine Ow.nil ?_
 refine⟨hR hN2' hN0, ?_⟩
 refine kq @Kw_ ?_
 refine Ow.soft rfl rfl rfl ?_
 refine Ow.callC rfl rfl Tryz.call39 (fun w' hw'=>aj5_ w' G' S (hC.old hw' hN2') ok hB) (fun B3 v3 D3 hA3 hB3 hN3 hS3=> ?_)
 have hN3':New w.heap.size (D2++D3):=hN2'.app (hN3.mono hB3)
 with_reducible refine Ow.nil ?_
 refine⟨hR hN3' hN2', ?_⟩
 refine kq @Kw_ ?_
 refine Ow.soft rfl rfl rfl ?_
 refine Ow.callFV rfl Tryz.call37 (fun w' hw'=>X3_ v2 v3 (ZT_ S) (ZT_ S) w' ((hS2.mono (fun q hq=>by simp[hq])).slV (z:=fi0) hw' rfl rfl jX_) ((hS3.mono (fun q hq=>by simp[hq])).slV (z:=fi0) hw' rfl rfl jX_) (by omega)) ?_
 with_reducible refine Ow.nil ?_
 refine⟨by intro b hb;simp only[List.mem_cons,List.not_mem_nil,or_false] at hb;(try subst hb);rfl, ?_⟩
 have rdf:=kP_ hd hN3'
 refine kq (And.intro @Kw_ (And.intro @decide_true (@rdf))) ?_
 refine Ow.soft rfl rfl rfl ?_
 refine Ow.callFV rfl Tryz.call40 (fun w' hw'=>ai9_ w' G S (hD.old hw' hN3')) ?_
 with_reducible refine Ow.nil ?_
 refine⟨by intro b hb;simp only[List.mem_cons,List.not_mem_nil,or_false] at hb;(try subst hb);rfl, ?_⟩
 refine kq (And.intro @Kw_ @ho1) ?_
 refine Ow.soft rfl rfl rfl ?_
 refine Ow.callFV rfl Tryz.call41 (fun w' hw'=>Qm_ w' G S (hD.old hw' hN3') hu) ?_
 with_reducible refine Ow.nil ?_
 refine⟨by intro b hb;simp only[List.mem_cons,List.not_mem_nil,or_false] at hb;(try subst hb);rfl, ?_⟩
 refine kq @Kw_ ?_
 refine Ow.soft rfl rfl rfl ?_
 refine Ow.callFV rfl Tryz.call42 (fun w' hw'=>Vg_ w' G' S (hC.old hw' hN3') ok hB hu) ?_
 with_reducible refine Ow.nil ?_
 refine⟨by intro b hb;simp only[List.mem_cons,List.not_mem_nil,or_false] at hb;(try subst hb);rfl, ?_⟩
 refine kq (And.intro @Kw_ @hu1) ?_
 refine⟨_,(ke @Kw_),hN3', ?_⟩
 rfl
end Go.Proofs
end
section
open Go Go.Proofs Go.Sx Go.StP
namespace Go.Proofs
set_option maxRecDepth 10000
set_option maxHeartbeats 400000
set_option linter.unusedSimpArgs false
section
variable {dir nm data:List UInt8}
theorem kn_ {p s:Nat} {light made:Bool} (f:Nat) (S:DiskL) (hph:phT p (tkN dir nm data light p made) S=⟨true,(kK_ s dir nm data S).2,tkN dir nm data light p (w3_ s made (kK_ s dir nm data S).2),(kK_ s dir nm data S).1⟩):
  qX_ (f+1) (tkN dir nm data light p made) S=if(kK_ s dir nm data S).2≠0 then⟨false,(kK_ s dir nm data S).2,{tkN dir nm data light (p+1) (w3_ s made (kK_ s dir nm data S).2) with ended:=true},if w3_ s made (kK_ s dir nm data S).2=true∧(kK_ s dir nm data S).2≠9 then(zR_ (kK_ s dir nm data S).1 dir (jw_ nm)).1 else(kK_ s dir nm data S).1⟩
   else⟨KG_ (tkN dir nm data light (p+1) made),0,{tkN dir nm data light (p+1) (w3_ s made (kK_ s dir nm data S).2) with ended:=KG_ (tkN dir nm data light (p+1) made)},(kK_ s dir nm data S).1⟩:=by
 rw[qX_]
 rw[show(tkN dir nm data light p made).next=p from rfl,hph]
 by_cases he: (kK_ s dir nm data S).2≠0
 ·rw[if_pos he,if_pos he]
  by_cases hm:w3_ s made (kK_ s dir nm data S).2=true∧(kK_ s dir nm data S).2≠9
  ·rw[if_pos hm];exact if_pos hm
  ·rw[if_neg hm];exact if_neg hm
 ·rw[if_neg he,if_neg he,if_neg (fun h=>by cases h.1)]
  rfl
theorem ks_ {k k1 s:Nat} {light made:Bool} (S:DiskL) (ha:atK k dir nm S=k1) (hs: (zJ_ light).getD k1 0=s):
  vz_ light k made dir nm data S=if(kK_ s dir nm data S).2≠0 then⟨false,(kK_ s dir nm data S).2,k1+1,w3_ s made (kK_ s dir nm data S).2,if w3_ s made (kK_ s dir nm data S).2=true∧(kK_ s dir nm data S).2≠9 then(zR_ (kK_ s dir nm data S).1 dir (jw_ nm)).1 else(kK_ s dir nm data S).1⟩ else⟨k1+1==(zJ_ light).length,0,k1+1,w3_ s made (kK_ s dir nm data S).2,(kK_ s dir nm data S).1⟩:=by
 unfold vz_
 simp only
 rw[ha,hs]
def ain_ (dir nm data:List UInt8) (light:Bool) (T:StR) (R:DsR):Prop:=
 T.done=R.done∧T.e=R.e∧T.S=R.S∧(R.done=true∨R.e≠0→T.t.ended=true)∧(R.done=false→R.e=0→R.k< (zJ_ light).length∧T.t=tkN dir nm data light R.k R.made)
theorem kp_ {light m:Bool} {e kk:Nat} {d d':Bool} {t1 t2:TkL} {S' S1:DiskL} {T:StR} {R:DsR} (hT:T=if e≠0 then⟨false,e,t1,S'⟩ else⟨d,0,t2,S1⟩) (hR:R=if e≠0 then⟨false,e,kk,m,S'⟩ else⟨d',0,kk,m,S1⟩) (hd:d=d') (h1:t1.ended=true) (h2:d=true→t2.ended=true) (h3:d=false→kk< (zJ_ light).length∧t2=tkN dir nm data light kk m):ain_ dir nm data light T R:=by
 subst hd
 by_cases he:e≠0
 ·rw[if_pos he] at hT hR
  subst hT hR
  exact⟨rfl,rfl,rfl,fun _=>h1,fun _ h=>absurd h he⟩
 ·rw[if_neg he] at hT hR
  subst hT hR
  refine⟨rfl,rfl,rfl,fun h=>h2 (h.resolve_right fun h=>h rfl),fun hd _=>h3 hd⟩
theorem Zv_ {k:Nat} (S:DiskL) (h:k≠0):atK k dir nm S=k:=by unfold atK;rw[if_neg (fun h'=>h h'.1)]
theorem aiS_ (light made:Bool) (k:Nat) (S:DiskL) (hk:k< (zJ_ light).length):ain_ dir nm data light (jI_ (tkN dir nm data light k made) S) (vz_ light k made dir nm data S):=by
 show ain_ dir nm data light (qX_ (6 - k) (tkN dir nm data light k made) S) _
 have one: ∀f,ain_ dir nm data light (qX_ (f+1) (tkN dir nm data light 1 made) S) (vz_ light 1 made dir nm data S):=fun f=>by
  cases light with
  |true=>exact kp_ (kn_ (s:=2) f S rfl) (ks_ S (Zv_ S (by decide)) rfl) rfl rfl (fun h=>by cases h) fun _=>⟨by decide,rfl⟩
  |false=>exact kp_ (kn_ (s:=2) f S rfl) (ks_ S (Zv_ S (by decide)) rfl) rfl rfl (fun h=>by cases h) fun _=>⟨by decide,rfl⟩
 have zero:ain_ dir nm data light (qX_ 6 (tkN dir nm data light 0 made) S) (vz_ light 0 made dir nm data S):=by
  by_cases h: (km_ S dir (jw_ nm)).2=0
  ·have ha:atK 0 dir nm S=0:=by unfold atK;rw[if_neg (fun h'=>h'.2 h)]
   have hp:phT 0 (tkN dir nm data light 0 made) S=⟨true,(kK_ 1 dir nm data S).2,tkN dir nm data light 0 (w3_ 1 made (kK_ 1 dir nm data S).2),(kK_ 1 dir nm data S).1⟩:=if_neg (fun h'=>h' h)
   cases light with
   |true=>exact kp_ (kn_ (s:=1) 5 S hp) (ks_ S ha rfl) rfl rfl (fun h=>by cases h) fun _=>⟨by decide,rfl⟩
   |false=>exact kp_ (kn_ (s:=1) 5 S hp) (ks_ S ha rfl) rfl rfl (fun h=>by cases h) fun _=>⟨by decide,rfl⟩
  ·have hp:phT 0 (tkN dir nm data light 0 made) S=⟨false,0,tkN dir nm data light 0 made,S⟩:=if_pos h
   have h0:atK 0 dir nm S=1:=by unfold atK;rw[if_pos ⟨rfl,h⟩]
   have h1:atK 1 dir nm S=1:=Zv_ S (by decide)
   have e1:vz_ light 0 made dir nm data S=vz_ light 1 made dir nm data S:=by unfold vz_;simp only;rw[h0,h1]
   have e2:qX_ 6 (tkN dir nm data light 0 made) S=qX_ 5 (tkN dir nm data light 1 made) S:=by
    rw[qX_]
    rw[show(tkN dir nm data light 0 made).next=0 from rfl,hp]
    have hend:KG_ (nxT ⟨false,0,tkN dir nm data light 0 made,S⟩)=false:=by cases light<;>rfl
    rw[if_neg (by simp),if_pos ⟨rfl,hend⟩]
    show qX_ 5 {tkN dir nm data light 1 made with ended:=KG_ (nxT ⟨false,0,tkN dir nm data light 0 made,S⟩)} S=_
    rw[hend];rfl
   rw[e1,e2]
   exact one 4
 cases light with
 |true=>
  have hk4:k<4:=hk
  rcases(show k=0∨k=1∨k=2∨k=3 by omega) with rfl|rfl|rfl|rfl
  ·exact zero
  ·exact one 4
  ·exact kp_ (kn_ (s:=3) 3 S rfl) (ks_ S (Zv_ S (by decide)) rfl) rfl rfl (fun h=>by cases h) fun _=>⟨by decide,rfl⟩
  ·exact kp_ (kn_ (p:=4) (s:=5) 1 S rfl) (ks_ S (Zv_ S (by decide)) rfl) rfl rfl (fun _=>rfl) fun h=>by cases h
 |false=>
  have hk6:k<6:=hk
  rcases(show k=0∨k=1∨k=2∨k=3∨k=4∨k=5 by omega) with rfl|rfl|rfl|rfl|rfl|rfl
  ·exact zero
  ·exact one 4
  ·exact kp_ (kn_ (s:=3) 3 S rfl) (ks_ S (Zv_ S (by decide)) rfl) rfl rfl (fun h=>by cases h) fun _=>⟨by decide,rfl⟩
  ·exact kp_ (kn_ (s:=4) 2 S rfl) (ks_ S (Zv_ S (by decide)) rfl) rfl rfl (fun h=>by cases h) fun _=>⟨by decide,rfl⟩
  ·exact kp_ (kn_ (s:=5) 1 S rfl) (ks_ S (Zv_ S (by decide)) rfl) rfl rfl (fun h=>by cases h) fun _=>⟨by decide,rfl⟩
  ·exact kp_ (kn_ (s:=6) 0 S rfl) (ks_ S (Zv_ S (by decide)) rfl) rfl rfl (fun _=>rfl) fun h=>by cases h
end
end Go.Proofs
end
section
open Go Go.Proofs Go.Sx Go.StP Go.Flo
namespace Go.Proofs
set_option maxRecDepth 10000
set_option maxHeartbeats 1000000
set_option linter.unusedSimpArgs false
theorem VZ_ {n:Nat} {L M:ze_} (h:New n L) (p:L.Perm M):New n M:=New.of_le fun c hc=>h.le c ((p.map Prod.fst).mem_iff.2 hc)
set_option linter.defProp false
end Go.Proofs
end
section
open Go Go.Proofs Go.Sx Go.StP Go.Flo
namespace Go.Proofs
set_option maxRecDepth 10000
set_option maxHeartbeats 1000000
set_option linter.unusedSimpArgs false
set_option linter.defProp false
end Go.Proofs
end
section
open Go Go.Proofs Go.Sx Go.StP Go.Flo
namespace Go.Proofs
set_option maxRecDepth 10000
set_option maxHeartbeats 1000000
set_option linter.unusedSimpArgs false
theorem ae8_ (x:Bool×Nat):Zz_ (.sl x) (.slice none 0 0)=some (vi 0):=(rfl)
set_option linter.defProp false
def qU_:=And.intro (And.intro (And.intro (@zn_) (@zm_)) (And.intro (@Wn_) (And.intro (@WC_) (@Wa_)))) (And.intro (And.intro (@WF_) (And.intro (@Wj_) (@WE_))) (And.intro (@VS_) (And.intro (@Sx.tup2_0) (@Sx.tup2_1))))
theorem xk_ (w:World):Rets Tryz.prog 13 #[.pointer none] w (fun v D=>v= .bool true∧D= []):=by
 have hnl:=ard_
 refine Rets.enterV Tryz.func13 rfl (rs:= [.tmp 2]) Tryz.results13 Tryz.ntmps13 ?_
 refine kf ?_
 first|with_reducible refine ks [] (And.intro @qU_ @hnl) ?_|refine kp (And.intro @qU_ @hnl) ?_
 refine⟨_,(ke @qU_),trivial, ?_⟩
 rfl
theorem aaT_ (w:World):Rets Tryz.prog 14 #[.pointer none] w (fun v D=>v=vi 0∧D= []):=by
 refine Rets.enterV Tryz.func14 rfl (rs:= [.tmp 2]) Tryz.results14 Tryz.ntmps14 ?_
 refine kf ?_
 first|with_reducible refine ks [] @qU_ ?_|refine kp @qU_ ?_
 refine Ow.callFV rfl Tryz.call13 (fun w' hw'=>xk_ w') ?_
 refine ko @qU_ ?_
 first|with_reducible refine ks [] @qU_ ?_|refine kp @qU_ ?_
 refine⟨_,(ke @qU_),trivial, ?_⟩
 rfl
theorem Kq_ (d:Value) (w:World):Rets Tryz.prog 15 #[.pointer none,d] w (fun v D=>v= .tuple #[.bool false,vi 15]∧D= []):=by
 refine Rets.enterV Tryz.func15 rfl (rs:= [.tmp 4, .tmp 5]) Tryz.results15 Tryz.ntmps15 ?_
 refine kf ?_
 first|with_reducible refine ks [] @qU_ ?_|refine kp @qU_ ?_
 refine Cw.scopeL (G:=Unit) (fun g=>0) [9,10,4,5,6,7,11,8,13,14,15,16,17,18,19,20,21,12,22,23,24,25,26,27,28,29,30,31,32,33,34,35,36,37,38,39,40,41,42,43,44,45,46,47,48,49,50,51,52,53,54,55,56,57,58,59,60,61,62,63,64,65,66,67,68,69,70,71,72,73,74,75,76,77,78,79,80,81,82,83,84,85,86,87,88,89] (fun g=> []) (fun g=> []) (fun g=>False) (fun g=>0) ?_ ?_ ?_
 ·intro g
  rfl
 ·intro g j hg
  exact hg.elim
 ·intro key
  repeat ((try with_reducible refine Cw.go [999999] ?_);(simp(disch:=(first|assumption|omega| (simp only[w5_,wR_,UInt64.reduceToNat];try omega))) only[↓Sx.S0,Sx.S1,Tryz.fx,qU_,Nat.reduceAdd,Nat.reducePow,Int.reducePow,Nat.reduceBEq, ↓reduceIte,UInt8.reduceToNat,UInt16.reduceToNat,UInt32.reduceToNat,UInt64.reduceToNat,Int.reduceToNat]))
  refine Ow.callFV rfl Tryz.call13 (fun w' hw'=>xk_ w') ?_
  refine ko @qU_ ?_
  repeat ((try with_reducible refine Cw.go [999999] ?_);(simp(disch:=(first|assumption|omega| (simp only[w5_,wR_,UInt64.reduceToNat];try omega))) only[↓Sx.S0,Sx.S1,Tryz.fx,qU_,Nat.reduceAdd,Nat.reducePow,Int.reducePow,Nat.reduceBEq, ↓reduceIte,UInt8.reduceToNat,UInt16.reduceToNat,UInt32.reduceToNat,UInt64.reduceToNat,Int.reduceToNat]))
  refine⟨_,(ke @qU_),trivial, ?_⟩
  rfl
structure LfG where
 i:Nat
 n:Nat
theorem akz_ (bt:Nat) (t:TkL) (w:World) (hX:w.heap[bt]? =some (tkO t)) (hne:t.ended=false→t.next< (zJ_ t.light).length):Rets Tryz.prog 14 #[vp bt 0] w (fun v D=>(∃n:Nat,v=vi (n:Int)∧((n:Int)==0)=t.ended)∧D= []):=by
 refine Rets.enterV Tryz.func14 rfl (rs:= [.tmp 2]) Tryz.results14 Tryz.ntmps14 ?_
 refine kf ?_
 first|with_reducible refine ks [] @qU_ ?_|refine kp @qU_ ?_
 refine Ow.callFV rfl Tryz.call13 (fun w' hw'=>jn_ bt t w' ((hw'.old bt (Array.getElem?_eq_some_iff.1 hX).1 (by simp[keys])).trans hX)) ?_
 cases he:t.ended with
 |true=>
  refine ko @qU_ ?_
  first|with_reducible refine ks [] @qU_ ?_|refine kp @qU_ ?_
  refine⟨_,(ke @qU_),trivial, ?_⟩
  exact⟨0,rfl,rfl⟩
 |false=>
 have hlt:=hne he
 have h6:=kL_ t.light
 refine ko @qU_ ?_
 first|with_reducible refine ks [] (And.intro @qU_ @hX) ?_|refine kp (And.intro @qU_ @hX) ?_
 refine Cw.loopG (G:=LfG) [11,12,13,14,17,18,19,20,21,22,23,24,25,26,27,28,29,30,31,3,15,16,4] (fun g=> [(3,vi g.n),(4,vi g.i)]) (fun g=> []) (fun g=>g.i≤6∧g.n≤g.i∧t.next≤g.i∧(g.n=0→ ∀j,t.next≤j→j<g.i→t.light=true∧(j=3∨j=5))) (fun g=>6 - g.i) ⟨t.next,0⟩ rfl rfl ?_ ?_
 ·exact⟨by show t.next≤6;omega,Nat.zero_le _,Nat.le_refl _,fun _ j h1 h2=>by simp only at h2;omega⟩
 intro g j hg
 refine kv ?_
 obtain⟨i,n⟩:=g
 simp only at hg ⊢
 obtain⟨hi,hn,hti,hg⟩:=hg
 first|with_reducible refine ks [] @qU_ ?_|refine kp @qU_ ?_
 refine Ow.callFV rfl Tryz.call33 (fun w' hw'=>KZ_ w') ?_
 by_cases hlt6:i<6
 ·have d0:decide ((i:Int)<6)=true:=decide_eq_true (by omega)
  refine ko (And.intro @qU_ @d0) ?_
  cases hl:t.light with
  |false=>
   first|with_reducible refine ks [] (And.intro @qU_ (And.intro @hX (@hl))) ?_|refine kp (And.intro @qU_ (And.intro @hX (@hl))) ?_
   exact Again.mk ⟨i+1,n+1⟩ (by show 6 - (i+1)<6 - i;omega) ⟨by show i+1≤6;omega,by show n+1≤i+1;omega,by show t.next≤i+1;omega,fun h=>by simp only at h;omega⟩ rfl rfl
  |true=>
   by_cases h3:i=3
   ·subst h3
    have p3: ((((3:Nat):Int)) !=3)=false:=rfl
    first|with_reducible refine ks [] (And.intro @qU_ (And.intro @hX (And.intro @hl (@p3)))) ?_|refine kp (And.intro @qU_ (And.intro @hX (And.intro @hl (@p3)))) ?_
    exact Again.mk ⟨4,n⟩ (by show 6 - 4<6 - 3;omega) ⟨by show 4≤6;omega,by show n≤4;omega,by show t.next≤4;omega,fun h j h1 h2=>⟨rfl,by
     simp only at h h2
     by_cases hj:j<3
     ·exact(hg h j h1 hj).2
     ·omega⟩⟩ rfl rfl
   by_cases h5:i=5
   ·subst h5
    have p3: ((((5:Nat):Int)) !=3)=true:=rfl
    have p5: ((((5:Nat):Int)) !=5)=false:=rfl
    first|with_reducible refine ks [] (And.intro @qU_ (And.intro @hX (And.intro @hl (And.intro @p3 (@p5))))) ?_|refine kp (And.intro @qU_ (And.intro @hX (And.intro @hl (And.intro @p3 (@p5))))) ?_
    exact Again.mk ⟨6,n⟩ (by show 6 - 6<6 - 5;omega) ⟨by show 6≤6;omega,by show n≤6;omega,by show t.next≤6;omega,fun h j h1 h2=>⟨rfl,by
     simp only at h h2
     by_cases hj:j<5
     ·exact(hg h j h1 hj).2
     ·omega⟩⟩ rfl rfl
   have q3: ((i:Int) !=3)=true:=by rw[bne_iff_ne];omega
   have q5: ((i:Int) !=5)=true:=by rw[bne_iff_ne];omega
   first|with_reducible refine ks [] (And.intro @qU_ (And.intro @hX (And.intro @hl (And.intro @q3 (@q5))))) ?_|refine kp (And.intro @qU_ (And.intro @hX (And.intro @hl (And.intro @q3 (@q5))))) ?_
   exact Again.mk ⟨i+1,n+1⟩ (by show 6 - (i+1)<6 - i;omega) ⟨by show i+1≤6;omega,by show n+1≤i+1;omega,by show t.next≤i+1;omega,fun h=>by simp only at h;omega⟩ rfl rfl
 ·obtain rfl:i=6:=by omega
  have d0:decide (((6:Nat):Int)<6)=false:=by decide
  refine ko (And.intro @qU_ @d0) ?_
  first|with_reducible refine ks [] (And.intro @qU_ @d0) ?_|refine kp (And.intro @qU_ @d0) ?_
  refine⟨_,(ke @qU_),trivial, ?_⟩
  refine⟨n,rfl, ?_⟩
  rw[beq_eq_false_iff_ne]
  intro h0
  have h0':n=0:=by omega
  have hh:=hg h0'
  cases hl:t.light with
  |false=>have:=(hh t.next (Nat.le_refl _) (by omega)).1;rw[hl] at this;cases this
  |true=>
   rw[hl] at hlt
   have h4:t.next<4:=hlt
   have:=(hh 4 (by omega) (by omega)).2
   omega
set_option linter.defProp false
def apF_:=And.intro (And.intro (And.intro (@zn_) (@zm_)) (And.intro (@Sx.tup2_0) (And.intro (@Sx.tup2_1) (@VN_)))) (And.intro (And.intro (@VB_) (And.intro (@WN_) (@Jo_))) (And.intro (@VA_) (And.intro (@afN_) (@ae8_))))
theorem aaL_ (bt:Nat) (q d:Value) (dir nm data:List UInt8) (made:Bool) (w:World) (hX:w.heap[bt]? =some (dtO dir nm data q made)) (hq: ∀x,Zz_ (.sl x) q=some (vi 0)):
  Rets Tryz.prog 16 #[vp bt 0,d] w (fun v D=>v= .tuple #[.bool false,vi 15]∧D= []):=by
 refine Rets.enterV Tryz.func16 rfl (rs:= [.tmp 4, .tmp 5]) Tryz.results16 Tryz.ntmps16 ?_
 refine kf ?_
 first|with_reducible refine ks [] (And.intro @apF_ (And.intro @hX (@hq))) ?_|refine kp (And.intro @apF_ (And.intro @hX (@hq))) ?_
 refine⟨_,(ke @apF_),trivial, ?_⟩
 rfl
end Go.Proofs
end
section
open Go Go.Proofs Go.Sx Go.StP Go.Flo
namespace Go.Proofs
set_option maxRecDepth 10000
set_option maxHeartbeats 1000000
set_option linter.unusedSimpArgs false
set_option linter.defProp false
end Go.Proofs
end
namespace Go.Sx
open Go Go.ChangeShapes Go.WideShapes Go.RowKit
theorem Hp.same0 {W W':World} (h:Hp W [] W') {b:Nat} (hb:b<W.heap.size):W'.heap[b]? =W.heap[b]? :=h.old b hb (fun hm=>by cases hm)
theorem Hp.kept {W W':World} (h:Hp W [] W') (may:MemPlace→Prop):W.keptBut W' may:=by
 refine⟨h.os,h.output,fun i hi=> ?_⟩
 rw[h.same0 hi]
 cases ho:W.heap[i]? with
 |none=>rfl
 |some o=>
  cases o<;>first
   |exact⟨rfl,rfl,rfl,fun _ _=>rfl⟩
   |exact .inr ⟨rfl,rfl⟩
   |rfl
theorem Hp.sameAt {W W':World} (h:Hp W [] W') {p:MemPlace} (hp:p.block<W.heap.size):W.sameAt W' p:=by
 cases p with
 |cell b off=>
  have:=h.same0 (b:=b) hp
  simp only[World.sameAt,World.cell?,this]
 |map b=>exact h.same0 hp
theorem Hp.frozen {W W':World} (h:Hp W [] W') {a:Addr} (ha:a.block<W.heap.size):W'.frozen? a=W.frozen? a:=by
 simp only[World.frozen?,h.same0 ha]
section
variable {H:Type} {enc:TypeId×Value→H} {P:Program}
theorem ZN_ (hl:laidOutB P=true) {W W':World} {sp:Nat→Bool} (hp:Hp W [] W'): ∀ {ts:List TypeId} {vs:List Value} {ds:List (DataW H)} {ps:List MemPlace},
  (∀t∈ts,P.readableRec t=true∧t<P.types.size)→(∀p∈ps,p.block<W.heap.size)→(∀p∈ps,sp p.block=true)→
  DataW.TrodAll enc P W 0 (fun _=>true) true ts vs ds ps→DataW.TrodAll enc P W' 0 sp true ts vs ds ps
 | [],_,_,_,_,_,_,h=>by
  obtain⟨rfl,rfl,rfl⟩:=trodAll_nil h
  exact trodAll_mk0
 |t::ts,_,_,_,ht,hlt,hs,h=>by
  obtain⟨v,vs,d,ds,p,q,rfl,rfl,rfl,h1,h2⟩:=trodAll_cons h
  have hlt1: ∀x∈p,x.block<W.heap.size:=fun x hx=>hlt x (List.mem_append_left _ hx)
  exact trodAll_cons_mk (WideElems.Trod_stays hl (ht t List.mem_cons_self).1 (ht t List.mem_cons_self).2 h1 (fun x hx=>hp.sameAt (hlt1 x hx)) (fun x hx=>hs x (List.mem_append_left _ hx)))
   (ZN_ hl hp (fun u hu=>ht u (List.mem_cons_of_mem _ hu)) (fun x hx=>hlt x (List.mem_append_right _ hx)) (fun x hx=>hs x (List.mem_append_right _ hx)) h2)
theorem ajG_ {f:Func} {s:ChangeSpec} {W W':World} {args:Array Value} {ds gs:List (DataW H)} {before:List MemPlace} {tb:TypeId} (hl:laidOutB P=true)
  (hW:DataW.Whole enc P f.params.toList s.vars false W args.toList ds gs before) (hv:s.vars= []) (hpar: ∀t∈f.params.toList,P.readableRec t=true∧t<P.types.size)
  (hr:f.resultTypes= #[tb]) (htb:P.underlying tb=some .bool) (hfn:s.fn H ds={results:= [.lit (.bool true)],args:=ds}) (hp:Hp W [] W'):
  s.post enc P f false true false false W args (.bool true) W':=by
 have hlt:=hW.lt
 have hW0:=hW
 obtain⟨p,q,hA,hV,rfl,hz,hn⟩:=hW
 rw[hv] at hV
 obtain⟨rfl,rfl⟩:=trodVars_none hV
 rw[List.append_nil] at hW0 hlt hz
 have hargs: ∀sp:Nat→Bool,(∀x∈p,sp x.block=true)→DataW.TrodAll enc P W' 0 sp true f.params.toList args.toList (s.fn H (ds++ [])).args p:=fun sp hs=>by
  rw[List.append_nil,hfn]
  exact ZN_ hl hp hpar hlt hs hA
 have hvars: ∀sp:Nat→Bool,DataW.TrodVars enc P W' sp s.vars (s.fn H (ds++ [])).vars []:=fun sp=>by
  rw[List.append_nil,hfn,hv];rfl
 have hres: ∀ (b:Nat) (sp:Nat→Bool) (hd:Bool),DataW.TrodAll enc P W' b sp hd f.resultTypes.toList ((Value.bool true).resultList f.resultTypes.size) (s.fn H (ds++ [])).results []:=fun b sp hd=>by
  rw[List.append_nil,hfn,hr]
  exact trodAll_cons_mk (shut_bool htb true) trodAll_mk0
 have hold: ∀x∈p,(fun b=>decide (b<W.heap.size)) x.block=true:=fun x hx=>by simpa using hlt x hx
 refine⟨ds,[],p,[],p,[],hW0,hres _ _ _,hargs _ hold,hvars _,hp.kept _,fun _=> ?_⟩
 refine⟨ok_one hr rfl (okWide_bool_mk htb true),_,_,([]++p)++ [],⟨[]++p,[],trodAll_append (hargs _ (fun _ _=>rfl)) (hres _ _ _),hvars _,rfl, ?_,fun h=>by cases h⟩, ?_⟩
 ·intro b off hx
  have hx':MemPlace.cell b off∈p:=by simpa using hx
  rw[hp.frozen (hlt _ hx')]
  exact hz b off hx'
 ·intro x hx _
  simpa using hx
end
section
variable {P:Program} {W:World} {name:String} {k:IntKind} {zs:List Int}
end
section
variable {H:Type} {enc:TypeId×Value→H} {P:Program}
end
end Go.Sx
namespace Go.Sx
open Go
section
variable {P:Program}
theorem alE_ {fits:TypeId→Bool} {d:Nat} {e:TypeId} {count off n:Nat} (h:rowAt P fits d e count off n=true):off≤count*P.cellsOf e:=by
 cases d with
 |zero=>simp[rowAt] at h
 |succ d=>
  unfold rowAt at h
  simp only at h
  split at h
  ·cases h
  ·rename_i hs
   have hs':0<P.cellsOf e:=Nat.pos_of_ne_zero hs
   have hd:=Nat.div_add_mod off (P.cellsOf e)
   have hm:=Nat.mod_lt off hs'
   rw[Bool.or_eq_true] at h
   rcases h with h|h
   ·simp only[Bool.and_eq_true,beq_iff_eq,decide_eq_true_eq] at h
    have:off / P.cellsOf e*P.cellsOf e≤count*P.cellsOf e:=Nat.mul_le_mul_right _ (by omega)
    rw[Nat.mul_comm (P.cellsOf e)] at hd
    omega
   ·simp only[Bool.and_eq_true,decide_eq_true_eq] at h
    have: (off / P.cellsOf e+1)*P.cellsOf e≤count*P.cellsOf e:=Nat.mul_le_mul_right _ (by omega)
    rw[Nat.add_mul,Nat.one_mul] at this
    rw[Nat.mul_comm (P.cellsOf e)] at hd
    omega
theorem abF_ {e:TypeId} {count off:Nat}: ∀ {d:Nat} {u:TypeId} {n:Nat},liesAt P d e count off u n=true→off≤count*P.cellsOf e
 |0,u,n,h=>by simp[liesAt] at h
 |d+1,u,n,h=>by
  unfold liesAt at h
  rw[Bool.or_eq_true] at h
  rcases h with h|h
  ·exact alE_ h
  ·split at h
   ·exact abF_ h
   ·cases h
theorem aqk_ {W:World} {r:Reach} {base:Nat} {a:Addr} {e:TypeId} {n:Nat} (h:W.has P r base a e n):a.spot=none∧ ∃arr E fz,W.heap[a.block]? =some (.cells arr E fz)∧a.off≤arr.size:=by
 obtain⟨-,hs,row,cells,hsh,hl⟩:=h
 refine⟨hs, ?_⟩
 unfold World.shape? at hsh
 split at hsh
 ·rename_i c el fz hh
  cases hsh
  refine⟨c,_,fz,hh,Nat.le_trans (abF_ hl) ?_⟩
  exact Nat.div_mul_le_self _ _
 ·cases hsh
theorem ajd_ {W:World} {r:Reach} {base:Nat} {t e:TypeId} {v:Value} (ht:P.underlying t=some (.slice e)) (h:Value.okWide P W r base t v):
  v= .slice none 0 0∨ ∃b off len cap arr E fz,v=vsl b off len cap∧len≤cap∧W.heap[b]? =some (.cells arr E fz)∧off≤arr.size:=by
 obtain⟨a,len,cap,rfl⟩:=Go.WideShapes.okWide_slice ht h
 unfold Value.okWide at h
 rw[ht] at h
 unfold Cell.okWide at h
 rw[ht] at h
 simp only at h
 unfold Cell.ok at h
 rw[ht] at h
 cases a with
 |none=>
  left
  simp only at h
  split at h
  all_goals first| (cases h;done) |simp_all
 |some a=>
  right
  simp only at h
  obtain⟨hle,-,hh⟩:=h
  obtain⟨hs,arr,E,fz,hb,ho⟩:=aqk_ hh
  obtain⟨b,off,sp⟩:=a
  simp only at hs
  subst hs
  exact⟨b,off,len,cap,arr,E,fz,rfl,hle,hb,ho⟩
theorem are_ {α:Type} {enc:α→List Value} {z:α} {m:Nat} {W:World} {base b off c:Nat} {l:List α} {arr:Array Value} {E:TypeId} {fz:Nat×Nat} (hm0:0<m) (hm: ∀x,(enc x).length=m)
  (hcells: ∀i,i<l.length→W.cells? base ((Addr.mk b off none).add (i*m)) m=some (enc (l.getD i z))) (hheap:W.heap[b]? =some (.cells arr E fz)) (hoff:off≤arr.size) (hc:l.length≤c):SlV m enc z W (vsl b off l.length c) l:=by
 have get: ∀k,k<l.length→ ∀j,j<m→arr[off+k*m+j]? =(enc (l.getD k z))[j]? :=by
  intro k hk j hj
  obtain⟨-,hl,hg⟩:=World.cells?_some (hcells k hk)
  have:=hg j (by omega)
  rw[jc_,jc_] at this
  simp only[World.cell?,hheap,Option.isSome_none,Bool.false_eq_true,if_false] at this
  exact this
 refine SlV.sl hheap get hc ?_
 by_cases h0:l.length=0
 ·rw[h0];omega
 ·have h1:=get (l.length - 1) (by omega) (m - 1) (by omega)
  rw[List.getElem?_eq_getElem (by rw[hm];omega)] at h1
  have h2:=(Array.getElem?_eq_some_iff.1 h1).1
  have h3: (l.length - 1)*m+m=l.length*m:=by
   rw[←Nat.succ_mul];congr 1;omega
  omega
end
end Go.Sx
section
open Go Go.Proofs Go.Sx Go.StP Go.Flo
open Go.ChangeShapes Go.WideShapes Go.ChangeAt Go.RowKit Go.ChangeMaps
namespace Go.Proofs
set_option maxRecDepth 10000
set_option maxHeartbeats 1000000
set_option linter.unusedSimpArgs false
theorem am2_ {H:Type} {tell:TypeId×Value→H} {α:Type} {enc:α→List Value} {z:α} {m:Nat} {W:World} {r:Reach} {base b0:Nat} {sp:Nat→Bool} {held:Bool} {fuel:Nat} {t e:TypeId} {v:Value} {x:DataW H×List MemPlace} {R:α→DataW H→Prop}
  (ht: (Tryz.prog).underlying t=some (.slice e)) (he: (Tryz.prog).cellsOf e=m) (hm0:0<m) (hm: ∀x,(enc x).length=m) (hval:Value.okWide Tryz.prog W r b0 t v)
  (hdec: ∀n cs y,DataW.trod tell Tryz.prog W base sp held n e cs=some y→ ∃a,cs=enc a∧R a y.1) (hd:DataW.trod tell Tryz.prog W base sp held fuel t [v]=some x):
  ∃l,SlV m enc z W v l∧(l= []∨ ∃es sp',x.1= .slice es sp'∧ ∀i,i<l.length→ ∃d,d∈es∧R (l.getD i z) d):=by
 rcases DataW.trod_slice ht hd with⟨hcs,-⟩ | ⟨a,len,cap,elems,rest,n,-,hcs,hx,-,hl,-,hlen,hel,-,-⟩
 ·simp only[List.cons.injEq,and_true] at hcs
  subst hcs
  exact⟨[],SlV.nil W, .inl rfl⟩
 ·simp only[List.cons.injEq,and_true] at hcs
  subst hcs
  rcases ajd_ ht hval with h0| ⟨b,off,len',cap',arr,E,fz,h1,-,hb,ho⟩
  ·cases h0
  ·unfold vsl at h1
   cases h1
   rw[he] at hel
   have hex: ∀i,i<len→ ∃q,W.cells? base ((Addr.mk b off none).add (i*m)) m=some (enc q)∧ ∃d,d∈elems.map (·.1)∧R q d:=by
    intro i hi
    have h2:=hel i hi
    rw[List.getElem?_eq_getElem (by omega)] at h2
    cases hc:W.cells? base ((Addr.mk b off none).add (i*m)) m with
    |none=>rw[hc] at h2;cases h2
    |some cs=>
     rw[hc] at h2
     obtain⟨q,rfl,hR⟩:=hdec _ _ _ h2
     exact⟨q,rfl,_,List.mem_map_of_mem (List.getElem_mem (by omega)),hR⟩
   obtain⟨f,hf⟩: ∃f:Nat→α,∀i,i<len→W.cells? base ((Addr.mk b off none).add (i*m)) m=some (enc (f i))∧ ∃d,d∈elems.map (·.1)∧R (f i) d:=by
    classical
    refine⟨fun i=>if h:i<len then Classical.choose (hex i h) else z,fun i hi=> ?_⟩
    simp only[dif_pos hi]
    exact Classical.choose_spec (hex i hi)
   have hll: ((List.range len).map f).length=len:=by simp
   have hgd: ∀i,i<len→((List.range len).map f).getD i z=f i:=fun i hi=>by
    rw[List.getD_eq_getElem?_getD,List.getElem?_map,List.getElem?_range hi];rfl
   refine⟨(List.range len).map f, ?_, .inr ⟨_,_,by rw[hx],fun i hi=> ?_⟩⟩
   ·have:=are_ (W:=W) (base:=base) (b:=b) (off:=off) (c:=cap) (l:=(List.range len).map f) (z:=z) hm0 hm (fun i hi=>by
     rw[hll] at hi
     rw[(hf i hi).1,hgd i hi]) hb ho (by rw[hll];exact hl)
    rw[hll] at this
    exact this
   ·rw[hll] at hi
    rw[hgd i hi]
    exact(hf i hi).2
theorem apA_ {H:Type} {tell:TypeId×Value→H} {W:World} {base:Nat} {sp:Nat→Bool} {held:Bool} (n:Nat) (cs:List Value) (y:DataW H×List MemPlace)
  (h:DataW.trod tell Tryz.prog W base sp held n 60 cs=some y): ∃a:FiL,cs=fiC a∧y.1= .agg [.lit (.string a.dir), .lit (.string a.name), .lit (.string a.data)]:=by
 obtain⟨y0,y1,y2,n',hy,hlen,h0,h1,h2⟩:=Deep.trod_struct3 Tryz.underlying60 h
 have hc: (Tryz.prog).cellsOf 60=3:=by kernel_rfl
 have hc0: (Tryz.prog).cellsOf 9=1:=by kernel_rfl
 simp only at h0 h1 h2
 rw[hc0,List.drop_zero] at h0
 rw[hc0] at h1 h2
 rw[hc] at hlen
 obtain⟨s,hs,hys,-⟩:=DataW.trod_string Tryz.underlying9 h0
 obtain⟨u,hu,hyu,-⟩:=DataW.trod_string Tryz.underlying9 h1
 obtain⟨x,hx,hyx,-⟩:=DataW.trod_string Tryz.underlying9 h2
 refine⟨⟨s.data.toList,u.data.toList,x.data.toList⟩, ?_,by rw[hy,hys,hyu,hyx]⟩
 have hd:cs=cs.take 1++ ((cs.drop 1).take 1++ (cs.drop 2).take 1):=by
  rw[show(cs.drop 2).take 1=cs.drop 2 from List.take_of_length_le (by rw[List.length_drop];omega),show cs.drop 2=(cs.drop 1).drop 1 by rw[List.drop_drop],List.take_append_drop,List.take_append_drop]
 rw[hd,hs,hu,hx]
 rfl
theorem adn_ {H:Type} {enc:TypeId×Value→H} {W:World} {r:Reach} {b0 base:Nat} {sp:Nat→Bool} {held:Bool} {v:Value} {d:DataW H} {p:List MemPlace}
  (hval:Value.okWide Tryz.prog W r b0 22 v) (hd:DataW.Trod enc Tryz.prog W base sp held 22 v d p):
  ∃l,FiSl W v l∧(l= []∨ ∃es sp',d= .slice es sp'∧ ∀i,i<l.length→ ∃e,e∈es∧e= .agg [.lit (.string (l.getD i fi0).dir), .lit (.string (l.getD i fi0).name), .lit (.string (l.getD i fi0).data)]):=by
 obtain⟨a0,len,cap,rfl⟩:=WideShapes.okWide_slice Tryz.underlying22 hval
 obtain⟨fu,hf⟩:=hd
 exact am2_ (z:=fi0) (R:=fun a e=>e= .agg [.lit (.string a.dir), .lit (.string a.name), .lit (.string a.data)]) Tryz.underlying22 (by kernel_rfl) (by decide) jX_ hval apA_ hf
end Go.Proofs
end
section
open Go Go.Proofs Go.Sx Go.StP Go.Flo
namespace Go.Proofs
set_option maxRecDepth 10000
set_option maxHeartbeats 1000000
set_option linter.unusedSimpArgs false
def VJ_:DataW Unit:= .agg [.lit (.string qB_), .lit (.string vx_), .lit (.string WR_)]
theorem Ko_ {W:World} {base:Nat} {sp:Nat→Bool} {held:Bool} {fuel:Nat} {cs:List Value} {p:List MemPlace}
  (hd:DataW.trod (fun _=>()) Tryz.prog W base sp held fuel 97 cs=some (VJ_,p)):cs= [vs qB_,vs vx_,vs WR_]:=by
 obtain⟨xs,m,-,hx,hlen,hxl,hel⟩:=DataW.trod_array Tryz.underlying97 hd
 have hc: (Tryz.prog).cellsOf 97=3:=by kernel_rfl
 have h1: (Tryz.prog).cellsOf 9=1:=by kernel_rfl
 rw[hc] at hlen
 rw[h1] at hel
 have hm:xs.map (·.1)= [.lit (.string qB_), .lit (.string vx_), .lit (.string WR_)]:=by
  have:=congrArg Prod.fst hx
  unfold VJ_ at this
  simp only[DataW.agg.injEq] at this
  exact this.symm
 have h0:=hel 0 (by omega)
 have h2:=hel 1 (by omega)
 have h3:=hel 2 (by omega)
 rw[List.getElem?_eq_getElem (by omega)] at h0 h2 h3
 obtain⟨s0,hs0,hy0,-⟩:=DataW.trod_string Tryz.underlying9 h0
 obtain⟨s1,hs1,hy1,-⟩:=DataW.trod_string Tryz.underlying9 h2
 obtain⟨s2,hs2,hy2,-⟩:=DataW.trod_string Tryz.underlying9 h3
 match xs,hxl,hm,hy0,hy1,hy2 with
 | [x0,x1,x2],_,hm,hy0,hy1,hy2=>
  simp only[List.map_cons,List.map_nil,List.cons.injEq,and_true] at hm
  simp only[List.getElem_cons_zero,List.getElem_cons_succ] at hy0 hy1 hy2
  obtain⟨m0,m1,m2⟩:=hm
  rw[hy0] at m0
  rw[hy1] at m1
  rw[hy2] at m2
  simp only[DataW.lit.injEq,Lit.string.injEq] at m0 m1 m2
  match cs,hlen with
  | [c0,c1,c2],_=>
   simp only[Nat.zero_mul,List.drop_zero,List.take_succ_cons,List.take_zero,List.cons.injEq,and_true,Nat.one_mul,List.drop_succ_cons,Nat.reduceMul] at hs0 hs1 hs2
   rw[hs0,hs1,hs2,←m0,←m1,←m2]
   rfl
theorem Zk_ {W:World}: ∀ {laid:List (String×DataW Unit)} {ps:List MemPlace},DataW.LaidVars Tryz.prog W laid ps→("sediment/disk.order",VJ_)∈laid→QX_ W
 | [],_,_,hm=>by cases hm
 | (n',d')::rest,ps,h,hm=>by
  obtain⟨g',t',cs,fuel,p,q,hg',ht',hvar,hd,hr,-⟩:=h
  rcases List.mem_cons.1 hm with hm|hm
  ·cases hm
   have hg: (Tryz.prog).globalNamed "sediment/disk.order" =some 0:=by kernel_rfl
   have hty: ((Tryz.prog).globals[(0:Nat)]?).map (·.type)=some 97:=by kernel_rfl
   obtain rfl:=Option.some.inj (hg.symm.trans hg')
   obtain rfl:=Option.some.inj (hty.symm.trans ht')
   have hcs:=Ko_ hd
   simp only[World.var?,hg,Option.bind_some] at hvar
   split at hvar
   ·rename_i cs' e f hb
    cases hvar
    refine⟨e,f, ?_⟩
    rw[hb]
    congr 2
    apply Array.ext'
    rw[hcs]
   ·cases hvar
  ·exact Zk_ hr hm
end Go.Proofs
end
section
open Go Go.Proofs Go.Sx Go.StP Go.Flo
open Go.ChangeShapes Go.WideShapes Go.ChangeAt Go.RowKit Go.ChangeMaps
namespace Go.Proofs
set_option maxRecDepth 10000
set_option maxHeartbeats 1000000
set_option linter.unusedSimpArgs false
end Go.Proofs
end
section
open Go Go.Proofs Go.Sx Go.StP Go.Flo
namespace Go.Proofs
set_option maxRecDepth 10000
set_option maxHeartbeats 1600000
set_option linter.unusedSimpArgs false
theorem aoJ_ (light made:Bool) (k:Nat) (dir nm data:List UInt8) (S:DiskL):k+1≤ (vz_ light k made dir nm data S).k:=by
 have h:k≤atK k dir nm S:=by
  unfold atK
  split
  ·rename_i h;rw[h.1];exact Nat.zero_le _
  ·exact Nat.le_refl _
 unfold vz_
 simp only
 split
 ·exact Nat.succ_le_succ h
 ·exact Nat.succ_le_succ h
theorem apw_ (a:Bool):q7_ Tryz.prog .neq 4 (.bool a) (.bool a)=some (.bool false):=by
 cases a<;>simp[q7_,eqX,q8_,qR_,Tryz.underlying4]
def StI (dir nm data:List UInt8) (light:Bool) (bs i:Nat) (t:TkL) (q:Value) (m:Bool):Prop:=
 (t.ended=true∧ ∀x,Zz_ (.sl x) q=some (vi 0))∨(∃k,i≤k∧k< (zJ_ light).length∧t=tkN dir nm data light k m∧q=spV light k bs)
theorem StI.left {dir nm data:List UInt8} {light:Bool} {bs i:Nat} {t:TkL} {q:Value} {m:Bool} (h:StI dir nm data light bs i t q m): ∃n:Nat,(∀x,Zz_ (.sl x) q=some (vi (n:Int)))∧((n:Int)==0)=t.ended∧(t.ended=false→t.light=light∧t.next< (zJ_ light).length):=by
 rcases h with⟨h1,h2⟩ | ⟨k,-,hk,rfl,rfl⟩
 ·exact⟨0,h2,by rw[h1];rfl,fun h=>by rw[h1] at h;cases h⟩
 ·refine⟨(zJ_ light).length - k,fun x=>afN_ light k bs x, ?_,fun _=>⟨rfl,hk⟩⟩
  show _=false
  rw[beq_eq_false_iff_ne];omega
theorem agD_ {light made:Bool} {k:Nat} {dir nm data:List UInt8} {S:DiskL} (h: (vz_ light k made dir nm data S).done=true): (zJ_ light).length≤ (vz_ light k made dir nm data S).k:=by
 unfold vz_ at h ⊢
 simp only at h ⊢
 split at h
 ·cases h
 ·rename_i he
  rw[if_neg he]
  have:=eq_of_beq h
  show _≤atK k dir nm S+1
  omega
theorem ad8_ (dir name data:List UInt8) (light:Bool) (w:World):
  Rets Tryz.prog 11 #[vs dir,vs name,vs data, .bool light] w (XS w [] (fun v D=> ∃b,v=vp b 0∧D= [(b,tkO (tkN dir name data light 0 false))])):=
 (ZW_ dir name data light w).mono fun v D ⟨b,h1,h2,h3⟩=>⟨by subst h3;exact Ext.of_new ⟨h1,trivial⟩,b,h2,h3⟩
theorem W2_ (bt:Nat) (d:Value) (t:TkL) (w:World) (hX:w.heap[bt]? =some (tkO t)) (he:t.ended=true):Rets Tryz.prog 15 #[vp bt 0,d] w (fun v D=>v= .tuple #[.bool false,vi 15]∧D= []):=by
 refine Rets.enterV Tryz.func15 rfl (rs:= [.tmp 4, .tmp 5]) Tryz.results15 Tryz.ntmps15 ?_
 refine kf ?_
 first|with_reducible refine ks [] @Nat.add_zero ?_|refine kp @Nat.add_zero ?_
 refine Cw.scopeL (G:=Unit) (fun g=>0) [9,10,4,5,6,7,11,8,13,14,15,16,17,18,19,20,21,12,22,23,24,25,26,27,28,29,30,31,32,33,34,35,36,37,38,39,40,41,42,43,44,45,46,47,48,49,50,51,52,53,54,55,56,57,58,59,60,61,62,63,64,65,66,67,68,69,70,71,72,73,74,75,76,77,78,79,80,81,82,83,84,85,86,87,88,89] (fun g=> []) (fun g=> []) (fun g=>False) (fun g=>0) ?_ ?_ ?_
 ·intro g
  rfl
 ·intro g j hg
  exact hg.elim
 ·intro key
  repeat ((try with_reducible refine Cw.go [999999] ?_);(simp(disch:=(first|assumption|omega| (simp only[w5_,wR_,UInt64.reduceToNat];try omega))) only[↓Sx.S0,Sx.S1,Tryz.fx,Nat.reduceAdd,Nat.reducePow,Int.reducePow,Nat.reduceBEq, ↓reduceIte,UInt8.reduceToNat,UInt16.reduceToNat,UInt32.reduceToNat,UInt64.reduceToNat,Int.reduceToNat]))
  refine Ow.callFV rfl Tryz.call13 (fun w' hw'=>jn_ bt t w' ((hw'.old bt (Array.getElem?_eq_some_iff.1 hX).1 (by simp[keys])).trans hX)) ?_
  rw[he]
  refine ko @Nat.add_zero ?_
  repeat ((try with_reducible refine Cw.go [999999] ?_);(simp(disch:=(first|assumption|omega| (simp only[w5_,wR_,UInt64.reduceToNat];try omega))) only[↓Sx.S0,Sx.S1,Tryz.fx,Nat.reduceAdd,Nat.reducePow,Int.reducePow,Nat.reduceBEq, ↓reduceIte,UInt8.reduceToNat,UInt16.reduceToNat,UInt32.reduceToNat,UInt64.reduceToNat,Int.reduceToNat]))
  refine⟨_,(ke @Nat.add_zero),trivial, ?_⟩
  rfl
structure PsG where
 i:Nat
 t:TkL
 S:DiskL
 G:DkG
 X:ze_
 C:DcG
 Y:ze_
 q:Value
 m:Bool
set_option linter.defProp false
def zG_:=And.intro (And.intro (And.intro (@zn_) (@zm_)) (And.intro (@Sx.tup2_0) (And.intro (@Sx.tup2_1) (@aiz_)))) (And.intro (And.intro (@ae6_) (And.intro (@afj_) (@ae9_))) (And.intro (@ae2_) (And.intro (@aeK_) (@Jo_))))
theorem Z9_ (quota:Int) (v1:Value) (l:List FiL) (fuse:Int) (jb:JbL) (w:World) (hG:QX_ w) (hq: -9223372036854775808≤quota∧quota<9223372036854775808) (hv:FiSl w v1 l) (hb:FiB l) (hf: -9223372036854775808≤fuse∧fuse<9223372036854775808):
  Rets Tryz.prog 3 #[vi quota,v1,vi fuse, .agg (jbC jb).toArray] w (fun v D=>v= .bool true∧D= []):=by
 refine Rets.enterV Tryz.func3 rfl (rs:= [.tmp 8]) Tryz.results3 Tryz.ntmps3 ?_
 refine kf ?_
 first|with_reducible refine ks [] @zG_ ?_|refine kp @zG_ ?_
 refine Ow.box rfl rfl fun b7 hb7 hw7=> ?_
 simp only[qm_,ql_,qu_,zh_,List.nil_append,List.cons_append]
 have hN7:New w.heap.size [(b7,Obj.cells (jbC jb).toArray 24 (0,0))]:=⟨hw7,trivial⟩
 refine ko @zG_ ?_
 first|with_reducible refine ks [] @zG_ ?_|refine kp @zG_ ?_
 refine Ow.callFV rfl Tryz.call4 (fun w' hw'=>x4_ w' (jy_ hG hw' hN7)) ?_
 refine ko @zG_ ?_
 first|with_reducible refine ks [] @zG_ ?_|refine kp @zG_ ?_
 refine Ow.callFV rfl Tryz.call5 (fun w' hw'=>aa5_ v1 (.slice none 0 0) l [] w' (hv.oldN hw' hN7) hb (SlV.nil w') (by simp)) ?_
 cases hgt:J5_ l [] with
 |true=>
  refine ko @zG_ ?_
  first|with_reducible refine ks [] @zG_ ?_|refine kp @zG_ ?_
  refine Ow.callFV rfl Tryz.call4 (fun w' hw'=>x4_ w' (jy_ hG hw' hN7)) ?_
  refine ko @zG_ ?_
  first|with_reducible refine ks [] @zG_ ?_|refine kp @zG_ ?_
  refine⟨_,(ke @zG_),hN7, ?_⟩
  rfl
 |false=>
 obtain⟨hll,-,hlb⟩:=akR_ hgt
 refine ko @zG_ ?_
 refine Ow.callFV rfl Tryz.call6 (fun w' hw'=>adH_ jb w') ?_
 cases hgj:WU_ jb with
 |true=>
  refine ko @zG_ ?_
  first|with_reducible refine ks [] @zG_ ?_|refine kp @zG_ ?_
  refine Ow.callFV rfl Tryz.call4 (fun w' hw'=>x4_ w' (jy_ hG hw' hN7)) ?_
  refine ko @zG_ ?_
  first|with_reducible refine ks [] @zG_ ?_|refine kp @zG_ ?_
  refine⟨_,(ke @zG_),hN7, ?_⟩
  rfl
 |false=>
 obtain⟨j1,j2,j3⟩:=akq_ hgj
 refine ko @zG_ ?_
 first|with_reducible refine ks [] @zG_ ?_|refine kp @zG_ ?_
 refine Ow.callC rfl rfl Tryz.call7 (fun w' hw'=>alM_ quota v1 l w' hq (jy_ hG hw' hN7) (hv.oldN hw' hN7) (by omega) hb) (fun B0 v0 D0 hA0 hB0 hN0 hS0=> ?_)
 obtain⟨G0,rfl,hP0⟩:=hS0
 have hN0':New w.heap.size D0:=hN0.mono hB0
 have hD0:DkA D0 G0 (ofD quota l) l.length:=⟨hP0,anT_ quota l,aqT_ quota l fun f hf=>by have:=(hlb f hf).1;omega⟩
 refine ko @zG_ ?_
 refine Ow.callC rfl rfl Tryz.call8 (fun w' hw'=>alA_ quota v1 l w' hq (hv.oldN hw' (hN7.app hN0')) (by omega) hb) (fun B1 v1' E0 hA1 hB1 hN1 hS1=> ?_)
 obtain⟨C0,rfl,hC0⟩:=hS1
 have hN1':New w.heap.size E0:=hN1.mono hB1
 have hfl0:=ape_ quota l
 generalize hS0e:ofD quota l=S0 at*
 refine Ow.permL (M:=D0++ (E0++ [(b7, .cells (jbC jb).toArray 24 (0,0))])) (by classical exact List.perm_iff_count.2 fun a=>by simp only[List.count_append,List.count_cons,List.count_nil]<;>omega) ?_
 refine ko @zG_ ?_
 first|with_reducible refine ks [] @zG_ ?_|refine kp @zG_ ?_
 refine Ow.callX (X:=D0) (Y:=E0++ [(b7, .cells (jbC jb).toArray 24 (0,0))]) rfl rfl rfl Tryz.call9 (fun w' hw' hX' hn'=>af3_ D0 G0 S0 fuse w' hX' hn' hP0 hf) (fun v48 X1 hC1 hS1=> ?_)
 obtain⟨-,G1,hbd1,hP1⟩:=hS1
 have hX1:New w.heap.size X1:=v4_ hC1 hN0'
 rw[←hbd1]
 refine ko @zG_ ?_
 first|with_reducible refine ks [] @zG_ ?_|refine kp @zG_ ?_
 refine Ow.permL (M:=E0++ (X1++ [(b7, .cells (jbC jb).toArray 24 (0,0))])) (by classical exact List.perm_iff_count.2 fun a=>by simp only[List.count_append,List.count_cons,List.count_nil]<;>omega) ?_
 refine Ow.callX (X:=E0) (Y:=X1++ [(b7, .cells (jbC jb).toArray 24 (0,0))]) rfl rfl rfl Tryz.call10 (fun w' hw' hX' hn'=>aer_ E0 C0 S0 fuse w' hX' hn' hC0 hf) (fun v49 Y1 hC2 hS2=> ?_)
 obtain⟨-,C1,hcd1,hQ1⟩:=hS2
 have hY1:New w.heap.size Y1:=v4_ hC2 hN1'
 rw[←hcd1]
 generalize hS1e: ({S0 with fuse:=fuse,fused:=decide (0≤fuse)}:DiskL)=S1 at*
 have hA1:DkA X1 G1 S1 l.length:=⟨hP1,vg_ hD0.H (by rw[←hS1e]),v5_ hD0.B (by rw[←hS1e])⟩
 have hf1:S1.files.length≤l.length:=by rw[←hS1e];exact hfl0
 refine Ow.permL (M:=(b7, .cells (jbC jb).toArray 24 (0,0)):: (X1++Y1)) (by classical exact List.perm_iff_count.2 fun a=>by simp only[List.count_append,List.count_cons,List.count_nil]<;>omega) ?_
 refine ko @zG_ ?_
 have rd7:zy_ w ((b7,Obj.cells (jbC jb).toArray 24 (0,0)):: (X1++Y1)) b7=some (.cells (jbC jb).toArray 24 (0,0)):=jz_ _ _ _ _
 refine Cw.regionS [b7] [0,2,4,6,9,11,13,15,1,3,5,7,10,12,14,16,8,17,18,19] [] (by kernel_rfl) (by kernel_rfl) (by kernel_rfl) ?_
 simp only[zj_, ↓zf_, ↓zc_, ↓zw_, ↓zv_,zd_]
 refine kq (And.intro @zG_ @rd7) ?_
 refine Ow.soft rfl rfl rfl ?_
 refine Ow.callC rfl rfl Tryz.call11 (fun w' hw'=>ad8_ jb.dir jb.name jb.data jb.light w') (fun B3 v3 D3 hA3 hB3 hN3 hS3=> ?_)
 obtain⟨bt,rfl,rfl⟩:=hS3
 have hNt:New w.heap.size [(bt,tkO (tkN jb.dir jb.name jb.data jb.light 0 false))]:=hN3.mono hB3
 with_reducible refine Ow.nil ?_
 refine⟨j6_ (fun b hb=>by rw[List.mem_singleton.1 hb];simp[keys]), ?_⟩
 refine kq @zG_ ?_
 refine Ow.soft rfl rfl rfl ?_
 refine Ow.callC rfl rfl Tryz.call12 (fun w' hw'=>acP_ jb.dir jb.name jb.data jb.light w') (fun B4 v4 D4 hA4 hB4 hN4 hS4=> ?_)
 obtain⟨du,bs,Z,rfl,hpz⟩:=hS4
 have hNz:=VZ_ (hN4.mono hB4) hpz.symm
 with_reducible refine Ow.nil ?_
 refine⟨j6_ (fun b hb=>by rw[List.mem_singleton.1 hb];simp[keys]), ?_⟩
 refine kq @zG_ ?_
 try with_reducible refine Ow.nil ?_
 refine Cw.permL (M:=((b7,Obj.cells (jbC jb).toArray 24 (0,0)):: (X1++Y1))++ [(bt,tkO (tkN jb.dir jb.name jb.data jb.light 0 false))]++ (Z++ [(du,dtO jb.dir jb.name jb.data (spV jb.light 0 bs) false),(bs,spO jb.light)])) (hpz.append_left _) ?_
 refine Cw.permL (M:=(X1++ [(bt,tkO (tkN jb.dir jb.name jb.data jb.light 0 false))])++ ((Y1++ [(du,dtO jb.dir jb.name jb.data (spV jb.light 0 bs) false),(bs,spO jb.light)])++ ((b7,Obj.cells (jbC jb).toArray 24 (0,0))::Z))) (by classical exact List.perm_iff_count.2 fun a=>by simp only[List.count_append,List.count_cons,List.count_nil]<;>omega) ?_
 have hbt1:w.heap.size≤bt:=hNt.le bt (by simp[keys])
 have hdu1:w.heap.size≤du:=hNz.le du (by simp[keys])
 have hbs1:w.heap.size≤bs:=hNz.le bs (by simp[keys])
 have hNZ:New w.heap.size ((b7,Obj.cells (jbC jb).toArray 24 (0,0))::Z):=⟨hw7,New.of_le fun c hc=>hNz.le c (by rw[zo_];exact List.mem_append_left _ hc)⟩
 generalize (b7,Obj.cells (jbC jb).toArray 24 (0,0))::Z=ZZ at*
 have hD1:DsA S1 l.length:=⟨hA1.P.ok,hA1.B,hf1⟩
 clear hpz hNz hN3 hN4 hA3 hA4 hN1' hN0' hD0 hP0 hC0 hP1 hC1 hC2 rd7
 first|with_reducible refine ks [] @zG_ ?_|refine kp @zG_ ?_
 refine Cw.loopG (G:=PsG) [60,61,64,65,66,67,68,69,70,71,72,73,74,75,76,77,78,79,80,8,82,83,84,81,85,86,15,16,88,89,90,87,91,92,17,18,93,94,95,96,97,98,99,100,101,102,103,104,105,106,62,63,14] (fun g=> [(14,vi g.i)]) (fun g=>(g.X++ [(bt,tkO g.t)])++ ((g.Y++ [(du,dtO jb.dir jb.name jb.data g.q g.m),(bs,spO jb.light)])++ZZ)) (fun g=>g.i≤9∧DkA g.X g.G g.S (l.length+7*g.i)∧DcP g.Y g.C g.S∧DsA g.S (l.length+7*g.i)∧g.G.bd=G1.bd∧g.C.bd=C1.bd∧New w.heap.size g.X∧New w.heap.size g.Y∧StI jb.dir jb.name jb.data jb.light bs g.i g.t g.q g.m) (fun g=>9 - g.i) ⟨0,tkN jb.dir jb.name jb.data jb.light 0 false,S1,G1,X1,C1,Y1,spV jb.light 0 bs,false⟩ rfl rfl ?_ ?_
 ·exact⟨Nat.zero_le _,hA1,hQ1,hD1,rfl,rfl,hX1,hY1, .inr ⟨0,Nat.le_refl _,by cases jb.light<;>decide,rfl,rfl⟩⟩
 intro g j hg
 refine kv ?_
 clear hA1 hQ1 hD1 hX1 hY1 hf1
 obtain⟨i,t,S,G,X,C,Y,q,m⟩:=g
 simp only at hg ⊢
 obtain⟨hi,hA,hC,hD,hbd,hcd,hNX,hNY,hI⟩:=hg
 rw[←hbd,←hcd]
 have hNw:New w.heap.size ((X++ [(bt,tkO t)])++ ((Y++ [(du,dtO jb.dir jb.name jb.data q m),(bs,spO jb.light)])++ZZ)):=(New.app hNX (show New w.heap.size [(bt,tkO t)] from⟨hbt1,trivial⟩)).app ((New.app hNY (show New w.heap.size [(du,dtO jb.dir jb.name jb.data q m),(bs,spO jb.light)] from⟨hdu1,hbs1,trivial⟩)).app hNZ)
 obtain⟨ml,hql,hqe,htn⟩:=hI.left
 by_cases hlt:i<9
 ·have d0:decide ((i:Int)<9)=true:=decide_eq_true (by omega)
  refine Cw.world fun wz hwz=> ?_
  have rdu:zy_ w ((X++ [(bt,tkO t)])++ ((Y++ [(du,dtO jb.dir jb.name jb.data q m),(bs,spO jb.light)])++ZZ)) du=some (dtO jb.dir jb.name jb.data q m):=za_ (jK_ hwz.nodup (by simp))
  clear hwz wz
  have hnb:=apw_ t.ended
  have hnf:=apw_ false
  have h15: ((15:Int) !=15)=false:=rfl
  first|with_reducible refine ks [12] (And.intro @zG_ @d0) ?_|refine kp (And.intro @zG_ @d0) ?_
  refine Cw.regionS [du] [0,2,3,4,5,6,7,1,8,9,10,12,11,13,14,15,16] [] (by kernel_rfl) (by kernel_rfl) (by kernel_rfl) ?_
  simp only[zj_, ↓zf_, ↓zc_, ↓zw_, ↓zv_,zd_]
  refine kq (And.intro @zG_ (And.intro @rdu (And.intro @hql (@hqe)))) ?_
  refine Ow.soft rfl rfl rfl ?_
  refine Ow.callFV rfl Tryz.call13 (fun w' hw'=>jn_ bt t w' (hw'.has _ _ (by simp))) ?_
  with_reducible refine Ow.nil ?_
  refine⟨by intro b hb;simp only[List.mem_cons,List.not_mem_nil,or_false] at hb;(try subst hb);rfl, ?_⟩
  refine kq (And.intro @zG_ @hnb) ?_
  refine Ow.soft rfl rfl rfl ?_
  refine Ow.callFV rfl Tryz.call13 (fun w' hw'=>jn_ bt t w' (hw'.has _ _ (by simp))) ?_
  with_reducible refine Ow.nil ?_
  refine⟨by intro b hb;simp only[List.mem_cons,List.not_mem_nil,or_false] at hb;(try subst hb);rfl, ?_⟩
  refine kq @zG_ ?_
  refine Ow.soft rfl rfl rfl ?_
  refine Ow.callC rfl rfl Tryz.call14 (fun w' hw'=>Rets.toX (akz_ bt t w' (hw'.has _ _ (by simp)) (fun h=>by rw[(htn h).1];exact(htn h).2))) (fun B5 v5 D5 hA5 hB5 hN5 hS5=> ?_)
  obtain⟨rfl,nl,rfl,hn0⟩:=hS5
  rw[List.append_nil]
  with_reducible refine Ow.nil ?_
  refine⟨fun b hb=>rfl, ?_⟩
  refine kq (And.intro @zG_ (And.intro @hn0 (@hnb))) ?_
  try with_reducible refine Ow.nil ?_
  rcases hI with⟨he,hq0⟩ | ⟨k,hik,hk,rfl,rfl⟩
  ·first|with_reducible refine ks [12] @zG_ ?_|refine kp @zG_ ?_
   refine Ow.callFV rfl Tryz.call15 (fun w' hw'=>W2_ bt (vp G.bd 0) t w' (hw'.has _ _ (by simp)) he) ?_
   refine ko @zG_ ?_
   first|with_reducible refine ks [12] @zG_ ?_|refine kp @zG_ ?_
   refine Ow.callFV rfl Tryz.call16 (fun w' hw'=>aaL_ du q (vp C.bd 0) jb.dir jb.name jb.data m w' (hw'.has _ _ (by simp)) hq0) ?_
   refine ko @zG_ ?_
   first|with_reducible refine ks [12] (And.intro @zG_ (And.intro @hnf (@h15))) ?_|refine kp (And.intro @zG_ (And.intro @hnf (@h15))) ?_
   refine Ow.callFV rfl Tryz.call17 (fun w' hw'=>XH_ w' G C S (hA.P.worldM hw' (fun p hp=>by simp[hp])) (hC.worldM hw' (fun p hp=>by simp[hp])) (jy_ hG hw' hNw) hA.P.ok hA.B (by omega) (hA.used (by omega))) ?_
   refine ko @zG_ ?_
   first|with_reducible refine ks [] @zG_ ?_|refine kp @zG_ ?_
   exact Again.mk ⟨i+1,t,S,G,X,C,Y,q,m⟩ (by show 9 - (i+1)<9 - i;omega) ⟨hlt,⟨hA.P,hA.H,hA.B.mono (by show l.length+7*i≤l.length+7* (i+1);omega)⟩,hC,hD.mono (by show l.length+7*i≤l.length+7* (i+1);omega),rfl,rfl,hNX,hNY, .inl ⟨he,hq0⟩⟩ rfl rfl
  ·have hTB:TkB (tkN jb.dir jb.name jb.data jb.light k m):=⟨by show jb.name.length≤900000;omega,by show jb.data.length≤1000000;omega⟩
   have h6:=kL_ jb.light
   obtain⟨s1,s2,s3,s4,s5⟩:=aiS_ (dir:=jb.dir) (nm:=jb.name) (data:=jb.data) jb.light m k S hk
   have skk:=aoJ_ jb.light m k jb.dir jb.name jb.data S
   have skd:=agD_ (light:=jb.light) (made:=m) (k:=k) (dir:=jb.dir) (nm:=jb.name) (data:=jb.data) (S:=S)
   first|with_reducible refine ks [12] @zG_ ?_|refine kp @zG_ ?_
   refine Ow.callX (X:=X++ [(bt,tkO (tkN jb.dir jb.name jb.data jb.light k m))]) (Y:=(Y++ [(du,dtO jb.dir jb.name jb.data (spV jb.light k bs) m),(bs,spO jb.light)])++ZZ) rfl rfl rfl Tryz.call15 (fun w' hw' hX' hn'=>Vv_ X G S (l.length+7*i) bt (tkN jb.dir jb.name jb.data jb.light k m) w' hX' hn' hA (by omega) hTB (fun _=>by show k<6;omega)) (fun v6 D6 hC6 hS6=> ?_)
   obtain⟨rfl,X2,G2,hp2,hbd2,hA2⟩:=hS6
   rw[s1,s2]
   rw[s3] at hA2
   have hN6:=VZ_ (v4_ hC6 (New.app hNX (show New w.heap.size [(bt,tkO (tkN jb.dir jb.name jb.data jb.light k m))] from⟨hbt1,trivial⟩))) hp2.symm
   have hNX2:New w.heap.size X2:=New.of_le fun c hc=>hN6.le c (by rw[zo_];exact List.mem_append_left _ hc)
   refine Ow.permL (M:=(X2++ [(bt,tkO (jI_ (tkN jb.dir jb.name jb.data jb.light k m) S).t)])++ ((Y++ [(du,dtO jb.dir jb.name jb.data (spV jb.light k bs) m),(bs,spO jb.light)])++ZZ)) (hp2.append_right _) ?_
   generalize (jI_ (tkN jb.dir jb.name jb.data jb.light k m) S).t=t2 at*
   clear hp2 hC6 hN6 s1 s2 s3
   refine Ow.permL (M:=(Y++ [(du,dtO jb.dir jb.name jb.data (spV jb.light k bs) m),(bs,spO jb.light)])++ ((X2++ [(bt,tkO t2)])++ZZ)) (by classical exact List.perm_iff_count.2 fun a=>by simp only[List.count_append,List.count_cons,List.count_nil]<;>omega) ?_
   refine ko @zG_ ?_
   first|with_reducible refine ks [12] @zG_ ?_|refine kp @zG_ ?_
   refine Ow.callX (X:=Y++ [(du,dtO jb.dir jb.name jb.data (spV jb.light k bs) m),(bs,spO jb.light)]) (Y:=(X2++ [(bt,tkO t2)])++ZZ) rfl rfl rfl Tryz.call16 (fun w' hw' hX' hn'=>abM_ Y C S (l.length+7*i) du bs k jb.light m jb.dir jb.name jb.data w' hX' hn' hC hD (by omega) hk (fun _=>by cases jb.light<;>decide) (by omega) (by omega)) (fun v7 D7 hC7 hS7=> ?_)
   obtain⟨rfl,Y2,C2,q2,hp3,hcd2,hC2,hD2,hq1,hq2⟩:=hS7
   have hN7:=VZ_ (v4_ hC7 (New.app hNY (show New w.heap.size [(du,dtO jb.dir jb.name jb.data (spV jb.light k bs) m),(bs,spO jb.light)] from⟨hdu1,hbs1,trivial⟩))) hp3.symm
   have hNY2:New w.heap.size Y2:=New.of_le fun c hc=>hN7.le c (by rw[zo_];exact List.mem_append_left _ hc)
   refine Ow.permL (M:=(Y2++ [(du,dtO jb.dir jb.name jb.data q2 (vz_ jb.light k m jb.dir jb.name jb.data S).made),(bs,spO jb.light)])++ ((X2++ [(bt,tkO t2)])++ZZ)) (hp3.append_right _) ?_
   generalize vz_ jb.light k m jb.dir jb.name jb.data S=R at*
   clear hp3 hC7 hN7
   refine Ow.permL (M:=(X2++ [(bt,tkO t2)])++ ((Y2++ [(du,dtO jb.dir jb.name jb.data q2 R.made),(bs,spO jb.light)])++ZZ)) (by classical exact List.perm_iff_count.2 fun a=>by simp only[List.count_append,List.count_cons,List.count_nil]<;>omega) ?_
   have hNw2:New w.heap.size ((X2++ [(bt,tkO t2)])++ ((Y2++ [(du,dtO jb.dir jb.name jb.data q2 R.made),(bs,spO jb.light)])++ZZ)):=(New.app hNX2 (show New w.heap.size [(bt,tkO t2)] from⟨hbt1,trivial⟩)).app ((New.app hNY2 (show New w.heap.size [(du,dtO jb.dir jb.name jb.data q2 R.made),(bs,spO jb.light)] from⟨hdu1,hbs1,trivial⟩)).app hNZ)
   rw[←hbd2,←hcd2]
   have hnd:=apw_ R.done
   have hne: ((R.e:Int) !=R.e)=false:=by simp
   have hI2:StI jb.dir jb.name jb.data jb.light bs (i+1) t2 q2 R.made:=by
    by_cases hde:R.done=true∨R.e≠0
    ·refine .inl ⟨s4 hde, ?_⟩
     by_cases he:R.e=0
     ·have hdd:=skd (hde.resolve_right fun h=>h he)
      intro x
      rw[hq1 he,afN_]
      congr 2
      omega
     ·rw[hq2 he]
      exact ae8_
    ·have he:R.e=0:=Decidable.byContradiction fun h=>hde (.inr h)
     have hd:R.done=false:=by
      cases hd:R.done with
      |true=>exact absurd (.inl hd) hde
      |false=>rfl
     obtain⟨h1,h2⟩:=s5 hd he
     exact .inr ⟨R.k,by omega,h1,h2,hq1 he⟩
   refine ko @zG_ ?_
   first|with_reducible refine ks [12] (And.intro @zG_ (And.intro @hnd (@hne))) ?_|refine kp (And.intro @zG_ (And.intro @hnd (@hne))) ?_
   refine Ow.callFV rfl Tryz.call17 (fun w' hw'=>XH_ w' G2 C2 R.S (hA2.P.worldM hw' (fun p hp=>by simp[hp])) (hC2.worldM hw' (fun p hp=>by simp[hp])) (jy_ hG hw' hNw2) hA2.P.ok hA2.B (by omega) (hA2.used (by omega))) ?_
   refine ko @zG_ ?_
   first|with_reducible refine ks [] @zG_ ?_|refine kp @zG_ ?_
   exact Again.mk ⟨i+1,t2,R.S,G2,X2,C2,Y2,q2,R.made⟩ (by show 9 - (i+1)<9 - i;omega) ⟨hlt,⟨hA2.P,hA2.H,hA2.B.mono (by show l.length+7*i+7≤l.length+7* (i+1);omega)⟩,hC2,hD2.mono (by show l.length+7*i+2≤l.length+7* (i+1);omega),rfl,rfl,hNX2,hNY2,hI2⟩ rfl rfl
 ·obtain rfl:i=9:=by omega
  have he:t.ended=true:=by
   rcases hI with⟨he,-⟩ | ⟨k,hik,hk,-,-⟩
   ·exact he
   ·have:=kL_ jb.light
    omega
  have d0:decide (((9:Nat):Int)<9)=false:=by decide
  first|with_reducible refine ks [] (And.intro @zG_ @d0) ?_|refine kp (And.intro @zG_ @d0) ?_
  refine Ow.callFV rfl Tryz.call15 (fun w' hw'=>Kq_ (vp G.bd 0) w') ?_
  refine ko @zG_ ?_
  first|with_reducible refine ks [] @zG_ ?_|refine kp @zG_ ?_
  refine Ow.callFV rfl Tryz.call4 (fun w' hw'=>x4_ w' (jy_ hG hw' hNw)) ?_
  refine ko @zG_ ?_
  refine Ow.callFV rfl Tryz.call13 (fun w' hw'=>jn_ bt t w' (hw'.has _ _ (by simp))) ?_
  rw[he]
  refine ko @zG_ ?_
  refine Ow.callFV rfl Tryz.call13 (fun w' hw'=>xk_ w') ?_
  refine ko @zG_ ?_
  refine Ow.callFV rfl Tryz.call14 (fun w' hw'=>aaT_ w') ?_
  refine ko @zG_ ?_
  first|with_reducible refine ks [] @zG_ ?_|refine kp @zG_ ?_
  refine⟨_,(ke @zG_),hNw, ?_⟩
  rfl
end Go.Proofs
end
section
open Go Go.Proofs Go.Sx Go.StP Go.Flo
open Go.ChangeShapes Go.WideShapes Go.ChangeAt Go.RowKit Go.ChangeMaps
namespace Go.Proofs
set_option maxRecDepth 10000
set_option maxHeartbeats 1000000
set_option linter.unusedSimpArgs false
theorem aqo_ {H:Type} {tell:TypeId×Value→H} {W:World} {base:Nat} {sp:Nat→Bool} {held:Bool} (n:Nat) (cs:List Value) (y:DataW H×List MemPlace)
  (h:DataW.trod tell Tryz.prog W base sp held n 24 cs=some y): ∃a:JbL,cs=jbC a:=by
 obtain⟨xs,m,-,-,hlen,hxl,hel⟩:=DataW.trod_struct Tryz.underlying24 h
 have hc: (Tryz.prog).cellsOf 24=4:=by kernel_rfl
 have hcs: (Tryz.prog).cellsOf 9=1:=by kernel_rfl
 have hcb: (Tryz.prog).cellsOf 4=1:=by kernel_rfl
 rw[hc] at hlen
 have hxl:xs.length=4:=hxl
 have h0:DataW.trod tell Tryz.prog W base sp held m 9 ((cs.drop 0).take ((Tryz.prog).cellsOf 9))=xs[0]? :=hel 0 _ rfl
 rw[hcs,List.getElem?_eq_getElem (by omega)] at h0
 have h1:DataW.trod tell Tryz.prog W base sp held m 9 ((cs.drop 1).take ((Tryz.prog).cellsOf 9))=xs[1]? :=hel 1 _ rfl
 rw[hcs,List.getElem?_eq_getElem (by omega)] at h1
 have h2:DataW.trod tell Tryz.prog W base sp held m 9 ((cs.drop 2).take ((Tryz.prog).cellsOf 9))=xs[2]? :=hel 2 _ rfl
 rw[hcs,List.getElem?_eq_getElem (by omega)] at h2
 have h3:DataW.trod tell Tryz.prog W base sp held m 4 ((cs.drop 3).take ((Tryz.prog).cellsOf 4))=xs[3]? :=hel 3 _ rfl
 rw[hcb,List.getElem?_eq_getElem (by omega)] at h3
 obtain⟨d,hd,-,-⟩:=DataW.trod_string Tryz.underlying9 h0
 obtain⟨u,hu,-,-⟩:=DataW.trod_string Tryz.underlying9 h1
 obtain⟨s,hs,-,-⟩:=DataW.trod_string Tryz.underlying9 h2
 obtain⟨b,hb,-⟩:=DataW.trod_bool Tryz.underlying4 h3
 refine⟨⟨d.data.toList,u.data.toList,s.data.toList,b⟩, ?_⟩
 have hd4:cs=(cs.drop 0).take 1++ ((cs.drop 1).take 1++ ((cs.drop 2).take 1++ (cs.drop 3).take 1)):=by
  match cs,hlen with
  | [c0,c1,c2,c3],_=>rfl
 rw[hd4,hd,hu,hs,hb]
 rfl
theorem amD_ {H:Type} {enc:TypeId×Value→H} {W:World} {r:Reach} {b0 base:Nat} {sp:Nat→Bool} {held:Bool} {v:Value} {d:DataW H} {p:List MemPlace}
  (hval:Value.okWide Tryz.prog W r b0 24 v) (hd:DataW.Trod enc Tryz.prog W base sp held 24 v d p): ∃a:JbL,v= .agg (jbC a).toArray:=by
 obtain⟨fu,hf⟩:=hd
 unfold Value.okWide at hval
 rw[Tryz.underlying24] at hval
 obtain⟨cs,rfl,-⟩:=hval
 rw[zh_] at hf
 obtain⟨a,ha⟩:=aqo_ fu _ _ hf
 exact⟨a,by obtain⟨l⟩:=cs;simp only at ha;rw[ha]⟩
end Go.Proofs
end
namespace Go.Sx
open Go
theorem ak7_ {P:Program} {f:FuncId} {fn:Func} {s:ChangeSpec} {c:OpenClaim}
  (h1: (c.wf (OpenSpec.ofChange s))=true)
  (h2: (laidOutB P)=true)
  (h3: (mapsRowed P)=true)
  (h4: (fn.params.all (P.readableRec ·))=true)
  (h5: (namedTie P c.named s.vars)=true)
  (h6: ((c.stops== []))=true)
  (h7: ((P.stops== []))=true)
  (h8: ((c.knobs== []))=true)
  (h9: ((P.stopKnobs== []))=true)
  (h10: ((c.inPlace==P.inPlace f))=true)
  (h11: ((c.unfollowed==P.unfollowed f))=true)
  (h12: ((c.recurses==P.recurses f))=true)
  (h13: ((c.named==P.varsNamed f))=true)
  (h14: ((c.maps==(fn.params.toList++s.plain.varTypes P).any (P.mapsRec ·)))=true)
  (h15: ((c.ifaces==(fn.params.toList++s.plain.varTypes P).any (P.ifacesRec ·)))=true)
  (h16: ((c.mapsOut==P.mapsAmong fn.resultTypes.toList))=true)
  (h17: ((c.loops==(fn.params.toList++s.plain.varTypes P).any (P.loopsFrom ·)))=true)
  (h18: ((c.wideKeys==(fn.params.toList++s.plain.varTypes P++fn.resultTypes.toList).any (P.wideKeysFrom ·)))=true)
  (h19: (s.vars.all (P.varReadable ·))=true)
  (h20: (fn.resultTypes.all (fun t=>P.readableRec t&&decide (t<P.types.size)))=true)
  (h21: ((c.ifacesOut==fn.resultTypes.toList.any (P.ifacesRec ·)))=true)
  (h22: ((c.loopsOut==fn.resultTypes.toList.any (P.loopsFrom ·)))=true)
  (h23: ((c.plainKeys==P.plainKeys))=true)
  (h24: (c.shortTexts.isNone)=true)
  (h25: (P.stopsHeard)=true)
  (h26: (P.mayEnter)=true)
  (h27: ((c.lifted==P.liftsFinal))=true)
  (h28: ((P.make==some c.make))=true)
  (h29: ((c.kinds==(if c.domain.isEmpty then [] else fn.params.toList.map fun t=>match P.underlying t with|some (.int k)=>some k|_=>none)))=true)
  (h30: ((c.pinned==c.pinnedBy))=true)
  (h31: ((c.veiled==(fn.params.toList++s.plain.varTypes P++fn.resultTypes.toList).any (P.veiledRec ·)))=true)
  (h32: (c.veiledFits P fn.params.toList (fn.params.toList++s.plain.varTypes P++fn.resultTypes.toList))=true):
  joinedFacts P f fn s c=true:=by
 unfold joinedFacts
 exact(Bool.and_eq_true_iff.2 ⟨(Bool.and_eq_true_iff.2 ⟨(Bool.and_eq_true_iff.2 ⟨(Bool.and_eq_true_iff.2 ⟨(Bool.and_eq_true_iff.2 ⟨(Bool.and_eq_true_iff.2 ⟨(Bool.and_eq_true_iff.2 ⟨(Bool.and_eq_true_iff.2 ⟨(Bool.and_eq_true_iff.2 ⟨(Bool.and_eq_true_iff.2 ⟨(Bool.and_eq_true_iff.2 ⟨(Bool.and_eq_true_iff.2 ⟨(Bool.and_eq_true_iff.2 ⟨(Bool.and_eq_true_iff.2 ⟨(Bool.and_eq_true_iff.2 ⟨(Bool.and_eq_true_iff.2 ⟨(Bool.and_eq_true_iff.2 ⟨(Bool.and_eq_true_iff.2 ⟨(Bool.and_eq_true_iff.2 ⟨(Bool.and_eq_true_iff.2 ⟨(Bool.and_eq_true_iff.2 ⟨(Bool.and_eq_true_iff.2 ⟨(Bool.and_eq_true_iff.2 ⟨(Bool.and_eq_true_iff.2 ⟨(Bool.and_eq_true_iff.2 ⟨(Bool.and_eq_true_iff.2 ⟨(Bool.and_eq_true_iff.2 ⟨(Bool.and_eq_true_iff.2 ⟨(Bool.and_eq_true_iff.2 ⟨(Bool.and_eq_true_iff.2 ⟨(Bool.and_eq_true_iff.2 ⟨h1,h2⟩),h3⟩),h4⟩),h5⟩),h6⟩),h7⟩),h8⟩),h9⟩),h10⟩),h11⟩),h12⟩),h13⟩),h14⟩),h15⟩),h16⟩),h17⟩),h18⟩),h19⟩),h20⟩),h21⟩),h22⟩),h23⟩),h24⟩),h25⟩),h26⟩),h27⟩),h28⟩),h29⟩),h30⟩),h31⟩),h32⟩)
end Go.Sx
