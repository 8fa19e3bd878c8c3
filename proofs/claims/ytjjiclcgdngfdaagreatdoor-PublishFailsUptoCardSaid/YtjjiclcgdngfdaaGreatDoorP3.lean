/-
  Part 3 of the walk: contracts of the functions that the law reaches, and the calculus they stand on.
  No conditions.
-/
import Derived.Test.YtjjiclcgdngfdaaGreatDoorP2
import Derived.Shelf.SlIter.Nil
import Derived.Shelf.SortM.Plain
import Derived.Shelf.SortM.SortNone
import Derived.Ground.GgzProg
import Derived.Ground.SlgmProg
section
open Go Go.Proofs Go.Sx Go.StP
namespace Go.Proofs
set_option maxRecDepth 10000
set_option maxHeartbeats 400000
set_option linter.unusedSimpArgs false
structure FiL where
 dir:List UInt8
 name:List UInt8
 data:List UInt8
def fiC (r:FiL):List Value:= [vs r.dir]++ ([vs r.name]++ ([vs r.data]))
def fi0:FiL:=⟨[],[],[]⟩
theorem zT_ (r:FiL): (fiC r).length=3:=by simp[fiC]
theorem xH_ (r:FiL):Value.cells (.agg (fiC r).toArray)=(fiC r).toArray:=zg_ _
theorem QZ_ (r:FiL): (fiC r).all Value.oneCell'=true:=by
 unfold fiC
 simp only[List.all_append,List.all_cons,List.all_nil,ZU_,Bool.and_true,Bool.true_and]
 rfl
theorem zrFi:zX_ Tryz.prog 36=some (.agg (fiC fi0).toArray):=id (by kernel_rfl)
theorem VF_:zZ_ Tryz.prog 36=some (true,3):=id (by kernel_rfl)
theorem ajv_ (r:FiL):fiC r=([]:List Value)++ (([vs r.dir])++ ([vs r.name]++ ([vs r.data]))):=by
 unfold fiC;simp only[List.append_assoc,List.nil_append,List.append_nil]
theorem asU_ (r:FiL):Sx.partV (false,1) (fiC r).toArray 0=some (vs r.dir):=by
 rw[ajv_];exact QA_ _ _ _ (by simp)
theorem agi_ (r:FiL) (n:Nat) (E:TypeId) (fz:Nat×Nat):zl_ (some (false,n)) (some (.cells (fiC r).toArray E fz)) 0=some (vs r.dir):=by
 rw[ajv_];exact z1_ _ _ _ n E fz (by simp)
theorem aj9_ {w:World} {v:Value} {l:List FiL} {b off:Nat} {arr:Array Value} {E:TypeId} {fz:Nat×Nat} (h:RowS 3 fiC fi0 w v l b off arr E fz) {k:Nat} (hk:k<l.length) (n:Nat):zl_ (some (false,n)) (some (.cells arr E fz)) (off+k*3+0)=some (vs (l.getD k fi0).dir):=by
 rw[RowS.cell h hk (by omega)];generalize l.getD k fi0=r;rw[ajv_];exact Qd_ _ _ _ (by simp)
theorem aiZ_ (r:FiL):fiC r=(([vs r.dir]))++ (([vs r.name])++ ([vs r.data])):=by
 unfold fiC;simp only[List.append_assoc,List.nil_append,List.append_nil]
theorem as4_ (r:FiL):Sx.partV (false,1) (fiC r).toArray 1=some (vs r.name):=by
 rw[aiZ_];exact QA_ _ _ _ (by simp)
theorem af3_ (r:FiL) (n:Nat) (E:TypeId) (fz:Nat×Nat):zl_ (some (false,n)) (some (.cells (fiC r).toArray E fz)) 1=some (vs r.name):=by
 rw[aiZ_];exact z1_ _ _ _ n E fz (by simp)
theorem adV_ {w:World} {v:Value} {l:List FiL} {b off:Nat} {arr:Array Value} {E:TypeId} {fz:Nat×Nat} (h:RowS 3 fiC fi0 w v l b off arr E fz) {k:Nat} (hk:k<l.length) (n:Nat):zl_ (some (false,n)) (some (.cells arr E fz)) (off+k*3+1)=some (vs (l.getD k fi0).name):=by
 rw[RowS.cell h hk (by omega)];generalize l.getD k fi0=r;rw[aiZ_];exact Qd_ _ _ _ (by simp)
theorem akc_ (r:FiL):fiC r=(([vs r.dir])++ ([vs r.name]))++ (([vs r.data])++ (([]:List Value))):=by
 unfold fiC;simp only[List.append_assoc,List.nil_append,List.append_nil]
theorem asv_ (r:FiL):Sx.partV (false,1) (fiC r).toArray 2=some (vs r.data):=by
 rw[akc_];exact QA_ _ _ _ (by simp)
theorem agC_ (r:FiL) (n:Nat) (E:TypeId) (fz:Nat×Nat):zl_ (some (false,n)) (some (.cells (fiC r).toArray E fz)) 2=some (vs r.data):=by
 rw[akc_];exact z1_ _ _ _ n E fz (by simp)
theorem ai2_ {w:World} {v:Value} {l:List FiL} {b off:Nat} {arr:Array Value} {E:TypeId} {fz:Nat×Nat} (h:RowS 3 fiC fi0 w v l b off arr E fz) {k:Nat} (hk:k<l.length) (n:Nat):zl_ (some (false,n)) (some (.cells arr E fz)) (off+k*3+2)=some (vs (l.getD k fi0).data):=by
 rw[RowS.cell h hk (by omega)];generalize l.getD k fi0=r;rw[akc_];exact Qd_ _ _ _ (by simp)
theorem WA_ (r:FiL) (E:TypeId) (fz:Nat×Nat):zl_ (some (true,3)) (some (.cells (fiC r).toArray E fz)) 0=some (.agg (fiC r).toArray):=xk_ _ E fz 3 (by rw[List.size_toArray,zT_])
theorem amT_ (old:Array Value) (r:FiL) (a:Bool) (E:TypeId) (h:old.size=3):zr_ (some (a,3)) (some (.cells old E (0,0))) 0 (.agg (fiC r).toArray)=some (.cells (fiC r).toArray E (0,0)):=j0_ _ a old E (zT_ r) (QZ_ r) h
theorem acl_ (r r':FiL) (a:Bool) (E:TypeId):zr_ (some (a,3)) (some (.cells (fiC r').toArray E (0,0))) 0 (.agg (fiC r).toArray)=some (.cells (fiC r).toArray E (0,0)):=amT_ _ r a E (by rw[List.size_toArray,zT_])
theorem af9_ {w:World} {v:Value} {l:List FiL} {b off:Nat} {arr:Array Value} {E:TypeId} {fz:Nat×Nat} (h:RowS 3 fiC fi0 w v l b off arr E fz) {k:Nat} (hk:k<l.length):zl_ (some (true,3)) (some (.cells arr E fz)) (off+k*3)=some (.agg (fiC (l.getD k fi0)).toArray):=RowS.load h zT_ (by omega) hk
theorem apA_:Tryz.prog.stoodInHeld 36=false:=by kernel_rfl
theorem apy_:Tryz.prog.eqGuardType Tryz.prog.depth 36=false:=by kernel_rfl
theorem ata_ (r r':FiL):eqD Tryz.prog 8 36 (.agg (fiC r).toArray) (.agg (fiC r').toArray)=some ((r.dir==r'.dir)&& (r.name==r'.name)&& (r.data==r'.data)):=by
 have hs: ∀ (a b:List UInt8),eqD Tryz.prog 7 9 (vs a) (vs b)=some (a==b):=by
  intro a b;unfold eqD;rw[Tryz.underlying9];simp only[vs,Kw_]
 have ags:zZ_ Tryz.prog 9=some (false,1):=id (by kernel_rfl)
 unfold eqD
 rw[Tryz.underlying36]
 simp only
 rw[apA_]
 simp only[Bool.false_eq_true, ↓reduceIte,xN_,kx_,ags,asU_,as4_,asv_,hs]
 cases(r.dir==r'.dir)<;>cases(r.name==r'.name)<;>cases(r.data==r'.data)<;>simp
theorem neFi (r r':FiL):qD_ Tryz.prog .neq 36 (.agg (fiC r).toArray) (.agg (fiC r').toArray)=some (.bool (!((r.dir==r'.dir)&& (r.name==r'.name)&& (r.data==r'.data)))):=by
 unfold qD_ eqX;rw[apy_];simp[qg_,ata_]
theorem anq_ (r:FiL):j6_ (Zk_ Tryz.prog 36) (zX_ Tryz.prog 36) [(0,vs r.dir),(1,vs r.name),(2,vs r.data)]=some (.agg (fiC r).toArray):=by
 have hp:Zk_ Tryz.prog 36=some [(0,1),(1,1),(2,1)]:=id (by kernel_rfl)
 rw[hp,zrFi]
 have e0: (fiC fi0).toArray=(([]:List Value)++ (([vs fi0.dir])++ ([vs fi0.name]++ ([vs fi0.data])))).toArray:=by congr 1<;>simp only[fiC,List.append_assoc,List.nil_append,List.append_nil]
 have q0:Jv_ (([]:List Value)++ (([vs fi0.dir])++ ([vs fi0.name]++ ([vs fi0.data])))).toArray 0 ([vs r.dir])=(([]:List Value)++ (([vs r.dir])++ ([vs fi0.name]++ ([vs fi0.data])))).toArray:=adS_ _ _ _ _ (by simp) (rfl)
 have s0: (([]:List Value)++ (([vs fi0.dir])++ ([vs fi0.name]++ ([vs fi0.data])))).toArray.size=3:=by simp
 have z0: (Value.cells (vs r.dir)).toList= [vs r.dir]:=by rfl
 have y0: (Value.cells (vs r.dir)).size=1:=by rw[←Array.length_toList,z0];simp
 have e1: (([]:List Value)++ (([vs r.dir])++ ([vs fi0.name]++ ([vs fi0.data])))).toArray=((([vs r.dir]))++ (([vs fi0.name])++ ([vs fi0.data]))).toArray:=by congr 1<;>simp only[fiC,List.append_assoc,List.nil_append,List.append_nil]
 have q1:Jv_ ((([vs r.dir]))++ (([vs fi0.name])++ ([vs fi0.data]))).toArray 1 ([vs r.name])=((([vs r.dir]))++ (([vs r.name])++ ([vs fi0.data]))).toArray:=adS_ _ _ _ _ (by simp) (rfl)
 have s1: ((([vs r.dir]))++ (([vs fi0.name])++ ([vs fi0.data]))).toArray.size=3:=by simp
 have z1: (Value.cells (vs r.name)).toList= [vs r.name]:=by rfl
 have y1: (Value.cells (vs r.name)).size=1:=by rw[←Array.length_toList,z1];simp
 have e2: ((([vs r.dir]))++ (([vs r.name])++ ([vs fi0.data]))).toArray=((([vs r.dir])++ ([vs r.name]))++ (([vs fi0.data])++ (([]:List Value)))).toArray:=by congr 1<;>simp only[fiC,List.append_assoc,List.nil_append,List.append_nil]
 have q2:Jv_ ((([vs r.dir])++ ([vs r.name]))++ (([vs fi0.data])++ (([]:List Value)))).toArray 2 ([vs r.data])=((([vs r.dir])++ ([vs r.name]))++ (([vs r.data])++ (([]:List Value)))).toArray:=adS_ _ _ _ _ (by simp) (rfl)
 have s2: ((([vs r.dir])++ ([vs r.name]))++ (([vs fi0.data])++ (([]:List Value)))).toArray.size=3:=by simp
 have z2: (Value.cells (vs r.data)).toList= [vs r.data]:=by rfl
 have y2: (Value.cells (vs r.data)).size=1:=by rw[←Array.length_toList,z2];simp
 have e3: ((([vs r.dir])++ ([vs r.name]))++ (([vs r.data])++ (([]:List Value)))).toArray=(fiC r).toArray:=by congr 1<;>simp only[fiC,List.append_assoc,List.nil_append,List.append_nil]
 simp only[j6_]
 rw[e0]
 unfold Sx.fillV
 simp only[List.getElem?_cons_zero,List.getElem?_cons_succ,z0,y0]
 rw[if_pos ⟨trivial,by rw[s0];decide⟩,q0]
 rw[e1]
 unfold Sx.fillV
 simp only[List.getElem?_cons_zero,List.getElem?_cons_succ,z1,y1]
 rw[if_pos ⟨trivial,by rw[s1];decide⟩,q1]
 rw[e2]
 unfold Sx.fillV
 simp only[List.getElem?_cons_zero,List.getElem?_cons_succ,z2,y2]
 rw[if_pos ⟨trivial,by rw[s2];decide⟩,q2]
 rw[e3];rfl
abbrev FiSl (w:World) (v:Value) (l:List FiL):Prop:=SlV 3 fiC fi0 w v l
theorem DkP.seen1 {X L:za_} {G:DkG} {S:DiskL} (h:DkP X G S) {k:Nat} (hk:k<3) {l':NmL} (keep: ∀b o,Sx.look X b=some o→b≠G.s k→Sx.look L b=some o) (hs:NmM L G.fb (G.s k) l') (h1:SrtN l') (h3: ∀p,p∈l'→p.2<S.files.length):
  DkP L G (qd_ S k ⟨l',(S.dir k).stl,(S.dir k).pend⟩):=by
 obtain⟨osk,msk,hosk,hmsk,-⟩:=h.seen k hk
 have hns: ∀b o,Sx.look X b=some o→tyO o≠none→b≠G.s k:=by
  rintro b o hb ht rfl
  rw[hosk] at hb;cases hb;exact ht (q3_ hmsk)
 have K: ∀b o,Sx.look X b=some o→tyO o≠none→Sx.look L b=some o:=fun b o hb h1=>keep b o hb (hns b o hb h1)
 have es: ∀j,(qd_ S k ⟨l',(S.dir k).stl,(S.dir k).pend⟩).dir j=if j=k then⟨l',(S.dir k).stl,(S.dir k).pend⟩ else S.dir j:=fun _=>rfl
 have e2: ∀j,((qd_ S k ⟨l',(S.dir k).stl,(S.dir k).pend⟩).dir j).stl=(S.dir j).stl:=fun j=>by
  rw[es];by_cases e:j=k
  ·subst e;rw[if_pos rfl]
  ·rw[if_neg e]
 have e3: ∀j,((qd_ S k ⟨l',(S.dir k).stl,(S.dir k).pend⟩).dir j).pend=(S.dir j).pend:=fun j=>by
  rw[es];by_cases e:j=k
  ·subst e;rw[if_pos rfl]
  ·rw[if_neg e]
 refine⟨K _ _ h.disk (by simp[tyO,jx_]), ?_,fun j hj=>K _ _ (h.dir j hj) (by simp[tyO,x5_]),fun j hj=> ?_,fun j hj=> ?_,fun j hj=> ?_,fun n hn=>K _ _ (h.file n hn) (by simp[tyO,kq_]),h.len,h.nodf,h.nodm,h.nodd,h.nodb,h.nodp,Qi_ h.ok _ h1 (h.ok.stl k hk) h3 (h.ok.stlN k hk) (h.ok.pendN k hk)⟩
 ·obtain⟨o,h1,h2⟩:=h.dirs
  exact⟨o,keep _ _ h1 (h.nodb k hk).1,h2⟩
 ·rw[es]
  by_cases e:j=k
  ·subst e;rw[if_pos rfl];exact hs
  ·rw[if_neg e]
   obtain⟨o,m,h1,h2,h3⟩:=h.seen j hj
   exact⟨o,m,keep _ _ h1 ((wP_ h.nodm hj hk).1 e),h2,h3⟩
 ·rw[e2]
  obtain⟨o,m,h1,h2,h3⟩:=h.stl j hj
  exact⟨o,m,keep _ _ h1 (Ne.symm (wP_ h.nodm hk hj).2.2),h2,h3⟩
 ·rw[e3]
  obtain⟨vals,h1,h2,h3⟩:=h.pend j hj
  refine⟨vals,h1,h2.keep fun b o hb ho=> ?_,fun i hi=>(h3 i hi).keep fun b o ho hx=>K b o ho ?_⟩
  ·obtain⟨arr,ha⟩:=QM_ h2 hb
   rw[ho] at ha;cases ha
   exact K _ _ ho (by simp[tyO])
  ·rcases hx with⟨s,rfl⟩ | ⟨a,rfl⟩<;>simp[tyO,vG_,VP_]
def z2_ (S:DiskL) (f:FiL):DiskL:=match zy_ f.dir with
 |some k=>if qS_ f.name=true∧f.data.length≤1048576 then qd_ (xU_ S ⟨f.data,f.data.length⟩) k ⟨JY_ (S.dir k).seen (f.name,S.files.length),(S.dir k).stl,(S.dir k).pend⟩ else S
 |none=>S
def setV (S:DiskL) (vis:List Nat):DiskL:={S with dir:=fun k=>if k∈vis then⟨(S.dir k).seen,(S.dir k).seen,[]⟩ else S.dir k}
theorem alW_ (S:DiskL):setV S []=S:=by
 unfold setV
 simp
theorem ae8_ (S:DiskL) (vis:List Nat) (k:Nat):xy_ (setV S vis) k=setV S (vis++ [k]):=by
 unfold xy_ qd_ setV
 simp only
 congr 1
 funext j
 by_cases e:j=k
 ·subst e
  rw[if_pos rfl,if_pos (List.mem_append_right _ (List.mem_singleton.2 rfl))]
  by_cases h:j∈vis
  ·rw[if_pos h]
  ·rw[if_neg h]
 ·rw[if_neg e]
  by_cases h:j∈vis
  ·rw[if_pos h,if_pos (List.mem_append_left _ h)]
  ·rw[if_neg h,if_neg (fun hm=>by
    rcases List.mem_append.1 hm with hm|hm
    ·exact h hm
    ·exact e (List.mem_singleton.1 hm))]
theorem aie_ (S:DiskL) {a b:List Nat} (h: ∀k,k∈a↔k∈b):setV S a=setV S b:=by
 unfold setV
 congr 1
 funext j
 by_cases e:j∈a
 ·rw[if_pos e,if_pos ((h j).1 e)]
 ·rw[if_neg e,if_neg (fun e2=>e ((h j).2 e2))]
def ofD (quota:Int) (l:List FiL):DiskL:=setV (l.foldl z2_ (QD_ quota)) [0,1,2]
end Go.Proofs
end
section
open Go Go.Proofs Go.Sx Go.StP
namespace Go.Proofs
set_option maxRecDepth 10000
set_option maxHeartbeats 400000
set_option linter.unusedSimpArgs false
theorem arH_ (b o:Nat):qD_ Tryz.prog .neq 120 (vp b o) (.pointer none)=some (.bool true):=by
 simp[qD_,eqX,qg_,qf_,Tryz.underlying120,vp]
theorem apg_:qD_ Tryz.prog .neq 120 (.pointer none) (.pointer none)=some (.bool false):=by
 simp[qD_,eqX,qg_,qf_,Tryz.underlying120]
theorem ahO_ (s:List UInt8) (n:Nat):j6_ (Zk_ Tryz.prog 126) (zX_ Tryz.prog 126) [(0,vs s),(1,vi (n:Int))]=some (.agg #[vs s,vi (n:Int)]):=by
 rw[show Zk_ Tryz.prog 126=some [(0,1),(1,1)] from id (by kernel_rfl),show zX_ Tryz.prog 126=some (.agg #[vs [],vi 0]) from id (by kernel_rfl)];rfl
theorem Wr_ {X:za_} {c:Nat} {x:Obj} (h:jR_ X c) {b:Nat} {o:Obj} (hb:Sx.look X b=some o):Sx.look ((c,x)::X) b=some o:=by
 have:=zv_ h (zh_ hb)
 simp only[Sx.look]
 rw[if_neg (by omega)];exact hb
structure OfKG where
 i:Nat
 G:DkG
 X:za_
structure OvKG where
 vis:List Nat
 dn:List (List UInt8×Option Nat)
 lf:List (List UInt8×Option Nat)
 it:Obj
 G:DkG
 X:za_
def FiB (l:List FiL):Prop:= ∀f,f∈l→f.name.length<1099511627776∧f.data.length<1099511627776
set_option linter.defProp false
def qj_:=And.intro (And.intro (And.intro (And.intro (@zd_) (@zc_)) (And.intro (@qG_) (And.intro (@q4_) (@qX_)))) (And.intro (And.intro (@qZ_) (@arH_)) (And.intro (@apg_) (And.intro (@Sx.tup2_0) (@Sx.tup2_1))))) (And.intro (And.intro (And.intro (@xH_) (@WA_)) (And.intro (@agi_) (And.intro (@af3_) (@agC_)))) (And.intro (And.intro (@acl_) (@Jr_)) (And.intro (@Sx.tup3_0) (And.intro (@Sx.tup3_1) (@Sx.tup3_2)))))
theorem WL_ (quota:Int) (v:Value) (l:List FiL) (w:World) (hq: -9223372036854775808≤quota∧quota<9223372036854775808) (hG:Qk_ w) (hv:FiSl w v l) (hl:l.length<1000000) (hb:FiB l):
  Rets Tryz.prog 16 #[vi quota,v] w (XS w [] (fun v D=> ∃G,v=vp G.bd 0∧DkP D G (ofD quota l))):=by
 have ln:=hv.len
 obtain⟨rb,off,arr,E,fz,hr⟩:=hv.row
 refine Rets.enterX Tryz.func16 rfl (rs:= [.tmp 4]) Tryz.results16 Tryz.ntmps16 (fun p hp=>by cases hp) (by simp[keys]) ?_
 refine kf ?_
 first|with_reducible refine ks [] @qj_ ?_|refine kp @qj_ ?_
 refine Ow.callC rfl rfl Tryz.call28 (fun w' hw'=>aa9_ quota w' hq (by obtain⟨e,f,hg⟩:=hG;exact⟨e,f,by rw[hw'.old _ (Array.getElem?_eq_some_iff.1 hg).1 (by simp[keys])];exact hg⟩)) (fun B2 v2 D2 hA2 hB2 hN2 hS2=> ?_)
 obtain⟨G0,rfl,hP0⟩:=hS2
 rw[List.nil_append]
 have hN0:New w.heap.size D2:=hN2.mono hB2
 refine ko @qj_ ?_
 first|with_reducible refine ks [] (And.intro @qj_ @ln) ?_|refine kp (And.intro @qj_ @ln) ?_
 refine Cw.loopG (G:=OfKG) [16,17,18,7,19,20,21,22,23,24,25,8,26,27,28,29,30,31,32,33,34,35,36,37,38,39,40,41,42,43,44,45,46,47,48,49,50,51,52,15] (fun g=> [(15,vi g.i)]) (fun g=>g.X) (fun g=>g.i≤l.length∧DkP g.X g.G ((l.take g.i).foldl z2_ (QD_ quota))∧g.G.bd=G0.bd∧New w.heap.size g.X) (fun g=>l.length - g.i) ⟨0,G0,D2⟩ rfl rfl ?_ ?_
 ·exact⟨Nat.zero_le _,hP0,rfl,hN0⟩
 intro g j hg
 refine kv ?_
 clear hP0 hN0
 obtain⟨i,G,X⟩:=g
 simp only at hg ⊢
 obtain⟨hi,hP,hbd,hN⟩:=hg
 rw[←hbd]
 by_cases hlt:i<l.length
 ·have d1:decide ((i:Int)< (l.length:Int))=true:=decide_eq_true (by omega)
  have hrl:=hr.lt (by omega)
  have ixl:=hr.idx true i hlt
  have ldl:=hr.load zT_ (by omega) hlt
  have rdl:zz_ w X rb=some (.cells arr E fz):=by rw[qw_ (hN.not hrl)];exact hr.has (by omega)
  have hts: (l.take (i+1)).foldl z2_ (QD_ quota)=z2_ ((l.take i).foldl z2_ (QD_ quota)) (l.getD i fi0):=by
   rw[StP.take_snoc (z:=fi0) hlt,List.foldl_append];rfl
  have hfb:=hb (l.getD i fi0) (by rw[List.getD_eq_getElem?_getD,List.getElem?_eq_getElem hlt];exact List.getElem_mem _)
  generalize l.getD i fi0=r at*
  generalize (l.take i).foldl z2_ (QD_ quota)=S at*
  first|with_reducible refine ks [] (And.intro @qj_ (And.intro @d1 (And.intro @ixl (And.intro @rdl (@ldl))))) ?_|refine kp (And.intro @qj_ (And.intro @d1 (And.intro @ixl (And.intro @rdl (@ldl))))) ?_
  refine Ow.alloc rfl rfl zrFi fun b7 hb7 hw7=> ?_
  simp only[zg_,List.nil_append,List.cons_append]
  refine Ow.permL (M:=(b7, .cells (fiC fi0).toArray 36 (0,0))::X) (by classical exact List.perm_iff_count.2 fun a=>by simp only[List.count_append,List.count_cons,List.count_nil]<;>omega) ?_
  refine ko @qj_ ?_
  have hP1:DkP ((b7, .cells (fiC r).toArray 36 (0,0))::X) G S:=hP.mono fun b o h=>Wr_ hb7 h
  have hl7:Sx.look ((b7,Obj.cells (fiC r).toArray 36 (0,0))::X) b7=some (.cells (fiC r).toArray 36 (0,0)):=by simp[Sx.look]
  have hN1:New w.heap.size ((b7,Obj.cells (fiC r).toArray 36 (0,0))::X):=⟨hw7,hN⟩
  generalize (b7,Obj.cells (fiC r).toArray 36 (0,0))::X=L1 at*
  have hr7:=zb_ (w0:=w) hl7
  have hrb:=zb_ (w0:=w) hP1.disk
  obtain⟨om,hom,hM⟩:=hP1.dirs
  first|with_reducible refine ks [] @qj_ ?_|refine kp @qj_ ?_
  refine Cw.regionS [G.bd,b7] [0,1,2,4,3,5,6,7] [] (by kernel_rfl) (by kernel_rfl) (by kernel_rfl) ?_
  simp only[zu_, ↓zi_, ↓ze_, ↓zG_, ↓zF_,zf_]
  refine kq (And.intro @qj_ (And.intro @hrb (@hr7))) ?_
  refine Ow.soft rfl rfl rfl ?_
  refine Ow.mapGetG (encK:=vs) (encV:=q2_) (k:=r.dir) (z:=none) rfl rfl Tryz.underlying121 jV_ zrPd rfl rfl (zb_ hom) hM ?_
  with_reducible refine Ow.nil ?_
  refine⟨by intro b hb;simp only[List.mem_cons,List.not_mem_nil,or_false] at hb;(try subst hb);rfl, ?_⟩
  rw[Qc_]
  cases hwd:zy_ r.dir with
  |none=>
   have hp0:q2_ none= .pointer none:=rfl
   refine kq (And.intro @qj_ @hp0) ?_
   try with_reducible refine Ow.nil ?_
   first|with_reducible refine ks [] @qj_ ?_|refine kp @qj_ ?_
   exact Again.mk ⟨i+1,G,L1⟩ (by show l.length - (i+1)<l.length - i;omega) ⟨hlt,by show DkP L1 G ((l.take (i+1)).foldl z2_ (QD_ quota));rw[hts];unfold z2_;rw[hwd];exact hP1,rfl,hN1⟩ rfl rfl
  |some k=>
   have hp: ∀q:Nat,q2_ (some q)=vp q 0:=fun _=>rfl
   have hk3:=(zE_ hwd).1
   refine kq (And.intro @qj_ @hp) ?_
   try with_reducible refine Ow.nil ?_
   first|with_reducible refine ks [] (And.intro @qj_ @hr7) ?_|refine kp (And.intro @qj_ @hr7) ?_
   refine Ow.callFV rfl Tryz.call74 (fun w' hw'=>JG_ r.name w' hfb.1) ?_
   have hno: ¬ (qS_ r.name=true∧r.data.length≤1048576)→z2_ S r=S:=fun h=>by unfold z2_;rw[hwd];simp only;rw[if_neg h]
   cases hfn:qS_ r.name with
   |false=>
    refine ko @qj_ ?_
    first|with_reducible refine ks [] @qj_ ?_|refine kp @qj_ ?_
    exact Again.mk ⟨i+1,G,L1⟩ (by show l.length - (i+1)<l.length - i;omega) ⟨hlt,by show DkP L1 G ((l.take (i+1)).foldl z2_ (QD_ quota));rw[hts,hno (fun h=>by rw[hfn] at h;cases h.1)];exact hP1,rfl,hN1⟩ rfl rfl
   |true=>
    by_cases hdl:r.data.length≤1048576
    ·have d2:decide ((r.data.length:Int)≤1048576)=true:=decide_eq_true (by omega)
     have hrd:=zb_ (w0:=w) (hP1.dir k hk3)
     obtain⟨os,ms,hos,hms,hnp⟩:=hP1.seen k hk3
     refine ko (And.intro @qj_ (And.intro @hr7 (@d2))) ?_
     first|with_reducible refine ks [] @qj_ ?_|refine kp @qj_ ?_
     refine Cw.regionS [G.d k,b7] [0,1,2,4,6,8,3,5,7,9,10,11,12,13] [13] (by kernel_rfl) (by kernel_rfl) (by kernel_rfl) ?_
     simp only[zu_, ↓zi_, ↓ze_, ↓zG_, ↓zF_,zf_]
     refine kq (And.intro @qj_ (And.intro @hrd (@hr7))) ?_
     refine Ow.build (.agg #[vs r.data,vi (r.data.length:Int)]) rfl (ahO_ r.data r.data.length) ?_
     refine kq @qj_ ?_
     refine Ow.soft rfl rfl rfl ?_
     refine Ow.box rfl rfl fun b8 hb8 hw8=> ?_
     simp only[qB_,qA_,qJ_,zg_]
     have hP2:=(hP1.mono (X':=L1++ [(b8,kq_ ⟨r.data,r.data.length⟩)]) fun b o h=>zj_ h).addFile (xC_ hb8) (fun hm=>by have:=zv_ hb8 (hP1.fb_key hm);omega) ⟨hdl,Nat.le_refl _⟩
     have hN2:New w.heap.size (L1++ [(b8,kq_ ⟨r.data,r.data.length⟩)]):=hN1.app (show New w.heap.size [(b8,kq_ ⟨r.data,r.data.length⟩)] from⟨hw8,trivial⟩)
     refine Ow.permL (M:=L1++ [(b8,kq_ ⟨r.data,r.data.length⟩)]) (List.Perm.refl _) ?_
     have hu1:=zb_ (w0:=w) (zj_ (M:= [(b8,kq_ ⟨r.data,r.data.length⟩)]) (hP1.dir k hk3))
     have hu2:=zb_ (w0:=w) (zj_ (M:= [(b8,kq_ ⟨r.data,r.data.length⟩)]) hl7)
     generalize L1++ [(b8,kq_ ⟨r.data,r.data.length⟩)]=L2 at*
     with_reducible refine Ow.nil ?_
     refine⟨fun b hb=>by
      simp only[List.mem_cons,List.not_mem_nil,or_false] at hb
      rcases hb with rfl|rfl
      ·rw[hu1,hrd]
      ·rw[hu2,hr7], ?_⟩
     obtain⟨os2,ms2,hos2,hms2,hnp2⟩:=hP2.seen k hk3
     refine kq @qj_ ?_
     refine Ow.mapUpdateG (encK:=vs) (encV:=q2_) (k:=r.name) (v:=some b8) rfl rfl Tryz.underlying127 jV_ rfl rfl rfl hos2 hms2 (fun o3 hm3=> ?_)
     have hnp3:=hnp2.put (hP2.ok.seen k hk3).nodup r.name S.files.length
     have hfe: (addF G b8).fb.getD S.files.length 0=b8:=ZD_ _ _ hP.len
     rw[hfe] at hnp3
     have hP3:=hP2.seen1 (L:=setB L2 (G.s k) o3) hk3 (l':=JY_ (S.dir k).seen (r.name,S.files.length)) (fun b o hb h1=>(zk_ (Ne.symm h1)).trans hb) ⟨o3,_,qF_ hos2,hm3,hnp3⟩ (Z3_ _ (hP2.ok.seen k hk3)) (W5_ (c:=⟨0,r.name,[],S.files.length⟩) (hP2.ok.seenN k hk3) (fun h=>by cases h) (fun _=>by show S.files.length< (S.files++ [_]).length;simp))
     have hN3:New w.heap.size (setB L2 (G.s k) o3):=New.of_le fun q hq=>hN2.le q (by rwa [jQ_] at hq)
     refine ko @qj_ ?_
     first|with_reducible refine ks [] @qj_ ?_|refine kp @qj_ ?_
     exact Again.mk ⟨i+1,addF G b8,setB L2 (G.s k) o3⟩ (by show l.length - (i+1)<l.length - i;omega) ⟨hlt,by show DkP (setB L2 (G.s k) o3) (addF G b8) ((l.take (i+1)).foldl z2_ (QD_ quota));rw[hts];unfold z2_;rw[hwd];simp only;rw[if_pos ⟨hfn,hdl⟩];exact hP3,rfl,hN3⟩ rfl rfl
    ·have d2:decide ((r.data.length:Int)≤1048576)=false:=decide_eq_false (by omega)
     refine ko (And.intro @qj_ (And.intro @hr7 (@d2))) ?_
     first|with_reducible refine ks [] @qj_ ?_|refine kp @qj_ ?_
     exact Again.mk ⟨i+1,G,L1⟩ (by show l.length - (i+1)<l.length - i;omega) ⟨hlt,by show DkP L1 G ((l.take (i+1)).foldl z2_ (QD_ quota));rw[hts,hno (fun h=>hdl h.2)];exact hP1,rfl,hN1⟩ rfl rfl
 ·obtain rfl:i=l.length:=by omega
  have d1:decide ((l.length:Int)< (l.length:Int))=false:=decide_eq_false (by omega)
  rw[List.take_length] at hP
  unfold ofD
  generalize l.foldl z2_ (QD_ quota)=S at*
  have hrb:=zb_ (w0:=w) hP.disk
  obtain⟨om,hom,hM⟩:=hP.dirs
  first|with_reducible refine ks [] (And.intro @qj_ (And.intro @d1 (@hrb))) ?_|refine kp (And.intro @qj_ (And.intro @d1 (@hrb))) ?_
  refine Ow.rangeMapG (encK:=vs) (encV:=q2_) rfl rfl Tryz.underlying121 rfl (zb_ hom) hM fun bi oi hbi hwi hI=> ?_
  refine Ow.permL (M:=(bi,oi)::X) (by classical exact List.perm_iff_count.2 fun a=>by simp only[List.count_append,List.count_cons,List.count_nil]<;>omega) ?_
  have hbX:bi∉keys X:=fun hm=>by have:=zv_ hbi hm;omega
  refine ko @qj_ ?_
  first|with_reducible refine ks [] @qj_ ?_|refine kp @qj_ ?_
  refine Cw.loopG (G:=OvKG) [58,59,60,61,10,62,63] (fun g=> []) (fun g=>(bi,g.it)::g.X) (fun g=>ItG vs q2_ g.it G.bm om (JJ_ G) g.dn g.lf∧DkP g.X g.G (setV S g.vis)∧g.dn.map Prod.fst=g.vis.map qP_∧(∀k,k∈g.vis→k<3)∧bi∉keys g.X∧g.G.d=G.d∧g.G.bm=G.bm∧g.G.bd=G.bd∧Sx.look g.X G.bm=some om∧New w.heap.size g.X) (fun g=>g.lf.length) ⟨[],[],JJ_ G,oi,G,X⟩ rfl rfl ?_ ?_
  ·exact⟨hI,by rw[alW_];exact hP,rfl,fun k hk=>(by cases hk),hbX,rfl,rfl,rfl,hom,hN⟩
  intro g j hg
  refine kv ?_
  clear hI hP hN hbX hrb
  obtain⟨vis,dn,lf,it,G1,X1⟩:=g
  simp only at hg ⊢
  obtain⟨hI,hP,hvs,hv3,hbX,hgd,hgm,hgb,hom1,hN⟩:=hg
  have hoX: ∀x b o,Sx.look X1 b=some o→Sx.look ((bi,x)::X1) b=some o:=fun x b o hb=>by
   simp only[Sx.look]
   rw[if_neg (fun e=>hbX (by have e':b=bi:=(by omega);rw[←e'];exact zh_ hb))]
   exact hb
  first|with_reducible refine ks [] @qj_ ?_|refine kp @qj_ ?_
  refine Ow.nextMapG rfl rfl rfl (xT_ _ _ _) (zb_ (hoX _ _ _ hom1)) hI (fun hlf=> ?_) (fun p it' lf' hl' hI'=> ?_)
  ·subst hlf
   have hp:=kR_ hI
   rw[List.append_nil] at hp
   refine ko @qj_ ?_
   first|with_reducible refine ks [] @qj_ ?_|refine kp @qj_ ?_
   refine⟨_,(ke @qj_), ?_⟩
   refine⟨Ext.of_new ⟨hwi,hN⟩,G1,by rw[hgb];rfl, ?_⟩
   rw[show setV S [0,1,2]=setV S vis from aie_ S fun k=>⟨fun hk=> ?_,fun hk=> ?_⟩]
   ·exact hP.mono fun b o hb=>hoX _ _ _ hb
   ·have hk3:k<3:=by simp only[List.mem_cons,List.not_mem_nil,or_false] at hk;omega
    have hm:qP_ k∈dn.map Prod.fst:=by
     refine List.mem_map.2 ⟨(qP_ k,some (G.d k)),hp.mem_iff.2 ?_,rfl⟩
     have:k=0∨k=1∨k=2:=by omega
     rcases this with rfl|rfl|rfl<;>simp[JJ_,qP_]
    rw[hvs] at hm
    obtain⟨j,hj,e⟩:=List.mem_map.1 hm
    have h1:=xi_ (hv3 j hj)
    rw[e,xi_ hk3] at h1
    cases h1;exact hj
   ·have:=hv3 k hk
    simp only[List.mem_cons,List.not_mem_nil,or_false];omega
  ·refine kn ?_
   refine ko @qj_ ?_
   first|with_reducible refine ks [] @qj_ ?_|refine kp @qj_ ?_
   refine Ow.entryMapG (encK:=vs) (encV:=q2_) rfl rfl rfl (wC_ _ _ _ _) (zb_ (hoX _ _ _ hom1)) hI' ?_
   have hp:=kR_ hI'
   obtain⟨k,hk3,rfl⟩:=abg_ (hp.mem_iff.1 (List.mem_append_left _ (List.mem_append_right _ List.mem_cons_self)))
   have hpp: ∀q:Nat,q2_ (some q)=vp q 0:=fun _=>rfl
   refine ko (And.intro @qj_ @hpp) ?_
   first|with_reducible refine ks [] @qj_ ?_|refine kp @qj_ ?_
   refine Ow.permL (M:=X1++ [(bi,it')]) (by classical exact List.perm_iff_count.2 fun a=>by simp only[List.count_append,List.count_cons,List.count_nil]<;>omega) ?_
   refine Ow.callX (X:=X1) (Y:= [(bi,it')]) rfl rfl rfl Tryz.call75 (fun w' hw' hX' hn'=>by rw[show vp (G.d k) 0=vp (G1.d k) 0 by rw[hgd]];exact XA_ X1 G1 (setV S vis) k w' hX' hn' hP hk3) (fun v4 D4 hC4 hS4=> ?_)
   obtain⟨rfl,hP4,hkeep⟩:=hS4
   rw[ae8_] at hP4
   have hbm2:=hP.dirs
   have hom4:Sx.look D4 G.bm=some om:=hkeep _ _ hom1 (by rw[←hgm];exact(hP.nodb k hk3).2) (fun e=>by
    have h1:=hP.dir k hk3
    rw[←e,hom1] at h1
    cases h1
    obtain⟨es,cl,h,-⟩:=hM;cases h)
   have hbD:bi∉keys D4:=fun hm=>by
    rcases hC4.new bi hm with h| ⟨h,-⟩
    ·exact hbX h
    ·have:=zv_ h (b:=bi) (by rw[zs_];simp[keys]);omega
   have hN4:New w.heap.size D4:=xR_ hC4 hN
   refine Ow.permL (M:=(bi,it')::D4) (by classical exact List.perm_iff_count.2 fun a=>by simp only[List.count_append,List.count_cons,List.count_nil]<;>omega) ?_
   refine ko @qj_ ?_
   first|with_reducible refine ks [] @qj_ ?_|refine kp @qj_ ?_
   exact Again.mk ⟨vis++ [k],dn++ [(qP_ k,some (G.d k))],lf',it',ajk_ G1 k (G1.s k),D4⟩ (by show lf'.length<lf.length;omega) ⟨hI',hP4,by show(dn++ [_]).map Prod.fst=(vis++ [k]).map qP_;rw[List.map_append,List.map_append,hvs];rfl,fun j hj=>by
    rcases List.mem_append.1 hj with hj|hj
    ·exact hv3 j hj
    ·rw[List.mem_singleton.1 hj];exact hk3,hbD,hgd,hgm,hgb,hom4,hN4⟩ rfl rfl
end Go.Proofs
end
section
namespace Go.Proofs
open Go Go.Sx Go.StP Go.Shelf
set_option maxRecDepth 100000
def Tryz.keysL_ren:Go.Shelf.Ren:=⟨fun|7=>124|10=>164|n=>n,fun|23=>127|26=>9|3=>124|28=>185|0=>0|27=>184|33=>74|4=>4|n=>n,fun|n=>n⟩
theorem Tryz.keysL:Go.Proofs.SlLaysZ.n7 Tryz.prog Tryz.keysL_ren:={
 mixed:=by kernel_rfl
 f7:=⟨Tryz.f124.name,by decide,Tryz.func124.trans (congrArg some (by kernel_rfl))⟩
 f10:=⟨Tryz.f164.name,by decide,Tryz.func164.trans (congrArg some (by kernel_rfl))⟩
 t0:=Tryz.underlying0
 a0:=Tryz.isAgg0
 z0:=Tryz.sizeOf0
 v0:=Tryz.zeroValue0
 t4:=Tryz.underlying4
 a4:=Tryz.isAgg4
 z4:=Tryz.sizeOf4
 v4:=Tryz.zeroValue4
 t23:=Tryz.underlying127
 a23:=Tryz.isAgg127
 z23:=Tryz.sizeOf127
 v23:=Tryz.zeroValue127
 t26:=Tryz.underlying9
 a26:=Tryz.isAgg9
 z26:=Tryz.sizeOf9
 v26:=Tryz.zeroValue9
 t27:=Tryz.underlying184
 a27:=Tryz.isAgg184
 z27:=Tryz.sizeOf184
 v27:=Tryz.zeroValue184
 t28:=Tryz.underlying185
 a28:=Tryz.isAgg185
 z28:=Tryz.sizeOf185
 v28:=Tryz.zeroValue185
 t33:=Tryz.underlying74
 a33:=Tryz.isAgg74
 z33:=Tryz.sizeOf74
 v33:=Tryz.zeroValue74}
def Tryz.sortedL_ren:Go.Shelf.Ren:=⟨fun|6=>123|8=>162|9=>163|11=>192|13=>194|12=>193|23=>225|24=>226|14=>216|15=>217|16=>218|17=>219|18=>220|19=>221|20=>222|21=>223|22=>224|25=>236|26=>237|27=>238|28=>239|29=>240|30=>241|31=>248|n=>n,fun|26=>9|28=>185|24=>72|0=>0|3=>3|37=>219|48=>207|50=>252|4=>4|40=>284|39=>283|45=>288|5=>5|9=>9|51=>301|55=>305|57=>316|58=>77|33=>74|n=>n,fun|n=>n⟩
theorem Tryz.sortedL:Go.Proofs.SlLaysZ.n6 Tryz.prog Tryz.sortedL_ren:={
 mixed:=by kernel_rfl
 f6:=⟨Tryz.f123.name,by decide,Tryz.func123.trans (congrArg some (by kernel_rfl))⟩
 f8:=⟨Tryz.f162.name,by decide,Tryz.func162.trans (congrArg some (by kernel_rfl))⟩
 f11:=⟨Tryz.f192.name,by decide,Tryz.func192.trans (congrArg some (by kernel_rfl))⟩
 t0:=Tryz.underlying0
 a0:=Tryz.isAgg0
 z0:=Tryz.sizeOf0
 v0:=Tryz.zeroValue0
 t24:=Tryz.underlying72
 a24:=Tryz.isAgg72
 z24:=Tryz.sizeOf72
 v24:=Tryz.zeroValue72
 t26:=Tryz.underlying9
 a26:=Tryz.isAgg9
 z26:=Tryz.sizeOf9
 v26:=Tryz.zeroValue9
 t28:=Tryz.underlying185
 a28:=Tryz.isAgg185
 z28:=Tryz.sizeOf185
 v28:=Tryz.zeroValue185
 i26:=by kernel_rfl}
def Tryz.sortL_ren:Go.Shelf.Ren:=⟨fun|6=>163|8=>194|9=>193|19=>225|20=>226|21=>216|22=>217|23=>218|24=>219|25=>220|26=>221|27=>222|28=>223|29=>224|36=>236|31=>237|32=>238|37=>239|38=>240|39=>241|41=>248|n=>n,fun|27=>72|29=>9|3=>3|32=>219|26=>72|0=>0|44=>207|46=>252|4=>4|36=>284|35=>283|41=>288|5=>5|9=>9|53=>301|57=>305|63=>316|64=>77|n=>n,fun|n=>n⟩
theorem Tryz.sortL:Go.Proofs.SlLaysM.n6 Tryz.prog Tryz.sortL_ren:={
 mixed:=by kernel_rfl
 f6:=⟨Tryz.f163.name,by decide,Tryz.func163.trans (congrArg some (by kernel_rfl))⟩
 f8:=Tryz.func194.trans (congrArg some (by kernel_rfl))
 f9:=⟨Tryz.f193.name,by decide,Tryz.func193.trans (congrArg some (by kernel_rfl))⟩
 f19:=Tryz.func225.trans (congrArg some (by kernel_rfl))
 f20:=Tryz.func226.trans (congrArg some (by kernel_rfl))
 f21:=⟨Tryz.f216.name,by decide,Tryz.func216.trans (congrArg some (by kernel_rfl))⟩
 f22:=⟨Tryz.f217.name,by decide,Tryz.func217.trans (congrArg some (by kernel_rfl))⟩
 f23:=⟨Tryz.f218.name,by decide,Tryz.func218.trans (congrArg some (by kernel_rfl))⟩
 f24:=⟨Tryz.f219.name,by decide,Tryz.func219.trans (congrArg some (by kernel_rfl))⟩
 f25:=⟨Tryz.f220.name,by decide,Tryz.func220.trans (congrArg some (by kernel_rfl))⟩
 f26:=⟨Tryz.f221.name,by decide,Tryz.func221.trans (congrArg some (by kernel_rfl))⟩
 f27:=⟨Tryz.f222.name,by decide,Tryz.func222.trans (congrArg some (by kernel_rfl))⟩
 f28:=⟨Tryz.f223.name,by decide,Tryz.func223.trans (congrArg some (by kernel_rfl))⟩
 f29:=⟨Tryz.f224.name,by decide,Tryz.func224.trans (congrArg some (by kernel_rfl))⟩
 f31:=Tryz.func237.trans (congrArg some (by kernel_rfl))
 f32:=Tryz.func238.trans (congrArg some (by kernel_rfl))
 f36:=⟨Tryz.f236.name,by decide,Tryz.func236.trans (congrArg some (by kernel_rfl))⟩
 f37:=⟨Tryz.f239.name,by decide,Tryz.func239.trans (congrArg some (by kernel_rfl))⟩
 f38:=⟨Tryz.f240.name,by decide,Tryz.func240.trans (congrArg some (by kernel_rfl))⟩
 f39:=⟨Tryz.f241.name,by decide,Tryz.func241.trans (congrArg some (by kernel_rfl))⟩
 f41:=⟨Tryz.f248.name,by decide,Tryz.func248.trans (congrArg some (by kernel_rfl))⟩
 t0:=Tryz.underlying0
 a0:=Tryz.isAgg0
 z0:=Tryz.sizeOf0
 v0:=Tryz.zeroValue0
 t3:=Tryz.underlying3
 a3:=Tryz.isAgg3
 z3:=Tryz.sizeOf3
 v3:=Tryz.zeroValue3
 t4:=Tryz.underlying4
 a4:=Tryz.isAgg4
 z4:=Tryz.sizeOf4
 v4:=Tryz.zeroValue4
 t5:=Tryz.underlying5
 a5:=Tryz.isAgg5
 z5:=Tryz.sizeOf5
 v5:=Tryz.zeroValue5
 t9:=Tryz.underlying9
 a9:=Tryz.isAgg9
 z9:=Tryz.sizeOf9
 v9:=Tryz.zeroValue9
 t26:=Tryz.underlying72
 a26:=Tryz.isAgg72
 z26:=Tryz.sizeOf72
 v26:=Tryz.zeroValue72
 t27:=Tryz.underlying72
 a27:=Tryz.isAgg72
 z27:=Tryz.sizeOf72
 v27:=Tryz.zeroValue72
 t29:=Tryz.underlying9
 a29:=Tryz.isAgg9
 z29:=Tryz.sizeOf9
 v29:=Tryz.zeroValue9
 t32:=Tryz.underlying219
 a32:=Tryz.isAgg219
 z32:=Tryz.sizeOf219
 v32:=Tryz.zeroValue219
 t35:=Tryz.underlying283
 a35:=Tryz.isAgg283
 z35:=Tryz.sizeOf283
 v35:=Tryz.zeroValue283
 t36:=Tryz.underlying284
 a36:=Tryz.isAgg284
 z36:=Tryz.sizeOf284
 v36:=Tryz.zeroValue284
 t41:=Tryz.underlying288
 a41:=Tryz.isAgg288
 z41:=Tryz.sizeOf288
 v41:=Tryz.zeroValue288
 t44:=Tryz.underlying207
 a44:=Tryz.isAgg207
 z44:=Tryz.sizeOf207
 v44:=Tryz.zeroValue207
 t46:=Tryz.underlying252
 a46:=Tryz.isAgg252
 z46:=Tryz.sizeOf252
 v46:=Tryz.zeroValue252
 t53:=Tryz.underlying301
 a53:=Tryz.isAgg301
 z53:=Tryz.sizeOf301
 v53:=Tryz.zeroValue301
 t57:=Tryz.underlying305
 a57:=Tryz.isAgg305
 z57:=Tryz.sizeOf305
 v57:=Tryz.zeroValue305
 t63:=Tryz.underlying316
 a63:=Tryz.isAgg316
 z63:=Tryz.sizeOf316
 v63:=Tryz.zeroValue316
 t64:=Tryz.underlying77
 a64:=Tryz.isAgg77
 z64:=Tryz.sizeOf77
 v64:=Tryz.zeroValue77}
open Go.RowKit Go.Maps Go.Sort
theorem arn_ (m:Nat):AnyZ.SortsIn Tryz.prog Tryz.sortedL_ren Fence.wide m:=
 ⟨fun blk off cap ss W hH hblk hsz=>callsIn_wide.2 (AnyM.slices_Sort_string Tryz.sortL blk off cap ss W hH hblk hsz),
 fun p cap W=>callsIn_wide.2 (AnyM.slices_Sort_string_none Tryz.sortL p cap W)⟩
theorem ah7_ {a b:List UInt8} (h:ltB a b=true):leB a b=true:=by
 rw[VY_,decide_eq_true_eq] at h
 simp only[leB,decide_eq_true_eq]
 exact List.le_of_lt h
theorem akx_ {l:NmL} (h:SrtN l) {ss:List (List UInt8)} (hp:ss.Perm (l.map Prod.fst)):ss.mergeSort (fun x y=>decide (x≤y))=l.map Prod.fst:=by
 show ss.mergeSort leB=_
 rw[mergeSort_of_perm hp]
 refine List.mergeSort_of_pairwise ?_
 exact List.pairwise_map.2 (h.imp fun h=>ah7_ h)
theorem arF_ {W:World} {base n:Nat} {T:TypeId} {v:Value} {xs:List Value} (h:W.ownsRow base T 1 v n xs): ∃D:za_,(∀p,p∈D→W.heap[p.1]? =some p.2∧base≤p.1)∧(keys D).Nodup∧Gr D T 1 v n xs:=by
 obtain⟨hl,h⟩:=h
 rcases h with⟨rfl,rfl⟩ | ⟨g,cap,cur,rfl,hb,hg,hc,hm,hs,ht⟩
 ·obtain rfl:xs= []:=List.eq_nil_of_length_eq_zero (by simpa using hl)
  exact⟨[],fun p hp=>(by cases hp),List.nodup_nil,Gr.nl⟩
 ·refine⟨[(g, .cells cur T (0,0))], ?_,by simp[keys], ?_⟩
  ·intro p hp
   simp only[List.mem_singleton] at hp
   subst hp
   exact⟨hg,hb⟩
  ·by_cases h0:0<cap
   ·refine .inl (Buf.at_ (rest:=cur.toList.drop (n*1)) ?_ hl ?_ hc h0)
    ·rw[←ht,List.take_append_drop]
     simp[Sx.look]
    ·rw[List.length_drop,Array.length_toList,hs];omega
   ·obtain rfl:cap=0:=by omega
    obtain rfl:n=0:=by omega
    refine .inr ⟨rfl,List.eq_nil_of_length_eq_zero (by simpa using hl),g,rfl, ?_⟩
    have:cur= #[]:=Array.eq_empty_of_size_eq_zero (by simpa using hs)
    simp[Sx.look,this]
def RN (_:Value):Option (DataW Unit×List MemPlace):=some (.nil,[])
theorem aoC_ {w:World} {b:Nat} {o:Obj} {m:List (List UInt8×Option Nat)} (ho:w.heap[b]? =some o) (hM:w9_ vs q2_ o m) (hn: (m.map Prod.fst).Nodup) (hk: ∀p,p∈m→p.1.length≤1000000) (hs:m.length≤1000000):
  ∃D0:DataW Unit,w.ownsMap Tryz.prog 9 RN b m.length D0∧Maps.size D0≤1000000∧(strKeys D0).Perm (m.map Prod.fst):=by
 obtain⟨es,clock,rfl,he,hb⟩:=hM
 have hlen:es.size=m.length:=by have:=congrArg List.length he;simpa using this
 have hkey:es.toList.map (·.key)=m.map fun p=>vs p.1:=by
  have:=congrArg (List.map Prod.fst) he
  simpa [kE_,Function.comp_def] using this
 have hrd: ∀x,x∈es.toList→ ∃s:List UInt8,x.key=vs s∧s.length≤1000000:=by
  intro x hx
  have:x.key∈m.map fun p=>vs p.1:=by rw[←hkey];exact List.mem_map.2 ⟨x,hx,rfl⟩
  obtain⟨p,hp,e⟩:=List.mem_map.1 this
  exact⟨p.1,e.symm,hk p hp⟩
 have hrd2: ∀x,x∈es.toList→ ∀s:List UInt8,x.key=vs s→s.length≤1000000→WideElems.rd Tryz.prog 9 RN x=some (.string s, .nil):=by
  intro x hx s hs hl
  have hL:s.length≤maxLen:=Nat.le_trans hl (by decide)
  have hL2: (ByteArray.mk s.toArray).size≤maxLen:=hL
  simp[WideElems.rd,keyOf,Tryz.underlying9,mapKey,hs,RN,vs,hL2]
 have hbo:=List.pairwise_append.1 hb
 refine⟨_,⟨es,clock,ho,⟨?_,⟨?_, ?_, ?_⟩, ?_⟩,by omega,rfl⟩, ?_, ?_⟩
 ·rw[hlen];exact Nat.le_trans hs (by decide)
 ·intro x hx
  exact hbo.2.2 x.born (List.mem_map.2 ⟨x,hx,rfl⟩) clock (by simp)
 ·exact hbo.1.imp fun h=>Nat.ne_of_lt h
 ·rw[hkey]
  have: (m.map Prod.fst).map vs=m.map fun p=>vs p.1:=by simp[Function.comp_def]
  rw[←this]
  refine List.pairwise_map.2 (hn.imp fun h e=>h ?_)
  simpa [vs] using e
 ·intro x hx
  obtain⟨s,e,hl⟩:=hrd x hx
  exact⟨_,hrd2 x hx s e hl⟩
 ·rw[Maps.size_eq,(WideShapes.sorted_perm _).length_eq,List.length_map,Array.length_toList,hlen];exact hs
 ·show(List.map (fun p:Lit×DataW Unit=>strOf p.1) _).Perm _
  refine((WideShapes.sorted_perm _).map _).trans (List.Perm.of_eq ?_)
  rw[List.map_map]
  refine List.map_congr_left ?_|>.trans (?_:es.toList.map (fun x=>match x.key with| .string s=>s.data.toList|_=> [])=_)
  ·intro x hx
   obtain⟨s,e,hl⟩:=hrd x hx
   simp only[Function.comp]
   rw[WideElems.rg_of (hrd2 x hx s e hl),e]
   rfl
  ·have:es.toList.map (fun x=>match x.key with| .string s=>s.data.toList|_=> [])=(es.toList.map (·.key)).map (fun k=>match k with| .string s=>s.data.toList|_=> []):=by rw[List.map_map];rfl
   rw[this,hkey,List.map_map]
   rfl
theorem abM_ (X:za_) (G:DkG) (S:DiskL) (k c:Nat) (w:World) (hP:DkP X G S) (hX: ∀b o,Sx.look X b=some o→w.heap[b]? =some o) (hk:k<3) (hs: (S.dir k).seen.length≤1000000) (hl: ∀p,p∈ (S.dir k).seen→p.1.length≤1000000)
  (hc:w.heap[c]? =some (.cells #[vm (G.s k)] 127 (0,0))):
  Rets Tryz.prog 123 #[.func (.func 164) #[] #[vp c 0]] w (XS w [] (fun v D=>GrI D 9 1 v (S.dir k).seen.length ((S.dir k).seen.map fun p=>vs p.1))):=by
 obtain⟨o,m,h1,h2,h3⟩:=hP.seen k hk
 have ho:=hX _ _ h1
 have hlen:m.length=(S.dir k).seen.length:=by have:=h3.length_eq;simpa using this
 have hmk: ∀p,p∈m→p.1.length≤1000000:=by
  intro p hp
  have:=h3.mem_iff.1 hp
  obtain⟨q,hq,e⟩:=List.mem_map.1 this
  rw[←e];exact hl q hq
 obtain⟨D0,hown,hsz,hperm⟩:=aoC_ ho h2 (h3.keys (hP.ok.seen k hk).nodup) hmk (by omega)
 have hcl:=(Array.getElem?_eq_some_iff.1 hc).1
 have hseq:SeqGives Fence.wide 2 Tryz.prog 164 #[.pointer (some ⟨c,0,none⟩)] encStr (fun ss=>ss.Perm (strKeys D0)) (Maps.size D0) w:=
  AnyZ.keys_gives (ρ:=Tryz.keysL_ren) {Tryz.keysL with} Fence.wide _ trivial rfl (by omega) c (G.s k) m.length D0 _ hcl (by simp[World.cell?,hc,vm]) hown
 have h:=AnyZ.sorted_in Tryz.sortedL Fence.wide 5 trivial trivial trivial trivial rfl (by omega) (arn_ _) (enters_of Tryz.func163 (by kernel_rfl) rfl) 164 #[.pointer (some ⟨c,0,none⟩)] trivial (enters_of Tryz.func164 (by kernel_rfl) rfl) _ (Maps.size D0) (Nat.le_trans hsz (by decide)) (by omega) w hseq
 refine Calls.mono (callsIn_wide.1 h) ?_
 rintro e w' ⟨v,ss,rfl,hS,hrow,-,hb⟩
 obtain⟨D,hD,hDn,hG⟩:=arF_ hrow
 have hss:ss.mergeSort (fun x y=>decide (x≤y))=(S.dir k).seen.map Prod.fst:=by
  refine akx_ (hP.ok.seen k hk) ((hS.trans hperm).trans ?_)
  have:=h3.map Prod.fst
  refine this.trans (List.Perm.of_eq ?_)
  rw[List.map_map];rfl
 have hsl:ss.length=(S.dir k).seen.length:=by
  have:=congrArg List.length hss
  simpa using this
 refine⟨v,D,rfl,⟨fun b o hm=>(hD _ hm).1,hDn,fun b hb' _=>hb.block b hb',hb.size,hb.tape,hb.os,hb.output⟩,⟨fun b hb'=> ?_,fun b hb'=>(by cases hb')⟩,⟨D,fun _ h=>h, ?_⟩⟩
 ·obtain⟨p,hp,rfl⟩:=List.mem_map.1 hb'
  exact .inr (hD p hp).2
 rw[hss,hsl] at hG
 have: ((S.dir k).seen.map Prod.fst).map encStr=(S.dir k).seen.map fun p=>vs p.1:=by rw[List.map_map];rfl
 rw[this] at hG
 exact hG
end Go.Proofs
end
section
open Go Go.Proofs Go.Sx Go.StP
namespace Go.Proofs
set_option maxRecDepth 10000
set_option maxHeartbeats 400000
set_option linter.unusedSimpArgs false
theorem agU_ (b:Nat) (w:World):
  Rets Tryz.prog 124 #[vm b] w (XS w [] (fun v' D=> ∃b1,v'= .func (.func 164) #[] #[vp b1 0]∧D= [(b1, .cells #[vm b] 127 (0,0))])):=by
 refine Rets.enter Tryz.func124 rfl (rs:= [.tmp 2]) Tryz.results124 Tryz.ntmps124 ?_
 refine kf ?_
 first|with_reducible refine ks [] @Nat.add_zero ?_|refine kp @Nat.add_zero ?_
 refine Ow.box rfl rfl fun b1 hb1 hw1=> ?_
 simp only[qB_,qA_,vm,List.nil_append]
 refine ko @Nat.add_zero ?_
 refine⟨_,(ke @Nat.add_zero), ?_⟩
 exact⟨⟨fun c hc=>(by simp only[keys,List.map_cons,List.map_nil,List.mem_singleton] at hc;exact .inr (hc▸hw1)),fun c hc=>(by cases hc)⟩,b1,by simp[vr_,ev,Zq_],rfl⟩
def DkB (S:DiskL):Prop:= ∀k,k<3→(S.dir k).seen.length≤1000000∧ ∀p,p∈ (S.dir k).seen→p.1.length≤1000000
def ka_ (S:DiskL) (dir:List UInt8):List (List UInt8):=if qY_ S dir []≠0 then [] else(S.dir ((zy_ dir).getD 0)).seen.map Prod.fst
set_option linter.defProp false
def JK_:=And.intro (And.intro (And.intro (@zd_) (@zc_)) (And.intro (@qG_) (@q4_))) (And.intro (And.intro (@qX_) (@qZ_)) (And.intro (@Sx.tup2_0) (And.intro (@Sx.tup2_1) (@Jr_))))
theorem Zm_ (w:World) (G:DkG) (S:DiskL) (dir:List UInt8) (hD:DkW w G S) (hB:DkB S):
  Rets Tryz.prog 79 #[vp G.bd 0,vs dir] w (XS w [] (fun v D=>GrI D 9 1 v (ka_ S dir).length ((ka_ S dir).map vs))):=by
 have hD':=hD
 obtain⟨X,hX,hP⟩:=hD
 refine Rets.enter Tryz.func79 rfl (rs:= [.tmp 4]) Tryz.results79 Tryz.ntmps79 ?_
 refine kf ?_
 first|with_reducible refine ks [] @JK_ ?_|refine kp @JK_ ?_
 have hN1:New w.heap.size ([]:za_):=trivial
 refine Ow.callC rfl rfl Tryz.call80 (fun w' hw'=>Rets.toX (j4_ w' G S dir (.slice none 0 0) [] (hD'.old hw' hN1) (SlV.nil w') (by simp) (fun s hs=>by cases hs))) (fun B2 v2 D2 hA2 hB2 hN2 hS2=> ?_)
 obtain⟨rfl,hS2⟩:=hS2
 rw[List.append_nil]
 unfold ka_
 rcases hS2 with⟨he,rfl⟩ | ⟨he,k,hk,rfl⟩
 ·rw[if_pos he]
  have e1:=jN_ he
  refine ko @JK_ ?_
  first|with_reducible refine ks [] (And.intro @JK_ @e1) ?_|refine kp (And.intro @JK_ @e1) ?_
  refine⟨_,(ke @JK_), ?_⟩
  exact⟨Ext.refl w [],Gr.nl.i fun _ h=>h⟩
 ·rw[if_neg (by rw[he];simp),hk]
  have hk3:=(zE_ hk).1
  have hdr:=hX _ _ (hP.dir k hk3)
  have e1: ((0:Int) !=0)=false:=rfl
  refine ko @JK_ ?_
  first|with_reducible refine ks [] (And.intro @JK_ (And.intro @e1 (@hdr))) ?_|refine kp (And.intro @JK_ (And.intro @e1 (@hdr))) ?_
  refine Ow.callC rfl rfl Tryz.call124 (fun w' hw'=>agU_ (G.s k) w') (fun B3 v3 D3 hA3 hB3 hN3 hS3=> ?_)
  obtain⟨b1,rfl,rfl⟩:=hS3
  rw[List.nil_append]
  have hN3':=hN3.mono hB3
  refine ko @JK_ ?_
  refine Ow.callC rfl rfl Tryz.call123 (fun w' hw'=>abM_ X G S k b1 w' hP (fun b o h=>(hw'.old b (Array.getElem?_eq_some_iff.1 (hX b o h)).1 (hN3'.not (Array.getElem?_eq_some_iff.1 (hX b o h)).1)).trans (hX b o h)) hk3 (hB k hk3).1 (hB k hk3).2 (hw'.has _ _ List.mem_cons_self)) (fun B4 v4 D4 hA4 hB4 hN4 hS4=> ?_)
  refine ko @JK_ ?_
  refine⟨_,(ke @JK_), ?_⟩
  refine⟨Ext.of_new (hN3'.app (hN4.mono hB4)), ?_⟩
  rw[List.length_map,List.map_map]
  exact hS4.mono fun p hp=>List.mem_cons_of_mem _ hp
end Go.Proofs
end
section
open Go Go.Proofs Go.Sx Go.StP
namespace Go.Proofs
set_option maxRecDepth 10000
set_option maxHeartbeats 400000
set_option linter.unusedSimpArgs false
def qU_ (S:DiskL) (k:Nat):List FiL:=(if S.off=true then [] else(S.dir k).seen).map fun p=>⟨qP_ k,p.1,(S.files.getD p.2 qO_).data⟩
def x3_ (S:DiskL):Nat→List FiL
 |0=> []
 |k+1=>x3_ S k++qU_ S k
def jc_ (S:DiskL):List FiL:=x3_ S 3
theorem abs_ {S:DiskL} {k:Nat} (hk:k<3):ka_ S (qP_ k)=(if S.off=true then [] else(S.dir k).seen).map Prod.fst:=by
 unfold ka_ qY_
 rw[xi_ hk]
 cases S.off<;>simp
theorem Xx_ (l:List (List UInt8)): (l.map strC).flatten=l.map vs:=by
 induction l with
 |nil=>rfl
 |cons x l ih=>simp[strC,ih]
theorem JB_ {S:DiskL} (hB:DkB S) {k:Nat} (hk:k<3): (qU_ S k).length≤1000000:=by
 unfold qU_
 rw[List.length_map]
 split
 ·simp
 ·exact(hB k hk).1
theorem kl_ {S:DiskL} (hB:DkB S): ∀k,k≤3→(x3_ S k).length≤k*1000000
 |0,_=>Nat.zero_le _
 |k+1,hk=>by
  have h1:=kl_ hB k (by omega)
  have h2:=JB_ hB (k:=k) (by omega)
  show(x3_ S k++qU_ S k).length≤_
  rw[List.length_append];omega
structure FlG where
 k:Nat
 v:Value
 D1:za_
 DG:za_
structure FjG where
 j:Nat
 v:Value
 D1:za_
 DG:za_
set_option linter.defProp false
def k7_:=And.intro (And.intro (And.intro (@zd_) (And.intro (@zc_) (@qG_))) (And.intro (@q4_) (And.intro (@qX_) (@qZ_)))) (And.intro (And.intro (@kH_) (And.intro (@kM_) (@Sx.tup2_0))) (And.intro (@Sx.tup2_1) (And.intro (@Jr_) (@xH_))))
theorem j1_ (w:World) (G:DkG) (S:DiskL) (hD:DkW w G S) (hGl:Qk_ w) (hB:DkB S):
  Rets Tryz.prog 19 #[vp G.bd 0] w (XS w [] (fun v D=>GrI D 36 3 v (jc_ S).length ((jc_ S).map fiC).flatten)):=by
 have hD':=hD
 obtain⟨X,hX,hP⟩:=hD
 obtain⟨eg,fzg,hgl⟩:=hGl
 have hd:=hX _ _ hP.disk
 obtain⟨om,hom,hM⟩:=hP.dirs
 have hbm:=hX _ _ hom
 have old: ∀b o,w.heap[b]? =some o→ ∀Y,New w.heap.size Y→zz_ w Y b=some o:=fun b o hb Y hY=>by
  rw[qw_ (hY.not (Array.getElem?_eq_some_iff.1 hb).1)];exact hb
 refine Rets.enterX Tryz.func19 rfl (rs:= [.tmp 2]) Tryz.results19 Tryz.ntmps19 (fun p hp=>by cases hp) (by simp[keys]) ?_
 refine kf ?_
 first|with_reducible refine ks [] (And.intro @k7_ (And.intro @hgl (@k2_))) ?_|refine kp (And.intro @k7_ (And.intro @hgl (@k2_))) ?_
 refine Cw.permL (M:= []++ []) (List.Perm.refl _) ?_
 refine Cw.loopG (G:=FlG) [10,11,5,12,13,14,15,16,17,18,19,7,20,21,22,23,24,25,26,27,28,29,30,31,32,33,34,35,36,37,38,39,3,40,41,9] (fun g=> [(3,g.v),(9,vi g.k)]) (fun g=>g.D1++g.DG) (fun g=>g.k≤3∧New w.heap.size g.D1∧New w.heap.size g.DG∧Gr g.D1 36 3 g.v (x3_ S g.k).length ((x3_ S g.k).map fiC).flatten) (fun g=>3 - g.k) ⟨0, .slice none 0 0,[],[]⟩ rfl rfl ?_ ?_
 ·exact⟨Nat.zero_le _,trivial,trivial,Gr.nl⟩
 intro g j hg
 refine kv ?_
 obtain⟨k,v,D1,DG⟩:=g
 simp only at hg ⊢
 obtain⟨hk,hN1,hN2,hGr⟩:=hg
 by_cases hlt:k<3
 ·have d1:decide ((k:Int)<3)=true:=decide_eq_true (by omega)
  have ixk:=wG_ hlt
  have hfl:=kl_ hB k hk
  have hdl:=JB_ hB hlt
  first|with_reducible refine ks [10] (And.intro @k7_ (And.intro @d1 (@ixk))) ?_|refine kp (And.intro @k7_ (And.intro @d1 (@ixk))) ?_
  refine Ow.callC rfl rfl Tryz.call79 (fun w' hw'=>Zm_ w' G S (qP_ k) (hD'.old hw' (hN1.app hN2)) hB) (fun B3 v3 D3 hA3 hB3 hN3 hS3=> ?_)
  rw[abs_ hlt,←Xx_] at hS3
  obtain⟨sn,hsn⟩: ∃sn,(if S.off=true then [] else(S.dir k).seen)=sn:=⟨_,rfl⟩
  have hdf:qU_ S k=sn.map fun p=>⟨qP_ k,p.1,(S.files.getD p.2 qO_).data⟩:=by unfold qU_;rw[hsn]
  have hsm: ∀p,p∈sn→p∈ (S.dir k).seen:=by
   intro p hp
   rw[←hsn] at hp
   split at hp
   ·cases hp
   ·exact hp
  rw[hsn] at hS3
  rw[hdf,List.length_map] at hdl
  have hN3':New w.heap.size D3:=hN3.mono hB3
  have ln3:=vd_ hS3
  rw[List.length_map] at ln3
  refine ko (And.intro @k7_ @ln3) ?_
  refine Cw.world fun w1 hw1=> ?_
  obtain⟨rb,off,arr,E,fz,hr3,hlk⟩:=hS3.rowL (z:= []) (by rw[List.length_map]) ((hw1.perm (M:=D3++ (D1++DG)) List.perm_append_comm).part) aai_
  have hlk': ∀ (G:za_),0<sn.length→zz_ w (D3++G) rb=some (.cells arr E fz):=by
   intro G h0
   exact zb_ (zj_ (hlk (by rw[List.length_map];exact h0)))
  clear hw1 hlk
  refine Cw.permL (M:=D3++ (D1++DG)) List.perm_append_comm ?_
  refine Cw.loopG (G:=FjG) [17,18,19,7,20,21,22,23,24,25,26,27,28,29,30,31,32,33,34,35,36,37,38,39,3,40,16] (fun g=> [(3,g.v),(16,vi g.j)]) (fun g=>D3++ (g.D1++g.DG)) (fun g=>g.j≤sn.length∧New w.heap.size g.D1∧New w.heap.size g.DG∧Gr g.D1 36 3 g.v ((x3_ S k).length+g.j) ((x3_ S k++ (qU_ S k).take g.j).map fiC).flatten) (fun g=>sn.length - g.j) ⟨0,v,D1,DG⟩ rfl rfl ?_ ?_
  ·exact⟨Nat.zero_le _,hN1,hN2,by simpa using hGr⟩
  intro g j hg
  refine kv ?_
  clear hGr hN1 hN2
  obtain⟨j,v,D1,DG⟩:=g
  simp only at hg ⊢
  obtain⟨hj,hN1,hN2,hGr⟩:=hg
  by_cases hjt:j<sn.length
  ·have d2:decide ((j:Int)< (sn.length:Int))=true:=decide_eq_true (by omega)
   have hjm:j< (sn.map Prod.fst).length:=by rw[List.length_map];exact hjt
   have ix3:=hr3.idx false j hjm
   have ld3:=fun n=>WG_ hr3 hjm n
   have rd3:=hlk' (D1++DG) (by omega)
   have hp:sn[j]'hjt∈ (S.dir k).seen:=hsm _ (List.getElem_mem _)
   have hse: (sn.map Prod.fst).getD j []=(sn[j]'hjt).1:=by simp[List.getD_eq_getElem?_getD,hjt]
   have hts: (qU_ S k).take (j+1)=(qU_ S k).take j++ [⟨qP_ k,(sn[j]'hjt).1,(S.files.getD (sn[j]'hjt).2 qO_).data⟩]:=by
    rw[hdf,List.take_add_one]
    simp[hjt]
   rw[hse] at ld3
   generalize sn[j]'hjt=p at*
   obtain⟨x,n⟩:=p
   simp only at hp hts ld3
   have hfn:zo_ (S.dir k).seen x=some n:=QB_ (hP.ok.seen k hlt).nodup hp
   have hnl:n<S.files.length:=hP.ok.seenN k hlt _ hp
   have hNN:New w.heap.size (D3++ (D1++DG)):=hN3'.app (hN1.app hN2)
   have rdd:=old _ _ hd _ hNN
   have rdm:=old _ _ hbm _ hNN
   have rdr:=old _ _ (hX _ _ (hP.dir k hlt)) _ hNN
   obtain⟨os,ms,hos,hms,hnp⟩:=hP.seen k hlt
   have rds:=old _ _ (hX _ _ hos) _ hNN
   have rdf:=old _ _ (hX _ _ (hP.file n hnl)) _ hNN
   first|with_reducible refine ks [] (And.intro @k7_ (And.intro @d2 (And.intro @ix3 (And.intro @ld3 (And.intro @rd3 (@rdd)))))) ?_|refine kp (And.intro @k7_ (And.intro @d2 (And.intro @ix3 (And.intro @ld3 (And.intro @rd3 (@rdd)))))) ?_
   refine kq (And.intro @k7_ @rdd) ?_
   refine Ow.mapGetG (encK:=vs) (encV:=q2_) (k:=qP_ k) (z:=none) rfl rfl Tryz.underlying121 jV_ zrPd rfl rfl rdm hM ?_
   rw[Qc_,xi_ hlt]
   show Ow _ _ _ _ _ _ _ _
   have hpd:q2_ (some (G.d k))=vp (G.d k) 0:=rfl
   refine ko (And.intro @k7_ (And.intro @hpd (@rdr))) ?_
   refine Ow.mapGetG (encK:=vs) (encV:=q2_) (k:=x) (z:=none) rfl rfl Tryz.underlying127 jV_ zrPf rfl rfl rds hms ?_
   rw[hnp.get (hP.ok.seen k hlt).nodup,hfn]
   show Ow _ _ _ _ _ _ _ _
   have hpf:q2_ (some (G.fb.getD n 0))=vp (G.fb.getD n 0) 0:=rfl
   refine ko (And.intro @k7_ (And.intro @hpf (@rdf))) ?_
   refine Ow.build (.agg (fiC ⟨qP_ k,x,(S.files.getD n qO_).data⟩).toArray) rfl (anq_ ⟨qP_ k,x,(S.files.getD n qO_).data⟩) ?_
   refine ko @k7_ ?_
   refine Ow.buildSlice (e:=36) (fiC ⟨qP_ k,x,(S.files.getD n qO_).data⟩).toArray rfl rfl (q0_ Tryz.underlying22 VF_ zrFi (by decide) (zT_ _)) fun ba hba hwa=> ?_
   refine Ow.permL (M:=D1++ (D3++ (DG++ [(ba, .cells (fiC ⟨qP_ k,x,(S.files.getD n qO_).data⟩).toArray 36 (0,0))]))) (by classical exact List.perm_iff_count.2 fun a=>by simp only[List.count_append,List.count_cons,List.count_nil]<;>omega) ?_
   refine Ow.appendXG (e:=36) (k:=1) (new:=fiC ⟨qP_ k,x,(S.files.getD n qO_).data⟩) (X:=D1) v rfl rfl rfl rfl Tryz.underlying22 VF_ (by kernel_rfl) zrFi (by rw[xH_,List.size_toArray,zT_]) Tryz.underlying22 (by intro k h;cases h) hGr (fun w' hw'=>AppX.one1 (hw'.has ba (.cells (fiC ⟨qP_ k,x,(S.files.getD n qO_).data⟩).toArray 36 (0,0)) (by simp)) (zT_ _) (QZ_ _)) (by omega) (fun B4 v4 D4 hA4 hB4 hG4 hk41 hk42 hlk4=> ?_)
   have hN4:New w.heap.size D4:=New.of_le fun q hq=>by
    rcases hk42 q hq with h|h
    ·exact hN1.le q h
    ·omega
   refine Ow.permL (M:=D3++ (D4++ (DG++ [(ba, .cells (fiC ⟨qP_ k,x,(S.files.getD n qO_).data⟩).toArray 36 (0,0))]))) (by classical exact List.perm_iff_count.2 fun a=>by simp only[List.count_append,List.count_cons,List.count_nil]<;>omega) ?_
   refine ko @k7_ ?_
   first|with_reducible refine ks [] @k7_ ?_|refine kp @k7_ ?_
   refine Again.mk ⟨j+1,v4,D4,DG++ [(ba, .cells (fiC ⟨qP_ k,x,(S.files.getD n qO_).data⟩).toArray 36 (0,0))]⟩ (by show sn.length - (j+1)<sn.length - j;omega) ⟨hjt,hN4,hN2.app ⟨hwa,trivial⟩, ?_⟩ rfl rfl
   show Gr D4 36 3 v4 ((x3_ S k).length+j+1) ((x3_ S k++ (qU_ S k).take (j+1)).map fiC).flatten
   rw[hts]
   simpa only[List.map_append,List.map_cons,List.map_nil,List.flatten_append,List.flatten_cons,List.flatten_nil,List.append_nil,List.append_assoc] using hG4
  ·obtain rfl:j=sn.length:=by omega
   have d2:decide ((sn.length:Int)< (sn.length:Int))=false:=decide_eq_false (by omega)
   have hdl2: (qU_ S k).length=sn.length:=by rw[hdf,List.length_map]
   rw[←hdl2,List.take_length] at hGr
   first|with_reducible refine ks [10] (And.intro @k7_ @d2) ?_|refine kp (And.intro @k7_ @d2) ?_
   refine Cw.permL (M:=D1++ (D3++DG)) (by classical exact List.perm_iff_count.2 fun a=>by simp only[List.count_append,List.count_cons,List.count_nil]<;>omega) ?_
   first|with_reducible refine ks [] @k7_ ?_|refine kp @k7_ ?_
   refine Again.mk ⟨k+1,v,D1,D3++DG⟩ (by show 3 - (k+1)<3 - k;omega) ⟨hlt,hN1,hN3'.app hN2, ?_⟩ rfl rfl
   show Gr D1 36 3 v (x3_ S k++qU_ S k).length ((x3_ S k++qU_ S k).map fiC).flatten
   rw[List.length_append];exact hGr
 ·obtain rfl:k=3:=by omega
  have d1:decide (((3:Nat):Int)<3)=false:=rfl
  first|with_reducible refine ks [] (And.intro @k7_ @d1) ?_|refine kp (And.intro @k7_ @d1) ?_
  refine⟨_,(ke @k7_), ?_⟩
  exact⟨Ext.of_new (hN1.app hN2),hGr.i fun p hp=>List.mem_append_left _ hp⟩
end Go.Proofs
end
section
open Go Go.Proofs Go.Sx Go.StP
namespace Go.Proofs
set_option maxRecDepth 10000
set_option maxHeartbeats 400000
set_option linter.unusedSimpArgs false
theorem as3_ (b:Nat):qD_ Tryz.prog .eql 127 (vm b) (.map none)=some (.bool false):=by
 simp[qD_,eqX,qg_,qf_,Tryz.underlying127,vm]
theorem afe_ (b:Nat) (o:Obj) (m:List (List UInt8×Option Nat)) (w:World) (ho:w.heap[b]? =some o) (hm:w9_ vs q2_ o m):
  Rets Tryz.prog 83 #[vm b] w (XS w [] (fun v D=> ∃c o',v=vm c∧D= [(c,o')]∧w9_ vs q2_ o' m)):=by
 refine Rets.enterX Tryz.func83 rfl (rs:= [.tmp 2]) Tryz.results83 Tryz.ntmps83 (fun p hp=>by cases hp) (by simp[keys]) ?_
 refine kf ?_
 have e1:=as3_ b
 first|with_reducible refine ks [] @e1 ?_|refine kp @e1 ?_
 refine Ow.ifaceMap rfl Tryz.underlying127 rfl ?_
 refine Ow.cloneMap (encK:=vs) (encV:=q2_) rfl rfl (fun a w=>run_callFunc_extern Tryz.func127 (by kernel_rfl) (by kernel_rfl) (by kernel_rfl) (e:=Extern.MapsClone.clone) (by kernel_rfl) #[a] w) rfl (by rw[qw_ (by simp[keys])];exact ho) hm fun c o' hc hwc hm'=> ?_
 refine Ow.assertMap rfl Tryz.underlying127 rfl ?_
 refine ko @Nat.add_zero ?_
 refine⟨_,(ke @Nat.add_zero), ?_⟩
 exact⟨(Ext.refl w []).app hwc,c,o',rfl,rfl,hm'⟩
def u16C (x:UInt16):List Value:= [v16 x]
theorem am5_ (x:UInt16): (u16C x).length=1:=rfl
abbrev apY_ (w:World) (v:Value) (l:List UInt16):Prop:=SlV 1 u16C 0 w v l
def PkS (w:World) (v:Value) (l:List UInt16):Prop:=apY_ w v l∨(l= []∧ ∃a c,v= .slice (some a) 0 c)
theorem PkS.len {w:World} {v:Value} {l:List UInt16} (h:PkS w v l) (x:Bool×Nat):Kg_ (.sl x) v=some (vi l.length):=by
 rcases h with h| ⟨rfl,a,c,rfl⟩
 ·exact SlV.len h x
 ·rfl
theorem PkS.cell {w:World} {v:Value} {l:List UInt16} (h:PkS w v l):Value.oneCell' v=true∧v.cells= #[v]:=by
 rcases h with⟨b,off,c,arr,E,fz,hr,hc,⟨rfl,-,-⟩ | ⟨rfl,-,-⟩⟩ | ⟨rfl,a,c,rfl⟩
 ·exact⟨rfl,rfl⟩
 ·exact⟨rfl,rfl⟩
 ·exact⟨rfl,rfl⟩
theorem PkS.old {w w':World} {L:za_} {v:Value} {l:List UInt16} (h:PkS w v l) (hw:Hp w L w') (hb:l≠ []→ ∀b,slB v=some b→b∉keys L):PkS w' v l:=by
 by_cases hl:l= []
 ·subst hl
  rcases h with⟨b,off,c,arr,E,fz,hr,hc,⟨rfl,-,-⟩ | ⟨rfl,-,-⟩⟩ |h
  ·exact .inl (SlV.nil w')
  ·exact .inr ⟨rfl,_,_,rfl⟩
  ·exact .inr h
 ·exact .inl ((h.resolve_right fun e=>hl e.1).old hw fun b h1 _=>hb hl b h1)
def PkB (w:World) (X:za_) (l:List UInt16) (v:Value):Prop:=l≠ []→ ∀b,slB v=some b→b<w.heap.size∧b∉keys X
theorem apf_ {w:World} {v:Value} {l:List UInt16} {b off:Nat} {arr:Array Value} {E:TypeId} {fz:Nat×Nat} (h:RowS 1 u16C 0 w v l b off arr E fz) {k:Nat} (hk:k<l.length) (n:Nat):
  zl_ (some (false,n)) (some (.cells arr E fz)) (off+k)=some (v16 (l.getD k 0)):=by
 have:=h.cell (j:=0) (n:=n) hk (by omega)
 rwa [Nat.mul_one,Nat.add_zero] at this
def vu_ (l:List UInt16) (n:Nat):Nat:=match l with
 | []=>0
 |x::_=>x.toNat% (n+1)
def kW_ (v:Value):Obj:= .cells #[v] 24 (0,0)
theorem af1_ (v:Value) (n:Nat):zl_ (some (false,n)) (some (kW_ v)) 0=some v:=(rfl)
theorem alt_ (v x:Value) (a:Bool) (hx:Value.oneCell' x=true∧x.cells= #[x]):zr_ (some (a,1)) (some (kW_ v)) 0 x=some (kW_ x):=
 zN_ [] [v] [x] [] a _ 24 rfl rfl hx.2 rfl (by simp[hx.1])
theorem apQ_ {m:Nat} {α:Type} {enc:α→List Value} {z:α} {w:World} {v:Value} {l:List α} (h:SlV m enc z w v l):Value.oneCell' v=true∧v.cells= #[v]:=by
 obtain⟨b,off,c,arr,E,fz,hr,hc,⟨rfl,-,-⟩ | ⟨rfl,-,-⟩⟩:=h
 ·exact⟨rfl,rfl⟩
 ·exact⟨rfl,rfl⟩
set_option linter.defProp false
def ahM_:=And.intro (@zd_) (And.intro (@zc_) (@af1_))
theorem Wc_ (n:Nat) (b:Nat) (v:Value) (l:List UInt16) (w:World) (hn:n<4611686018427387904) (hv:PkS w v l) (hl:l.length<1000000) (hnb:l≠ []→slB v≠some b) (ho:w.heap[b]? =some (kW_ v)):
  Rets Tryz.prog 82 #[vi n,vp b 0] w (fun r D=> ∃o,D= [(b,o)]∧r=vi (vu_ l n:Nat)∧ ∃v',o=kW_ v'∧(l= []→v'=v)∧(l≠ []→jK_ (.sl (false,1)) v (some (some 1)) none=some v')):=by
 refine Rets.enterM Tryz.func82 rfl (rs:= [.tmp 3]) Tryz.results82 Tryz.ntmps82 ho ?_
 refine kf ?_
 have ln:=hv.len
 cases l with
 |nil=>
  first|with_reducible refine ks [] (And.intro @ahM_ @ln) ?_|refine kp (And.intro @ahM_ @ln) ?_
  refine⟨_,_,_,(ke @ahM_),rfl,trivial, ?_⟩
  exact⟨rfl,v,rfl,fun _=>rfl,fun h=>absurd rfl h⟩
 |cons x l=>
  have hv:apY_ w v (x::l):=hv.resolve_right fun e=>by cases e.1
  obtain⟨v1,h1,h2,-⟩:=hv.dropE (k:=1) (by simp) false
  have hc1:=apQ_ h2
  have st:=fun a=>alt_ v v1 a hc1
  obtain⟨rb,off,c,arr,E,fz,hr,hc,⟨q1,q2,q3⟩ | ⟨rfl,hb,-⟩⟩:=hv
  ·exact absurd q2 (by simp)
  have hne:rb≠b:=fun e=>hnb (by simp) (by rw[e];rfl)
  have ix:=hr.idx false 0 (by simp)
  have ld:=fun n=>apf_ hr (k:=0) (by simp) n
  have e0: ((((x::l).length:Nat):Int)==0)=false:=beq_eq_false_iff_ne.2 (by simp;omega)
  have rd:zz_ w [(b,kW_ (vsl rb off (x::l).length c))] rb=some (.cells arr E fz):=by rw[qw_ (by simpa [keys] using hne)];exact hb
  rw[Nat.zero_mul,Nat.add_zero] at ix
  rw[show((1:Nat):Int)=1 from rfl] at h1
  simp only[Nat.add_zero] at ld
  first|with_reducible refine ks [] (And.intro @ahM_ (And.intro @ln (And.intro @e0 (And.intro @ix (And.intro @ld (And.intro @rd (And.intro @h1 (@st)))))))) ?_|refine kp (And.intro @ahM_ (And.intro @ln (And.intro @e0 (And.intro @ix (And.intro @ld (And.intro @rd (And.intro @h1 (@st)))))))) ?_
  refine⟨_,_,_,(ke @ahM_),rfl,trivial, ?_⟩
  refine⟨?_,v1,rfl,fun h=>absurd h (by simp),fun _=>h1⟩
  show vi _=vi _
  congr 1
end Go.Proofs
end
section
open Go Go.Proofs Go.Sx Go.StP
namespace Go.Proofs
set_option maxRecDepth 10000
set_option maxHeartbeats 400000
set_option linter.unusedSimpArgs false
theorem DkP.stl1 {X L:za_} {G:DkG} {S:DiskL} (h:DkP X G S) {k:Nat} (hk:k<3) {l':NmL} (keep: ∀b o,Sx.look X b=some o→b≠G.t k→Sx.look L b=some o) (hs:NmM L G.fb (G.t k) l') (h1:SrtN l') (h3: ∀p,p∈l'→p.2<S.files.length):
  DkP L G (qd_ S k ⟨(S.dir k).seen,l',(S.dir k).pend⟩):=by
 obtain⟨osk,msk,hosk,hmsk,-⟩:=h.stl k hk
 have hns: ∀b o,Sx.look X b=some o→tyO o≠none→b≠G.t k:=by
  rintro b o hb ht rfl
  rw[hosk] at hb;cases hb;exact ht (q3_ hmsk)
 have K: ∀b o,Sx.look X b=some o→tyO o≠none→Sx.look L b=some o:=fun b o hb h1=>keep b o hb (hns b o hb h1)
 have es: ∀j,(qd_ S k ⟨(S.dir k).seen,l',(S.dir k).pend⟩).dir j=if j=k then⟨(S.dir k).seen,l',(S.dir k).pend⟩ else S.dir j:=fun _=>rfl
 have e2: ∀j,((qd_ S k ⟨(S.dir k).seen,l',(S.dir k).pend⟩).dir j).seen=(S.dir j).seen:=fun j=>by
  rw[es];by_cases e:j=k
  ·subst e;rw[if_pos rfl]
  ·rw[if_neg e]
 have e3: ∀j,((qd_ S k ⟨(S.dir k).seen,l',(S.dir k).pend⟩).dir j).pend=(S.dir j).pend:=fun j=>by
  rw[es];by_cases e:j=k
  ·subst e;rw[if_pos rfl]
  ·rw[if_neg e]
 refine⟨K _ _ h.disk (by simp[tyO,jx_]), ?_,fun j hj=>K _ _ (h.dir j hj) (by simp[tyO,x5_]),fun j hj=> ?_,fun j hj=> ?_,fun j hj=> ?_,fun n hn=>K _ _ (h.file n hn) (by simp[tyO,kq_]),h.len,h.nodf,h.nodm,h.nodd,h.nodb,h.nodp,Qi_ h.ok _ (h.ok.seen k hk) h1 (h.ok.seenN k hk) h3 (h.ok.pendN k hk)⟩
 ·obtain⟨o,h1,h2⟩:=h.dirs
  exact⟨o,keep _ _ h1 (h.nodb k hk).2,h2⟩
 ·rw[e2]
  obtain⟨o,m,h1,h2,h3⟩:=h.seen j hj
  exact⟨o,m,keep _ _ h1 (wP_ h.nodm hj hk).2.2,h2,h3⟩
 ·rw[es]
  by_cases e:j=k
  ·subst e;rw[if_pos rfl];exact hs
  ·rw[if_neg e]
   obtain⟨o,m,h1,h2,h3⟩:=h.stl j hj
   exact⟨o,m,keep _ _ h1 ((wP_ h.nodm hj hk).2.1 e),h2,h3⟩
 ·rw[e3]
  obtain⟨vals,h1,h2,h3⟩:=h.pend j hj
  refine⟨vals,h1,h2.keep fun b o hb ho=> ?_,fun i hi=>(h3 i hi).keep fun b o ho hx=>K b o ho ?_⟩
  ·obtain⟨arr,ha⟩:=QM_ h2 hb
   rw[ho] at ha;cases ha
   exact K _ _ ho (by simp[tyO])
  ·rcases hx with⟨s,rfl⟩ | ⟨a,rfl⟩<;>simp[tyO,vG_,VP_]
theorem qm_ (S:DiskL) (k:Nat) (d:DirL): (qd_ S k d).dir k=d:=by
 unfold qd_;simp
theorem q6_ (S:DiskL) {k j:Nat} (d:DirL) (h:j≠k): (qd_ S k d).dir j=S.dir j:=by
 unfold qd_;simp[h]
theorem Wp_ (S:DiskL) (k:Nat) (d d':DirL):qd_ (qd_ S k d) k d'=qd_ S k d':=by
 unfold qd_
 simp only
 congr 1
 funext j
 by_cases e:j=k
 ·rw[if_pos e,if_pos e]
 ·rw[if_neg e,if_neg e,if_neg e]
def arK_ (d:DirL):Prop:= ∀i,i<d.pend.length→okC ((d.pend.take i).foldl q9_ d.stl) (d.pend.getD i wz_)
def jF_ (S:DiskL) (k i:Nat):NmL:=((S.dir k).pend.take i).foldl q9_ (S.dir k).stl
def agv_ (q:DiskL×List UInt16) (k:Nat):DiskL×List UInt16:=
 (qd_ q.1 k ⟨jF_ q.1 k (vu_ q.2 (q.1.dir k).pend.length),jF_ q.1 k (vu_ q.2 (q.1.dir k).pend.length),[]⟩,q.2.drop 1)
def z6_ (q:DiskL×List UInt16):Nat→DiskL×List UInt16
 |0=>q
 |k+1=>agv_ (z6_ q k) k
theorem W6_ (l:List UInt16) (n:Nat):vu_ l n≤n:=by
 unfold vu_
 split
 ·exact Nat.zero_le _
 ·have:=Nat.mod_lt ‹UInt16›.toNat (show 0<n+1 by omega)
  omega
theorem ahe_ {S:DiskL} {k i:Nat} (h:i< (S.dir k).pend.length):jF_ S k (i+1)=q9_ (jF_ S k i) ((S.dir k).pend.getD i wz_):=by
 unfold jF_
 rw[StP.take_snoc (z:=wz_) h,List.foldl_append];rfl
end Go.Proofs
end
section
open Go Go.Proofs Go.Sx Go.StP
namespace Go.Proofs
set_option maxRecDepth 10000
set_option maxHeartbeats 400000
set_option linter.unusedSimpArgs false
theorem DkP.away {X:za_} {G:DkG} {S:DiskL} (h:DkP X G S) {b:Nat} {v:Value} (hb:Sx.look X b=some (kW_ v)) (x:Obj):DkP (setB X b x) G S where
 disk:=qr_ hb h.disk (by simp[tyO,jx_,kW_])
 dirs:=by obtain⟨o,h1,h2⟩:=h.dirs;exact⟨o,qr_ hb h1 (by rw[q3_ h2];intro e;cases e),h2⟩
 dir k hk':=qr_ hb (h.dir k hk') (by simp[tyO,x5_,kW_])
 seen k hk':=by
  obtain⟨o,m,h1,h2,h3⟩:=h.seen k hk'
  exact⟨o,m,qr_ hb h1 (by rw[q3_ h2];intro e;cases e),h2,h3⟩
 stl k hk':=by
  obtain⟨o,m,h1,h2,h3⟩:=h.stl k hk'
  exact⟨o,m,qr_ hb h1 (by rw[q3_ h2];intro e;cases e),h2,h3⟩
 pend k hk':=by
  obtain⟨vals,h1,h2,h3⟩:=h.pend k hk'
  refine⟨vals,h1,h2.keep fun b o hb' ho=> ?_,fun i hi=>(h3 i hi).keep fun b o ho hx=>qr_ hb ho ?_⟩
  ·obtain⟨arr,ha⟩:=QM_ h2 hb'
   rw[ho] at ha;cases ha
   exact qr_ hb ho (by simp[tyO,kW_])
  ·rcases hx with⟨s,rfl⟩ | ⟨a,rfl⟩<;>simp[tyO,kW_,vG_,VP_]
 file n hn:=qr_ hb (h.file n hn) (by simp[tyO,kq_,kW_])
 len:=h.len
 nodf:=h.nodf
 nodm:=h.nodm
 nodd:=h.nodd
 nodb:=h.nodb
 nodp:=h.nodp
 ok:=h.ok
theorem acS_ {w:World} {v v':Value} {q:List UInt16} (hv:PkS w v q) (h1:q= []→v'=v) (h2:q≠ []→jK_ (.sl (false,1)) v (some (some 1)) none=some v'):PkS w v' (q.drop 1)∧ ∀ {X:za_},PkB w X q v→PkB w X (q.drop 1) v':=by
 cases q with
 |nil=>rw[h1 rfl];exact⟨hv,fun h=>h⟩
 |cons x l=>
  have hv:apY_ w v (x::l):=hv.resolve_right fun e=>by cases e.1
  obtain⟨v2,e1,e2,e3⟩:=hv.dropE (k:=1) (by simp) false
  have:=h2 (by simp)
  rw[show((1:Nat):Int)=1 from rfl,this] at e1
  cases e1
  exact⟨.inl e2,fun h _ b hb=>h (by simp) b (e3 b hb)⟩
theorem app_ {w w1:World} {L:za_} {T:TypeId} {v:Value} {vals:List Value} (h:Gr L T 1 v vals.length vals) (hw:Hp w L w1) {n:Nat} (hn:n≤vals.length):
  ∃vc rb off arr E fz,jK_ (.sl (false,1)) v none (some (some (n:Int)))=some vc∧RowS 1 (fun v:Value=> [v]) undef w1 vc (vals.take n) rb off arr E fz∧(0<n→Sx.look L rb=some (.cells arr E fz)):=by
 have hfl:vals=(vals.map fun v:Value=> [v]).flatten:=by
  clear h hn
  induction vals with
  |nil=>rfl
  |cons x l ih=>simp[←ih]
 have hsl:SlV 1 (fun v:Value=> [v]) undef w1 v vals:=h.slV hw rfl hfl (fun _=>rfl)
 obtain⟨vc,h1,h2,h3⟩:=hsl.take hn false
 obtain⟨b,off,c,arr,E,fz,hr,hc,⟨q1,q2,q3⟩ | ⟨q1,hb,hs⟩⟩:=h2
 ·refine⟨vc,b,off,arr,E,fz,h1,hr,fun h0=> ?_⟩
  have:=congrArg List.length q2
  rw[List.length_take,List.length_nil,Nat.min_eq_left hn] at this
  omega
 ·refine⟨vc,b,off,arr,E,fz,h1,hr,fun h0=> ?_⟩
  have hk:=h.key (h3 b (by rw[q1];rfl))
  obtain⟨o,ho⟩:=Xc_ hk
  have:=hw.has _ _ (zx_ ho)
  rw[hb] at this
  rw[ho,this]
theorem aph_ {w:World} {v:Value} {l:List Value} {b off:Nat} {arr:Array Value} {E:TypeId} {fz:Nat×Nat} (h:RowS 1 (fun v:Value=> [v]) undef w v l b off arr E fz) {k:Nat} (hk:k<l.length) (n:Nat):
  zl_ (some (false,n)) (some (.cells arr E fz)) (off+k)=some (l.getD k undef):=by
 have:=h.cell (j:=0) (n:=n) hk (by omega)
 rwa [Nat.mul_one,Nat.add_zero] at this
theorem air_ (a b y:Nat) (v:Value) (x:Bool):zr_ (some (x,1)) (some (x5_ a b v)) 0 (vm y)=some (x5_ y b v):=zN_ [] [vm a] [vm y] [vm b,v] x _ 130 rfl rfl rfl rfl rfl
theorem aea_ (S:DiskL) (k:Nat):qd_ S k (S.dir k)=S:=by
 unfold qd_
 cases S
 simp only
 congr 1
 funext j
 by_cases e:j=k
 ·subst e;simp
 ·simp[e]
def jh_ (q:DiskL×List UInt16) (p:List UInt8×Nat):DiskL×List UInt16:=
 (wg_ q.1 p.2 ⟨(zm_ q.1 p.2).data.take ((zm_ q.1 p.2).stl+vu_ q.2 ((zm_ q.1 p.2).data.length - (zm_ q.1 p.2).stl)),((zm_ q.1 p.2).data.take ((zm_ q.1 p.2).stl+vu_ q.2 ((zm_ q.1 p.2).data.length - (zm_ q.1 p.2).stl))).length⟩,q.2.drop 1)
def qR_ (q:DiskL×List UInt16):Nat→DiskL×List UInt16
 |0=>q
 |k+1=>(q.1.dir k).seen.foldl jh_ (qR_ q k)
def Qq_ (S:DiskL):DiskL:={S with off:=false,fused:=false}
def z0_ (S:DiskL) (pl:List UInt16):DiskL:=(qR_ (Qq_ (z6_ (S,pl) 3).1,(z6_ (S,pl) 3).2) 3).1
theorem VU_ (q:DiskL×List UInt16) (l:NmL): (l.foldl jh_ q).1.dir=q.1.dir:=by
 induction l generalizing q with
 |nil=>rfl
 |cons p l ih=>rw[List.foldl_cons,ih];rfl
theorem ki_ (q:DiskL×List UInt16): ∀k,(qR_ q k).1.dir=q.1.dir
 |0=>rfl
 |k+1=>by
  show(List.foldl jh_ (qR_ q k) _).1.dir=_
  rw[VU_,ki_ q k]
theorem ahN_ (q:DiskL×List UInt16) (l:NmL): (l.foldl jh_ q).1.off=q.1.off:=by
 induction l generalizing q with
 |nil=>rfl
 |cons p l ih=>rw[List.foldl_cons,ih];rfl
theorem QI_ (q:DiskL×List UInt16): ∀k,(qR_ q k).1.off=q.1.off
 |0=>rfl
 |k+1=>by
  show(List.foldl jh_ (qR_ q k) _).1.off=_
  rw[ahN_,QI_ q k]
structure C3G where
 k:Nat
 L:za_
 v:Value
structure C4G where
 j:Nat
 L:za_
 v:Value
structure C1G where
 k:Nat
 G:DkG
 L:za_
 v:Value
structure C2G where
 j:Nat
 L:za_
theorem QF_ (q:DiskL×List UInt16): ∀ {k j:Nat},k≤j→(z6_ q k).1.dir j=q.1.dir j
 |0,_,_=>rfl
 |k+1,j,h=>by
  show(qd_ _ k _).dir j=_
  rw[q6_ _ _ (by omega)]
  exact QF_ q (by omega)
set_option linter.defProp false
def qI_:=And.intro (And.intro (And.intro (@zd_) (@zc_)) (And.intro (@qG_) (And.intro (@q4_) (@qX_)))) (And.intro (And.intro (@qZ_) (@kH_)) (And.intro (@kM_) (And.intro (@af1_) (@anG_))))
theorem ZB_ (X:za_) (G0:DkG) (S:DiskL) (v0:Value) (pl:List UInt16) (w:World) (hX: ∀p,p∈X→w.heap[p.1]? =some p.2) (hn: (keys X).Nodup) (hP0:DkP X G0 S) (hGl:Qk_ w) (hgx:0∉keys X) (hB:DkB (z6_ (S,pl) 3).1)
  (hv0:PkS w v0 pl) (hpx:PkB w X pl v0) (hpl:pl.length<1000000) (hpn: ∀k,k<3→arK_ (S.dir k)∧(S.dir k).pend.length<1000000):
  Rets Tryz.prog 22 #[vp G0.bd 0,v0] w (XS w X (fun _v D=> ∃G',G'.bd=G0.bd∧DkP D G' (z0_ S pl))):=by
 obtain⟨eg,fzg,hgl⟩:=hGl
 refine Rets.enterX Tryz.func22 rfl (rs:= []) Tryz.results22 Tryz.ntmps22 hX hn ?_
 refine kf ?_
 first|with_reducible refine ks [3] @qI_ ?_|refine kp @qI_ ?_
 refine Ow.box rfl rfl fun bk hbk hwk=> ?_
 simp only[qB_,qA_,qJ_,hv0.cell.2]
 refine Ow.permL (M:=X++ [(bk,kW_ v0)]) (List.Perm.refl _) ?_
 refine ko @qI_ ?_
 first|with_reducible refine ks [3] @qI_ ?_|refine kp @qI_ ?_
 simp only[List.map_toArray,List.map_cons,List.map_nil,qB_,qA_,qJ_]
 have rdg: ∀L,Ext w X L→zz_ w L 0=some (.cells #[vs ql_,vs wi_,vs refD] eg fzg):=fun L hE=>hE.old hgl hgx
 have hE0:Ext w X (X++ [(bk,kW_ v0)]):=(Ext.refl w X).app hwk
 have hr0:=rdg _ hE0
 have hl0:Sx.look (X++ [(bk,kW_ v0)]) bk=some (kW_ v0):=xC_ hbk
 have hP1:DkP (X++ [(bk,kW_ v0)]) G0 S:=hP0.mono fun b o h=>zj_ h
 generalize X++ [(bk,kW_ v0)]=L0 at*
 first|with_reducible refine ks [5,8,12,16] (And.intro @qI_ (And.intro @hr0 (@k2_))) ?_|refine kp (And.intro @qI_ (And.intro @hr0 (@k2_))) ?_
 refine Cw.loopG (G:=C1G) [20,21,6,22,23,24,25,26,27,7,28,29,30,31,32,33,34,35,36,37,38,39,40,41,42,43,44,9,45,46,47,48,49,50,51,52,53,54,55,56,57,58,59,60,61,62,63,19] (fun g=> [(19,vi g.k)]) (fun g=>g.L) (fun g=>g.k≤3∧DkP g.L g.G (z6_ (S,pl) g.k).1∧g.G.bd=G0.bd∧Sx.look g.L bk=some (kW_ g.v)∧PkS w g.v (z6_ (S,pl) g.k).2∧PkB w X (z6_ (S,pl) g.k).2 g.v∧Ext w X g.L∧(z6_ (S,pl) g.k).2.length<1000000) (fun g=>3 - g.k) ⟨0,G0,L0,v0⟩ rfl rfl ?_ ?_
 ·exact⟨Nat.zero_le _,hP1,rfl,hl0,hv0,hpx,hE0,hpl⟩
 intro g j hg
 refine kv ?_
 clear hr0 hl0 hP1 hE0
 obtain⟨k,G,L,v⟩:=g
 simp only at hg ⊢
 obtain⟨hk,hP,hbd,hlk,hv,hvb,hE,hpl1⟩:=hg
 rw[←hbd]
 by_cases hlt:k<3
 ·have d1:decide ((k:Int)<3)=true:=decide_eq_true (by omega)
  have ixk:=wG_ hlt
  obtain⟨om,hom,hM⟩:=hP.dirs
  have hrd:=zb_ (w0:=w) hP.disk
  have hrr:=zb_ (w0:=w) (hP.dir k hlt)
  have hpd:q2_ (some (G.d k))=vp (G.d k) 0:=rfl
  have hdk:=QF_ (S,pl) (Nat.le_refl k)
  simp only at hdk
  obtain⟨vals,hvl,hGr,hF⟩:=hP.pend k hlt
  rw[hdk] at hvl hF
  have hpn1:=(hpn k hlt).2
  have lnp:=hGr.len (false,1)
  first|with_reducible refine ks [] (And.intro @qI_ (And.intro @d1 (And.intro @ixk (@hrd)))) ?_|refine kp (And.intro @qI_ (And.intro @d1 (And.intro @ixk (@hrd)))) ?_
  refine Ow.mapGetG (encK:=vs) (encV:=q2_) (k:=qP_ k) (z:=none) rfl rfl Tryz.underlying121 jV_ zrPd rfl rfl (zb_ hom) hM ?_
  rw[Qc_,xi_ hlt]
  show Ow _ _ _ _ _ _ _ _
  refine ko (And.intro @qI_ @hpd) ?_
  first|with_reducible refine ks [] @qI_ ?_|refine kp @qI_ ?_
  refine Cw.regionS [G.d k] [0,1,2,4,5,6,7,13,3,8,9,10,11,12] [] (by kernel_rfl) (by kernel_rfl) (by kernel_rfl) ?_
  simp only[zu_, ↓zi_, ↓ze_, ↓zG_, ↓zF_,zf_]
  refine kq (And.intro @qI_ (And.intro @hrr (@lnp))) ?_
  refine Ow.soft rfl rfl rfl ?_
  refine Ow.callFnXC (b:=vi vals.length) (ars:= #[vi vals.length,vp bk 0]) rfl (X:=L) (Y:= []) (List.append_nil _).symm rfl rfl rfl rfl Tryz.call82 (fun w' hw' hX' hn'=>Rets.chunk hX' hn' (zh_ hlk) (Wc_ vals.length bk v (z6_ (S,pl) k).2 w' (by omega) (hv.old hw' fun hq b hb=>hE.not (hvb hq b hb).1 (hvb hq b hb).2) hpl1 (fun hq e=>by have:=(hvb hq bk e).1;omega) (hX' _ (zx_ hlk)))) (fun r D hC hS=> ?_)
  obtain⟨o,rfl,rfl,v',rfl,hv1,hv2⟩:=hS
  rw[List.append_nil]
  obtain⟨hvn,hvn2⟩:=acS_ hv hv1 hv2
  have hP1:=hP.away hlk (kW_ v')
  have hE1:=hE.came0 hC
  have hk1: ∀b o,Sx.look L b=some o→tyO o≠some 24→Sx.look (setB L bk (kW_ v')) b=some o:=fun b o hb ht=>qr_ hlk hb ht
  have hlk1:Sx.look (setB L bk (kW_ v')) bk=some (kW_ v'):=qF_ hlk
  have hrr1:=zb_ (w0:=w) (hP1.dir k hlt)
  have hGr1:Gr (setB L bk (kW_ v')) 137 1 (G.p k) vals.length vals:=hGr.keep fun b o hb ho=>by
   obtain⟨arr,ha⟩:=QM_ hGr hb
   rw[ho] at ha;cases ha
   exact hk1 _ _ ho (by simp[tyO])
  have hF1: ∀i,i<vals.length→FnP (setB L bk (kW_ v')) G.fb (vals.getD i undef) ((S.dir k).pend.getD i wz_):=fun i hi=>(hF i hi).keep fun b o ho hx=>hk1 _ _ ho (by rcases hx with⟨s,rfl⟩ | ⟨a,rfl⟩<;>simp[tyO,vG_,VP_])
  have hple:=W6_ (z6_ (S,pl) k).2 vals.length
  have hcr:z6_ (S,pl) (k+1)=agv_ (z6_ (S,pl) k) k:=rfl
  unfold agv_ at hcr
  rw[hdk,←hvl] at hcr
  generalize vu_ (z6_ (S,pl) k).2 vals.length=n at*
  have hbkd:bk≠G.d k:=fun e=>by
   have hdd:=hP1.dir k hlt
   rw[←e,hlk1] at hdd
   simp[x5_,kW_] at hdd
  generalize setB L bk (kW_ v')=L1 at*
  refine Ow.world fun w1 hw1=> ?_
  obtain⟨vc,rb,off,arr,E,fz,hsl,hrw,hlr⟩:=app_ hGr1 hw1 hple
  clear hw1
  have lnc:=hrw.len (false,1)
  rw[List.length_take,Nat.min_eq_left hple] at lnc
  with_reducible refine Ow.nil ?_
  refine⟨fun b hb=>by rw[List.mem_singleton] at hb;subst hb;rw[hrr,hrr1], ?_⟩
  refine kq (And.intro @qI_ (And.intro @hsl (@lnc))) ?_
  have hself:qd_ (z6_ (S,pl) k).1 k ⟨((z6_ (S,pl) k).1.dir k).seen,jF_ (z6_ (S,pl) k).1 k 0,((z6_ (S,pl) k).1.dir k).pend⟩=(z6_ (S,pl) k).1:=aea_ _ _
  have hfe: ∀j,jF_ (z6_ (S,pl) k).1 k j=jF_ S k j:=fun j=>by unfold jF_;rw[hdk]
  have hq2: (z6_ (S,pl) (k+1)).2=(z6_ (S,pl) k).2.drop 1:=rfl
  generalize z6_ (S,pl) k=q at*
  obtain⟨Sk,pk⟩:=q
  simp only at*
  refine Cw.loopG (G:=C2G) [42,43,44,9,45,46,47,48,49,50,51,41] (fun g=> [(41,vi g.j)]) (fun g=>g.L) (fun g=>g.j≤n∧DkP g.L G (qd_ Sk k ⟨(Sk.dir k).seen,jF_ Sk k g.j,(Sk.dir k).pend⟩)∧Sx.look g.L bk=some (kW_ v')∧Ext w X g.L∧(∀b o,Sx.look L1 b=some o→b≠G.t k→Sx.look g.L b=some o)) (fun g=>n - g.j) ⟨0,L1⟩ rfl rfl ?_ ?_
  ·exact⟨Nat.zero_le _,by rw[hself];exact hP1,hlk1,hE1,fun _ _ h _=>h⟩
  intro g j hg
  refine kv ?_
  obtain⟨j,L2⟩:=g
  simp only at hg ⊢
  obtain⟨hj,hP2,hlk2,hE2,hkp⟩:=hg
  by_cases hjt:j<n
  ·have d2:decide ((j:Int)< (n:Int))=true:=decide_eq_true (by omega)
   have hjm:j< (vals.take n).length:=by rw[List.length_take,Nat.min_eq_left hple];exact hjt
   have ix3:=hrw.idx false j hjm
   rw[Nat.mul_one] at ix3
   have ld3:=fun n=>aph_ hrw hjm n
   have hvj: (vals.take n).getD j undef=vals.getD j undef:=by
    rw[List.getD_eq_getElem?_getD,List.getD_eq_getElem?_getD,List.getElem?_take_of_lt hjt]
   rw[hvj] at ld3
   have hpj:j< (S.dir k).pend.length:=by omega
   have htm: ∀ {b:Nat} {o:Obj},Sx.look L1 b=some o→tyO o≠none→b≠G.t k:=by
    intro b o hb ht e
    obtain⟨ot,mt,hot,hmt,-⟩:=hP1.stl k hlt
    rw[e,hot] at hb;cases hb
    exact ht (q3_ hmt)
   have hFj:FnP L2 G.fb (vals.getD j undef) ((S.dir k).pend.getD j wz_):=(hF1 j (by omega)).keep fun b o ho hx=>hkp b o ho (htm ho (by rcases hx with⟨s,rfl⟩ | ⟨a,rfl⟩<;>simp[tyO,vG_,VP_]))
   have hN2:=hP2.stl k hlt
   have hs2:=hP2.ok.stl k hlt
   have hl2:=hP2.ok.stlN k hlt
   have hp2:=hP2.ok.pendN k hlt
   rw[qm_] at hN2 hs2 hl2 hp2
   have hok:okC (jF_ Sk k j) ((S.dir k).pend.getD j wz_):=by rw[hfe];exact(hpn k hlt).1 j hpj
   obtain⟨fk,cap,hvf,hfk,hcall⟩:=Xo_ hFj hN2 hs2 hok
   rw[hvf] at ld3
   have hlr2:=hkp rb _ (hlr (by omega)) (htm (hlr (by omega)) (by simp[tyO]))
   have rd3:=zb_ (w0:=w) hlr2
   have hrr2:=zb_ (w0:=w) (hP2.dir k hlt)
   have hbk2:=htm hlk1 (by simp[tyO,kW_])
   first|with_reducible refine ks [] (And.intro @qI_ (And.intro @d2 (And.intro @ix3 (And.intro @ld3 (And.intro @rd3 (@hrr2)))))) ?_|refine kp (And.intro @qI_ (And.intro @d2 (And.intro @ix3 (And.intro @ld3 (And.intro @rd3 (@hrr2)))))) ?_
   refine Ow.callFnXC (b:=vm (G.t k)) (cap:=cap) (ars:= #[vm (G.t k)]++cap) rfl (X:=L2) (Y:= []) (List.append_nil _).symm rfl rfl rfl rfl hfk (fun w' hw' hX' hn'=>hcall w' hX' hn') (fun r D hC hS=> ?_)
   rw[List.append_nil]
   obtain⟨rfl,o',hO,hN3⟩:=hS
   have hE3:=hE2.came0 hC
   have hP3:=hP2.stl1 hlt (l':=q9_ (jF_ Sk k j) ((S.dir k).pend.getD j wz_)) (fun b o hb hne=>(hO.rest b hne).trans hb) hN3 (aah_ _ hs2) (W5_ hl2 hok fun h0=>hp2 _ (by show _∈ (Sk.dir k).pend;rw[hdk,List.getD_eq_getElem?_getD,List.getElem?_eq_getElem hpj];exact List.getElem_mem _) h0)
   rw[qm_,Wp_] at hP3
   have hnx:jF_ Sk k (j+1)=q9_ (jF_ Sk k j) ((S.dir k).pend.getD j wz_):=by rw[ahe_ (by rw[hdk];exact hpj),hdk]
   refine ko @qI_ ?_
   first|with_reducible refine ks [] @qI_ ?_|refine kp @qI_ ?_
   exact Again.mk ⟨j+1,D⟩ (by show n - (j+1)<n - j;omega) ⟨hjt,by rw[hnx];exact hP3,(hO.rest bk hbk2).trans hlk2,hE3,fun b o hb hne=>(hO.rest b hne).trans (hkp b o hb hne)⟩ rfl rfl
  ·obtain rfl:j=n:=by omega
   have d2:decide ((j:Int)< (j:Int))=false:=decide_eq_false (by omega)
   have hN2:=hP2.stl k hlt
   have hs2:=hP2.ok.stl k hlt
   have hl2:=hP2.ok.stlN k hlt
   rw[qm_] at hN2 hs2 hl2
   obtain⟨ot,mt,hot,hmt,hnp⟩:=hN2
   have hdl2:=hP2.dir k hlt
   have hrr2:=zb_ (w0:=w) hdl2
   first|with_reducible refine ks [13] (And.intro @qI_ (And.intro @d2 (@hrr2))) ?_|refine kp (And.intro @qI_ (And.intro @d2 (@hrr2))) ?_
   refine Ow.callC rfl rfl Tryz.call83 (fun w' hw'=>afe_ (G.t k) ot mt w' (hw'.has _ _ (zx_ hot)) hmt) (fun B4 v4 D4 hA4 hB4 hN4 hS4=> ?_)
   obtain⟨c,o4,rfl,rfl,hm4⟩:=hS4
   have hbc:jR_ L2 c:=z9_ fun b hb=>by
    have h1:=zv_ hA4 hb
    have h2:=hN4.le c (by simp[keys])
    omega
   have hcn:c∉keys L2:=fun hm=>by have:=zv_ hbc hm;omega
   have hl3:Sx.look (L2++ [(c,o4)]) (G.d k)=some (x5_ (G.s k) (G.t k) (G.p k)):=zj_ hdl2
   have hlc3:Sx.look (L2++ [(c,o4)]) c=some o4:=xC_ hbc
   have hkp3: ∀b o,Sx.look L2 b=some o→Sx.look (L2++ [(c,o4)]) b=some o:=fun b o h=>zj_ h
   have hE3:=hE2.app (o:=o4) (b:=c) (by have:=hN4.le c (by simp[keys]);omega)
   generalize L2++ [(c,o4)]=L3 at*
   have hr3:=zb_ (w0:=w) hl3
   have st0:=fun x=>air_ (G.s k) (G.t k) c (G.p k) x
   have hcd:c≠G.d k:=fun e=>hcn (by rw[e];exact zh_ hdl2)
   have hl4:Sx.look (setB L3 (G.d k) (x5_ c (G.t k) (G.p k))) (G.d k)=some (x5_ c (G.t k) (G.p k)):=qF_ hl3
   have hlc4:Sx.look (setB L3 (G.d k) (x5_ c (G.t k) (G.p k))) c=some o4:=by rw[zk_ (Ne.symm hcd)];exact hlc3
   have hkp4: ∀b o,Sx.look L2 b=some o→b≠G.d k→Sx.look (setB L3 (G.d k) (x5_ c (G.t k) (G.p k))) b=some o:=fun b o h hne=>by rw[zk_ (Ne.symm hne)];exact hkp3 b o h
   have hE4:=hE3.setB (b:=G.d k) (o:=x5_ c (G.t k) (G.p k))
   refine ko (And.intro @qI_ (And.intro @hl3 (And.intro @st0 (@KP_)))) ?_
   generalize setB L3 (G.d k) (x5_ c (G.t k) (G.p k))=L4 at*
   have hr4:=zb_ (w0:=w) hl4
   have st2:=fun x=>Q1_ c (G.t k) (G.p k) (.slice none 0 0) x ⟨rfl,rfl⟩
   first|with_reducible refine ks [] (And.intro @qI_ (And.intro @hl4 (And.intro @hr4 (And.intro @st2 (@KP_))))) ?_|refine kp (And.intro @qI_ (And.intro @hl4 (And.intro @hr4 (And.intro @st2 (@KP_))))) ?_
   have hkp5: ∀b o,Sx.look L2 b=some o→b≠G.t k→b≠G.d k→Sx.look (setB L4 (G.d k) (x5_ c (G.t k) (.slice none 0 0))) b=some o:=fun b o h _ hne=>by rw[zk_ (Ne.symm hne)];exact hkp4 b o h hne
   have hmd: ∀ {b:Nat} {o:Obj} {m:List (List UInt8×Option Nat)},Sx.look L2 b=some o→w9_ vs q2_ o m→b≠G.d k:=by
    intro b o m hb hm e
    rw[e,hdl2] at hb;cases hb
    obtain⟨es,cl,h,-⟩:=hm;cases h
   have hP5:=hP2.calm hlt (s':=c) ⟨jF_ Sk k j,jF_ Sk k j,[]⟩ rfl hkp5 ⟨o4,mt,by rw[zk_ (Ne.symm hcd)];exact hlc4,hm4,hnp⟩ ⟨ot,mt,by rw[zk_ (Ne.symm (hmd hot hmt))];exact hkp4 _ _ hot (hmd hot hmt),hmt,hnp⟩ (qF_ hl4) (.inr hcn) hs2 hs2 hl2 hl2
   rw[Wp_] at hP5
   have hbkd2:bk≠G.d k:=fun e=>hbkd e
   exact Again.mk ⟨k+1,ajk_ G k c,setB L4 (G.d k) (x5_ c (G.t k) (.slice none 0 0)),v'⟩ (by show 3 - (k+1)<3 - k;omega) ⟨hlt,by rw[hcr];exact hP5,rfl,by rw[zk_ (Ne.symm hbkd)];exact hkp4 _ _ hlk2 hbkd,by rw[hcr];exact hvn,by rw[hcr];exact hvn2 hvb,hE4.setB,by rw[hcr];show(pk.drop 1).length<1000000;rw[List.length_drop];omega⟩ rfl rfl
 ·obtain rfl:k=3:=by omega
  have d1:decide (((3:Nat):Int)<3)=false:=rfl
  unfold z0_
  generalize z6_ (S,pl) 3=q at*
  obtain⟨S3,p3⟩:=q
  simp only at*
  have hok1:DkOk {S3 with off:=false}:=⟨hP.ok.seen,hP.ok.stl,hP.ok.seenN,hP.ok.stlN,hP.ok.pendN,hP.ok.file,hP.ok.fuse,hP.ok.max⟩
  have hP1:=hP.setDisk {S3 with off:=false} rfl rfl hok1
  have hok2:DkOk (Qq_ S3):=⟨hP.ok.seen,hP.ok.stl,hP.ok.seenN,hP.ok.stlN,hP.ok.pendN,hP.ok.file,⟨hP.ok.fuse.1,hP.ok.fuse.2.1,fun h=>by cases h⟩,hP.ok.max⟩
  have hP2:=hP1.setDisk (Qq_ S3) rfl rfl hok2
  have hr0:=zb_ (w0:=w) hP.disk
  have hl1:=hP.disk
  have hl2:=hP1.disk
  have st4:=fun x=>We_ G.bm S3 false x
  have st3:=fun x=>V6_ G.bm {S3 with off:=false} false x
  have hrg:=rdg
  have hbkb:bk≠G.bd:=fun e=>by
   have hdd:=hP.disk
   rw[←e,hlk] at hdd
   simp[jx_,kW_] at hdd
  have hlk2:Sx.look (setB (setB L G.bd (jx_ G.bm {S3 with off:=false})) G.bd (jx_ G.bm (Qq_ S3))) bk=some (kW_ v):=by
   rw[zk_ (Ne.symm hbkb),zk_ (Ne.symm hbkb)];exact hlk
  have hE2:=(hE.setB (b:=G.bd) (o:=jx_ G.bm {S3 with off:=false})).setB (b:=G.bd) (o:=jx_ G.bm (Qq_ S3))
  have hr2:=rdg _ hE2
  have hr5:zz_ w (setB (setB L G.bd (jx_ G.bm {S3 with off:=false})) G.bd (jx_ G.bm {S3 with off:=false,fused:=false})) 0=_:=hr2
  have hlk5:Sx.look (setB (setB L G.bd (jx_ G.bm {S3 with off:=false})) G.bd (jx_ G.bm {S3 with off:=false,fused:=false})) bk=some (kW_ v):=hlk2
  have hE5:Ext w X (setB (setB L G.bd (jx_ G.bm {S3 with off:=false})) G.bd (jx_ G.bm {S3 with off:=false,fused:=false})):=hE2
  have hP5:DkP (setB (setB L G.bd (jx_ G.bm {S3 with off:=false})) G.bd (jx_ G.bm {S3 with off:=false,fused:=false})) G (Qq_ S3):=hP2
  clear hr2 hlk2 hE2 hP2
  first|with_reducible refine ks [17] (And.intro @qI_ (And.intro @d1 (And.intro @hl1 (And.intro @hl2 (And.intro @st4 (And.intro @st3 (And.intro @KP_ (And.intro @hr5 (@k2_))))))))) ?_|refine kp (And.intro @qI_ (And.intro @d1 (And.intro @hl1 (And.intro @hl2 (And.intro @st4 (And.intro @st3 (And.intro @KP_ (And.intro @hr5 (@k2_))))))))) ?_
  generalize hL5:setB (setB L G.bd (jx_ G.bm {S3 with off:=false})) G.bd (jx_ G.bm {S3 with off:=false,fused:=false})=L5 at*
  have hdw: (Qq_ S3).dir=S3.dir:=rfl
  have how: (Qq_ S3).off=false:=rfl
  generalize Qq_ S3=S5 at*
  refine Cw.loopG (G:=C3G) [72,73,11,74,75,76,77,78,79,80,81,13,82,83,84,85,86,87,88,89,90,91,92,14,93,94,95,96,97,98,99,100,101,102,103,104,105,106,107,108,109,110,111,112,113,114,115,116,117,118,119,120,121,122,123,124,125,126,127,71] (fun g=> [(71,vi g.k)]) (fun g=>g.L) (fun g=>g.k≤3∧DkP g.L G (qR_ (S5,p3) g.k).1∧Sx.look g.L bk=some (kW_ g.v)∧PkS w g.v (qR_ (S5,p3) g.k).2∧PkB w X (qR_ (S5,p3) g.k).2 g.v∧Ext w X g.L∧(qR_ (S5,p3) g.k).2.length<1000000) (fun g=>3 - g.k) ⟨0,L5,v⟩ rfl rfl ?_ ?_
  ·exact⟨Nat.zero_le _,hP5,hlk5,hv,hvb,hE5,hpl1⟩
  intro g j hg
  refine kv ?_
  obtain⟨k,L6,v6⟩:=g
  simp only at hg ⊢
  obtain⟨hk6,hP6,hlk6,hv6,hvb6,hE6,hpl6⟩:=hg
  by_cases hlt6:k<3
  ·have d6:decide ((k:Int)<3)=true:=decide_eq_true (by omega)
   have ixk:=wG_ hlt6
   have hd6:=ki_ (S5,p3) k
   have ho6:=QI_ (S5,p3) k
   simp only at hd6 ho6
   have hB6:DkB (qR_ (S5,p3) k).1:=by
    intro i hi
    rw[hd6,hdw];exact hB i hi
   have hcm:qR_ (S5,p3) (k+1)=((S5.dir k).seen).foldl jh_ (qR_ (S5,p3) k):=rfl
   first|with_reducible refine ks [26] (And.intro @qI_ (And.intro @d6 (@ixk))) ?_|refine kp (And.intro @qI_ (And.intro @d6 (@ixk))) ?_
   refine Ow.callC rfl rfl Tryz.call79 (fun w' hw'=>Zm_ w' G (qR_ (S5,p3) k).1 (qP_ k) (hP6.world hw') hB6) (fun B7 v7 D7 hA7 hB7 hN7 hS7=> ?_)
   rw[abs_ hlt6,hd6,ho6,how,if_neg (by simp),←Xx_] at hS7
   obtain⟨sn,hsn⟩: ∃sn,(S5.dir k).seen=sn:=⟨_,rfl⟩
   rw[hsn] at hcm hS7
   have ln7:=vd_ hS7
   rw[List.length_map] at ln7
   refine ko (And.intro @qI_ @ln7) ?_
   refine Cw.world fun w1 hw1=> ?_
   obtain⟨rb,off,arr,E,fz,hr7,hlk7⟩:=hS7.rowL (z:= []) (by rw[List.length_map]) ((hw1.perm (M:=D7++L6) List.perm_append_comm).part) aai_
   clear hw1
   have hq6:=hP6.ok.seen k hlt6
   have hsl6:=(hB6 k hlt6).1
   rw[hd6,hsn] at hq6 hsl6
   have hrn: ∀c,c∈keys L6→0<sn.length→rb≠c:=fun c hc h0 e=>by
    have h1:=zv_ hA7 hc
    have h2:=hN7.le rb (zh_ (hlk7 (by rw[List.length_map];exact h0)))
    omega
   have hlr7:0<sn.length→Sx.look (L6++D7) rb=some (.cells arr E fz):=fun h0=>by
    rw[zW_ (fun hm=>hrn rb hm h0 rfl)]
    exact hlk7 (by rw[List.length_map];exact h0)
   have hP7:DkP (L6++D7) G (qR_ (S5,p3) k).1:=hP6.mono fun b o h=>zj_ h
   have hlk8:Sx.look (L6++D7) bk=some (kW_ v6):=zj_ hlk6
   have hE7:Ext w X (L6++D7):=⟨fun c hc=>by
    rw[zs_] at hc
    rcases List.mem_append.1 hc with h|h
    ·exact hE6.new c h
    ·exact .inr (Nat.le_trans hB7 (hN7.le c h)),fun c hc=>by rw[zs_];exact List.mem_append_left _ (hE6.all c hc)⟩
   have hfk: ∀n,n< (qR_ (S5,p3) k).1.files.length→G.fb.getD n 0∈keys L6:=fun n hn=>zh_ (hP6.file n hn)
   have hbk6:=zh_ hlk6
   clear hlk7 hS7
   generalize L6++D7=L7 at*
   refine Cw.loopG (G:=C4G) [79,80,81,13,82,83,84,85,86,87,88,89,90,91,92,14,93,94,95,96,97,98,99,100,101,102,103,104,105,106,107,108,109,110,111,112,113,114,115,116,117,118,119,120,121,122,123,124,125,126,78] (fun g=> [(78,vi g.j)]) (fun g=>g.L) (fun g=>g.j≤sn.length∧DkP g.L G ((sn.take g.j).foldl jh_ (qR_ (S5,p3) k)).1∧Sx.look g.L bk=some (kW_ g.v)∧PkS w g.v ((sn.take g.j).foldl jh_ (qR_ (S5,p3) k)).2∧PkB w X ((sn.take g.j).foldl jh_ (qR_ (S5,p3) k)).2 g.v∧Ext w X g.L∧((sn.take g.j).foldl jh_ (qR_ (S5,p3) k)).2.length<1000000∧(0<sn.length→Sx.look g.L rb=some (.cells arr E fz))) (fun g=>sn.length - g.j) ⟨0,L7,v6⟩ rfl rfl ?_ ?_
   ·exact⟨Nat.zero_le _,hP7,hlk8,hv6,hvb6,hE7,hpl6,hlr7⟩
   intro g j hg
   refine kv ?_
   obtain⟨j,L8,v8⟩:=g
   simp only at hg ⊢
   obtain⟨hj,hP8,hlk9,hv8,hvb8,hE8,hpl8,hlr8⟩:=hg
   by_cases hjt:j<sn.length
   ·have d2:decide ((j:Int)< (sn.length:Int))=true:=decide_eq_true (by omega)
    have hjm:j< (sn.map Prod.fst).length:=by rw[List.length_map];exact hjt
    have ix3:=hr7.idx false j hjm
    rw[Nat.mul_one] at ix3
    have ld3:=fun n=>WG_ hr7 hjm n
    have hlrb:=hlr8 (by omega)
    have rd3:=zb_ (w0:=w) hlrb
    have hp:sn[j]'hjt∈sn:=List.getElem_mem _
    have hse: (sn.map Prod.fst).getD j []=(sn[j]'hjt).1:=by simp[List.getD_eq_getElem?_getD,hjt]
    have hts:sn.take (j+1)=sn.take j++ [sn[j]'hjt]:=by
     rw[List.take_add_one];simp[hjt]
    rw[hse] at ld3
    generalize sn[j]'hjt=p at*
    obtain⟨x,n⟩:=p
    have hd8: ((sn.take j).foldl jh_ (qR_ (S5,p3) k)).1.dir=S5.dir:=by rw[VU_,ki_]
    have hfl8: ((sn.take (j+1)).foldl jh_ (qR_ (S5,p3) k))=jh_ ((sn.take j).foldl jh_ (qR_ (S5,p3) k)) (x,n):=by rw[hts,List.foldl_append];rfl
    generalize (sn.take j).foldl jh_ (qR_ (S5,p3) k)=q8 at*
    obtain⟨S8,p8⟩:=q8
    simp only at hP8 hv8 hpl8 hd8 ld3
    have hsk: (S8.dir k).seen=sn:=by rw[hd8];exact hsn
    obtain⟨om,hom,hM⟩:=hP8.dirs
    obtain⟨os,ms,hos,hms,hnp⟩:=hP8.seen k hlt6
    rw[hsk] at hnp
    have hfn:zo_ sn x=some n:=QB_ hq6.nodup hp
    have hnl:n<S8.files.length:=hP8.ok.seenN k hlt6 _ (by rw[hsk];exact hp)
    have rdd:=zb_ (w0:=w) hP8.disk
    have rdr:=zb_ (w0:=w) (hP8.dir k hlt6)
    have hlf:=hP8.file n hnl
    have rdf:=zb_ (w0:=w) hlf
    have hpd:q2_ (some (G.d k))=vp (G.d k) 0:=rfl
    have hpf:q2_ (some (G.fb.getD n 0))=vp (G.fb.getD n 0) 0:=rfl
    first|with_reducible refine ks [] (And.intro @qI_ (And.intro @d2 (And.intro @ix3 (And.intro @ld3 (And.intro @rd3 (@rdd)))))) ?_|refine kp (And.intro @qI_ (And.intro @d2 (And.intro @ix3 (And.intro @ld3 (And.intro @rd3 (@rdd)))))) ?_
    refine kq (And.intro @qI_ @rdd) ?_
    refine Ow.mapGetG (encK:=vs) (encV:=q2_) (k:=qP_ k) (z:=none) rfl rfl Tryz.underlying121 jV_ zrPd rfl rfl (zb_ hom) hM ?_
    rw[Qc_,xi_ hlt6]
    show Ow _ _ _ _ _ _ _ _
    refine ko (And.intro @qI_ (And.intro @hpd (@rdr))) ?_
    refine Ow.mapGetG (encK:=vs) (encV:=q2_) (k:=x) (z:=none) rfl rfl Tryz.underlying127 jV_ zrPf rfl rfl (zb_ hos) hms ?_
    rw[hnp.get hq6.nodup,hfn]
    show Ow _ _ _ _ _ _ _ _
    refine ko (And.intro @qI_ @hpf) ?_
    have hfo:=aal_ hP8.ok hnl
    have hrf2:zz_ w L8 (G.fb.getD n 0)=some (kq_ (zm_ S8 n)):=rdf
    have hfd:S8.files.getD n qO_=zm_ S8 n:=rfl
    rw[hfd] at hlf
    clear rdf
    have hcf:jh_ (S8,p8) (x,n)=(wg_ S8 n ⟨(zm_ S8 n).data.take ((zm_ S8 n).stl+vu_ p8 ((zm_ S8 n).data.length - (zm_ S8 n).stl)),((zm_ S8 n).data.take ((zm_ S8 n).stl+vu_ p8 ((zm_ S8 n).data.length - (zm_ S8 n).stl))).length⟩,p8.drop 1):=rfl
    rw[hcf] at hfl8
    have hple8:=W6_ p8 ((zm_ S8 n).data.length - (zm_ S8 n).stl)
    generalize zm_ S8 n=f at*
    have hsub: (f.data.length:Int) - (f.stl:Int)=((f.data.length - f.stl:Nat):Int):=by omega
    refine Cw.regionG [G.fb.getD n 0] [25] 26 (by kernel_rfl) rfl ?_
    simp only[List.replicate_succ,List.replicate_zero]
    refine OwG.run [0,1,2,3,4,5,6,7,8,9,10,11,12,13,14,15,16,17,18,19] [true,true,true,true,true,true,true,true,true,true,true,true,true,true,true,true,true,true,true,true,false,false,false,false,false,false] 6 rfl (by kernel_rfl) (by kernel_rfl) fun k hk=> ?_
    simp only[zu_, ↓zi_, ↓ze_, ↓zG_, ↓zF_,zf_]
    simp(disch:=(first|assumption|omega| (simp only[VI_,Vi_,UInt64.reduceToNat];try omega))) only[↓Sx.S0,Sx.S1,Tryz.fx,qI_,Nat.reduceAdd,Nat.reducePow,Int.reducePow,Nat.reduceBEq, ↓reduceIte,UInt8.reduceToNat,UInt16.reduceToNat,UInt32.reduceToNat,UInt64.reduceToNat,Int.reduceToNat,Md.next_sofnil,hrf2,hsub]
    (with_reducible refine hk _ _ _ ?_);clear hk k
    refine OwG.one 20 _ (by kernel_rfl) rfl ?_
    refine Ow.callFnXC (b:=vi ((f.data.length - f.stl:Nat):Int)) (ars:= #[vi ((f.data.length - f.stl:Nat):Int),vp bk 0]) rfl (X:=L8) (Y:= []) (List.append_nil _).symm rfl rfl rfl rfl Tryz.call82 (fun w' hw' hX' hn'=>Rets.chunk hX' hn' (zh_ hlk9) (Wc_ (f.data.length - f.stl) bk v8 p8 w' (by omega) (hv8.old hw' fun hq b hb=>hE8.not (hvb8 hq b hb).1 (hvb8 hq b hb).2) hpl8 (fun hq e=>by have:=(hvb8 hq bk e).1;omega) (hX' _ (zx_ hlk9)))) (fun r D hC hS=> ?_)
    rw[List.append_nil]
    obtain⟨o,rfl,rfl,v9,rfl,hv1,hv2⟩:=hS
    obtain⟨hvn,hvn2⟩:=acS_ hv8 hv1 hv2
    have hE9:=hE8.came0 hC
    have hP9:=hP8.away hlk9 (kW_ v9)
    have hk9: ∀b o,Sx.look L8 b=some o→tyO o≠some 24→Sx.look (setB L8 bk (kW_ v9)) b=some o:=fun b o hb ht=>qr_ hlk9 hb ht
    have hlf9:Sx.look (setB L8 bk (kW_ v9)) (G.fb.getD n 0)=some (kq_ f):=hk9 _ _ hlf (by simp[tyO,kq_])
    have hlkA:Sx.look (setB L8 bk (kW_ v9)) bk=some (kW_ v9):=qF_ hlk9
    have hrbA:Sx.look (setB L8 bk (kW_ v9)) rb=some (.cells arr E fz):=by rw[zk_ (fun e=>hrn bk hbk6 (by omega) e.symm)];exact hlrb
    have hrf9:=zb_ (w0:=w) hlf9
    generalize vu_ p8 (f.data.length - f.stl)=m at*
    have hadd: (f.stl:Int)+ (m:Int)=((f.stl+m:Nat):Int):=by omega
    have hbkf:bk≠G.fb.getD n 0:=fun e=>by
     rw[←e,hlkA] at hlf9
     simp[kq_,kW_] at hlf9
    generalize setB L8 bk (kW_ v9)=L9 at*
    have st0:=fun x=>Jb_ f (f.data.take (f.stl+m)) x
    with_reducible refine Ow.nil ?_
    refine⟨(fun b hb=>by rw[List.mem_singleton] at hb;subst hb;rw[hrf2,hrf9]), ?_⟩
    simp only[List.set_cons_zero,List.set_cons_succ,abI_,agk_,agD_]
    refine OwG.rest [21,22,23,24,25] rfl (by kernel_rfl) (by kernel_rfl) ?_
    simp only[zu_, ↓zi_, ↓ze_, ↓zG_, ↓zF_,zf_]
    refine kq (And.intro @qI_ @hadd) ?_
    refine Ow.store rfl rfl rfl (ke (And.intro @qI_ (And.intro @hlf9 (@st0)))) ?_
    have htl: (f.data.take (f.stl+m)).length≤f.data.length:=by rw[List.length_take];omega
    have htl2:f.stl≤ (f.data.take (f.stl+m)).length:=by rw[List.length_take];omega
    have hlB:Sx.look (setB L9 (G.fb.getD n 0) (kq_ ⟨f.data.take (f.stl+m),f.stl⟩)) (G.fb.getD n 0)=some (kq_ ⟨f.data.take (f.stl+m),f.stl⟩):=qF_ hlf9
    have hrB:=zb_ (w0:=w) hlB
    have st1:=fun x=>Q3_ ⟨f.data.take (f.stl+m),f.stl⟩ (f.data.take (f.stl+m)).length x
    have hokA:=J7_ (n:=n) (f:=⟨f.data.take (f.stl+m),f.stl⟩) hP8.ok ⟨Nat.le_trans htl hfo.1,htl2⟩
    have hPA:=hP9.setFile hnl ⟨f.data.take (f.stl+m),f.stl⟩ hokA
    have hokB:=J7_ (n:=n) (f:=⟨f.data.take (f.stl+m),(f.data.take (f.stl+m)).length⟩) hokA ⟨Nat.le_trans htl hfo.1,Nat.le_refl _⟩
    have hPB:=hPA.setFile (by rw[List.length_set];exact hnl) ⟨f.data.take (f.stl+m),(f.data.take (f.stl+m)).length⟩ hokB
    simp only[List.set_set] at hPB
    have hEB:=(hE9.setB (b:=G.fb.getD n 0) (o:=kq_ ⟨f.data.take (f.stl+m),f.stl⟩)).setB (b:=G.fb.getD n 0) (o:=kq_ ⟨f.data.take (f.stl+m),(f.data.take (f.stl+m)).length⟩)
    have hrf:rb≠G.fb.getD n 0:=hrn _ (hfk n (by have:=hP6.len;have:=hP8.len;omega)) (by omega)
    have hlkB:Sx.look (setB (setB L9 (G.fb.getD n 0) (kq_ ⟨f.data.take (f.stl+m),f.stl⟩)) (G.fb.getD n 0) (kq_ ⟨f.data.take (f.stl+m),(f.data.take (f.stl+m)).length⟩)) bk=some (kW_ v9):=by
     rw[zk_ (Ne.symm hbkf),zk_ (Ne.symm hbkf)];exact hlkA
    have hrbB:Sx.look (setB (setB L9 (G.fb.getD n 0) (kq_ ⟨f.data.take (f.stl+m),f.stl⟩)) (G.fb.getD n 0) (kq_ ⟨f.data.take (f.stl+m),(f.data.take (f.stl+m)).length⟩)) rb=some (.cells arr E fz):=by
     rw[zk_ (Ne.symm hrf),zk_ (Ne.symm hrf)];exact hrbA
    refine ko (And.intro @qI_ (And.intro @KP_ (And.intro @hrB (And.intro @hlB (@st1))))) ?_
    first|with_reducible refine ks [] @qI_ ?_|refine kp @qI_ ?_
    exact Again.mk ⟨j+1,setB (setB L9 (G.fb.getD n 0) (kq_ ⟨f.data.take (f.stl+m),f.stl⟩)) (G.fb.getD n 0) (kq_ ⟨f.data.take (f.stl+m),(f.data.take (f.stl+m)).length⟩),v9⟩ (by show sn.length - (j+1)<sn.length - j;omega) ⟨hjt,by rw[hfl8];exact hPB,hlkB,by rw[hfl8];exact hvn,by rw[hfl8];exact hvn2 hvb8,hEB,by rw[hfl8];show(p8.drop 1).length<1000000;rw[List.length_drop];omega,fun _=>hrbB⟩ rfl rfl
   ·obtain rfl:j=sn.length:=by omega
    have d2:decide ((sn.length:Int)< (sn.length:Int))=false:=decide_eq_false (by omega)
    rw[List.take_length] at hP8 hv8 hvb8 hpl8
    first|with_reducible refine ks [] (And.intro @qI_ @d2) ?_|refine kp (And.intro @qI_ @d2) ?_
    first|with_reducible refine ks [] @qI_ ?_|refine kp @qI_ ?_
    exact Again.mk ⟨k+1,L8,v8⟩ (by show 3 - (k+1)<3 - k;omega) ⟨hlt6,by rw[hcm];exact hP8,hlk9,by rw[hcm];exact hv8,by rw[hcm];exact hvb8,hE8,by rw[hcm];exact hpl8⟩ rfl rfl
  ·obtain rfl:k=3:=by omega
   have d6:decide (((3:Nat):Int)<3)=false:=rfl
   first|with_reducible refine ks [] (And.intro @qI_ @d6) ?_|refine kp (And.intro @qI_ @d6) ?_
   refine⟨_,(ke @qI_), ?_⟩
   exact⟨hE6,G,rfl,hP6⟩
end Go.Proofs
end
section
open Go Go.Proofs Go.Sx Go.StP
namespace Go.Proofs
set_option maxRecDepth 10000
set_option maxHeartbeats 400000
set_option linter.unusedSimpArgs false
def aiL_ (d:DirL):Prop:=d.pend.foldl q9_ d.stl=d.seen∧arK_ d
def jA_ (S:DiskL):Prop:= ∀k,aiL_ (S.dir k)
theorem vm_ (l:NmL):aiL_ ⟨l,l,[]⟩:=⟨rfl,fun i hi=>absurd hi (Nat.not_lt_zero i)⟩
theorem aiJ_ {d:DirL} {c:CallL} (h:aiL_ d) (hok:okC d.seen c):aiL_ ⟨q9_ d.seen c,d.stl,d.pend++ [c]⟩:=by
 refine⟨by show(d.pend++ [c]).foldl q9_ d.stl=_;rw[List.foldl_append,h.1];rfl,fun i hi=> ?_⟩
 have hi':i< (d.pend++ [c]).length:=hi
 show okC (((d.pend++ [c]).take i).foldl q9_ d.stl) ((d.pend++ [c]).getD i wz_)
 by_cases e:i<d.pend.length
 ·rw[List.take_append_of_le_length (by omega),List.getD_eq_getElem?_getD,List.getElem?_append_left e,←List.getD_eq_getElem?_getD]
  exact h.2 i e
 ·rw[List.length_append,List.length_singleton] at hi'
  obtain rfl:i=d.pend.length:=by omega
  rw[List.take_append_of_le_length (Nat.le_refl _),List.take_length,h.1,List.getD_eq_getElem?_getD,List.getElem?_append_right (Nat.le_refl _),Nat.sub_self]
  exact hok
theorem xI_ {S S':DiskL} (h:jA_ S) (e:S'.dir=S.dir):jA_ S':=fun k=>by rw[e];exact h k
theorem v8_ {S:DiskL} (h:jA_ S) {k:Nat} {d:DirL} (hd:aiL_ d):jA_ (qd_ S k d):=fun j=>by
 by_cases e:j=k
 ·subst e;rw[qm_];exact hd
 ·rw[q6_ _ _ e];exact h j
theorem Ze_ {S:DiskL} (h:jA_ S) {k:Nat} {c:CallL} (hok:okC (S.dir k).seen c):jA_ (xb_ S k c):=v8_ h (aiJ_ (h k) hok)
theorem ws_ {S:DiskL} (h:jA_ S):jA_ (zp_ S).1:=xI_ h (zU_ S).1
theorem amN_ (q:Int):jA_ (QD_ q):=fun _=>vm_ []
theorem ae6_ {S:DiskL} (h:jA_ S) (dir name:List UInt8):jA_ (zO_ S dir name).1:=by
 unfold zO_
 split
 ·exact h
 ·split
  ·exact h
  ·split
   ·exact ws_ h
   ·exact Ze_ (ws_ h) (fun e=>by cases e)
theorem abr_ {S:DiskL} (h:jA_ S) (dir:List UInt8):jA_ (zw_ S dir).1:=by
 unfold zw_
 split
 ·exact h
 ·split
  ·exact ws_ h
  ·exact v8_ (ws_ h) (vm_ _)
theorem Ke_ {q:DiskL×List UInt16} (h:jA_ q.1): ∀k,jA_ (z6_ q k).1
 |0=>h
 |k+1=>v8_ (Ke_ h k) (vm_ _)
theorem QO_ {S:DiskL} (h:jA_ S) (pl:List UInt16):jA_ (z0_ S pl):=by
 unfold z0_
 refine xI_ (S:=Qq_ (z6_ (S,pl) 3).1) ?_ (ki_ _ 3)
 exact xI_ (Ke_ (q:=(S,pl)) h 3) rfl
end Go.Proofs
end
section
open Go Go.Proofs Go.Sx Go.StP
namespace Go.Proofs
set_option maxRecDepth 10000
set_option maxHeartbeats 400000
set_option linter.unusedSimpArgs false
def NmB (l:NmL):Prop:= ∀p,p∈l→p.1.length≤1000000
def aln_ (c:CallL):Prop:=c.a.length≤1000000∧c.b.length≤1000000
structure DirB (N:Nat) (d:DirL):Prop where
 seen:d.seen.length≤N
 stl:d.stl.length+d.pend.length≤N
 seenB:NmB d.seen
 stlB:NmB d.stl
 pendB: ∀c,c∈d.pend→aln_ c
def DkN (N:Nat) (S:DiskL):Prop:= ∀k,DirB N (S.dir k)
theorem DkN.b {N:Nat} {S:DiskL} (h:DkN N S) (hN:N≤1000000):DkB S:=fun k _=>⟨Nat.le_trans (h k).seen hN,(h k).seenB⟩
theorem DirB.mono {N M:Nat} {d:DirL} (h:DirB N d) (hm:N≤M):DirB M d:=⟨Nat.le_trans h.seen hm,Nat.le_trans h.stl hm,h.seenB,h.stlB,h.pendB⟩
theorem DkN.mono {N M:Nat} {S:DiskL} (h:DkN N S) (hm:N≤M):DkN M S:=fun k=>(h k).mono hm
theorem Kl_ (l:NmL) (s:List UInt8): (jY_ l s).length≤l.length:=List.length_filter_le _ _
theorem aaN_ (l:NmL) (x:List UInt8×Nat): (JY_ l x).length≤l.length+1:=by
 have h1:=(xg_ x (jY_ l x.1)).length_eq
 have h2:=Kl_ l x.1
 rw[List.length_cons] at h1
 show(insN (jY_ l x.1) x).length≤_
 omega
theorem aco_ (l:NmL) (c:CallL): (q9_ l c).length≤l.length+1:=by
 unfold q9_
 split
 ·exact aaN_ l _
 ·have h1:=aaN_ (jY_ l c.a) (c.b,(zo_ l c.a).getD 0)
  have h2:=Kl_ l c.a
  omega
 ·exact Nat.le_succ_of_le (Kl_ l _)
theorem aef_ {l:NmL} (h:NmB l) (s:List UInt8):NmB (jY_ l s):=fun p hp=>h p (List.mem_filter.1 hp).1
theorem alH_ {l:NmL} (h:NmB l) {x:List UInt8×Nat} (hx:x.1.length≤1000000):NmB (JY_ l x):=fun p hp=>by
 have:=(xg_ x (jY_ l x.1)).mem_iff.1 hp
 rcases List.mem_cons.1 this with rfl|h1
 ·exact hx
 ·exact aef_ h _ p h1
theorem akX_ {l:NmL} (h:NmB l) {c:CallL} (hc:aln_ c):NmB (q9_ l c):=by
 unfold q9_
 split
 ·exact alH_ h hc.1
 ·exact alH_ (aef_ h _) hc.2
 ·exact aef_ h _
theorem akO_: ∀ (cs:List CallL) {l:NmL},NmB l→(∀c,c∈cs→aln_ c)→NmB (cs.foldl q9_ l)∧(cs.foldl q9_ l).length≤l.length+cs.length
 | [],l,h,_=>⟨h,Nat.le_refl _⟩
 |c::cs,l,h,hc=>by
  have h1:=akO_ cs (akX_ h (hc c List.mem_cons_self)) (fun c' h'=>hc c' (List.mem_cons_of_mem _ h'))
  have h2:=aco_ l c
  refine⟨h1.1, ?_⟩
  have h3:=h1.2
  rw[List.length_cons]
  show(List.foldl q9_ (q9_ l c) cs).length≤_
  omega
theorem alz_ {N:Nat} {d:DirL} {c:CallL} (h:DirB N d) (hc:aln_ c):DirB (N+1) ⟨q9_ d.seen c,d.stl,d.pend++ [c]⟩ where
 seen:=by have:=aco_ d.seen c;have:=h.seen;show(q9_ d.seen c).length≤_;omega
 stl:=by have:=h.stl;show d.stl.length+ (d.pend++ [c]).length≤_;rw[List.length_append,List.length_singleton];omega
 seenB:=akX_ h.seenB hc
 stlB:=h.stlB
 pendB:=fun c' h'=>by
  rcases List.mem_append.1 h' with h'|h'
  ·exact h.pendB c' h'
  ·rw[List.mem_singleton.1 h'];exact hc
theorem wN_ {N:Nat} {l:NmL} (h:l.length≤N) (hb:NmB l):DirB N ⟨l,l,[]⟩:=⟨h,h,hb,hb,fun c hc=>by cases hc⟩
theorem vw_ {N:Nat} {S:DiskL} (h:DkN N S) {k:Nat} {d:DirL} (hd:DirB N d):DkN N (qd_ S k d):=fun j=>by
 by_cases e:j=k
 ·subst e;rw[qm_];exact hd
 ·rw[q6_ _ _ e];exact h j
theorem kI_ {N:Nat} {S S':DiskL} (h:DkN N S) (e:S'.dir=S.dir):DkN N S':=fun k=>by rw[e];exact h k
theorem Qx_ {N:Nat} {S:DiskL} (h:DkN N S) {k:Nat} {c:CallL} (hc:aln_ c):DkN (N+1) (xb_ S k c):=vw_ (h.mono (Nat.le_succ N)) (alz_ (h k) hc)
theorem vk_ {N:Nat} {q:DiskL×List UInt16} (h:DkN N q.1): ∀k,DkN N (z6_ q k).1
 |0=>h
 |k+1=>by
  have h1:=vk_ h k
  have hd:=h1 k
  show DkN N (agv_ (z6_ q k) k).1
  generalize z6_ q k=r at*
  refine vw_ h1 ?_
  have h2:=akO_ ((r.1.dir k).pend.take (vu_ r.2 (r.1.dir k).pend.length)) hd.stlB (fun c hc=>hd.pendB c (List.mem_of_mem_take hc))
  refine wN_ ?_ h2.1
  have h3:=h2.2
  rw[List.length_take] at h3
  have h4:=hd.stl
  show(List.foldl q9_ _ _).length≤N
  omega
theorem Xt_ {N:Nat} {S:DiskL} (h:DkN N S) (pl:List UInt16):DkN N (z0_ S pl):=by
 unfold z0_
 refine kI_ (S:=Qq_ (z6_ (S,pl) 3).1) ?_ (ki_ _ 3)
 exact kI_ (vk_ (q:=(S,pl)) h 3) rfl
theorem ajw_ (q:Int):DkN 0 (QD_ q):=fun _=>wN_ (Nat.le_refl 0) fun _ h=>by cases h
end Go.Proofs
end
section
open Go Go.Proofs Go.Sx Go.StP
namespace Go.Proofs
set_option maxRecDepth 10000
set_option maxHeartbeats 400000
set_option linter.unusedSimpArgs false
theorem adh_ (X:za_) (G:DkG) (S:DiskL) (n:Int) (w:World) (hX: ∀p,p∈X→w.heap[p.1]? =some p.2) (hnd: (keys X).Nodup) (hP:DkP X G S) (hn: -9223372036854775808≤n∧n<9223372036854775808):
  Rets Tryz.prog 78 #[vp G.bd 0,vi n] w (XS w X (fun v D=>v=vr_ []∧ ∃G',G'.bd=G.bd∧DkP D G' {S with max:=n})):=by
 refine Rets.mono (Rets.chunk hX hnd (zh_ hP.disk) (ae3_ G.bd G.bm S n w (hX _ (zx_ hP.disk)))) ?_
 rintro v D ⟨hE,o,rfl,rfl,rfl⟩
 exact⟨hE,rfl,G,rfl,hP.setDisk {S with max:=n} rfl rfl ⟨hP.ok.seen,hP.ok.stl,hP.ok.seenN,hP.ok.stlN,hP.ok.pendN,hP.ok.file,hP.ok.fuse,hn⟩⟩
theorem QK_ (X:za_) (G:DkG) (S:DiskL) (n:Int) (w:World) (hX: ∀p,p∈X→w.heap[p.1]? =some p.2) (hnd: (keys X).Nodup) (hP:DkP X G S) (hn: -9223372036854775808≤n∧n<9223372036854775808):
  Rets Tryz.prog 37 #[vp G.bd 0,vi n] w (XS w X (fun v D=>v=vr_ []∧ ∃G',G'.bd=G.bd∧DkP D G' {S with fuse:=n,fused:=decide (0≤n)})):=by
 refine Rets.mono (Rets.chunk hX hnd (zh_ hP.disk) (agX_ G.bd G.bm S n w (hX _ (zx_ hP.disk)))) ?_
 rintro v D ⟨hE,o,rfl,rfl,rfl⟩
 exact⟨hE,rfl,G,rfl,hP.setDisk {S with fuse:=n,fused:=decide (0≤n)} rfl rfl ⟨hP.ok.seen,hP.ok.stl,hP.ok.seenN,hP.ok.stlN,hP.ok.pendN,hP.ok.file,⟨hn.1,hn.2,fun h=>by simpa using h⟩,hP.ok.max⟩⟩
end Go.Proofs
end
section
open Go Go.Proofs Go.Sx Go.StP
namespace Go.Proofs
set_option maxRecDepth 10000
set_option maxHeartbeats 400000
set_option linter.unusedSimpArgs false
theorem ad7_ (S:DiskL) (f:FiL) (h: ∀k,(S.dir k).pend= []∧(S.dir k).stl= []): ∀k,((z2_ S f).dir k).pend= []∧((z2_ S f).dir k).stl= []:=by
 intro k
 unfold z2_
 split
 ·rename_i j hj
  split
  ·by_cases e:k=j
   ·subst e;rw[qm_];exact⟨(h k).1,(h k).2⟩
   ·rw[q6_ _ _ e];exact h k
  ·exact h k
 ·exact h k
theorem ae9_ (l:List FiL): ∀ (S:DiskL),(∀k,(S.dir k).pend= []∧(S.dir k).stl= [])→ ∀k,((l.foldl z2_ S).dir k).pend= []∧((l.foldl z2_ S).dir k).stl= []:=by
 induction l with
 |nil=>exact fun _ h=>h
 |cons f l ih=>exact fun S h=>ih _ (ad7_ S f h)
theorem any_ {N:Nat} {S:DiskL} (h:DkN N S) (f:FiL) (hf:f.name.length≤1000000):DkN (N+1) (z2_ S f):=by
 unfold z2_
 split
 ·split
  ·rename_i k hk hc
   refine vw_ (kI_ (h.mono (Nat.le_succ N)) rfl) ⟨?_,Nat.le_succ_of_le (h k).stl,alH_ (h k).seenB hf,(h k).stlB,(h k).pendB⟩
   have h1:=aaN_ (S.dir k).seen (f.name,S.files.length)
   have h2:=(h k).seen
   show(JY_ (S.dir k).seen (f.name,S.files.length)).length≤N+1
   omega
  ·exact h.mono (Nat.le_succ N)
 ·exact h.mono (Nat.le_succ N)
theorem afE_: ∀ (l:List FiL) {N:Nat} {S:DiskL},DkN N S→(∀f,f∈l→f.name.length≤1000000)→DkN (N+l.length) (l.foldl z2_ S)
 | [],_,_,h,_=>h
 |f::l,N,S,h,hf=>by
  have h1:=afE_ l (any_ h f (hf f List.mem_cons_self)) (fun g hg=>hf g (List.mem_cons_of_mem _ hg))
  rw[List.length_cons,show N+ (l.length+1)=N+1+l.length by omega]
  exact h1
theorem ahb_ (S:DiskL) (f:FiL) (h: ∀k,3≤k→(S.dir k).seen= []): ∀k,3≤k→((z2_ S f).dir k).seen= []:=by
 intro k hk
 unfold z2_
 split
 ·rename_i j hj
  split
  ·have h3:=(zE_ hj).1
   rw[q6_ _ _ (by omega)];exact h k hk
  ·exact h k hk
 ·exact h k hk
theorem aim_ (l:List FiL): ∀ (S:DiskL),(∀k,3≤k→(S.dir k).seen= [])→ ∀k,3≤k→((l.foldl z2_ S).dir k).seen= []:=by
 induction l with
 |nil=>exact fun _ h=>h
 |cons f l ih=>exact fun S h=>ih _ (ahb_ S f h)
theorem JW_ (S:DiskL) (k:Nat): (setV S [0,1,2]).dir k=if k∈ [0,1,2] then⟨(S.dir k).seen,(S.dir k).seen,[]⟩ else S.dir k:=rfl
theorem ac7_ (q:Int) (l:List FiL):jA_ (ofD q l):=fun k=>by
 have h1:=ae9_ l (QD_ q) (fun _=>⟨rfl,rfl⟩) k
 have h2:=aim_ l (QD_ q) (fun _ _=>rfl) k
 unfold ofD
 rw[JW_]
 generalize l.foldl z2_ (QD_ q)=S at*
 split
 ·exact vm_ _
 ·rename_i hk
  have h3:3≤k:=by
   simp only[List.mem_cons,List.not_mem_nil,or_false,not_or] at hk
   omega
  have h4:=h2 h3
  generalize S.dir k=d at*
  obtain⟨a,b,c⟩:=d
  simp only at h1 h4
  obtain⟨rfl,rfl⟩:=h1
  subst h4
  exact vm_ []
theorem aok_ (q:Int) (l:List FiL) (hf: ∀f,f∈l→f.name.length≤1000000):DkN l.length (ofD q l):=fun k=>by
 have h1:=afE_ l (ajw_ q) hf k
 rw[Nat.zero_add] at h1
 unfold ofD
 rw[JW_]
 split
 ·exact wN_ h1.seen h1.seenB
 ·exact h1
end Go.Proofs
end
section
open Go Go.Proofs Go.Sx Go.StP
namespace Go.Proofs
set_option maxRecDepth 10000
set_option maxHeartbeats 400000
set_option linter.unusedSimpArgs false
theorem vK_ {N:Nat} {S:DiskL} (h:DkN N S):DkN N (zp_ S).1:=kI_ h (zU_ S).1
theorem wr_ {N:Nat} {S:DiskL} (h:DkN N S):DkN (N+1) S:=h.mono (Nat.le_succ N)
theorem ahq_ {N:Nat} {S:DiskL} (h:DkN N S) (dir:List UInt8) {name:List UInt8} (hn:name.length≤1000000):DkN (N+1) (zO_ S dir name).1:=by
 unfold zO_
 split
 ·exact wr_ h
 ·split
  ·exact wr_ h
  ·split
   ·exact wr_ (vK_ h)
   ·exact Qx_ (vK_ h) ⟨hn,Nat.zero_le _⟩
theorem adm_ {N:Nat} {S:DiskL} (h:DkN N S) (dir:List UInt8):DkN N (zw_ S dir).1:=by
 unfold zw_
 split
 ·exact h
 ·split
  ·exact vK_ h
  ·exact vw_ (vK_ h) (wN_ ((vK_ h) _).seen ((vK_ h) _).seenB)
theorem JT_ {S:DiskL} (ok:DkOk S): ∀ (l:NmL),(∀p,p∈l→p.2<S.files.length)→QY_ S l≤l.length*1048576
 | [],_=>Nat.zero_le _
 |p::l,h=>by
  have h1:=JT_ ok l fun q hq=>h q (List.mem_cons_of_mem _ hq)
  have h2:=(aal_ ok (h p List.mem_cons_self)).1
  unfold QY_ zm_ at*
  rw[List.map_cons,List.sum_cons,List.length_cons]
  omega
theorem anT_ {N:Nat} {S:DiskL} (ok:DkOk S) (h:DkN N S):JO_ S≤3* (N*1048576):=by
 have h0:=JT_ ok _ (ok.seenN 0 (by omega))
 have h1:=JT_ ok _ (ok.seenN 1 (by omega))
 have h2:=JT_ ok _ (ok.seenN 2 (by omega))
 have g0:=Nat.mul_le_mul_right 1048576 (h 0).seen
 have g1:=Nat.mul_le_mul_right 1048576 (h 1).seen
 have g2:=Nat.mul_le_mul_right 1048576 (h 2).seen
 unfold JO_
 omega
end Go.Proofs
end
section
open Go Go.Proofs Go.Sx Go.StP
namespace Go.Proofs
set_option maxRecDepth 10000
set_option maxHeartbeats 400000
set_option linter.unusedSimpArgs false
theorem mem_wipe {l:NmL} {s:List UInt8} {p:List UInt8×Nat}:p∈jY_ l s↔p∈l∧p.1≠s:=by
 unfold jY_
 rw[List.mem_filter]
 constructor
 ·rintro⟨h1,h2⟩
  exact⟨h1,fun e=>by rw[e] at h2;simp at h2⟩
 ·rintro⟨h1,h2⟩
  exact⟨h1,by simpa using Ne.symm h2⟩
theorem mem_put {l:NmL} {x p:List UInt8×Nat}:p∈JY_ l x↔p=x∨(p∈l∧p.1≠x.1):=by
 unfold JY_
 rw[(xg_ x _).mem_iff,List.mem_cons,mem_wipe]
theorem amF_ {l:NmL} {c:CallL} {p:List UInt8×Nat} (hok:okC l c) (h:p∈q9_ l c): (c.kind=0∧p=(c.a,c.n))∨(c.kind=1∧ ∃m,zo_ l c.a=some m∧p=(c.b,m))∨(p∈l∧p.1≠c.a∧(c.kind=1→p.1≠c.b)):=by
 unfold q9_ at h
 split at h
 ·rename_i hk
  rcases mem_put.1 h with rfl| ⟨h1,h2⟩
  ·exact .inl ⟨hk,rfl⟩
  ·exact .inr (.inr ⟨h1,h2,fun e=>by rw[hk] at e;cases e⟩)
 ·rename_i hk
  cases hm:zo_ l c.a with
  |none=>exact absurd hm (hok hk).1
  |some m=>
   rw[hm] at h
   rcases mem_put.1 h with rfl| ⟨h1,h2⟩
   ·exact .inr (.inl ⟨hk,m,rfl,rfl⟩)
   ·have h3:=mem_wipe.1 h1
    exact .inr (.inr ⟨h3.1,h3.2,fun _=>h2⟩)
 ·rename_i h0 h1
  have h3:=mem_wipe.1 h
  exact .inr (.inr ⟨h3.1,h3.2,fun e=>absurd e h1⟩)
def wl_ (S:DiskL):Prop:= ∀j k,j<3→k<3→ ∀p,p∈ (S.dir j).seen→ ∀q,q∈ (S.dir k).seen→p.2=q.2→j=k∧p=q
theorem jO_ {S S':DiskL} (h:wl_ S) (e: ∀k,k<3→(S'.dir k).seen=(S.dir k).seen):wl_ S':=fun j k hj hk p hp q hq=>by
 rw[e j hj] at hp
 rw[e k hk] at hq
 exact h j k hj hk p hp q hq
theorem kN_ (S:DiskL) (k j:Nat) (c:CallL): ((xb_ S k c).dir j).seen=if j=k then q9_ (S.dir k).seen c else(S.dir j).seen:=by
 unfold xb_
 by_cases e:j=k
 ·subst e;rw[qm_,if_pos rfl]
 ·rw[q6_ _ _ e,if_neg e]
theorem Qy_ {S:DiskL} {k j:Nat} {c:CallL} {p:List UInt8×Nat} (hok:okC (S.dir k).seen c) (h:p∈ ((xb_ S k c).dir j).seen):
  (p∈ (S.dir j).seen∧(j=k→p.1≠c.a∧(c.kind=1→p.1≠c.b)))∨(j=k∧c.kind=0∧p=(c.a,c.n))∨(j=k∧c.kind=1∧ ∃m,zo_ (S.dir k).seen c.a=some m∧p=(c.b,m)):=by
 rw[kN_] at h
 by_cases e:j=k
 ·rw[if_pos e] at h
  subst e
  rcases amF_ hok h with⟨h1,h2⟩ | ⟨h1,h2⟩ | ⟨h1,h2⟩
  ·exact .inr (.inl ⟨rfl,h1,h2⟩)
  ·exact .inr (.inr ⟨rfl,h1,h2⟩)
  ·exact .inl ⟨h1,fun _=>h2⟩
 ·rw[if_neg e] at h
  exact .inl ⟨h,fun e'=>absurd e' e⟩
theorem Zh_ {S:DiskL} (h:wl_ S) {k:Nat} {c:CallL} (hk:k<3) (hok:okC (S.dir k).seen c) (hn:c.kind=0→ ∀j,j<3→ ∀q,q∈ (S.dir j).seen→q.2≠c.n):wl_ (xb_ S k c):=by
 intro i j hi hj p hp q hq e
 rcases Qy_ hok hp with⟨p1,p2⟩ | ⟨rfl,p1,rfl⟩ | ⟨rfl,p1,m,pm,rfl⟩
 ·rcases Qy_ hok hq with⟨q1,q2⟩ | ⟨rfl,q1,rfl⟩ | ⟨rfl,q1,m,qm,rfl⟩
  ·exact h i j hi hj p p1 q q1 e
  ·exact absurd e (hn q1 i hi p p1)
  ·have h1:=h i j hi hj p p1 _ (qa_ qm) e
   exact absurd (by rw[h1.2]) (p2 h1.1).1
 ·rcases Qy_ hok hq with⟨q1,q2⟩ | ⟨rfl,q1,rfl⟩ | ⟨rfl,q1,m,qm,rfl⟩
  ·exact absurd e.symm (hn p1 j hj q q1)
  ·exact⟨rfl,rfl⟩
  ·rw[p1] at q1;cases q1
 ·rcases Qy_ hok hq with⟨q1,q2⟩ | ⟨rfl,q1,rfl⟩ | ⟨rfl,q1,m',qm,rfl⟩
  ·have h1:=h j i hj hi q q1 _ (qa_ pm) e.symm
   exact absurd (by rw[h1.2]) (q2 h1.1).1
  ·rw[p1] at q1;cases q1
  ·rw[pm] at qm;cases qm;exact⟨rfl,rfl⟩
def LtS (S:DiskL):Prop:= ∀k,k<3→ ∀p,p∈ (S.dir k).seen→p.2<S.files.length
theorem al7_ {S:DiskL} (h:wl_ S) (hl:LtS S) {k:Nat} (hk:k<3) (s:List UInt8) (f:FileL) {d:DirL} (hd:d.seen=JY_ (S.dir k).seen (s,S.files.length)):wl_ (qd_ (xU_ S f) k d)∧LtS (qd_ (xU_ S f) k d):=by
 have hm: ∀j p,p∈ ((qd_ (xU_ S f) k d).dir j).seen→p∈ (S.dir j).seen∨(j=k∧p=(s,S.files.length)):=fun j p hp=>by
  by_cases e:j=k
  ·subst e
   rw[qm_,hd] at hp
   rcases mem_put.1 hp with rfl|h1
   ·exact .inr ⟨rfl,rfl⟩
   ·exact .inl h1.1
  ·rw[q6_ _ _ e] at hp
   exact .inl hp
 constructor
 ·intro i j hi hj p hp q hq e
  rcases hm i p hp with p1| ⟨rfl,rfl⟩
  ·rcases hm j q hq with q1| ⟨rfl,rfl⟩
   ·exact h i j hi hj p p1 q q1 e
   ·have:=hl i hi p p1
    simp only at e
    omega
  ·rcases hm j q hq with q1| ⟨rfl,rfl⟩
   ·have:=hl j hj q q1
    simp only at e
    omega
   ·exact⟨rfl,rfl⟩
 ·intro j hj p hp
  show p.2< (S.files++ [f]).length
  rw[List.length_append,List.length_singleton]
  rcases hm j p hp with p1| ⟨-,rfl⟩
  ·have:=hl j hj p p1
   omega
  ·simp
theorem aeu_ {S:DiskL} (h:wl_ S∧LtS S) (f:FiL):wl_ (z2_ S f)∧LtS (z2_ S f):=by
 unfold z2_
 split
 ·rename_i k hk
  split
  ·exact al7_ h.1 h.2 (zE_ hk).1 _ _ rfl
  ·exact h
 ·exact h
theorem afb_ (l:List FiL): ∀ {S:DiskL},wl_ S∧LtS S→wl_ (l.foldl z2_ S)∧LtS (l.foldl z2_ S):=by
 induction l with
 |nil=>exact fun h=>h
 |cons f l ih=>exact fun h=>ih (aeu_ h f)
theorem ajW_ (S:DiskL) (k:Nat): ((setV S [0,1,2]).dir k).seen=(S.dir k).seen:=by
 rw[JW_]
 split
 ·rfl
 ·rfl
theorem ajZ_ (q:Int) (l:List FiL):wl_ (ofD q l):=
 jO_ (afb_ l (S:=QD_ q) ⟨fun _ _ _ _ p hp=>(by cases hp),fun _ _ p hp=>(by cases hp)⟩).1 fun k _=>ajW_ _ k
def avB_ (S:DiskL):Prop:= ∀k,k<3→ ∀p,p∈ (S.dir k).seen→qS_ p.1=true
end Go.Proofs
end
section
open Go Go.Proofs Go.Sx Go.StP
namespace Go.Proofs
set_option maxRecDepth 10000
set_option maxHeartbeats 400000
set_option linter.unusedSimpArgs false
def doV (S:DiskL) (kind:Int) (dir name s:List UInt8):DiskL×Nat:=
 if kind=0 then zR_ S dir name else if kind=1 then zS_ S dir name s else if kind=2 then xY_ S dir name else if kind=3 then zw_ S dir else if kind=4 then zQ_ S dir name s else if kind=5 then zO_ S dir name else(S,0)
inductive StepD (S:DiskL) (kind:Int) (dir name s:List UInt8):DiskL→Nat→Prop
 |same (e:Nat) (h:e≠0∨(kind≠2∧kind≠3)):StepD S kind dir name s S e
 |burn (h:kind≠2∧kind≠3∨(zp_ S).2≠0):StepD S kind dir name s (zp_ S).1 (zp_ S).2
 |create (k:Nat) (hk:zy_ dir=some k) (hf:qS_ name=true) (hn:zo_ (S.dir k).seen name=none) (hb: (zp_ S).2=0):StepD S kind dir name s (xb_ (xU_ (zp_ S).1 qO_) k ⟨0,name,[],S.files.length⟩) 0
 |append (k m:Nat) (hk:zy_ dir=some k) (hm:zo_ (S.dir k).seen name=some m) (hf:XU_ S m s=false) (hb: (zp_ S).2=0):StepD S kind dir name s (wg_ (zp_ S).1 m ⟨(zm_ S m).data++s,(zm_ S m).stl⟩) 0
 |sync (k m:Nat) (hk:zy_ dir=some k) (hm:zo_ (S.dir k).seen name=some m) (hb: (zp_ S).2=0):StepD S kind dir name s (wg_ (zp_ S).1 m ⟨(zm_ S m).data,(zm_ S m).data.length⟩) 0
 |syncDir (k:Nat) (hk:zy_ dir=some k) (hb: (zp_ S).2=0):StepD S kind dir name s (xy_ (zp_ S).1 k) 0
 |rename (k m:Nat) (h4:kind=4) (hk:zy_ dir=some k) (hm:zo_ (S.dir k).seen name=some m) (hf:qS_ s=true) (hne:name≠s) (hb: (zp_ S).2=0):StepD S kind dir name s (xb_ (zp_ S).1 k ⟨1,name,s,0⟩) 0
 |remove (k m:Nat) (hk:zy_ dir=some k) (hm:zo_ (S.dir k).seen name=some m) (hb: (zp_ S).2=0):StepD S kind dir name s (xb_ (zp_ S).1 k ⟨2,name,[],0⟩) 0
theorem WK_ {S:DiskL} {dir name:List UInt8} {m:Nat} (h:atD S dir name=some m): ∃k,zy_ dir=some k∧zo_ (S.dir k).seen name=some m:=by
 unfold atD at h
 cases hk:zy_ dir with
 |none=>rw[hk] at h;cases h
 |some k=>rw[hk] at h;exact⟨k,rfl,h⟩
theorem aoA_ {S:DiskL} {dir name:List UInt8} {k:Nat} (hk:zy_ dir=some k) (h:atD S dir name=none):zo_ (S.dir k).seen name=none:=by
 unfold atD at h
 rw[hk] at h;exact h
theorem Qf_ {S:DiskL} {dir:List UInt8} {names:List (List UInt8)} (h:qY_ S dir names=0): ∃k,zy_ dir=some k∧names.all qS_=true:=by
 obtain⟨h1,h2,-⟩:=ahf_ h
 cases hk:zy_ dir with
 |none=>exact absurd hk h1
 |some k=>exact⟨k,rfl,h2⟩
theorem kz_ (S:DiskL) (dir name s:List UInt8):StepD S 0 dir name s (zR_ S dir name).1 (zR_ S dir name).2:=by
 unfold zR_
 split
 ·exact .same _ (.inr ⟨by decide,by decide⟩)
 ·rename_i hf
  split
  ·exact .same _ (.inr ⟨by decide,by decide⟩)
  ·rename_i ha
   split
   ·exact .burn (.inl ⟨by decide,by decide⟩)
   ·rename_i hb
    obtain⟨k,hk,hn⟩:=Qf_ (S:=S) (dir:=dir) (names:= [name]) (by simpa using hf)
    rw[hk]
    exact .create k hk (by simpa using hn) (aoA_ hk ha) (by simpa using hb)
theorem ju_ (S:DiskL) (dir name s:List UInt8):StepD S 5 dir name s (zO_ S dir name).1 (zO_ S dir name).2:=by
 unfold zO_
 split
 ·exact .same _ (.inr ⟨by decide,by decide⟩)
 ·split
  ·exact .same _ (.inr ⟨by decide,by decide⟩)
  ·rename_i m ha
   split
   ·exact .burn (.inl ⟨by decide,by decide⟩)
   ·rename_i hb
    obtain⟨k,hk,hm⟩:=WK_ ha
    rw[hk]
    exact .remove k m hk hm (by simpa using hb)
theorem ko_ (S:DiskL) (dir name s:List UInt8):StepD S 4 dir name s (zQ_ S dir name s).1 (zQ_ S dir name s).2:=by
 unfold zQ_
 split
 ·exact .same _ (.inr ⟨by decide,by decide⟩)
 ·rename_i hf
  split
  ·exact .same _ (.inr ⟨by decide,by decide⟩)
  ·rename_i m ha
   split
   ·exact .burn (.inl ⟨by decide,by decide⟩)
   ·rename_i hne
    split
    ·exact .burn (.inl ⟨by decide,by decide⟩)
    ·rename_i hb
     obtain⟨k,hk,hm⟩:=WK_ ha
     obtain⟨-,-,hn⟩:=Qf_ (S:=S) (dir:=dir) (names:= [name,s]) (by simpa using hf)
     simp only[List.all_cons,List.all_nil,Bool.and_true,Bool.and_eq_true] at hn
     rw[hk]
     exact .rename k m rfl hk hm hn.2 hne (by simpa using hb)
theorem kr_ (S:DiskL) (dir name s:List UInt8):StepD S 1 dir name s (zS_ S dir name s).1 (zS_ S dir name s).2:=by
 unfold zS_
 split
 ·exact .same _ (.inr ⟨by decide,by decide⟩)
 ·split
  ·exact .same _ (.inr ⟨by decide,by decide⟩)
  ·rename_i m ha
   split
   ·exact .same _ (.inr ⟨by decide,by decide⟩)
   ·rename_i hfl
    split
    ·exact .burn (.inl ⟨by decide,by decide⟩)
    ·rename_i hb
     obtain⟨k,hk,hm⟩:=WK_ ha
     exact .append k m hk hm (by simpa using hfl) (by simpa using hb)
theorem wO_ (S:DiskL) (dir name s:List UInt8):StepD S 2 dir name s (xY_ S dir name).1 (xY_ S dir name).2:=by
 unfold xY_
 split
 ·rename_i hf
  exact .same _ (.inl hf)
 ·split
  ·exact .same _ (.inl (Nat.succ_ne_zero 5))
  ·rename_i m ha
   split
   ·rename_i hb
    exact .burn (.inr hb)
   ·rename_i hb
    obtain⟨k,hk,hm⟩:=WK_ ha
    exact .sync k m hk hm (by simpa using hb)
theorem wu_ (S:DiskL) (dir name s:List UInt8):StepD S 3 dir name s (zw_ S dir).1 (zw_ S dir).2:=by
 unfold zw_
 split
 ·rename_i hf
  exact .same _ (.inl hf)
 ·rename_i hf
  split
  ·rename_i hb
   exact .burn (.inr hb)
  ·rename_i hb
   obtain⟨k,hk,-⟩:=Qf_ (S:=S) (dir:=dir) (names:= []) (by simpa using hf)
   rw[hk]
   exact .syncDir k hk (by simpa using hb)
theorem aeL_ (S:DiskL) (kind:Int) (dir name s:List UInt8):StepD S kind dir name s (doV S kind dir name s).1 (doV S kind dir name s).2:=by
 unfold doV
 split
 ·rename_i h;subst h;exact kz_ S dir name s
 split
 ·rename_i h;subst h;exact kr_ S dir name s
 split
 ·rename_i h;subst h;exact wO_ S dir name s
 split
 ·rename_i h;subst h;exact wu_ S dir name s
 split
 ·rename_i h;subst h;exact ko_ S dir name s
 split
 ·rename_i h;subst h;exact ju_ S dir name s
 ·rename_i h0 h1 h2 h3 h4 h5
  exact .same 0 (.inr ⟨h2,h3⟩)
theorem aeR_ {l:NmL} {a b:List UInt8} {m:Nat} (h:zo_ l a=some m) (hne:a≠b):okC l ⟨1,a,b,0⟩:=fun _=>⟨by rw[h];simp,hne⟩
section
variable {S S':DiskL} {kind:Int} {dir name s:List UInt8} {e:Nat}
theorem xz_ (S:DiskL) (k j:Nat): ((xy_ S k).dir j).seen=(S.dir j).seen:=by
 unfold xy_
 by_cases e:j=k
 ·subst e;rw[qm_]
 ·rw[q6_ _ _ e]
theorem akH_ (ok:DkOk S) (hu:wl_ S) (h:StepD S kind dir name s S' e):wl_ S':=by
 obtain⟨hb1,hb2,-⟩:=zU_ S
 have hbu:wl_ (zp_ S).1:=jO_ hu fun k _=>by rw[hb1]
 cases h with
 |same=>exact hu
 |burn=>exact hbu
 |create k hk hf hn hb=>
  refine Zh_ (jO_ hbu fun _ _=>rfl) (zE_ hk).1 (fun e=>by cases e) (fun _ j hj q hq=> ?_)
  have hq':q∈ (S.dir j).seen:=by rw[←hb1];exact hq
  have:=ok.seenN j hj q hq'
  show q.2≠S.files.length
  omega
 |append k m hk hm hf hb=>exact jO_ hbu fun _ _=>rfl
 |sync k m hk hm hb=>exact jO_ hbu fun _ _=>rfl
 |syncDir k hk hb=>exact jO_ hbu fun j _=>xz_ _ _ _
 |rename k m h4 hk hm hf hne hb=>exact Zh_ hbu (zE_ hk).1 (by rw[hb1];exact aeR_ hm hne) (fun e=>by cases e)
 |remove k m hk hm hb=>exact Zh_ hbu (zE_ hk).1 (fun e=>by cases e) (fun e=>by cases e)
theorem xS_ (hu:jA_ S) (h:StepD S kind dir name s S' e):jA_ S':=by
 obtain⟨hb1,hb2,-⟩:=zU_ S
 have hbu:=ws_ hu
 cases h with
 |same=>exact hu
 |burn=>exact hbu
 |create k hk hf hn hb=>exact Ze_ (xI_ hbu rfl) (fun e=>by cases e)
 |append k m hk hm hf hb=>exact xI_ hbu rfl
 |sync k m hk hm hb=>exact xI_ hbu rfl
 |syncDir k hk hb=>exact v8_ hbu (vm_ _)
 |rename k m h4 hk hm hf hne hb=>exact Ze_ hbu (by rw[hb1];exact aeR_ hm hne)
 |remove k m hk hm hb=>exact Ze_ hbu (fun e=>by cases e)
theorem afI_ {N:Nat} (hu:DkN N S) (hn:name.length≤1000000) (hs:s.length≤1000000) (h:StepD S kind dir name s S' e):DkN (N+1) S':=by
 have hbu:=vK_ hu
 cases h with
 |same=>exact wr_ hu
 |burn=>exact wr_ hbu
 |create k hk hf hn' hb=>exact Qx_ (kI_ hbu rfl) ⟨hn,Nat.zero_le _⟩
 |append k m hk hm hf hb=>exact wr_ (kI_ hbu rfl)
 |sync k m hk hm hb=>exact wr_ (kI_ hbu rfl)
 |syncDir k hk hb=>exact wr_ (vw_ hbu (wN_ (hbu k).seen (hbu k).seenB))
 |rename k m h4 hk hm hf hne hb=>exact Qx_ hbu ⟨hn,hs⟩
 |remove k m hk hm hb=>exact Qx_ hbu ⟨hn,Nat.zero_le _⟩
end
end Go.Proofs
end
section
open Go Go.Proofs Go.Sx Go.StP
namespace Go.Proofs
set_option maxRecDepth 10000
set_option maxHeartbeats 400000
set_option linter.unusedSimpArgs false
theorem xQ_ (S:DiskL) {m:Nat} (f:FileL) (hm:m<S.files.length) (n:Nat):zm_ (wg_ S m f) n=if n=m then f else zm_ S n:=by
 unfold zm_ wg_
 simp only
 rw[List.getD_eq_getElem?_getD,List.getD_eq_getElem?_getD]
 by_cases e:n=m
 ·subst e;rw[if_pos rfl,List.getElem?_set_self hm];rfl
 ·rw[if_neg e,List.getElem?_set_ne (Ne.symm e)]
theorem act_ (S:DiskL) (f:FileL) {n:Nat} (hn:n<S.files.length):zm_ (xU_ S f) n=zm_ S n:=by
 unfold zm_ xU_
 exact Q9_ _ _ hn
theorem abU_ (S:DiskL) (f:FileL):zm_ (xU_ S f) S.files.length=f:=by
 unfold zm_ xU_
 exact ZD_ _ _ rfl
theorem qc_ (S:DiskL) (n:Nat):zm_ (zp_ S).1 n=zm_ S n:=by
 unfold zm_
 rw[(zU_ S).2.1]
section
variable {S S':DiskL} {kind:Int} {dir name s:List UInt8} {e:Nat}
end
end Go.Proofs
end
section
open Go Go.Proofs Go.Sx Go.StP
namespace Go.Proofs
set_option maxRecDepth 10000
set_option maxHeartbeats 400000
set_option linter.unusedSimpArgs false
theorem Jo_ (q:DiskL×List UInt16): ∀k,(z6_ q k).1.files=q.1.files
 |0=>rfl
 |k+1=>Jo_ q k
theorem acO_ (q:DiskL×List UInt16) {j:Nat}: ∀ {k:Nat},j<k→ ∃i,i≤ (q.1.dir j).pend.length∧(z6_ q k).1.dir j=⟨jF_ q.1 j i,jF_ q.1 j i,[]⟩
 |k+1,h=>by
  show∃i,i≤_∧(qd_ (z6_ q k).1 k _).dir j=_
  by_cases e:j=k
  ·subst e
   rw[qm_]
   have hd:=QF_ q (Nat.le_refl j)
   refine⟨vu_ (z6_ q j).2 ((z6_ q j).1.dir j).pend.length, ?_, ?_⟩
   ·rw[hd];exact W6_ _ _
   ·unfold jF_
    rw[hd]
  ·rw[q6_ _ _ e]
   exact acO_ q (by omega)
theorem wx_ (S:DiskL) (pl:List UInt16) {k:Nat} (hk:k<3): ∃i,i≤ (S.dir k).pend.length∧(z0_ S pl).dir k=⟨jF_ S k i,jF_ S k i,[]⟩:=by
 obtain⟨i,h1,h2⟩:=acO_ (S,pl) hk
 exact⟨i,h1,by unfold z0_;rw[ki_];exact h2⟩
theorem ajA_ (S:DiskL) (pl:List UInt16): (z0_ S pl).off=false:=by
 unfold z0_
 rw[QI_];rfl
def BegF (f g:FileL):Prop:=(∃t,g.data=f.data.take t)∧(f.stl=f.data.length→g.data=f.data∧g.stl=g.data.length)
theorem BegF.refl (f:FileL):BegF f f:=⟨⟨f.data.length,(List.take_length).symm⟩,fun h=>⟨rfl,h⟩⟩
theorem BegF.trans {f g h:FileL} (h1:BegF f g) (h2:BegF g h):BegF f h:=by
 obtain⟨⟨t,ht⟩,a⟩:=h1
 obtain⟨⟨u,hu⟩,b⟩:=h2
 refine⟨⟨min u t,by rw[hu,ht,List.take_take]⟩,fun e=> ?_⟩
 obtain⟨a1,a2⟩:=a e
 obtain⟨b1,b2⟩:=b a2
 exact⟨b1.trans a1,b2⟩
theorem ajR_ (S:DiskL) {n:Nat} (h:S.files.length≤n):zm_ S n=qO_:=by
 unfold zm_
 rw[List.getD_eq_getElem?_getD,List.getElem?_eq_none h];rfl
theorem abE_ (S:DiskL) {m:Nat} (h:S.files.length≤m) (f:FileL):wg_ S m f=S:=by
 unfold wg_
 rw[List.set_eq_of_length_le h]
theorem agN_ (q:DiskL×List UInt16) (p:List UInt8×Nat) (n:Nat):BegF (zm_ q.1 n) (zm_ (jh_ q p).1 n):=by
 unfold jh_
 simp only
 by_cases hm:p.2<q.1.files.length
 ·rw[xQ_ _ _ hm]
  by_cases e:n=p.2
  ·subst e
   rw[if_pos rfl]
   refine⟨⟨_,rfl⟩,fun h=> ?_⟩
   have h1: (zm_ q.1 p.2).data.take ((zm_ q.1 p.2).stl+vu_ q.2 ((zm_ q.1 p.2).data.length - (zm_ q.1 p.2).stl))=(zm_ q.1 p.2).data:=List.take_of_length_le (by rw[←h];omega)
   exact⟨h1,rfl⟩
  ·rw[if_neg e];exact BegF.refl _
 ·rw[abE_ _ (by omega)];exact BegF.refl _
theorem Wq_ (q:DiskL×List UInt16) (p:List UInt8×Nat) (n:Nat) (h:n=p.2∨(zm_ q.1 n).stl=(zm_ q.1 n).data.length): (zm_ (jh_ q p).1 n).stl=(zm_ (jh_ q p).1 n).data.length:=by
 unfold jh_
 simp only
 by_cases hm:p.2<q.1.files.length
 ·rw[xQ_ _ _ hm]
  by_cases e:n=p.2
  ·rw[if_pos e]
  ·rw[if_neg e];exact h.resolve_left e
 ·rw[abE_ _ (by omega)]
  rcases h with h|h
  ·rw[ajR_ _ (by omega)];rfl
  ·exact h
theorem VS_ (n:Nat): ∀ (l:NmL) (q:DiskL×List UInt16),BegF (zm_ q.1 n) (zm_ (l.foldl jh_ q).1 n)∧(n∈l.map Prod.snd∨(zm_ q.1 n).stl=(zm_ q.1 n).data.length→(zm_ (l.foldl jh_ q).1 n).stl=(zm_ (l.foldl jh_ q).1 n).data.length)
 | [],q=>⟨BegF.refl _,fun h=>h.resolve_left (by simp)⟩
 |p::l,q=>by
  obtain⟨h1,h2⟩:=VS_ n l (jh_ q p)
  refine⟨(agN_ q p n).trans h1,fun h=>h2 ?_⟩
  rcases h with h|h
  ·rw[List.map_cons] at h
   rcases List.mem_cons.1 h with h|h
   ·exact .inr (Wq_ q p n (.inl h))
   ·exact .inl h
  ·exact .inr (Wq_ q p n (.inr h))
theorem VW_ (n:Nat) (q:DiskL×List UInt16): ∀k,BegF (zm_ q.1 n) (zm_ (qR_ q k).1 n)∧((∃j,j<k∧n∈ (q.1.dir j).seen.map Prod.snd)∨(zm_ q.1 n).stl=(zm_ q.1 n).data.length→(zm_ (qR_ q k).1 n).stl=(zm_ (qR_ q k).1 n).data.length)
 |0=>⟨BegF.refl _,fun h=>h.resolve_left (by rintro⟨j,hj,-⟩;omega)⟩
 |k+1=>by
  obtain⟨h1,h2⟩:=VW_ n q k
  obtain⟨g1,g2⟩:=VS_ n (q.1.dir k).seen (qR_ q k)
  refine⟨h1.trans g1,fun h=>g2 ?_⟩
  rcases h with⟨j,hj,hm⟩ |h
  ·by_cases e:j=k
   ·subst e;exact .inl hm
   ·exact .inr (h2 (.inl ⟨j,by omega,hm⟩))
  ·exact .inr (h2 (.inr h))
theorem Kb_ (S:DiskL) (pl:List UInt16) (n:Nat):BegF (zm_ S n) (zm_ (z0_ S pl) n):=by
 have h:=(VW_ n (Qq_ (z6_ (S,pl) 3).1,(z6_ (S,pl) 3).2) 3).1
 have e:zm_ (Qq_ (z6_ (S,pl) 3).1) n=zm_ S n:=by
  unfold zm_ Qq_
  rw[Jo_]
 rw[←e];exact h
def NumD (d:DirL) (n:Nat):Prop:=(∃p,p∈d.stl∧p.2=n)∨ ∃c,c∈d.pend∧c.kind=0∧c.n=n
def avE_ (S:DiskL):Prop:= ∀j k,j<3→k<3→ ∀n,NumD (S.dir j) n→NumD (S.dir k) n→j=k
def HadS (S:DiskL) (had:List FiL):Prop:= ∀k,k<3→ ∀n,NumD (S.dir k) n→ ∃f,f∈had∧f.dir=qP_ k∧f.data=(zm_ S n).data
def xd_ (S:DiskL):Prop:=S.off=false∧S.fused=false
theorem ks_ {S:DiskL} (h:xd_ S):zp_ S=(S,0):=by
 unfold zp_
 rw[if_neg (by rw[h.2];simp),if_neg (by rw[h.2];simp)]
section
variable {S S':DiskL} {kind:Int} {dir name s:List UInt8} {e:Nat}
theorem kn_ (hc:xd_ S) (h:StepD S kind dir name s S' e):xd_ S':=by
 have hb:=ks_ hc
 have hb':xd_ (zp_ S).1:=by rw[hb];exact hc
 cases h<;>first|exact hc|exact hb'
end
theorem aqV_ (q:Int) (l:List FiL) {k:Nat} (hk:k<3): ((ofD q l).dir k).stl=((ofD q l).dir k).seen∧((ofD q l).dir k).pend= []:=by
 unfold ofD
 rw[JW_,if_pos (by simp;omega)]
 exact⟨rfl,rfl⟩
theorem adI_ {S:DiskL} (h:xd_ S) (f:FiL):xd_ (z2_ S f)∧(z2_ S f).max=S.max:=by
 unfold z2_
 split
 ·split
  ·exact⟨h,rfl⟩
  ·exact⟨h,rfl⟩
 ·exact⟨h,rfl⟩
theorem Xk_: ∀ (l:List FiL) {S:DiskL},xd_ S→xd_ (l.foldl z2_ S)∧(l.foldl z2_ S).max=S.max
 | [],_,h=>⟨h,rfl⟩
 |f::l,S,h=>by
  obtain⟨h1,h2⟩:=adI_ h f
  obtain⟨h3,h4⟩:=Xk_ l h1
  exact⟨h3,h4.trans h2⟩
theorem aj8_ (q:Int) (l:List FiL):xd_ (ofD q l)∧(ofD q l).max=q:=Xk_ l (S:=QD_ q) ⟨rfl,rfl⟩
end Go.Proofs
end
section
open Go Go.Proofs Go.Sx Go.StP
namespace Go.Proofs
set_option maxRecDepth 10000
set_option maxHeartbeats 400000
set_option linter.unusedSimpArgs false
structure KeepS (S:DiskL) (k:Nat) (nm:List UInt8) (n:Nat) (data:List UInt8):Prop where
 lt:n<S.files.length
 data: (zm_ S n).data=data
 stl: (zm_ S n).stl=(zm_ S n).data.length
 at_:zo_ (S.dir k).stl nm=some n
 pend: ∀c,c∈ (S.dir k).pend→c.a≠nm∧(c.kind=1→c.b≠nm)
theorem abc_ {x:List UInt8×Nat} {s:List UInt8} (hx:x.1≠s): ∀l:NmL,zo_ (insN l x) s=zo_ l s
 | []=>by
  have: (s==x.1)=false:=beq_eq_false_iff_ne.2 (Ne.symm hx)
  unfold insN zo_
  rw[List.find?_cons,this]
 |p::l=>by
  have e: (s==x.1)=false:=beq_eq_false_iff_ne.2 (Ne.symm hx)
  have ih:=abc_ hx l
  unfold insN
  split
  ·unfold zo_
   rw[List.find?_cons,e]
  ·unfold zo_ at ih ⊢
   rw[List.find?_cons,List.find?_cons]
   split
   ·rfl
   ·exact ih
theorem ZV_ {a s:List UInt8} (ha:a≠s): ∀l:NmL,zo_ (jY_ l a) s=zo_ l s
 | []=>rfl
 |p::l=>by
  have ih:=ZV_ ha l
  unfold jY_ at ih ⊢
  rw[List.filter_cons]
  by_cases e:a=p.1
  ·have e1: (s==p.1)=false:=beq_eq_false_iff_ne.2 (fun h=>ha (by rw[e,h]))
   rw[if_neg (by rw[e];simp),ih]
   unfold zo_
   rw[List.find?_cons,e1]
  ·rw[if_pos (by simpa using e)]
   unfold zo_ at ih ⊢
   rw[List.find?_cons,List.find?_cons]
   split
   ·rfl
   ·exact ih
theorem aaA_ {x:List UInt8×Nat} {s:List UInt8} (hx:x.1≠s) (l:NmL):zo_ (JY_ l x) s=zo_ l s:=by
 unfold JY_
 rw[abc_ hx,ZV_ hx]
theorem aaU_ {l:NmL} {c:CallL} {s:List UInt8} (h:c.a≠s∧(c.kind=1→c.b≠s)):zo_ (q9_ l c) s=zo_ l s:=by
 unfold q9_
 split
 ·exact aaA_ h.1 l
 ·rename_i hk
  rw[aaA_ (h.2 hk),ZV_ h.1]
 ·exact ZV_ h.1 l
theorem vl_ {s:List UInt8}: ∀ (cs:List CallL) (l:NmL),(∀c,c∈cs→c.a≠s∧(c.kind=1→c.b≠s))→zo_ (cs.foldl q9_ l) s=zo_ l s
 | [],_,_=>rfl
 |c::cs,l,h=>by
  rw[List.foldl_cons,vl_ cs _ fun d hd=>h d (List.mem_cons_of_mem _ hd),aaU_ (h c List.mem_cons_self)]
section
variable {S S':DiskL} {kind:Int} {dir name s:List UInt8} {e k n:Nat} {nm data:List UInt8}
theorem KeepS.seen (h:KeepS S k nm n data) (hh:jA_ S):zo_ (S.dir k).seen nm=some n:=by
 rw[← (hh k).1,vl_ _ _ h.pend,h.at_]
end
end Go.Proofs
end
section
open Go Go.Proofs Go.Sx Go.StP
namespace Go.Proofs
set_option maxRecDepth 10000
set_option maxHeartbeats 400000
set_option linter.unusedSimpArgs false
structure PkL where
 v:Value
 l:List UInt16
 h:Value.oneCell' v=true∧v.cells= #[v]
def pk0:PkL:=⟨.slice none 0 0,[],rfl,rfl⟩
structure ActL where
 kind:Int
 n:Int
 dir:List UInt8
 name:List UInt8
 s:List UInt8
 picks:PkL
def acC (r:ActL):List Value:= [vi r.kind]++ ([vi r.n]++ ([vs r.dir]++ ([vs r.name]++ ([vs r.s]++ ([r.picks.v])))))
def ac0:ActL:=⟨0,0,[],[],[],pk0⟩
theorem Xm_ (r:ActL): (acC r).length=6:=by simp[acC]
theorem Zp_ (r:ActL):Value.cells (.agg (acC r).toArray)=(acC r).toArray:=zg_ _
theorem aoK_ (r:ActL): (acC r).all Value.oneCell'=true:=by
 unfold acC
 simp only[List.all_append,List.all_cons,List.all_nil,ZU_,Bool.and_true,Bool.true_and]
 rw[r.picks.h.1];rfl
theorem zrAc:zX_ Tryz.prog 31=some (.agg (acC ac0).toArray):=id (by kernel_rfl)
theorem aqS_ (r:ActL):acC r=([]:List Value)++ (([vi r.kind])++ ([vi r.n]++ ([vs r.dir]++ ([vs r.name]++ ([vs r.s]++ ([r.picks.v])))))):=by
 unfold acC;simp only[List.append_assoc,List.nil_append,List.append_nil]
theorem Zc_ (r:ActL) (n:Nat) (E:TypeId) (fz:Nat×Nat):zl_ (some (false,n)) (some (.cells (acC r).toArray E fz)) 0=some (vi r.kind):=by
 rw[aqS_];exact z1_ _ _ _ n E fz (by simp)
theorem aqZ_ (r:ActL):acC r=(([vi r.kind]))++ (([vi r.n])++ ([vs r.dir]++ ([vs r.name]++ ([vs r.s]++ ([r.picks.v]))))):=by
 unfold acC;simp only[List.append_assoc,List.nil_append,List.append_nil]
theorem Wy_ (r:ActL) (n:Nat) (E:TypeId) (fz:Nat×Nat):zl_ (some (false,n)) (some (.cells (acC r).toArray E fz)) 1=some (vi r.n):=by
 rw[aqZ_];exact z1_ _ _ _ n E fz (by simp)
theorem arb_ (r:ActL):acC r=(([vi r.kind])++ ([vi r.n]))++ (([vs r.dir])++ ([vs r.name]++ ([vs r.s]++ ([r.picks.v])))):=by
 unfold acC;simp only[List.append_assoc,List.nil_append,List.append_nil]
theorem Xh_ (r:ActL) (n:Nat) (E:TypeId) (fz:Nat×Nat):zl_ (some (false,n)) (some (.cells (acC r).toArray E fz)) 2=some (vs r.dir):=by
 rw[arb_];exact z1_ _ _ _ n E fz (by simp)
theorem arW_ (r:ActL):acC r=(([vi r.kind])++ ([vi r.n])++ ([vs r.dir]))++ (([vs r.name])++ ([vs r.s]++ ([r.picks.v]))):=by
 unfold acC;simp only[List.append_assoc,List.nil_append,List.append_nil]
theorem J8_ (r:ActL) (n:Nat) (E:TypeId) (fz:Nat×Nat):zl_ (some (false,n)) (some (.cells (acC r).toArray E fz)) 3=some (vs r.name):=by
 rw[arW_];exact z1_ _ _ _ n E fz (by simp)
theorem aqW_ (r:ActL):acC r=(([vi r.kind])++ ([vi r.n])++ ([vs r.dir])++ ([vs r.name]))++ (([vs r.s])++ ([r.picks.v])):=by
 unfold acC;simp only[List.append_assoc,List.nil_append,List.append_nil]
theorem J0_ (r:ActL) (n:Nat) (E:TypeId) (fz:Nat×Nat):zl_ (some (false,n)) (some (.cells (acC r).toArray E fz)) 4=some (vs r.s):=by
 rw[aqW_];exact z1_ _ _ _ n E fz (by simp)
theorem arN_ (r:ActL):acC r=(([vi r.kind])++ ([vi r.n])++ ([vs r.dir])++ ([vs r.name])++ ([vs r.s]))++ (([r.picks.v])++ (([]:List Value))):=by
 unfold acC;simp only[List.append_assoc,List.nil_append,List.append_nil]
theorem afW_ (r:ActL) (n:Nat) (E:TypeId) (fz:Nat×Nat):zl_ (some (false,n)) (some (.cells (acC r).toArray E fz)) 5=some (r.picks.v):=by
 rw[arN_];exact z1_ _ _ _ n E fz (by simp)
theorem QG_ (r:ActL) (E:TypeId) (fz:Nat×Nat):zl_ (some (true,6)) (some (.cells (acC r).toArray E fz)) 0=some (.agg (acC r).toArray):=xk_ _ E fz 6 (by rw[List.size_toArray,Xm_])
theorem ams_ (old:Array Value) (r:ActL) (a:Bool) (E:TypeId) (h:old.size=6):zr_ (some (a,6)) (some (.cells old E (0,0))) 0 (.agg (acC r).toArray)=some (.cells (acC r).toArray E (0,0)):=j0_ _ a old E (Xm_ r) (aoK_ r) h
theorem XG_ (r r':ActL) (a:Bool) (E:TypeId):zr_ (some (a,6)) (some (.cells (acC r').toArray E (0,0))) 0 (.agg (acC r).toArray)=some (.cells (acC r).toArray E (0,0)):=ams_ _ r a E (by rw[List.size_toArray,Xm_])
theorem ars_ {w:World} {v:Value} {l:List ActL} {b off:Nat} {arr:Array Value} {E:TypeId} {fz:Nat×Nat} (h:RowS 6 acC ac0 w v l b off arr E fz) {k:Nat} (hk:k<l.length):zl_ (some (true,6)) (some (.cells arr E fz)) (off+k*6)=some (.agg (acC (l.getD k ac0)).toArray):=RowS.load h Xm_ (by omega) hk
abbrev AcSl (w:World) (v:Value) (l:List ActL):Prop:=SlV 6 acC ac0 w v l
structure ActOk (w:World) (a:ActL):Prop where
 pk:PkS w a.picks.v a.picks.l
 n: -9223372036854775808≤a.n∧a.n<9223372036854775808
def atE_ (a:ActL):Bool:=decide (200<a.name.length) ||decide (2000<a.s.length) ||decide (50<a.dir.length) ||decide (100<a.picks.l.length)
def doA (S:DiskL) (a:ActL):DiskL×Nat:=
 if a.kind.tmod 9=6 then({S with fuse:=a.n,fused:=decide (0≤a.n)},0) else if a.kind.tmod 9=7 then(z0_ S a.picks.l,0) else if a.kind.tmod 9=8 then({S with max:=a.n},0) else doV S (a.kind.tmod 9) a.dir a.name a.s
theorem PkS.blk {w:World} {v:Value} {l:List UInt16} (h:PkS w v l) (hl:l≠ []) {b:Nat} (hb:slB v=some b):b<w.heap.size:=by
 obtain⟨b',off,c,arr,E,fz,hr,hc,⟨rfl,rfl,rfl⟩ | ⟨rfl,hh,-⟩⟩:=h.resolve_right fun e=>hl e.1
 ·exact absurd rfl hl
 ·cases hb
  exact(Array.getElem?_eq_some_iff.1 hh).1
set_option linter.defProp false
def avM_:=And.intro (And.intro (And.intro (@zd_) (@zc_)) (And.intro (@QG_) (And.intro (@Zc_) (@Wy_)))) (And.intro (And.intro (@Xh_) (@J8_)) (And.intro (@J0_) (And.intro (@afW_) (@Zp_))))
structure DkA (X:za_) (G:DkG) (S:DiskL) (N:Nat):Prop where
 P:DkP X G S
 H:jA_ S
 B:DkN N S
theorem DkA.pend {X:za_} {G:DkG} {S:DiskL} {N:Nat} (h:DkA X G S N) (hN:N<1000000): ∀k,k<3→(S.dir k).pend.length<1000000:=fun k _=>by
 have:=(h.B k).stl
 omega
theorem DkA.used {X:za_} {G:DkG} {S:DiskL} {N:Nat} (h:DkA X G S N) (hN:N<1000000):JO_ S<4611686018427387904:=by
 have:=anT_ h.P.ok h.B
 omega
theorem DkA.mono {X X':za_} {G:DkG} {S:DiskL} {N:Nat} (h:DkA X G S N) (hk: ∀b o,Sx.look X b=some o→Sx.look X' b=some o):DkA X' G S N:=⟨h.P.mono hk,h.H,h.B⟩
theorem DkA.b {X:za_} {G:DkG} {S:DiskL} {N:Nat} (h:DkA X G S N) (hN:N<1000000):DkB S:=h.B.b (by omega)
theorem xB_ {S:DiskL} (h:jA_ S) (a:ActL):jA_ (doA S a).1:=by
 unfold doA
 split
 ·exact xI_ h rfl
 split
 ·exact QO_ h _
 split
 ·exact xI_ h rfl
 ·exact xS_ h (aeL_ S _ _ _ _)
theorem k5_ {S:DiskL} {N:Nat} (h:DkN N S) {a:ActL} (hn:a.name.length≤1000000) (hs:a.s.length≤1000000):DkN (N+1) (doA S a).1:=by
 unfold doA
 split
 ·exact wr_ (kI_ h rfl)
 split
 ·exact wr_ (Xt_ h _)
 split
 ·exact wr_ (kI_ h rfl)
 ·exact afI_ h hn hs (aeL_ S _ _ _ _)
end Go.Proofs
end
section
open Go Go.Proofs Go.Sx Go.StP
namespace Go.Proofs
set_option maxRecDepth 10000
set_option maxHeartbeats 400000
set_option linter.unusedSimpArgs false
set_option linter.defProp false
def zY_:=And.intro (And.intro (And.intro (@zd_) (@zc_)) (And.intro (@QG_) (And.intro (@Zc_) (@Wy_)))) (And.intro (And.intro (@Xh_) (@J8_)) (And.intro (@J0_) (And.intro (@afW_) (@Zp_))))
theorem anK_ {w:World} {X D:za_} {b:Nat} {o:Obj} (h:Ext w X D) (hb:w.heap.size≤b):Ext w X ((b,o)::D):=
 ⟨fun c hc=>by
  rcases List.mem_cons.1 hc with rfl|hc
  ·exact .inr hb
  ·exact h.new c hc,fun c hc=>List.mem_cons_of_mem _ (h.all c hc)⟩
theorem rem9 (a:Int):zn_ .rem (vi a) (vi 9)=some (vi (a.tmod 9)):=by
 unfold vi zn_
 rfl
theorem ahW_ (X:za_) (G:DkG) (S:DiskL) (N:Nat) (a:ActL) (w:World) (hX: ∀p,p∈X→w.heap[p.1]? =some p.2) (hn: (keys X).Nodup) (hA:DkA X G S N) (hN:N<900000) (hGl:Qk_ w) (hgx:0∉keys X) (ha:ActOk w a) (g1:a.name.length≤200) (g2:a.s.length≤2000) (g7:a.kind.tmod 9=7→a.picks.l.length≤100) (hpx:PkB w X a.picks.l a.picks.v):
  Rets Tryz.prog 18 #[vp G.bd 0, .agg (acC a).toArray] w (XS w X (fun v D=>v=vi ((doA S a).2:Nat)∧ ∃G',G'.bd=G.bd∧DkA D G' (doA S a).1 (N+1))):=by
 have hpd:=hA.pend (by omega)
 have hus:=hA.used (by omega)
 refine Rets.enterX Tryz.func18 rfl (rs:= [.tmp 4]) Tryz.results18 Tryz.ntmps18 hX hn ?_
 refine kf ?_
 first|with_reducible refine ks [1] @zY_ ?_|refine kp @zY_ ?_
 refine Ow.box rfl rfl fun b3 hb3 hw3=> ?_
 simp only[qB_,qA_,qJ_,zg_,List.nil_append,List.cons_append]
 refine Ow.permL (M:=(b3, .cells (acC a).toArray 31 (0,0))::X) (by classical exact List.perm_iff_count.2 fun a=>by simp only[List.count_append,List.count_cons,List.count_nil]<;>omega) ?_
 refine ko @zY_ ?_
 have hP1:DkP ((b3, .cells (acC a).toArray 31 (0,0))::X) G S:=hA.P.mono fun b o h=>Wr_ hb3 h
 have hE1:Ext w X ((b3, .cells (acC a).toArray 31 (0,0))::X):=anK_ (Ext.refl w X) hw3
 have hl3: ∀Y:za_,zz_ w ((b3, .cells (acC a).toArray 31 (0,0))::Y) b3=some (.cells (acC a).toArray 31 (0,0)):=fun Y=>zb_ (by simp[Sx.look])
 have rdh:=hl3 X
 have hpx1:PkB w ((b3, .cells (acC a).toArray 31 (0,0))::X) a.picks.l a.picks.v:=fun h b hb=>⟨(hpx h b hb).1,fun hm=>by
  rcases List.mem_cons.1 hm with hm|hm
  ·have:=(hpx h b hb).1
   simp only at hm
   omega
  ·exact(hpx h b hb).2 hm⟩
 have hgx1:0∉keys ((b3, .cells (acC a).toArray 31 (0,0))::X):=fun hm=>by
  obtain⟨e,fz,hgl⟩:=hGl
  have hlt:=(Array.getElem?_eq_some_iff.1 hgl).1
  rcases List.mem_cons.1 hm with hm|hm
  ·omega
  ·exact hgx hm
 have hrem:=rem9 a.kind
 generalize hL1: ((b3,Obj.cells (acC a).toArray 31 (0,0))::X)=L1 at*
 by_cases k0:a.kind.tmod 9=0
 ·have e0: (a.kind.tmod 9==0)=true:=beq_iff_eq.2 k0
  have hd:doA S a=zR_ S a.dir a.name:=by unfold doA doV;simp[k0]
  first|with_reducible refine ks [] (And.intro @zY_ (And.intro @rdh (And.intro @hrem (@e0)))) ?_|refine kp (And.intro @zY_ (And.intro @rdh (And.intro @hrem (@e0)))) ?_
  refine Ow.callX (X:=L1) (Y:= []) (List.append_nil _).symm rfl rfl Tryz.call72 (fun w' hw' hX' hn'=>Jx_ L1 G S a.dir a.name w' hX' hn' hP1 (by omega) hpd) (fun v4 D4 hC4 hS4=> ?_)
  obtain⟨rfl,G',hbd,hP'⟩:=hS4
  rw[List.append_nil]
  refine ko @zY_ ?_
  first|with_reducible refine ks [] @zY_ ?_|refine kp @zY_ ?_
  refine⟨_,(ke @zY_), ?_⟩
  exact⟨hE1.came0 hC4,by rw[hd];rfl,G',hbd,by rw[hd];exact hP',xB_ hA.H a,k5_ hA.B (a:=a) (by omega) (by omega)⟩
 have e0: (a.kind.tmod 9==0)=false:=beq_eq_false_iff_ne.2 k0
 by_cases k1:a.kind.tmod 9=1
 ·have e1: (a.kind.tmod 9==1)=true:=beq_iff_eq.2 k1
  have hd:doA S a=zS_ S a.dir a.name a.s:=by unfold doA doV;simp[k1]
  first|with_reducible refine ks [] (And.intro @zY_ (And.intro @rdh (And.intro @hrem (And.intro @e0 (@e1))))) ?_|refine kp (And.intro @zY_ (And.intro @rdh (And.intro @hrem (And.intro @e0 (@e1))))) ?_
  refine Ow.callX (X:=L1) (Y:= []) (List.append_nil _).symm rfl rfl Tryz.call73 (fun w' hw' hX' hn'=>Jq_ L1 G S a.dir a.name a.s w' hX' hn' hP1 (by omega) (by omega) hus) (fun v4 D4 hC4 hS4=> ?_)
  obtain⟨rfl,hP'⟩:=hS4
  have hbd:G.bd=G.bd:=rfl
  rw[List.append_nil]
  refine ko @zY_ ?_
  first|with_reducible refine ks [] @zY_ ?_|refine kp @zY_ ?_
  refine⟨_,(ke @zY_), ?_⟩
  exact⟨hE1.came0 hC4,by rw[hd];rfl,G,rfl,by rw[hd];exact hP',xB_ hA.H a,k5_ hA.B (a:=a) (by omega) (by omega)⟩
 have e1: (a.kind.tmod 9==1)=false:=beq_eq_false_iff_ne.2 k1
 by_cases k2:a.kind.tmod 9=2
 ·have e2: (a.kind.tmod 9==2)=true:=beq_iff_eq.2 k2
  have hd:doA S a=xY_ S a.dir a.name:=by unfold doA doV;simp[k2]
  first|with_reducible refine ks [] (And.intro @zY_ (And.intro @rdh (And.intro @hrem (And.intro @e0 (And.intro @e1 (@e2)))))) ?_|refine kp (And.intro @zY_ (And.intro @rdh (And.intro @hrem (And.intro @e0 (And.intro @e1 (@e2)))))) ?_
  refine Ow.callX (X:=L1) (Y:= []) (List.append_nil _).symm rfl rfl Tryz.call20 (fun w' hw' hX' hn'=>VR_ L1 G S a.dir a.name w' hX' hn' hP1 (by omega)) (fun v4 D4 hC4 hS4=> ?_)
  obtain⟨rfl,hP'⟩:=hS4
  have hbd:G.bd=G.bd:=rfl
  rw[List.append_nil]
  refine ko @zY_ ?_
  first|with_reducible refine ks [] @zY_ ?_|refine kp @zY_ ?_
  refine⟨_,(ke @zY_), ?_⟩
  exact⟨hE1.came0 hC4,by rw[hd];rfl,G,rfl,by rw[hd];exact hP',xB_ hA.H a,k5_ hA.B (a:=a) (by omega) (by omega)⟩
 have e2: (a.kind.tmod 9==2)=false:=beq_eq_false_iff_ne.2 k2
 by_cases k3:a.kind.tmod 9=3
 ·have e3: (a.kind.tmod 9==3)=true:=beq_iff_eq.2 k3
  have hd:doA S a=zw_ S a.dir:=by unfold doA doV;simp[k3]
  first|with_reducible refine ks [] (And.intro @zY_ (And.intro @rdh (And.intro @hrem (And.intro @e0 (And.intro @e1 (And.intro @e2 (@e3))))))) ?_|refine kp (And.intro @zY_ (And.intro @rdh (And.intro @hrem (And.intro @e0 (And.intro @e1 (And.intro @e2 (@e3))))))) ?_
  refine Ow.callX (X:=L1) (Y:= []) (List.append_nil _).symm rfl rfl Tryz.call21 (fun w' hw' hX' hn'=>vM_ L1 G S a.dir w' hX' hn' hP1) (fun v4 D4 hC4 hS4=> ?_)
  obtain⟨rfl,G',hbd,hP'⟩:=hS4
  rw[List.append_nil]
  refine ko @zY_ ?_
  first|with_reducible refine ks [] @zY_ ?_|refine kp @zY_ ?_
  refine⟨_,(ke @zY_), ?_⟩
  exact⟨hE1.came0 hC4,by rw[hd];rfl,G',hbd,by rw[hd];exact hP',xB_ hA.H a,k5_ hA.B (a:=a) (by omega) (by omega)⟩
 have e3: (a.kind.tmod 9==3)=false:=beq_eq_false_iff_ne.2 k3
 by_cases k4:a.kind.tmod 9=4
 ·have e4: (a.kind.tmod 9==4)=true:=beq_iff_eq.2 k4
  have hd:doA S a=zQ_ S a.dir a.name a.s:=by unfold doA doV;simp[k4]
  first|with_reducible refine ks [] (And.intro @zY_ (And.intro @rdh (And.intro @hrem (And.intro @e0 (And.intro @e1 (And.intro @e2 (And.intro @e3 (@e4)))))))) ?_|refine kp (And.intro @zY_ (And.intro @rdh (And.intro @hrem (And.intro @e0 (And.intro @e1 (And.intro @e2 (And.intro @e3 (@e4)))))))) ?_
  refine Ow.callX (X:=L1) (Y:= []) (List.append_nil _).symm rfl rfl Tryz.call76 (fun w' hw' hX' hn'=>JD_ L1 G S a.dir a.name a.s w' hX' hn' hP1 (by omega) (by omega) hpd) (fun v4 D4 hC4 hS4=> ?_)
  obtain⟨rfl,G',hbd,hP'⟩:=hS4
  rw[List.append_nil]
  refine ko @zY_ ?_
  first|with_reducible refine ks [] @zY_ ?_|refine kp @zY_ ?_
  refine⟨_,(ke @zY_), ?_⟩
  exact⟨hE1.came0 hC4,by rw[hd];rfl,G',hbd,by rw[hd];exact hP',xB_ hA.H a,k5_ hA.B (a:=a) (by omega) (by omega)⟩
 have e4: (a.kind.tmod 9==4)=false:=beq_eq_false_iff_ne.2 k4
 by_cases k5:a.kind.tmod 9=5
 ·have e5: (a.kind.tmod 9==5)=true:=beq_iff_eq.2 k5
  have hd:doA S a=zO_ S a.dir a.name:=by unfold doA doV;simp[k5]
  first|with_reducible refine ks [] (And.intro @zY_ (And.intro @rdh (And.intro @hrem (And.intro @e0 (And.intro @e1 (And.intro @e2 (And.intro @e3 (And.intro @e4 (@e5))))))))) ?_|refine kp (And.intro @zY_ (And.intro @rdh (And.intro @hrem (And.intro @e0 (And.intro @e1 (And.intro @e2 (And.intro @e3 (And.intro @e4 (@e5))))))))) ?_
  refine Ow.callX (X:=L1) (Y:= []) (List.append_nil _).symm rfl rfl Tryz.call77 (fun w' hw' hX' hn'=>kZ_ L1 G S a.dir a.name w' hX' hn' hP1 (by omega) hpd) (fun v4 D4 hC4 hS4=> ?_)
  obtain⟨rfl,G',hbd,hP'⟩:=hS4
  rw[List.append_nil]
  refine ko @zY_ ?_
  first|with_reducible refine ks [] @zY_ ?_|refine kp @zY_ ?_
  refine⟨_,(ke @zY_), ?_⟩
  exact⟨hE1.came0 hC4,by rw[hd];rfl,G',hbd,by rw[hd];exact hP',xB_ hA.H a,k5_ hA.B (a:=a) (by omega) (by omega)⟩
 have e5: (a.kind.tmod 9==5)=false:=beq_eq_false_iff_ne.2 k5
 by_cases k6:a.kind.tmod 9=6
 ·have e6: (a.kind.tmod 9==6)=true:=beq_iff_eq.2 k6
  have hd:doA S a=({S with fuse:=a.n,fused:=decide (0≤a.n)},0):=by unfold doA doV;simp[k6]
  first|with_reducible refine ks [] (And.intro @zY_ (And.intro @rdh (And.intro @hrem (And.intro @e0 (And.intro @e1 (And.intro @e2 (And.intro @e3 (And.intro @e4 (And.intro @e5 (@e6)))))))))) ?_|refine kp (And.intro @zY_ (And.intro @rdh (And.intro @hrem (And.intro @e0 (And.intro @e1 (And.intro @e2 (And.intro @e3 (And.intro @e4 (And.intro @e5 (@e6)))))))))) ?_
  refine Ow.callX (X:=L1) (Y:= []) (List.append_nil _).symm rfl rfl Tryz.call37 (fun w' hw' hX' hn'=>QK_ L1 G S a.n w' hX' hn' hP1 ha.n) (fun v4 D4 hC4 hS4=> ?_)
  obtain⟨-,G',hbd,hP'⟩:=hS4
  rw[List.append_nil]
  refine ko @zY_ ?_
  first|with_reducible refine ks [] @zY_ ?_|refine kp @zY_ ?_
  refine⟨_,(ke @zY_), ?_⟩
  exact⟨hE1.came0 hC4,by rw[hd];rfl,G',hbd,by rw[hd];exact hP',xB_ hA.H a,k5_ hA.B (a:=a) (by omega) (by omega)⟩
 have e6: (a.kind.tmod 9==6)=false:=beq_eq_false_iff_ne.2 k6
 by_cases k7:a.kind.tmod 9=7
 ·have e7: (a.kind.tmod 9==7)=true:=beq_iff_eq.2 k7
  have hd:doA S a=(z0_ S a.picks.l,0):=by unfold doA doV;simp[k7]
  first|with_reducible refine ks [] (And.intro @zY_ (And.intro @rdh (And.intro @hrem (And.intro @e0 (And.intro @e1 (And.intro @e2 (And.intro @e3 (And.intro @e4 (And.intro @e5 (And.intro @e6 (@e7))))))))))) ?_|refine kp (And.intro @zY_ (And.intro @rdh (And.intro @hrem (And.intro @e0 (And.intro @e1 (And.intro @e2 (And.intro @e3 (And.intro @e4 (And.intro @e5 (And.intro @e6 (@e7))))))))))) ?_
  obtain⟨eg,fg,hgl⟩:=hGl
  have g4:=g7 k7
  refine Ow.callX (X:=L1) (Y:= []) (List.append_nil _).symm rfl rfl Tryz.call22 (fun w' hw' hX' hn'=>ZB_ L1 G S a.picks.v a.picks.l w' hX' hn' hP1 ⟨_,_,(hw'.old _ (Array.getElem?_eq_some_iff.1 hgl).1 hgx1).trans hgl⟩ hgx1 ((vk_ (q:=(S,a.picks.l)) hA.B 3).b (by omega)) (ha.pk.old hw' fun h b hb=>(hpx1 h b hb).2) (fun h b hb=>⟨Nat.lt_of_lt_of_le (hpx1 h b hb).1 hw'.size,(hpx1 h b hb).2⟩) (by omega) (fun k hk=>⟨(hA.H k).2,hpd k hk⟩)) (fun v4 D4 hC4 hS4=> ?_)
  obtain⟨G',hbd,hP'⟩:=hS4
  rw[List.append_nil]
  refine ko @zY_ ?_
  first|with_reducible refine ks [] @zY_ ?_|refine kp @zY_ ?_
  refine⟨_,(ke @zY_), ?_⟩
  exact⟨hE1.came0 hC4,by rw[hd];rfl,G',hbd,by rw[hd];exact hP',xB_ hA.H a,k5_ hA.B (a:=a) (by omega) (by omega)⟩
 have e7: (a.kind.tmod 9==7)=false:=beq_eq_false_iff_ne.2 k7
 by_cases k8:a.kind.tmod 9=8
 ·have e8: (a.kind.tmod 9==8)=true:=beq_iff_eq.2 k8
  have hd:doA S a=({S with max:=a.n},0):=by unfold doA doV;simp[k8]
  first|with_reducible refine ks [] (And.intro @zY_ (And.intro @rdh (And.intro @hrem (And.intro @e0 (And.intro @e1 (And.intro @e2 (And.intro @e3 (And.intro @e4 (And.intro @e5 (And.intro @e6 (And.intro @e7 (@e8)))))))))))) ?_|refine kp (And.intro @zY_ (And.intro @rdh (And.intro @hrem (And.intro @e0 (And.intro @e1 (And.intro @e2 (And.intro @e3 (And.intro @e4 (And.intro @e5 (And.intro @e6 (And.intro @e7 (@e8)))))))))))) ?_
  refine Ow.callX (X:=L1) (Y:= []) (List.append_nil _).symm rfl rfl Tryz.call78 (fun w' hw' hX' hn'=>adh_ L1 G S a.n w' hX' hn' hP1 ha.n) (fun v4 D4 hC4 hS4=> ?_)
  obtain⟨-,G',hbd,hP'⟩:=hS4
  rw[List.append_nil]
  refine ko @zY_ ?_
  first|with_reducible refine ks [] @zY_ ?_|refine kp @zY_ ?_
  refine⟨_,(ke @zY_), ?_⟩
  exact⟨hE1.came0 hC4,by rw[hd];rfl,G',hbd,by rw[hd];exact hP',xB_ hA.H a,k5_ hA.B (a:=a) (by omega) (by omega)⟩
 have e8: (a.kind.tmod 9==8)=false:=beq_eq_false_iff_ne.2 k8
 have hd:doA S a=(S,0):=by unfold doA doV;simp[k0,k1,k2,k3,k4,k5,k6,k7,k8]
 first|with_reducible refine ks [] (And.intro @zY_ (And.intro @rdh (And.intro @hrem (And.intro @e0 (And.intro @e1 (And.intro @e2 (And.intro @e3 (And.intro @e4 (And.intro @e5 (And.intro @e6 (And.intro @e7 (@e8)))))))))))) ?_|refine kp (And.intro @zY_ (And.intro @rdh (And.intro @hrem (And.intro @e0 (And.intro @e1 (And.intro @e2 (And.intro @e3 (And.intro @e4 (And.intro @e5 (And.intro @e6 (And.intro @e7 (@e8)))))))))))) ?_
 refine⟨_,(ke @zY_), ?_⟩
 exact⟨hE1,by rw[hd];rfl,G,rfl,by rw[hd];exact hP1,xB_ hA.H a,k5_ hA.B (a:=a) (by omega) (by omega)⟩
end Go.Proofs
end
section
open Go Go.Proofs Go.Sx Go.StP
namespace Go.Proofs
set_option maxRecDepth 10000
set_option maxHeartbeats 400000
set_option linter.unusedSimpArgs false
def al0:DiskL:=QD_ 100
def al1:DiskL:=(zR_ al0 ql_ [97]).1
def al2:DiskL:=(zS_ al1 ql_ [97] [120,121,122]).1
def al3:DiskL:=(xY_ al2 ql_ [97]).1
def al4:DiskL:=(zw_ al3 ql_).1
def al5:DiskL:=(zS_ al4 ql_ [97] [117,118]).1
def al6:DiskL:=z0_ al5 [0,0,0,1]
theorem Xf_ {w:World} {L:za_} (hg:Qk_ w) (hn:New w.heap.size L):0∉keys L:=by
 obtain⟨e,fz,hgl⟩:=hg
 exact hn.not (Array.getElem?_eq_some_iff.1 hgl).1
theorem zI_ {w w':World} {L:za_} (hg:Qk_ w) (h:Hp w L w') (hn:New w.heap.size L):Qk_ w':=by
 have hno:=Xf_ hg hn
 obtain⟨e,fz,hgl⟩:=hg
 exact⟨e,fz,(h.old _ (Array.getElem?_eq_some_iff.1 hgl).1 hno).trans hgl⟩
set_option linter.defProp false
def aul_:=And.intro (And.intro (@zd_) (@zc_)) (And.intro (@Sx.tup2_0) (@Sx.tup2_1))
end Go.Proofs
end
section
open Go Go.Proofs Go.Sx Go.StP
namespace Go.Proofs
set_option maxRecDepth 10000
set_option maxHeartbeats 400000
set_option linter.unusedSimpArgs false
def zK_ (S:DiskL) (j:Nat) (x:List UInt8):Option (List UInt8):=(zo_ (S.dir j).seen x).map fun n=>(zm_ S n).data
structure GoodS (S:DiskL):Prop where
 srt: ∀k,k<3→SrtN (S.dir k).seen
 lt:LtS S
 uniq:wl_ S
theorem DkOk.good {S:DiskL} (ok:DkOk S) (hu:wl_ S):GoodS S:=⟨ok.seen,ok.seenN,hu⟩
theorem Xn_ {l:NmL} (q:List UInt8→Bool) (s:List UInt8):zo_ (l.filter fun p=>q p.1) s=if q s=true then zo_ l s else none:=by
 induction l with
 |nil=>unfold zo_;simp
 |cons p l ih=>
  rw[List.filter_cons]
  by_cases hq:q p.1=true
  ·rw[if_pos hq]
   unfold zo_ at ih ⊢
   rw[List.find?_cons,List.find?_cons]
   cases he:s==p.1 with
   |true=>
    have e:s=p.1:=eq_of_beq he
    rw[e,if_pos hq]
   |false=>exact ih
  ·rw[if_neg hq,ih]
   by_cases hs:q s=true
   ·rw[if_pos hs,if_pos hs]
    have he: (s==p.1)=false:=beq_eq_false_iff_ne.2 fun e=>hq (by rw[←e];exact hs)
    unfold zo_
    rw[List.find?_cons,he]
   ·rw[if_neg hs,if_neg hs]
theorem kT_ {p:List UInt8×Nat} {l:NmL} {s:List UInt8} (h:s≠p.1):zo_ (p::l) s=zo_ l s:=by
 unfold zo_
 rw[List.find?_cons,beq_eq_false_iff_ne.2 h]
theorem j7_ (p:List UInt8×Nat) (l:NmL):zo_ (p::l) p.1=some p.2:=by
 unfold zo_
 rw[List.find?_cons,beq_self_eq_true];rfl
theorem aat_ {l:NmL} {s:List UInt8} (h: ∀p,p∈l→ltB s p.1=true):zo_ l s=none:=by
 cases hf:zo_ l s with
 |none=>rfl
 |some n=>
  have:=h _ (qa_ hf)
  rw[Zu_] at this;cases this
theorem aiV_ {α:Type} {g g':Nat→α}: ∀ {l l':NmL},SrtN l→SrtN l'→(∀s,(zo_ l s).map g=(zo_ l' s).map g')→l.map (fun p=>(p.1,g p.2))=l'.map (fun p=>(p.1,g' p.2))
 | [],[],_,_,_=>rfl
 | [],p::l',_,_,h=>by
  have:=h p.1
  rw[j7_] at this;cases this
 |p::l,[],_,_,h=>by
  have:=h p.1
  rw[j7_] at this;cases this
 |p::l,p'::l',hs,hs',h=>by
  unfold SrtN at hs hs'
  rw[List.pairwise_cons] at hs hs'
  have e:p.1=p'.1:=by
   by_cases e:p.1=p'.1
   ·exact e
   ·cases hl:ltB p.1 p'.1 with
    |true=>
     have h1:=h p.1
     rw[j7_,kT_ e,aat_ fun q hq=>wy_ hl (hs'.1 q hq)] at h1
     cases h1
    |false=>
     have hl':ltB p'.1 p.1=true:=Qg_ hl e
     have h1:=h p'.1
     rw[j7_,kT_ (Ne.symm e),aat_ fun q hq=>wy_ hl' (hs.1 q hq)] at h1
     cases h1
  have h1:=h p.1
  rw[j7_] at h1
  rw[e,j7_] at h1
  rw[List.map_cons,List.map_cons,aiV_ hs.2 hs'.2 fun s=> ?_,e,Option.some.inj h1]
  by_cases es:s=p.1
  ·rw[es,aat_ hs.1,e,aat_ hs'.1];rfl
  ·have:=h s
   rw[kT_ es,kT_ (by rw[←e];exact es)] at this
   exact this
def zJ_ (s:List UInt8):List UInt8:=s++ [46,116,109,112]
theorem Wi_ (s:List UInt8):zJ_ s≠s:=fun h=>by
 have:=congrArg List.length h
 unfold zJ_ at this
 simp at this
def Qw_ (dir nm:List UInt8) (f:FiL):Bool:= !(f.dir==dir) || (!(f.name==nm)&& !(f.name==zJ_ nm))
def JN_ (dir nm:List UInt8) (l:List FiL):List FiL:=l.filter (Qw_ dir nm)
def OthN (dir nm:List UInt8) (j:Nat) (x:List UInt8):Prop:=qP_ j=dir→x≠nm∧x≠zJ_ nm
theorem aa8_ {S S':DiskL} (ho:S'.off=S.off) (hs: ∀k,k<3→SrtN (S.dir k).seen) (hs': ∀k,k<3→SrtN (S'.dir k).seen) (dir nm:List UInt8) (h: ∀j,j<3→ ∀x,OthN dir nm j x→zK_ S' j x=zK_ S j x):JN_ dir nm (jc_ S')=JN_ dir nm (jc_ S):=by
 have hk: ∀k,k≤3→(x3_ S' k).filter (Qw_ dir nm)=(x3_ S k).filter (Qw_ dir nm):=fun k=>by
  induction k with
  |zero=>exact fun _=>rfl
  |succ k ih=>
   intro hk3
   show(x3_ S' k++qU_ S' k).filter _=(x3_ S k++qU_ S k).filter _
   rw[List.filter_append,List.filter_append,ih (by omega)]
   congr 1
   unfold qU_
   rw[ho]
   cases S.off with
   |true=>rfl
   |false=>
    simp only[Bool.false_eq_true, ↓reduceIte]
    have hm: ∀T:DiskL,((T.dir k).seen.map fun p=>(⟨qP_ k,p.1,(T.files.getD p.2 qO_).data⟩:FiL)).filter (Qw_ dir nm)=(((T.dir k).seen.filter fun p=>Qw_ dir nm ⟨qP_ k,p.1,[]⟩).map fun p=>(p.1,(zm_ T p.2).data)).map fun q=>(⟨qP_ k,q.1,q.2⟩:FiL):=fun T=>by
     rw[List.filter_map,List.map_map]
     rfl
    rw[hm S',hm S]
    congr 1
    refine aiV_ (g:=fun n=>(zm_ S' n).data) (g':=fun n=>(zm_ S n).data) (l:=(S'.dir k).seen.filter fun p=>Qw_ dir nm ⟨qP_ k,p.1,[]⟩) (l':=(S.dir k).seen.filter fun p=>Qw_ dir nm ⟨qP_ k,p.1,[]⟩) (List.Pairwise.filter _ (hs' k (by omega))) (List.Pairwise.filter _ (hs k (by omega))) fun s=> ?_
    have f1:=Xn_ (l:=(S'.dir k).seen) (fun x=>Qw_ dir nm ⟨qP_ k,x,[]⟩) s
    have f2:=Xn_ (l:=(S.dir k).seen) (fun x=>Qw_ dir nm ⟨qP_ k,x,[]⟩) s
    rw[f1,f2]
    by_cases hq:Qw_ dir nm ⟨qP_ k,s,[]⟩=true
    ·rw[if_pos hq,if_pos hq]
     refine h k (by omega) s fun e=> ?_
     unfold Qw_ at hq
     rw[e] at hq
     simpa using hq
    ·rw[if_neg hq,if_neg hq];rfl
 exact hk 3 (Nat.le_refl _)
section
variable {S S':DiskL} {kind:Int} {dir name s:List UInt8} {e:Nat}
theorem xr_ (hg:GoodS S) (h:StepD S kind dir name s S' e):GoodS S':=by
 obtain⟨hb1,hb2,-⟩:=zU_ S
 have hbg:GoodS (zp_ S).1:=⟨fun k hk=>by rw[hb1];exact hg.srt k hk,fun k hk p hp=>by rw[hb1] at hp;rw[hb2];exact hg.lt k hk p hp,jO_ hg.uniq fun k _=>by rw[hb1]⟩
 have turn: ∀ {T:DiskL} {k:Nat} {c:CallL},GoodS T→k<3→okC (T.dir k).seen c→(c.kind=0→c.n<T.files.length∧ ∀j,j<3→ ∀q,q∈ (T.dir j).seen→q.2≠c.n)→GoodS (xb_ T k c):=fun{T k c} hT hk hok hn=>
  ⟨fun j hj=>by
   rw[kN_]
   split
   ·exact aah_ c (hT.srt k hk)
   ·exact hT.srt j hj,fun j hj p hp=>by
   show p.2<T.files.length
   rcases Qy_ hok hp with⟨p1,-⟩ | ⟨rfl,p1,rfl⟩ | ⟨rfl,p1,m,pm,rfl⟩
   ·exact hT.lt j hj p p1
   ·exact(hn p1).1
   ·exact hT.lt j hk (c.a,m) (qa_ pm),Zh_ hT.uniq hk hok fun h0=>(hn h0).2⟩
 have set: ∀ {T:DiskL} (m:Nat) (f:FileL),GoodS T→GoodS (wg_ T m f):=fun{T} m f hT=>⟨hT.srt,fun k hk p hp=>by show p.2< (T.files.set m f).length;rw[List.length_set];exact hT.lt k hk p hp,jO_ hT.uniq fun _ _=>rfl⟩
 cases h with
 |same=>exact hg
 |burn=>exact hbg
 |create k hk hf hn hb=>
  refine turn (T:=xU_ (zp_ S).1 qO_) ⟨hbg.srt,fun j hj p hp=> ?_,jO_ hbg.uniq fun _ _=>rfl⟩ (zE_ hk).1 (fun e=>by cases e) fun _=>⟨?_,fun j hj q hq=> ?_⟩
  ·have:=hbg.lt j hj p hp
   show p.2< ((zp_ S).1.files++ [qO_]).length
   rw[List.length_append];omega
  ·show S.files.length< ((zp_ S).1.files++ [qO_]).length
   rw[hb2,List.length_append];simp
  ·have:=hbg.lt j hj q hq
   rw[hb2] at this
   show q.2≠S.files.length
   omega
 |append k m hk hm hf hb=>exact set m _ hbg
 |sync k m hk hm hb=>exact set m _ hbg
 |syncDir k hk hb=>exact⟨fun j hj=>by rw[xz_];exact hbg.srt j hj,fun j hj p hp=>by rw[xz_] at hp;exact hbg.lt j hj p hp,jO_ hbg.uniq fun j _=>xz_ _ _ _⟩
 |rename k m h4 hk hm hf hne hb=>exact turn hbg (zE_ hk).1 (by rw[hb1];exact aeR_ hm hne) fun e=>by cases e
 |remove k m hk hm hb=>exact turn hbg (zE_ hk).1 (fun e=>by cases e) fun e=>by cases e
theorem wv_ {S S':DiskL} {j:Nat} {x:List UInt8} (h1:zo_ (S'.dir j).seen x=zo_ (S.dir j).seen x) (h2: ∀n,zo_ (S.dir j).seen x=some n→(zm_ S' n).data=(zm_ S n).data):zK_ S' j x=zK_ S j x:=by
 unfold zK_
 rw[h1]
 cases hf:zo_ (S.dir j).seen x with
 |none=>rfl
 |some n=>exact congrArg some (h2 n hf)
theorem acx_ (hg:GoodS S) (h:StepD S kind dir name s S' e) {j:Nat} (hj:j<3) {x:List UInt8} (hx:qP_ j=dir→x≠name∧(kind=4→x≠s)):zK_ S' j x=zK_ S j x:=by
 obtain⟨hb1,hb2,-⟩:=zU_ S
 have hd: ∀ {k},zy_ dir=some k→j=k→x≠name∧(kind=4→x≠s):=fun hk e=>hx (by rw[e];exact(zE_ hk).2.symm)
 have turn: ∀ {T:DiskL} {k:Nat} {c:CallL},(∀n,n<S.files.length→zm_ T n=zm_ S n)→T.dir=S.dir→(j=k→c.a≠x∧(c.kind=1→c.b≠x))→zK_ (xb_ T k c) j x=zK_ S j x:=fun{T k c} hf hT hc=>
  wv_ (by
   rw[kN_]
   by_cases e:j=k
   ·rw[if_pos e,aaU_ (hc e),hT,e]
   ·rw[if_neg e,hT]) fun n hn=>by
   show(zm_ T n).data=_
   rw[hf n (hg.lt j hj _ (qa_ hn))]
 have set: ∀ {k m:Nat} (f:FileL),zy_ dir=some k→zo_ (S.dir k).seen name=some m→zK_ (wg_ (zp_ S).1 m f) j x=zK_ S j x:=fun{k m} f hk hm=>
  wv_ (by show zo_ ((zp_ S).1.dir j).seen x=_;rw[hb1]) fun n hn=>by
   have hml:m< (zp_ S).1.files.length:=by rw[hb2];exact hg.lt k (zE_ hk).1 _ (qa_ hm)
   rw[xQ_ _ _ hml,qc_]
   by_cases e:n=m
   ·subst e
    have h1:=hg.uniq j k hj (zE_ hk).1 _ (qa_ hn) _ (qa_ hm) rfl
    exact absurd (congrArg Prod.fst h1.2) (hd hk h1.1).1
   ·rw[if_neg e]
 cases h with
 |same=>rfl
 |burn=>exact wv_ (by rw[hb1]) fun n _=>by rw[qc_]
 |create k hk hf hn hb=>exact turn (fun n hn=>by rw[act_ _ _ (by rw[hb2];exact hn),qc_]) hb1 fun e=>⟨Ne.symm (hd hk e).1,fun h=>by cases h⟩
 |append k m hk hm hf hb=>exact set _ hk hm
 |sync k m hk hm hb=>exact set _ hk hm
 |syncDir k hk hb=>exact wv_ (by rw[xz_,hb1]) fun n _=>by show(zm_ (zp_ S).1 n).data=_;rw[qc_]
 |rename k m h4 hk hm hf hne hb=>exact turn (fun n _=>qc_ S n) hb1 fun e=>⟨Ne.symm (hd hk e).1,fun _=>Ne.symm ((hd hk e).2 h4)⟩
 |remove k m hk hm hb=>exact turn (fun n _=>qc_ S n) hb1 fun e=>⟨Ne.symm (hd hk e).1,fun h=>by cases h⟩
end
end Go.Proofs
end
section
open Go Go.Proofs Go.Sx Go.StP
namespace Go.Proofs
set_option maxRecDepth 10000
set_option maxHeartbeats 400000
set_option linter.unusedSimpArgs false
structure TkL where
 dir:List UInt8
 name:List UInt8
 data:List UInt8
 light:Bool
 next:Nat
 made:Bool
 ended:Bool
structure PhR where
 did:Bool
 e:Nat
 t:TkL
 S:DiskL
def wU_ (t:TkL) (S:DiskL):PhR:=if(jP_ S t.dir (zJ_ t.name)).2≠0 then⟨false,0,t,S⟩ else⟨true,(zO_ S t.dir (zJ_ t.name)).2,t,(zO_ S t.dir (zJ_ t.name)).1⟩
def XX_ (t:TkL) (S:DiskL):PhR:=⟨true,(zR_ S t.dir (zJ_ t.name)).2,{t with made:=(zR_ S t.dir (zJ_ t.name)).2==0},(zR_ S t.dir (zJ_ t.name)).1⟩
def ae7_ (t:TkL) (S:DiskL):PhR:=⟨true,(zS_ S t.dir (zJ_ t.name) t.data).2,t,(zS_ S t.dir (zJ_ t.name) t.data).1⟩
def akN_ (t:TkL) (S:DiskL):PhR:=if t.light=true then⟨false,0,t,S⟩ else⟨true,(xY_ S t.dir (zJ_ t.name)).2,t,(xY_ S t.dir (zJ_ t.name)).1⟩
def adZ_ (t:TkL) (S:DiskL):PhR:=⟨true,(zQ_ S t.dir (zJ_ t.name) t.name).2,{t with made:=t.made&& (zQ_ S t.dir (zJ_ t.name) t.name).2 !=0},(zQ_ S t.dir (zJ_ t.name) t.name).1⟩
def Ku_ (t:TkL) (S:DiskL):PhR:=if t.light=true then⟨false,0,t,S⟩ else⟨true,(zw_ S t.dir).2,t,(zw_ S t.dir).1⟩
def phT (k:Nat) (t:TkL) (S:DiskL):PhR:=match k with
 |0=>wU_ t S
 |1=>XX_ t S
 |2=>ae7_ t S
 |3=>akN_ t S
 |4=>adZ_ t S
 |_=>Ku_ t S
structure StR where
 done:Bool
 e:Nat
 t:TkL
 S:DiskL
def nxT (r:PhR):TkL:={r.t with next:=r.t.next+1}
def Wl_ (t:TkL):Bool:=t.next==6|| (t.light&&t.next==5)
def qi_ (r:PhR):StR:=if(nxT r).made=true∧r.e≠9 then⟨false,r.e,{nxT r with ended:=true},(zO_ r.S r.t.dir (zJ_ r.t.name)).1⟩ else⟨false,r.e,{nxT r with ended:=true},r.S⟩
def kd_ (r:PhR):TkL:={nxT r with ended:=Wl_ (nxT r)}
def xn_:Nat→TkL→DiskL→StR
 |0,t,S=>⟨false,0,t,S⟩
 |f+1,t,S=>
  if(phT t.next t S).e≠0 then qi_ (phT t.next t S)
  else if(phT t.next t S).did=false∧Wl_ (nxT (phT t.next t S))=false then xn_ f (kd_ (phT t.next t S)) (phT t.next t S).S
  else⟨Wl_ (nxT (phT t.next t S)),0,kd_ (phT t.next t S),(phT t.next t S).S⟩
def xv_ (t:TkL) (S:DiskL):StR:=if t.ended=true then⟨false,15,t,S⟩ else xn_ (6 - t.next) t S
def runG:Nat→TkL→DiskL→Nat×TkL×DiskL
 |0,t,S=>(0,t,S)
 |f+1,t,S=>if(xv_ t S).done=true∨(xv_ t S).e≠0 then((xv_ t S).e,(xv_ t S).t,(xv_ t S).S) else runG f (xv_ t S).t (xv_ t S).S
def phG:Nat→TkL→DiskL→Nat×DiskL
 |0,_,S=>(0,S)
 |f+1,t,S=>
  if(phT t.next t S).e≠0 then((qi_ (phT t.next t S)).e,(qi_ (phT t.next t S)).S)
  else if Wl_ (nxT (phT t.next t S))=true then(0,(phT t.next t S).S)
  else phG f (kd_ (phT t.next t S)) (phT t.next t S).S
theorem asK_ (f:Nat) (t:TkL) (S:DiskL):phG (f+1) t S=(if(phT t.next t S).e≠0 then((qi_ (phT t.next t S)).e,(qi_ (phT t.next t S)).S)
  else if Wl_ (nxT (phT t.next t S))=true then(0,(phT t.next t S).S)
  else phG f (kd_ (phT t.next t S)) (phT t.next t S).S):=rfl
theorem ajT_ (k:Nat) (t:TkL) (S:DiskL): (phT k t S).t.dir=t.dir∧(phT k t S).t.name=t.name∧(phT k t S).t.data=t.data∧(phT k t S).t.light=t.light∧(phT k t S).t.next=t.next∧(phT k t S).t.ended=t.ended:=by
 unfold phT
 split
 ·unfold wU_;split<;>exact⟨rfl,rfl,rfl,rfl,rfl,rfl⟩
 ·exact⟨rfl,rfl,rfl,rfl,rfl,rfl⟩
 ·exact⟨rfl,rfl,rfl,rfl,rfl,rfl⟩
 ·unfold akN_;split<;>exact⟨rfl,rfl,rfl,rfl,rfl,rfl⟩
 ·exact⟨rfl,rfl,rfl,rfl,rfl,rfl⟩
 ·unfold Ku_;split<;>exact⟨rfl,rfl,rfl,rfl,rfl,rfl⟩
theorem adt_ (k:Nat) (t:TkL) (S:DiskL): (kd_ (phT k t S)).dir=t.dir∧(kd_ (phT k t S)).name=t.name∧(kd_ (phT k t S)).data=t.data∧(kd_ (phT k t S)).light=t.light∧(kd_ (phT k t S)).next=t.next+1:=by
 obtain⟨h1,h2,h3,h4,h5,-⟩:=ajT_ k t S
 exact⟨h1,h2,h3,h4,congrArg (· +1) h5⟩
theorem vI_ (r:PhR): (qi_ r).e=r.e∧(qi_ r).done=false:=by
 unfold qi_
 split<;>exact⟨rfl,rfl⟩
theorem aez_: ∀ (f:Nat) (t:TkL) (S:DiskL),f+t.next=6→0<f→
  ((xn_ f t S).e≠0∧phG f t S=((xn_ f t S).e,(xn_ f t S).S))∨
  ((xn_ f t S).e=0∧(xn_ f t S).done=true∧phG f t S=(0,(xn_ f t S).S))∨
  ((xn_ f t S).e=0∧(xn_ f t S).done=false∧(xn_ f t S).t.ended=false∧t.next< (xn_ f t S).t.next∧(xn_ f t S).t.next<6∧phG f t S=phG (6 - (xn_ f t S).t.next) (xn_ f t S).t (xn_ f t S).S)
 |0,_,_,_,h=>absurd h (Nat.lt_irrefl 0)
 |f+1,t,S,hf,_=>by
  obtain⟨-,-,-,-,hn,-⟩:=ajT_ t.next t S
  have hfn: (kd_ (phT t.next t S)).next=t.next+1:=(adt_ t.next t S).2.2.2.2
  have hfe: (kd_ (phT t.next t S)).ended=Wl_ (nxT (phT t.next t S)):=rfl
  unfold xn_
  rw[asK_]
  by_cases he: (phT t.next t S).e≠0
  ·rw[if_pos he,if_pos he]
   exact .inl ⟨by rw[(vI_ _).1];exact he,rfl⟩
  ·rw[if_neg he,if_neg he]
   cases hen:Wl_ (nxT (phT t.next t S)) with
   |true=>
    rw[if_neg (fun h=>by cases h.2),if_pos rfl]
    exact .inr (.inl ⟨rfl,rfl,rfl⟩)
   |false=>
    have hlt:t.next+1<6:=by
     have h1: (nxT (phT t.next t S)).next=t.next+1:=congrArg (· +1) hn
     unfold Wl_ at hen
     rw[h1] at hen
     simp only[Bool.or_eq_false_iff,beq_eq_false_iff_ne] at hen
     have:=hen.1
     omega
    rw[if_neg (show¬ (false=true) by simp)]
    by_cases hd: (phT t.next t S).did=false
    ·rw[if_pos ⟨hd,rfl⟩]
     have ih:=aez_ f (kd_ (phT t.next t S)) (phT t.next t S).S (by rw[hfn];omega) (by omega)
     rw[hfn] at ih
     rcases ih with h|h| ⟨h1,h2,h3,h4,h5⟩
     ·exact .inl h
     ·exact .inr (.inl h)
     ·exact .inr (.inr ⟨h1,h2,h3,by omega,h5⟩)
    ·rw[if_neg fun h=>hd h.1]
     refine .inr (.inr ⟨rfl,rfl,hfe.trans hen,by show t.next< (kd_ (phT t.next t S)).next;rw[hfn];omega,by show(kd_ (phT t.next t S)).next<6;rw[hfn];exact hlt, ?_⟩)
     show phG f _ _=phG (6 - (kd_ (phT t.next t S)).next) _ _
     rw[hfn,show 6 - (t.next+1)=f by omega]
theorem aos_: ∀ (n f:Nat) (t:TkL) (S:DiskL),6 - t.next≤n→t.next<6→t.ended=false→6 - t.next≤f→((runG f t S).1,(runG f t S).2.2)=phG (6 - t.next) t S
 |0,_,_,_,hn,hl,_,_=>by omega
 |n+1,0,_,_,_,hl,_,hf=>by omega
 |n+1,f+1,t,S,hn,hl,he,hf=>by
  have hs:xv_ t S=xn_ (6 - t.next) t S:=by unfold xv_;rw[if_neg (by rw[he];simp)]
  unfold runG
  rw[hs]
  rcases aez_ (6 - t.next) t S (by omega) (by omega) with⟨h1,h2⟩ | ⟨h1,h2,h3⟩ | ⟨h1,h2,h3,h4,h5,h6⟩
  ·rw[if_pos (.inr h1),h2]
  ·rw[if_pos (.inl h2),h3,h1]
  ·rw[if_neg (by rw[h1,h2];simp),h6]
   exact aos_ n f _ _ (by omega) h5 h3 (by omega)
def tk0 (dir name data:List UInt8) (light:Bool):TkL:=⟨dir,name,data,light,0,false,false⟩
def kP_ (S:DiskL) (dir name data:List UInt8) (light:Bool):Nat×DiskL:=phG 6 (tk0 dir name data light) S
theorem akD_ (S:DiskL) (dir name data:List UInt8) (light:Bool): ((runG 6 (tk0 dir name data light) S).1,(runG 6 (tk0 dir name data light) S).2.2)=kP_ S dir name data light:=aos_ 6 6 (tk0 dir name data light) S (Nat.le_refl 6) (Nat.succ_pos 5) rfl (Nat.le_refl 6)
end Go.Proofs
end
section
open Go Go.Proofs Go.Sx Go.StP
namespace Go.Proofs
set_option maxRecDepth 10000
set_option maxHeartbeats 400000
set_option linter.unusedSimpArgs false
def tkO (t:TkL):Obj:= .cells #[vs t.dir,vs t.name,vs t.data, .bool t.light,vi (t.next:Int), .bool t.made, .bool t.ended] 193 (0,0)
theorem agd_ (t:TkL) (n:Nat):zl_ (some (false,n)) (some (tkO t)) 0=some (vs t.dir):=(rfl)
theorem agq_ (t:TkL) (n:Nat):zl_ (some (false,n)) (some (tkO t)) 1=some (vs t.name):=(rfl)
theorem af2_ (t:TkL) (n:Nat):zl_ (some (false,n)) (some (tkO t)) 2=some (vs t.data):=(rfl)
theorem agu_ (t:TkL) (n:Nat):zl_ (some (false,n)) (some (tkO t)) 3=some (.bool t.light):=(rfl)
theorem agc_ (t:TkL) (n:Nat):zl_ (some (false,n)) (some (tkO t)) 4=some (vi (t.next:Int)):=(rfl)
theorem agt_ (t:TkL) (n:Nat):zl_ (some (false,n)) (some (tkO t)) 5=some (.bool t.made):=(rfl)
theorem afR_ (t:TkL) (n:Nat):zl_ (some (false,n)) (some (tkO t)) 6=some (.bool t.ended):=(rfl)
theorem abH_ (t:TkL) (x:Nat) (a:Bool):zr_ (some (a,1)) (some (tkO t)) 4 (vi (x:Int))=some (tkO {t with next:=x}):=zN_ [vs t.dir,vs t.name,vs t.data, .bool t.light] [vi (t.next:Int)] [vi (x:Int)] [.bool t.made, .bool t.ended] a _ 193 rfl rfl rfl rfl rfl
theorem aki_ (t:TkL) (x:Bool) (a:Bool):zr_ (some (a,1)) (some (tkO t)) 5 (.bool x)=some (tkO {t with made:=x}):=zN_ [vs t.dir,vs t.name,vs t.data, .bool t.light,vi (t.next:Int)] [.bool t.made] [.bool x] [.bool t.ended] a _ 193 rfl rfl rfl rfl rfl
theorem XW_ (t:TkL) (x:Bool) (a:Bool):zr_ (some (a,1)) (some (tkO t)) 6 (.bool x)=some (tkO {t with ended:=x}):=zN_ [vs t.dir,vs t.name,vs t.data, .bool t.light,vi (t.next:Int), .bool t.made] [.bool t.ended] [.bool x] [] a _ 193 rfl rfl rfl rfl rfl
structure TkB (t:TkL):Prop where
 name:t.name.length≤900000
 data:t.data.length≤1000000
theorem wc_ {t:TkL} (h:TkB t): (zJ_ t.name).length≤900004:=by
 unfold zJ_
 rw[List.length_append]
 have:=h.name
 simp
 omega
theorem DkA.step {X X':za_} {G G':DkG} {S S':DiskL} {N:Nat} {kind:Int} {dir name s:List UInt8} {e:Nat} (h:DkA X G S N) (hP:DkP X' G' S') (hst:StepD S kind dir name s S' e) (hn:name.length≤1000000) (hs:s.length≤1000000):DkA X' G' S' (N+1):=⟨hP,xS_ h.H hst,afI_ h.B hn hs hst⟩
theorem DkA.up {X:za_} {G:DkG} {S:DiskL} {N:Nat} (h:DkA X G S N):DkA X G S (N+1):=⟨h.P,h.H,h.B.mono (Nat.le_succ N)⟩
def PhS (G:DkG) (bt:Nat) (r:PhR) (N:Nat) (v:Value) (D:za_):Prop:=v= .tuple #[.bool r.did,vi (r.e:Nat)]∧ ∃X' G',(X'++ [(bt,tkO r.t)]).Perm D∧G'.bd=G.bd∧DkA X' G' r.S N
theorem asV_ (b o:Nat):qD_ Tryz.prog .eql 154 (vp b o) (.pointer none)=some (.bool false):=by
 simp[qD_,eqX,qg_,qf_,Tryz.underlying154,vp]
theorem xl_ {X:za_} {bt:Nat} {t:TkL} (hn: (keys (X++ [(bt,tkO t)])).Nodup):bt∉keys X∧ ∀X' o,bt∉keys X'→ ∀w,zz_ w (X'++ [(bt,o)]) bt=some o:=by
 rw[zs_,List.nodup_append] at hn
 refine⟨fun hm=>hn.2.2 bt hm bt (by simp[keys]) rfl,fun X' o h w=>zb_ (@ad8_ _ [] _ _ h)⟩
set_option linter.defProp false
def z4_:=And.intro (And.intro (And.intro (@zd_) (And.intro (@zc_) (@agd_))) (And.intro (And.intro (@agq_) (@af2_)) (And.intro (@agu_) (@agc_)))) (And.intro (And.intro (@agt_) (And.intro (@afR_) (@abH_))) (And.intro (And.intro (@aki_) (@XW_)) (And.intro (@Sx.tup2_0) (@Sx.tup2_1))))
theorem agH_ (X:za_) (G:DkG) (S:DiskL) (N bt:Nat) (t:TkL) (w:World) (hX: ∀p,p∈X++ [(bt,tkO t)]→w.heap[p.1]? =some p.2) (hn: (keys (X++ [(bt,tkO t)])).Nodup) (hA:DkA X G S N) (hN:N<900000) (hB:TkB t):
  Rets Tryz.prog 195 #[vp bt 0,vp G.bd 0] w (XS w (X++ [(bt,tkO t)]) (PhS G bt (wU_ t S) (N+1))):=by
 refine Rets.enterX Tryz.func195 rfl (rs:= [.tmp 4, .tmp 5]) Tryz.results195 Tryz.ntmps195 hX hn ?_
 refine kf ?_
 have hbx:=(xl_ hn).1
 have rdt:=(xl_ hn).2 X (tkO t) hbx w
 have hnl:=wc_ hB
 have hnd:t.name.length≤900000:=hB.name
 have hdl:=hB.data
 have hpd:=hA.pend (by omega)
 have hus:=hA.used (by omega)
 unfold wU_
 first|with_reducible refine ks [] @z4_ ?_|refine kp @z4_ ?_
 refine Cw.regionO [0,1,2,3,5,6,7,4,8,9,10,11,12,13,14,15] [] rfl (by kernel_rfl) (by kernel_rfl) ?_
 simp only[zu_, ↓zi_, ↓ze_, ↓zG_, ↓zF_,zf_]
 refine kq (And.intro @z4_ @rdt) ?_
 refine Ow.callFV rfl Tryz.call23 (fun w' hw'=>xw_ w' G S t.dir (zJ_ t.name) ⟨X,fun b o hb=>hw'.has b o (List.mem_append_left _ (zx_ hb)),hA.P⟩ (by omega)) ?_
 refine kq @z4_ ?_
 by_cases h0: (jP_ S t.dir (zJ_ t.name)).2≠0
 ·have e1:=jN_ h0
  rw[if_pos h0]
  first|with_reducible refine ks [] (And.intro @z4_ @e1) ?_|refine kp (And.intro @z4_ @e1) ?_
  refine⟨_,(ke @z4_), ?_⟩
  exact⟨Ext.refl w _,rfl,X,G,List.Perm.refl _,rfl,hA.up⟩
 ·have h0': (jP_ S t.dir (zJ_ t.name)).2=0:=by simpa using h0
  have e1: (((jP_ S t.dir (zJ_ t.name)).2:Int) !=0)=false:=by rw[h0'];rfl
  rw[if_neg h0]
  first|with_reducible refine ks [] (And.intro @z4_ @e1) ?_|refine kp (And.intro @z4_ @e1) ?_
  refine Cw.regionO [0,1,2,3,5,6,7,4,8,9,10,11,12] [10] rfl (by kernel_rfl) (by kernel_rfl) ?_
  simp only[zu_, ↓zi_, ↓ze_, ↓zG_, ↓zF_,zf_]
  refine kq (And.intro @z4_ @rdt) ?_
  refine Ow.callX (X:=X) (Y:= [(bt,tkO t)]) rfl rfl rfl Tryz.call77 (fun w' hw' hX' hn'=>kZ_ X G S t.dir (zJ_ t.name) w' hX' hn' hA.P (by omega) hpd) (fun v4 D4 hC4 hS4=> ?_)
  obtain⟨rfl,G',hbd,hP'⟩:=hS4
  refine kq @z4_ ?_
  first|with_reducible refine ks [] @z4_ ?_|refine kp @z4_ ?_
  refine⟨_,(ke @z4_), ?_⟩
  exact⟨(Ext.refl w _).came hC4,rfl,D4,G',List.Perm.refl _,hbd,hA.step hP' (ju_ S _ _ []) (by omega) (Nat.zero_le _)⟩
theorem aaF_ (X:za_) (G:DkG) (S:DiskL) (N bt:Nat) (t:TkL) (w:World) (hX: ∀p,p∈X++ [(bt,tkO t)]→w.heap[p.1]? =some p.2) (hn: (keys (X++ [(bt,tkO t)])).Nodup) (hA:DkA X G S N) (hN:N<900000) (hB:TkB t):
  Rets Tryz.prog 196 #[vp bt 0,vp G.bd 0] w (XS w (X++ [(bt,tkO t)]) (PhS G bt (XX_ t S) (N+1))):=by
 refine Rets.enterX Tryz.func196 rfl (rs:= [.tmp 4, .tmp 5]) Tryz.results196 Tryz.ntmps196 hX hn ?_
 refine kf ?_
 have hbx:=(xl_ hn).1
 have rdt:=(xl_ hn).2 X (tkO t) hbx w
 have hnl:=wc_ hB
 have hnd:t.name.length≤900000:=hB.name
 have hdl:=hB.data
 have hpd:=hA.pend (by omega)
 have hus:=hA.used (by omega)
 unfold XX_
 first|with_reducible refine ks [2] @z4_ ?_|refine kp @z4_ ?_
 refine Cw.regionO [0,1,2,3,5,6,7,4,8,9,10,11] [10] rfl (by kernel_rfl) (by kernel_rfl) ?_
 simp only[zu_, ↓zi_, ↓ze_, ↓zG_, ↓zF_,zf_]
 refine kq (And.intro @z4_ @rdt) ?_
 refine Ow.callX (X:=X) (Y:= [(bt,tkO t)]) rfl rfl rfl Tryz.call72 (fun w' hw' hX' hn'=>Jx_ X G S t.dir (zJ_ t.name) w' hX' hn' hA.P (by omega) hpd) (fun v4 D4 hC4 hS4=> ?_)
 obtain⟨rfl,G',hbd,hP'⟩:=hS4
 refine kq @z4_ ?_
 refine Cw.permL (M:=(bt,tkO t)::D4) (by classical exact List.perm_iff_count.2 fun a=>by simp only[List.count_append,List.count_cons,List.count_nil]<;>omega) ?_
 have hA':=hA.step hP' (kz_ S _ _ []) (by omega) (Nat.zero_le _)
 have hE:=(Ext.refl w (X++ [(bt,tkO t)])).came hC4
 generalize zR_ S t.dir (zJ_ t.name)=q at*
 obtain⟨S',e⟩:=q
 simp only at hA' ⊢
 have hi: ((e:Int)==0)=(e==0):=by
  cases e with
  |zero=>rfl
  |succ n=>rfl
 first|with_reducible refine ks [] (And.intro @z4_ @hi) ?_|refine kp (And.intro @z4_ @hi) ?_
 refine⟨_,(ke @z4_), ?_⟩
 exact⟨(hE.perm (List.perm_append_comm (l₁:= [(bt,tkO t)]) (l₂:=D4))).keys rfl,rfl,D4,G',List.perm_append_comm (l₁:=D4) (l₂:= [_]),hbd,hA'⟩
theorem aaK_ (X:za_) (G:DkG) (S:DiskL) (N bt:Nat) (t:TkL) (w:World) (hX: ∀p,p∈X++ [(bt,tkO t)]→w.heap[p.1]? =some p.2) (hn: (keys (X++ [(bt,tkO t)])).Nodup) (hA:DkA X G S N) (hN:N<900000) (hB:TkB t):
  Rets Tryz.prog 197 #[vp bt 0,vp G.bd 0] w (XS w (X++ [(bt,tkO t)]) (PhS G bt (ae7_ t S) (N+1))):=by
 refine Rets.enterX Tryz.func197 rfl (rs:= [.tmp 4, .tmp 5]) Tryz.results197 Tryz.ntmps197 hX hn ?_
 refine kf ?_
 have hbx:=(xl_ hn).1
 have rdt:=(xl_ hn).2 X (tkO t) hbx w
 have hnl:=wc_ hB
 have hnd:t.name.length≤900000:=hB.name
 have hdl:=hB.data
 have hpd:=hA.pend (by omega)
 have hus:=hA.used (by omega)
 unfold ae7_
 first|with_reducible refine ks [] @z4_ ?_|refine kp @z4_ ?_
 refine Cw.regionO [0,1,2,3,5,6,7,10,11,12,4,8,9,13,14,15,16] [14] rfl (by kernel_rfl) (by kernel_rfl) ?_
 simp only[zu_, ↓zi_, ↓ze_, ↓zG_, ↓zF_,zf_]
 refine kq (And.intro @z4_ @rdt) ?_
 refine Ow.callX (X:=X) (Y:= [(bt,tkO t)]) rfl rfl rfl Tryz.call73 (fun w' hw' hX' hn'=>Jq_ X G S t.dir (zJ_ t.name) t.data w' hX' hn' hA.P (by omega) (by omega) hus) (fun v4 D4 hC4 hS4=> ?_)
 obtain⟨rfl,hP'⟩:=hS4
 refine kq @z4_ ?_
 first|with_reducible refine ks [] @z4_ ?_|refine kp @z4_ ?_
 refine⟨_,(ke @z4_), ?_⟩
 exact⟨(Ext.refl w _).came hC4,rfl,D4,G,List.Perm.refl _,rfl,hA.step hP' (kr_ S _ _ _) (by omega) (by omega)⟩
theorem ad9_ (X:za_) (G:DkG) (S:DiskL) (N bt:Nat) (t:TkL) (w:World) (hX: ∀p,p∈X++ [(bt,tkO t)]→w.heap[p.1]? =some p.2) (hn: (keys (X++ [(bt,tkO t)])).Nodup) (hA:DkA X G S N) (hN:N<900000) (hB:TkB t):
  Rets Tryz.prog 198 #[vp bt 0,vp G.bd 0] w (XS w (X++ [(bt,tkO t)]) (PhS G bt (akN_ t S) (N+1))):=by
 refine Rets.enterX Tryz.func198 rfl (rs:= [.tmp 4, .tmp 5]) Tryz.results198 Tryz.ntmps198 hX hn ?_
 refine kf ?_
 have hbx:=(xl_ hn).1
 have rdt:=(xl_ hn).2 X (tkO t) hbx w
 have hnl:=wc_ hB
 have hnd:t.name.length≤900000:=hB.name
 have hdl:=hB.data
 have hpd:=hA.pend (by omega)
 have hus:=hA.used (by omega)
 unfold akN_
 by_cases hl:t.light=true
 ·rw[if_pos hl]
  first|with_reducible refine ks [] (And.intro @z4_ (And.intro @rdt (@hl))) ?_|refine kp (And.intro @z4_ (And.intro @rdt (@hl))) ?_
  refine⟨_,(ke @z4_), ?_⟩
  exact⟨Ext.refl w _,rfl,X,G,List.Perm.refl _,rfl,hA.up⟩
 ·rw[if_neg hl]
  have hl':t.light=false:=by simpa using hl
  first|with_reducible refine ks [] (And.intro @z4_ (And.intro @rdt (@hl'))) ?_|refine kp (And.intro @z4_ (And.intro @rdt (@hl'))) ?_
  refine Cw.regionO [0,1,2,3,5,6,7,4,8,9,10,11,12] [10] rfl (by kernel_rfl) (by kernel_rfl) ?_
  simp only[zu_, ↓zi_, ↓ze_, ↓zG_, ↓zF_,zf_]
  refine kq (And.intro @z4_ @rdt) ?_
  refine Ow.callX (X:=X) (Y:= [(bt,tkO t)]) rfl rfl rfl Tryz.call20 (fun w' hw' hX' hn'=>VR_ X G S t.dir (zJ_ t.name) w' hX' hn' hA.P (by omega)) (fun v4 D4 hC4 hS4=> ?_)
  obtain⟨rfl,hP'⟩:=hS4
  refine kq @z4_ ?_
  first|with_reducible refine ks [] @z4_ ?_|refine kp @z4_ ?_
  refine⟨_,(ke @z4_), ?_⟩
  exact⟨(Ext.refl w _).came hC4,rfl,D4,G,List.Perm.refl _,rfl,hA.step hP' (wO_ S _ _ []) (by omega) (Nat.zero_le _)⟩
theorem aar_ (X:za_) (G:DkG) (S:DiskL) (N bt:Nat) (t:TkL) (w:World) (hX: ∀p,p∈X++ [(bt,tkO t)]→w.heap[p.1]? =some p.2) (hn: (keys (X++ [(bt,tkO t)])).Nodup) (hA:DkA X G S N) (hN:N<900000) (hB:TkB t):
  Rets Tryz.prog 200 #[vp bt 0,vp G.bd 0] w (XS w (X++ [(bt,tkO t)]) (PhS G bt (Ku_ t S) (N+1))):=by
 refine Rets.enterX Tryz.func200 rfl (rs:= [.tmp 4, .tmp 5]) Tryz.results200 Tryz.ntmps200 hX hn ?_
 refine kf ?_
 have hbx:=(xl_ hn).1
 have rdt:=(xl_ hn).2 X (tkO t) hbx w
 have hnl:=wc_ hB
 have hnd:t.name.length≤900000:=hB.name
 have hdl:=hB.data
 have hpd:=hA.pend (by omega)
 have hus:=hA.used (by omega)
 unfold Ku_
 by_cases hl:t.light=true
 ·rw[if_pos hl]
  first|with_reducible refine ks [] (And.intro @z4_ (And.intro @rdt (@hl))) ?_|refine kp (And.intro @z4_ (And.intro @rdt (@hl))) ?_
  refine⟨_,(ke @z4_), ?_⟩
  exact⟨Ext.refl w _,rfl,X,G,List.Perm.refl _,rfl,hA.up⟩
 ·rw[if_neg hl]
  have hl':t.light=false:=by simpa using hl
  first|with_reducible refine ks [] (And.intro @z4_ (And.intro @rdt (@hl'))) ?_|refine kp (And.intro @z4_ (And.intro @rdt (@hl'))) ?_
  refine kq (And.intro @z4_ @rdt) ?_
  refine Ow.callX (X:=X) (Y:= [(bt,tkO t)]) rfl rfl rfl Tryz.call21 (fun w' hw' hX' hn'=>vM_ X G S t.dir w' hX' hn' hA.P) (fun v4 D4 hC4 hS4=> ?_)
  obtain⟨rfl,G',hbd,hP'⟩:=hS4
  refine kq @z4_ ?_
  first|with_reducible refine ks [] @z4_ ?_|refine kp @z4_ ?_
  refine⟨_,(ke @z4_), ?_⟩
  exact⟨(Ext.refl w _).came hC4,rfl,D4,G',List.Perm.refl _,hbd,hA.step hP' (wu_ S _ [] []) (Nat.zero_le _) (Nat.zero_le _)⟩
theorem WN_ (X:za_) (G:DkG) (S:DiskL) (N bt:Nat) (t:TkL) (w:World) (hX: ∀p,p∈X++ [(bt,tkO t)]→w.heap[p.1]? =some p.2) (hn: (keys (X++ [(bt,tkO t)])).Nodup) (hA:DkA X G S N) (hN:N<900000) (hB:TkB t):
  Rets Tryz.prog 199 #[vp bt 0,vp G.bd 0] w (XS w (X++ [(bt,tkO t)]) (PhS G bt (adZ_ t S) (N+1))):=by
 refine Rets.enterX Tryz.func199 rfl (rs:= [.tmp 4, .tmp 5]) Tryz.results199 Tryz.ntmps199 hX hn ?_
 refine kf ?_
 have hbx:=(xl_ hn).1
 have rdt:=(xl_ hn).2 X (tkO t) hbx w
 have hnl:=wc_ hB
 have hnd:t.name.length≤900000:=hB.name
 have hdl:=hB.data
 have hpd:=hA.pend (by omega)
 have hus:=hA.used (by omega)
 unfold adZ_
 first|with_reducible refine ks [2] @z4_ ?_|refine kp @z4_ ?_
 refine Cw.regionO [0,1,2,3,5,6,7,10,11,12,4,8,9,13,14,15] [14] rfl (by kernel_rfl) (by kernel_rfl) ?_
 simp only[zu_, ↓zi_, ↓ze_, ↓zG_, ↓zF_,zf_]
 refine kq (And.intro @z4_ @rdt) ?_
 refine Ow.callX (X:=X) (Y:= [(bt,tkO t)]) rfl rfl rfl Tryz.call76 (fun w' hw' hX' hn'=>JD_ X G S t.dir (zJ_ t.name) t.name w' hX' hn' hA.P (by omega) (by omega) hpd) (fun v4 D4 hC4 hS4=> ?_)
 obtain⟨rfl,G',hbd,hP'⟩:=hS4
 refine kq @z4_ ?_
 refine Cw.permL (M:=(bt,tkO t)::D4) (by classical exact List.perm_iff_count.2 fun a=>by simp only[List.count_append,List.count_cons,List.count_nil]<;>omega) ?_
 have hA':=hA.step hP' (ko_ S _ _ _) (by omega) (by omega)
 have hE:=(Ext.refl w (X++ [(bt,tkO t)])).came hC4
 generalize zQ_ S t.dir (zJ_ t.name) t.name=q at*
 obtain⟨S',e⟩:=q
 simp only at hA' ⊢
 have hi: ((e:Int) !=0)=(e !=0):=by
  cases e with
  |zero=>rfl
  |succ n=>rfl
 cases hm:t.made with
 |true=>
  rw[Bool.true_and]
  first|with_reducible refine ks [] (And.intro @z4_ (And.intro @hi (@hm))) ?_|refine kp (And.intro @z4_ (And.intro @hi (@hm))) ?_
  refine⟨_,(ke @z4_), ?_⟩
  exact⟨(hE.perm (List.perm_append_comm (l₁:= [(bt,tkO t)]) (l₂:=D4))).keys rfl,rfl,D4,G',List.perm_append_comm (l₁:=D4) (l₂:= [_]),hbd,hA'⟩
 |false=>
  rw[Bool.false_and]
  first|with_reducible refine ks [] (And.intro @z4_ (And.intro @hi (@hm))) ?_|refine kp (And.intro @z4_ (And.intro @hi (@hm))) ?_
  refine⟨_,(ke @z4_), ?_⟩
  exact⟨(hE.perm (List.perm_append_comm (l₁:= [(bt,tkO t)]) (l₂:=D4))).keys rfl,rfl,D4,G',List.perm_append_comm (l₁:=D4) (l₂:= [_]),hbd,hA'⟩
end Go.Proofs
end
section
open Go Go.Proofs Go.Sx Go.StP
namespace Go.Proofs
set_option maxRecDepth 10000
set_option maxHeartbeats 1000000
set_option linter.unusedSimpArgs false
def phF (n:Nat):FuncId:=match n with
 |0=>195
 |1=>196
 |2=>197
 |3=>198
 |4=>199
 |_=>200
def stV:List Value:= [.func (.func (phF 0)) #[] #[], .func (.func (phF 1)) #[] #[], .func (.func (phF 2)) #[] #[], .func (.func (phF 3)) #[] #[], .func (.func (phF 4)) #[] #[], .func (.func (phF 5)) #[] #[]]
def stO:Obj:= .cells stV.toArray 236 (0,0)
theorem apG_ (n m:Nat) (h:n<6):zl_ (some (false,m)) (some stO) n=some (.func (.func (phF n)) #[] #[]):=by
 rcases(by omega:n=0∨n=1∨n=2∨n=3∨n=4∨n=5) with rfl|rfl|rfl|rfl|rfl|rfl<;>rfl
theorem apj_ (n:Nat) (h:n<6) (X:za_) (G:DkG) (S:DiskL) (N bt:Nat) (t:TkL) (w:World) (hX: ∀p,p∈X++ [(bt,tkO t)]→w.heap[p.1]? =some p.2) (hn: (keys (X++ [(bt,tkO t)])).Nodup) (hA:DkA X G S N) (hN:N<900000) (hB:TkB t):
  Rets Tryz.prog (phF n) #[vp bt 0,vp G.bd 0] w (XS w (X++ [(bt,tkO t)]) (PhS G bt (phT n t S) (N+1))):=by
 rcases(by omega:n=0∨n=1∨n=2∨n=3∨n=4∨n=5) with rfl|rfl|rfl|rfl|rfl|rfl
 ·exact agH_ X G S N bt t w hX hn hA hN hB
 ·exact aaF_ X G S N bt t w hX hn hA hN hB
 ·exact aaK_ X G S N bt t w hX hn hA hN hB
 ·exact ad9_ X G S N bt t w hX hn hA hN hB
 ·exact WN_ X G S N bt t w hX hn hA hN hB
 ·exact aar_ X G S N bt t w hX hn hA hN hB
theorem aqg_ (n:Nat) (h:n<6): ∀a w,(callFunc (phF n) a).run Tryz.prog w= .ok (.enter (phF n) a) w:=by
 rcases(by omega:n=0∨n=1∨n=2∨n=3∨n=4∨n=5) with rfl|rfl|rfl|rfl|rfl|rfl
 ·exact Tryz.call195
 ·exact Tryz.call196
 ·exact Tryz.call197
 ·exact Tryz.call198
 ·exact Tryz.call199
 ·exact Tryz.call200
theorem WR_ (bt:Nat) (t:TkL) (w:World) (hX:w.heap[bt]? =some (tkO t)):Rets Tryz.prog 166 #[vp bt 0] w (fun v D=>v= .bool t.ended∧D= []):=by
 have hnl:=asV_ bt 0
 refine Rets.enterV Tryz.func166 rfl (rs:= [.tmp 2]) Tryz.results166 Tryz.ntmps166 ?_
 refine kf ?_
 first|with_reducible refine ks [] (And.intro @hX @hnl) ?_|refine kp (And.intro @hX @hnl) ?_
 refine⟨_,(ke @Nat.add_zero),trivial, ?_⟩
 rfl
theorem amj_:j6_ (Zk_ Tryz.prog 236) (zX_ Tryz.prog 236) [(0, .func (.func (phF 0)) #[] #[]),(1, .func (.func (phF 1)) #[] #[]),(2, .func (.func (phF 2)) #[] #[]),(3, .func (.func (phF 3)) #[] #[]),(4, .func (.func (phF 4)) #[] #[]),(5, .func (.func (phF 5)) #[] #[])]=some (.agg stV.toArray):=by
 rw[show Zk_ Tryz.prog 236=some [(0,1),(1,1),(2,1),(3,1),(4,1),(5,1)] from id (by kernel_rfl),Tryz.zr236];rfl
theorem Xe_:zr_ (some (true,6)) (some (.cells #[.nilFunc, .nilFunc, .nilFunc, .nilFunc, .nilFunc, .nilFunc] 236 (0,0))) 0 (.agg stV.toArray)=some stO:=(rfl)
theorem agO_ (w:World):Rets Tryz.prog 167 #[] w (fun v D=>v= .agg stV.toArray∧D= []):=by
 refine Rets.enterV Tryz.func167 rfl (rs:= [.cell 0 236]) Tryz.results167 Tryz.ntmps167 ?_
 refine kf ?_
 first|with_reducible refine ks [] @Nat.add_zero ?_|refine kp @Nat.add_zero ?_
 refine Ow.alloc rfl rfl Tryz.zr236 fun b1 hb1 hw1=> ?_
 refine ko @Nat.add_zero ?_
 refine Ow.build (.agg stV.toArray) rfl amj_ ?_
 refine ko @Xe_ ?_
 first|with_reducible refine ks [] @Xe_ ?_|refine kp @Xe_ ?_
 refine⟨_,(ke @Nat.add_zero),⟨hw1,trivial⟩, ?_⟩
 rfl
set_option linter.defProp false
def qk_:=And.intro (And.intro (And.intro (@zd_) (@zc_)) (And.intro (@agd_) (And.intro (@agq_) (@af2_)))) (And.intro (And.intro (@agu_) (And.intro (@agc_) (@agt_))) (And.intro (@afR_) (And.intro (@Sx.tup2_0) (@Sx.tup2_1))))
theorem ibeq (n k:Nat): ((n:Int)==(k:Int))=(n==k):=by
 rw[Bool.eq_iff_iff,beq_iff_eq,beq_iff_eq]
 omega
structure SG where
 lab:Nat
 did:Bool
 e:Nat
 t:TkL
 S:DiskL
 G:DkG
 X:za_
 b8:Nat
 c:Nat
def SJ (w:World) (L0:za_) (n bd bt N:Nat) (R:StR) (g:SG):Prop:=
 Ext w L0 ((bt,tkO g.t):: (g.b8,stO)::g.X)∧(keys ((bt,tkO g.t):: (g.b8,stO)::g.X)).Nodup∧n≤g.b8∧g.G.bd=bd∧DkA g.X g.G g.S (N+g.c)∧TkB g.t∧
 ((g.lab=0∧g.c+ (6 - g.t.next)≤6∧g.t.next<6∧xn_ (6 - g.t.next) g.t g.S=R)∨
 (g.lab=1∧g.c≤6∧ ∃r:PhR,g.t=nxT r∧g.S=r.S∧g.e=r.e∧qi_ r=R))
def SL (g:SG):Nat:=match g.lab with
 |0=>0
 |_=>1
theorem SL0 (a b c d e f g h):SL ⟨0,a,b,c,d,e,f,g,h⟩=0:=rfl
def SS (g:SG):List (Nat×Value):= [(6, .bool g.did),(7,vi (g.e:Nat)),(8,vp g.b8 0)]
def SH (bt:Nat) (g:SG):za_:=(bt,tkO g.t):: (g.b8,stO)::g.X
def StS (G:DkG) (bt:Nat) (R:StR) (N:Nat) (v:Value) (D:za_):Prop:=v= .tuple #[.bool R.done,vi (R.e:Nat)]∧ ∃X' G',(X'++ [(bt,tkO R.t)]).Perm D∧G'.bd=G.bd∧DkA X' G' R.S N
set_option maxHeartbeats 12000000 in
theorem aik_ (X:za_) (G:DkG) (S:DiskL) (N bt:Nat) (t:TkL) (w:World) (hX: ∀p,p∈X++ [(bt,tkO t)]→w.heap[p.1]? =some p.2) (hn: (keys (X++ [(bt,tkO t)])).Nodup) (hA:DkA X G S N) (hN:N<800000) (hB:TkB t) (hne:t.ended=false→t.next<6):
  Rets Tryz.prog 129 #[vp bt 0,vp G.bd 0] w (XS w (X++ [(bt,tkO t)]) (StS G bt (xv_ t S) (N+7))):=by
 refine Rets.enterX Tryz.func129 rfl (rs:= [.tmp 4, .tmp 5]) Tryz.results129 Tryz.ntmps129 hX hn ?_
 refine kf ?_
 have hbx:=(xl_ hn).1
 have rdt:=(xl_ hn).2 X (tkO t) hbx w
 unfold xv_
 first|with_reducible refine ks [] @qk_ ?_|refine kp @qk_ ?_
 refine Cw.scopeL (G:=SG) (fun g=>SL g) [9,10,4,5,6,7,11,8,13,14,15,16,17,18,19,20,21,12,22,23,24,25,26,27,28,29,30,31,32,33,34,35,36,37,38,39,40,41,42,43,44,45,46,47,48,49,50,51,52,53,54,55,56,57,58,59,60,61,62,63,64,65,66,67,68,69,70,71,72,73,74,75,76,77,78,79,80,81,82,83,84,85,86,87,88,89] (fun g=>SS g) (fun g=>SH bt g) (fun g=>SJ w (X++ [(bt,tkO t)]) w.heap.size G.bd bt N (if t.ended=true then⟨false,15,t,S⟩ else xn_ (6 - t.next) t S) g) (fun g=>(if g.lab=0 then 6 - g.t.next+1 else 0)) ?_ ?_ ?_
 ·intro g
  unfold SL
  split<;>rfl
 ·intro g j hg
  obtain⟨lab,did,e,t1,S1,G1,X1,b8,c⟩:=g
  obtain⟨hE,hnd,hb8,hbd,hA1,hB1,hg⟩:=hg
  simp only at hE hnd hb8 hbd hA1 hB1 hg
  rcases hg with⟨rfl,hc,hnx,hR⟩ | ⟨rfl,hc,r,rfl,rfl,rfl,hR⟩
  ·simp only[SL,SS,SH]
   simp only[QU_,hasL,Bool.or_false,Bool.false_or,Bool.or_true,Bool.true_or,Nat.reduceBEq,beq_self_eq_true, ↓reduceIte,Bool.false_eq_true]
   refine kv ?_
   try with_reducible refine Jz_ ?_
   have hk:=hnd
   simp only[keys,List.map_cons,List.nodup_cons,List.mem_cons,not_or] at hk
   have hb3:bt≠b8:=hk.1.1
   have hb1:bt∉keys X1:=hk.1.2
   have hb2:b8∉keys X1:=hk.2.1
   have rd8: ∀o w,zz_ w ((bt,o):: (b8,stO)::X1) b8=some stO:=fun o w=>zb_ (by simp[Sx.look,hb3])
   have hix: ∀m,qC_ (.arr 6 m) (vp b8 0) (some (t1.next:Int))=some (vp b8 (t1.next*m.2)):=fun m=>by
    rw[Z7_ _ _ _ _ _ ⟨by omega,by omega⟩];simp
   have hld: ∀m,zl_ (some (false,m)) (some stO) t1.next=some (.func (.func (phF t1.next)) #[] #[]):=fun m=>apG_ _ m hnx
   first|with_reducible refine ks [] (And.intro @qk_ (And.intro @rd8 (And.intro @hix (@hld)))) ?_|refine kp (And.intro @qk_ (And.intro @rd8 (And.intro @hix (@hld)))) ?_
   refine Ow.permL (M:=(X1++ [(bt,tkO t1)])++ [(b8,stO)]) (by classical exact List.perm_iff_count.2 fun a=>by simp only[List.count_append,List.count_cons,List.count_nil]<;>omega) ?_
   refine Ow.callFnX2 (X:=X1++ [(bt,tkO t1)]) (Y:= [(b8,stO)]) (b:=vp bt 0) (b2:=vp G.bd 0) rfl rfl rfl rfl rfl rfl (aqg_ t1.next hnx) (fun w' hw' hX' hn'=>by rw[←hbd];exact apj_ t1.next hnx X1 G1 S1 (N+c) bt t1 w' hX' hn' hA1 (by omega) hB1) (fun v4 D4 hC4 hS4=> ?_)
   obtain⟨rfl,X2,G2,hp2,hbd2,hA2⟩:=hS4
   obtain⟨hr1,hr2,hr3,hr4,hr5,hr6⟩:=ajT_ t1.next t1 S1
   have hB2:TkB (phT t1.next t1 S1).t:=⟨by rw[hr2];exact hB1.name,by rw[hr3];exact hB1.data⟩
   have hBn:TkB (nxT (phT t1.next t1 S1)):=⟨hB2.name,hB2.data⟩
   have hBf:TkB (kd_ (phT t1.next t1 S1)):=⟨hB2.name,hB2.data⟩
   obtain⟨q,hq⟩: ∃q,6 - t1.next=q+1:=⟨5 - t1.next,by omega⟩
   rw[hq] at hR
   replace hR: (if(phT t1.next t1 S1).e≠0 then qi_ (phT t1.next t1 S1)
    else if(phT t1.next t1 S1).did=false∧Wl_ (nxT (phT t1.next t1 S1))=false then xn_ q (kd_ (phT t1.next t1 S1)) (phT t1.next t1 S1).S
    else⟨Wl_ (nxT (phT t1.next t1 S1)),0,kd_ (phT t1.next t1 S1),(phT t1.next t1 S1).S⟩)=_:=hR
   generalize phT t1.next t1 S1=r at*
   have hp3: ((bt,tkO r.t):: (b8,stO)::X2).Perm (D4++ [(b8,stO)]):=(by simpa using(List.perm_append_comm (l₁:= [(bt,tkO r.t),(b8,stO)]) (l₂:=X2)): ((bt,tkO r.t):: (b8,stO)::X2).Perm (X2++ [(bt,tkO r.t),(b8,stO)])).trans (by simpa using hp2.append_right [(b8,stO)])
   have hE1:Ext w (X++ [(bt,tkO t)]) ((X1++ [(bt,tkO t1)])++ [(b8,stO)]):=hE.perm (by classical exact List.perm_iff_count.2 fun a=>by simp only[List.count_append,List.count_cons,List.count_nil]<;>omega)
   have hE2:Ext w (X++ [(bt,tkO t)]) ((bt,tkO r.t):: (b8,stO)::X2):=(Ext.came hE1 hC4).perm hp3
   refine Ow.permL hp3 ?_
   refine Ow.world fun w9 hw9=> ?_
   have hnd2: (keys ((bt,tkO r.t):: (b8,stO)::X2)).Nodup:=hw9.nodup
   have hst7: ∀a,zr_ (some (a,1)) (some (tkO r.t)) 4 (vi ((r.t.next:Int)+1))=some (tkO (nxT r)):=fun a=>abH_ r.t (r.t.next+1) a
   have hnx2:r.t.next<6:=by omega
   have hA3:DkA (X2++ [(b8,stO)]) G2 r.S (N+7):=⟨hA2.P.mono (X':=X2++ [(b8,stO)]) fun b o h=>zj_ h,hA2.H,hA2.B.mono (by omega)⟩
   refine ko @qk_ ?_
   by_cases he:r.e=0
   ·have e0: ((r.e:Int) !=0)=false:=by rw[he];rfl
    rw[if_neg (fun h=>h he)] at hR
    have hst9: ∀a,zr_ (some (a,1)) (some (tkO (nxT r))) 6 (.bool (Wl_ (nxT r)))=some (tkO (kd_ r)):=fun a=>XW_ (nxT r) _ a
    have hfe: (kd_ r).ended=Wl_ (nxT r):=rfl
    have hen:Wl_ (nxT r)=((nxT r).next==6|| ((nxT r).light&& (nxT r).next==5)):=rfl
    have i6: (((nxT r).next:Int)==6)=((nxT r).next==6):=ibeq _ 6
    have i5: (((nxT r).next:Int)==5)=((nxT r).next==5):=ibeq _ 5
    cases c6: ((nxT r).next==6) with
    |true=>
     have h9:Wl_ (nxT r)=true:=by rw[hen,c6];rfl
     rw[c6] at i6
     rw[h9] at hst9 hfe hR
     rw[if_neg (fun h=>by cases h.2)] at hR
     cases hd:r.did with
     |true=>
      first|with_reducible refine ks [] (And.intro @qk_ (And.intro @hst7 (And.intro @e0 (And.intro @hst9 (And.intro @i6 (@hfe)))))) ?_|refine kp (And.intro @qk_ (And.intro @hst7 (And.intro @e0 (And.intro @hst9 (And.intro @i6 (@hfe)))))) ?_
      refine⟨_,(ke @qk_), ?_⟩
      rw[←hR]
      exact⟨hE2.keys rfl,rfl,X2++ [(b8,stO)],G2,(by classical exact List.perm_iff_count.2 fun a=>by simp only[List.count_append,List.count_cons,List.count_nil]<;>omega),hbd2.trans hbd,hA3⟩
     |false=>
      first|with_reducible refine ks [] (And.intro @qk_ (And.intro @hst7 (And.intro @e0 (And.intro @hst9 (And.intro @i6 (@hfe)))))) ?_|refine kp (And.intro @qk_ (And.intro @hst7 (And.intro @e0 (And.intro @hst9 (And.intro @i6 (@hfe)))))) ?_
      refine⟨_,(ke @qk_), ?_⟩
      rw[←hR]
      exact⟨hE2.keys rfl,rfl,X2++ [(b8,stO)],G2,(by classical exact List.perm_iff_count.2 fun a=>by simp only[List.count_append,List.count_cons,List.count_nil]<;>omega),hbd2.trans hbd,hA3⟩
    |false=>
     have hq6:r.t.next+1≠6:=beq_eq_false_iff_ne.1 c6
     rw[c6] at i6
     cases cl: (nxT r).light with
     |false=>
      have h9:Wl_ (nxT r)=false:=by rw[hen,c6,cl];rfl
      rw[h9] at hst9 hfe hR
      cases hd:r.did with
      |true=>
       rw[hd,if_neg (fun h=>by cases h.1)] at hR
       first|with_reducible refine ks [] (And.intro @qk_ (And.intro @hst7 (And.intro @e0 (And.intro @hst9 (And.intro @i6 (And.intro @cl (@hfe))))))) ?_|refine kp (And.intro @qk_ (And.intro @hst7 (And.intro @e0 (And.intro @hst9 (And.intro @i6 (And.intro @cl (@hfe))))))) ?_
       refine⟨_,(ke @qk_), ?_⟩
       rw[←hR]
       exact⟨hE2.keys rfl,rfl,X2++ [(b8,stO)],G2,(by classical exact List.perm_iff_count.2 fun a=>by simp only[List.count_append,List.count_cons,List.count_nil]<;>omega),hbd2.trans hbd,hA3⟩
      |false=>
       rw[hd,if_pos ⟨rfl,rfl⟩] at hR
       first|with_reducible refine ks [] (And.intro @qk_ (And.intro @hst7 (And.intro @e0 (And.intro @hst9 (And.intro @i6 (And.intro @cl (@hfe))))))) ?_|refine kp (And.intro @qk_ (And.intro @hst7 (And.intro @e0 (And.intro @hst9 (And.intro @i6 (And.intro @cl (@hfe))))))) ?_
       exact Jump.mk ⟨0,false,r.e,kd_ r,r.S,G2,X2,b8,c+1⟩ rfl (by show 6 - (r.t.next+1)+1<6 - t1.next+1;omega) ⟨hE2.keys rfl,hnd2,hb8,hbd2.trans hbd,hA2,hBf, .inl ⟨rfl,by show c+1+ (6 - (r.t.next+1))≤6;omega,by show r.t.next+1<6;omega,by show xn_ (6 - (r.t.next+1)) _ _=_;rw[show 6 - (r.t.next+1)=q by omega];exact hR⟩⟩ rfl rfl
     |true=>
      cases c5: ((nxT r).next==5) with
      |true=>
       have h9:Wl_ (nxT r)=true:=by rw[hen,c6,cl,c5];rfl
       rw[c5] at i5
       rw[h9] at hst9 hfe hR
       rw[if_neg (fun h=>by cases h.2)] at hR
       cases hd:r.did with
       |true=>
        first|with_reducible refine ks [] (And.intro @qk_ (And.intro @hst7 (And.intro @e0 (And.intro @hst9 (And.intro @i6 (And.intro @i5 (And.intro @cl (@hfe)))))))) ?_|refine kp (And.intro @qk_ (And.intro @hst7 (And.intro @e0 (And.intro @hst9 (And.intro @i6 (And.intro @i5 (And.intro @cl (@hfe)))))))) ?_
        refine⟨_,(ke @qk_), ?_⟩
        rw[←hR]
        exact⟨hE2.keys rfl,rfl,X2++ [(b8,stO)],G2,(by classical exact List.perm_iff_count.2 fun a=>by simp only[List.count_append,List.count_cons,List.count_nil]<;>omega),hbd2.trans hbd,hA3⟩
       |false=>
        first|with_reducible refine ks [] (And.intro @qk_ (And.intro @hst7 (And.intro @e0 (And.intro @hst9 (And.intro @i6 (And.intro @i5 (And.intro @cl (@hfe)))))))) ?_|refine kp (And.intro @qk_ (And.intro @hst7 (And.intro @e0 (And.intro @hst9 (And.intro @i6 (And.intro @i5 (And.intro @cl (@hfe)))))))) ?_
        refine⟨_,(ke @qk_), ?_⟩
        rw[←hR]
        exact⟨hE2.keys rfl,rfl,X2++ [(b8,stO)],G2,(by classical exact List.perm_iff_count.2 fun a=>by simp only[List.count_append,List.count_cons,List.count_nil]<;>omega),hbd2.trans hbd,hA3⟩
      |false=>
       have h9:Wl_ (nxT r)=false:=by rw[hen,c6,cl,c5];rfl
       rw[c5] at i5
       rw[h9] at hst9 hfe hR
       cases hd:r.did with
       |true=>
        rw[hd,if_neg (fun h=>by cases h.1)] at hR
        first|with_reducible refine ks [] (And.intro @qk_ (And.intro @hst7 (And.intro @e0 (And.intro @hst9 (And.intro @i6 (And.intro @i5 (And.intro @cl (@hfe)))))))) ?_|refine kp (And.intro @qk_ (And.intro @hst7 (And.intro @e0 (And.intro @hst9 (And.intro @i6 (And.intro @i5 (And.intro @cl (@hfe)))))))) ?_
        refine⟨_,(ke @qk_), ?_⟩
        rw[←hR]
        exact⟨hE2.keys rfl,rfl,X2++ [(b8,stO)],G2,(by classical exact List.perm_iff_count.2 fun a=>by simp only[List.count_append,List.count_cons,List.count_nil]<;>omega),hbd2.trans hbd,hA3⟩
       |false=>
        rw[hd,if_pos ⟨rfl,rfl⟩] at hR
        first|with_reducible refine ks [] (And.intro @qk_ (And.intro @hst7 (And.intro @e0 (And.intro @hst9 (And.intro @i6 (And.intro @i5 (And.intro @cl (@hfe)))))))) ?_|refine kp (And.intro @qk_ (And.intro @hst7 (And.intro @e0 (And.intro @hst9 (And.intro @i6 (And.intro @i5 (And.intro @cl (@hfe)))))))) ?_
        exact Jump.mk ⟨0,false,r.e,kd_ r,r.S,G2,X2,b8,c+1⟩ rfl (by show 6 - (r.t.next+1)+1<6 - t1.next+1;omega) ⟨hE2.keys rfl,hnd2,hb8,hbd2.trans hbd,hA2,hBf, .inl ⟨rfl,by show c+1+ (6 - (r.t.next+1))≤6;omega,by show r.t.next+1<6;omega,by show xn_ (6 - (r.t.next+1)) _ _=_;rw[show 6 - (r.t.next+1)=q by omega];exact hR⟩⟩ rfl rfl
   ·have e0: ((r.e:Int) !=0)=true:=by
     rw[bne_iff_ne];omega
    rw[if_pos he] at hR
    first|with_reducible refine ks [] (And.intro @qk_ (And.intro @hst7 (@e0))) ?_|refine kp (And.intro @qk_ (And.intro @hst7 (@e0))) ?_
    exact Jump.mk ⟨1,r.did,r.e,nxT r,r.S,G2,X2,b8,c+1⟩ rfl (by show 0<6 - t1.next+1;omega) ⟨hE2.keys rfl,hnd2,hb8,hbd2.trans hbd,hA2,hBn, .inr ⟨rfl,by show c+1≤6;omega,r,rfl,rfl,rfl,hR⟩⟩ rfl rfl
  ·simp only[SL,SS,SH]
   simp only[QU_,hasL,Bool.or_false,Bool.false_or,Bool.or_true,Bool.true_or,Nat.reduceBEq,beq_self_eq_true, ↓reduceIte,Bool.false_eq_true]
   refine kv ?_
   try with_reducible refine Jz_ ?_
   have hk:=hnd
   simp only[keys,List.map_cons,List.nodup_cons,List.mem_cons,not_or] at hk
   have hb3:bt≠b8:=hk.1.1
   have hb1:bt∉keys X1:=hk.1.2
   have hb2:b8∉keys X1:=hk.2.1
   have rd8: ∀o w,zz_ w ((bt,o):: (b8,stO)::X1) b8=some stO:=fun o w=>zb_ (by simp[Sx.look,hb3])
   obtain⟨T1,hT1⟩: ∃T1,T1=({nxT r with ended:=true}:TkL):=⟨_,rfl⟩
   have hst: ∀a,zr_ (some (a,1)) (some (tkO (nxT r))) 6 (.bool true)=some (tkO T1):=fun a=>by rw[hT1];exact XW_ (nxT r) true a
   have d1:T1.dir=r.t.dir:=by rw[hT1];rfl
   have d2:T1.name=r.t.name:=by rw[hT1];rfl
   have d3:T1.made=(nxT r).made:=by rw[hT1]
   have hnd1:T1.name.length≤900000:=by rw[d2];exact hB1.name
   have hBT: (zJ_ T1.name).length≤900004:=by rw[d2];exact wc_ (t:=nxT r) hB1
   have hA3:DkA (X1++ [(b8,stO)]) G1 r.S (N+7):=⟨hA1.P.mono (X':=X1++ [(b8,stO)]) fun b o h=>zj_ h,hA1.H,hA1.B.mono (by omega)⟩
   by_cases hm: (nxT r).made=true∧r.e≠9
   ·have m1:T1.made=true:=d3.trans hm.1
    have e9: ((r.e:Int) !=9)=true:=by
     rw[bne_iff_ne]
     have:=hm.2
     omega
    have hw:qi_ r=⟨false,r.e,T1,(zO_ r.S T1.dir (zJ_ T1.name)).1⟩:=by
     unfold qi_
     rw[if_pos hm,d1,d2,hT1]
    first|with_reducible refine ks [] (And.intro @qk_ (And.intro @hst (And.intro @m1 (@e9)))) ?_|refine kp (And.intro @qk_ (And.intro @hst (And.intro @m1 (@e9)))) ?_
    refine Cw.permL (M:=X1++ [(bt,tkO T1),(b8,stO)]) (by classical exact List.perm_iff_count.2 fun a=>by simp only[List.count_append,List.count_cons,List.count_nil]<;>omega) ?_
    have rdT:zz_ w (X1++ [(bt,tkO T1),(b8,stO)]) bt=some (tkO T1):=zb_ (by rw[zW_ hb1];simp[Sx.look])
    have hsp:=fun(w':World) (hX': ∀p,p∈X1→w'.heap[p.1]? =some p.2) (hn': (keys X1).Nodup)=>kZ_ X1 G1 r.S T1.dir (zJ_ T1.name) w' hX' hn' hA1.P (by omega) (hA1.pend (by omega))
    simp only[hbd] at hsp
    refine Cw.regionO [0,1,2,3,5,6,7,4,8,9,10] [10] rfl (by kernel_rfl) (by kernel_rfl) ?_
    simp only[zu_, ↓zi_, ↓ze_, ↓zG_, ↓zF_,zf_]
    refine kq (And.intro @qk_ @rdT) ?_
    refine Ow.callX (X:=X1) (Y:= [(bt,tkO T1),(b8,stO)]) rfl rfl rfl Tryz.call77 (fun w' hw' hX' hn'=>hsp w' hX' hn') (fun v4 D4 hC4 hS4=> ?_)
    obtain⟨rfl,G',hbd',hP'⟩:=hS4
    refine kq @qk_ ?_
    first|with_reducible refine ks [] @qk_ ?_|refine kp @qk_ ?_
    refine⟨_,(ke @qk_), ?_⟩
    rw[←hR,hw]
    have hA4:=hA1.step hP' (ju_ r.S T1.dir (zJ_ T1.name) []) (by omega) (Nat.zero_le _)
    have hE1:Ext w (X++ [(bt,tkO t)]) (X1++ [(bt,tkO T1),(b8,stO)]):=(hE.keys (D':=(bt,tkO T1):: (b8,stO)::X1) rfl).perm (by classical exact List.perm_iff_count.2 fun a=>by simp only[List.count_append,List.count_cons,List.count_nil]<;>omega)
    exact⟨hE1.came hC4,rfl,D4++ [(b8,stO)],G',(by classical exact List.perm_iff_count.2 fun a=>by simp only[List.count_append,List.count_cons,List.count_nil]<;>omega),hbd',hA4.P.mono (X':=D4++ [(b8,stO)]) fun b o h=>zj_ h,hA4.H,hA4.B.mono (by omega)⟩
   ·have hw:qi_ r=⟨false,r.e,T1,r.S⟩:=by
     unfold qi_
     rw[if_neg hm,hT1]
    by_cases hm1: (nxT r).made=true
    ·have h9:r.e=9:=Decidable.byContradiction fun h=>hm ⟨hm1,h⟩
     have m1:T1.made=true:=d3.trans hm1
     have e9: ((r.e:Int) !=9)=false:=by rw[h9];rfl
     first|with_reducible refine ks [] (And.intro @qk_ (And.intro @hst (And.intro @m1 (@e9)))) ?_|refine kp (And.intro @qk_ (And.intro @hst (And.intro @m1 (@e9)))) ?_
     refine⟨_,(ke @qk_), ?_⟩
     rw[←hR,hw]
     exact⟨hE.keys rfl,rfl,X1++ [(b8,stO)],G1,(by classical exact List.perm_iff_count.2 fun a=>by simp only[List.count_append,List.count_cons,List.count_nil]<;>omega),hbd,hA3⟩
    ·have m1:T1.made=false:=d3.trans (by simpa using hm1)
     first|with_reducible refine ks [] (And.intro @qk_ (And.intro @hst (@m1))) ?_|refine kp (And.intro @qk_ (And.intro @hst (@m1))) ?_
     refine⟨_,(ke @qk_), ?_⟩
     rw[←hR,hw]
     exact⟨hE.keys rfl,rfl,X1++ [(b8,stO)],G1,(by classical exact List.perm_iff_count.2 fun a=>by simp only[List.count_append,List.count_cons,List.count_nil]<;>omega),hbd,hA3⟩
 ·intro key
  repeat ((try with_reducible refine Cw.go [999999] ?_);(simp(disch:=(first|assumption|omega| (simp only[VI_,Vi_,UInt64.reduceToNat];try omega))) only[↓Sx.S0,Sx.S1,Tryz.fx,qk_,Nat.reduceAdd,Nat.reducePow,Int.reducePow,Nat.reduceBEq, ↓reduceIte,UInt8.reduceToNat,UInt16.reduceToNat,UInt32.reduceToNat,UInt64.reduceToNat,Int.reduceToNat]))
  refine Ow.callFV rfl Tryz.call166 (fun w' hw'=>WR_ bt t w' (hw'.has _ _ (List.mem_append_right _ (List.mem_singleton.2 rfl)))) ?_
  have htf:t.ended=true∨t.ended=false:=by cases t.ended<;>simp
  rcases htf with hte|hte
  ·refine ko (And.intro @qk_ @hte) ?_
   repeat ((try with_reducible refine Cw.go [999999] ?_);(simp(disch:=(first|assumption|omega| (simp only[VI_,Vi_,UInt64.reduceToNat];try omega))) only[↓Sx.S0,Sx.S1,Tryz.fx,qk_,Nat.reduceAdd,Nat.reducePow,Int.reducePow,Nat.reduceBEq, ↓reduceIte,UInt8.reduceToNat,UInt16.reduceToNat,UInt32.reduceToNat,UInt64.reduceToNat,Int.reduceToNat,hte]))
   refine⟨_,(ke @qk_), ?_⟩
   rw[if_pos hte]
   exact⟨Ext.refl w _,rfl,X,G,List.Perm.refl _,rfl,hA.P,hA.H,hA.B.mono (by omega)⟩
  ·have hie: (if t.ended=true then(⟨false,15,t,S⟩:StR) else xn_ (6 - t.next) t S)=xn_ (6 - t.next) t S:=by rw[if_neg (by rw[hte];simp)]
   refine ko (And.intro @qk_ @hte) ?_
   repeat ((try with_reducible refine Cw.go [999999] ?_);(simp(disch:=(first|assumption|omega| (simp only[VI_,Vi_,UInt64.reduceToNat];try omega))) only[↓Sx.S0,Sx.S1,Tryz.fx,qk_,Nat.reduceAdd,Nat.reducePow,Int.reducePow,Nat.reduceBEq, ↓reduceIte,UInt8.reduceToNat,UInt16.reduceToNat,UInt32.reduceToNat,UInt64.reduceToNat,Int.reduceToNat,hte]))
   refine Ow.callFV rfl Tryz.call167 (fun w' hw'=>agO_ w') ?_
   refine ko @qk_ ?_
   repeat ((try with_reducible refine Cw.go [999999] ?_);(simp(disch:=(first|assumption|omega| (simp only[VI_,Vi_,UInt64.reduceToNat];try omega))) only[↓Sx.S0,Sx.S1,Tryz.fx,qk_,Nat.reduceAdd,Nat.reducePow,Int.reducePow,Nat.reduceBEq, ↓reduceIte,UInt8.reduceToNat,UInt16.reduceToNat,UInt32.reduceToNat,UInt64.reduceToNat,Int.reduceToNat]))
   refine Ow.alloc rfl rfl Tryz.zr236 fun b8 hb8 hw8=> ?_
   rw[zg_]
   refine Ow.permL (M:=(b8, .cells #[.nilFunc, .nilFunc, .nilFunc, .nilFunc, .nilFunc, .nilFunc] 236 (0,0)):: (X++ [(bt,tkO t)])) (by classical exact List.perm_iff_count.2 fun a=>by simp only[List.count_append,List.count_cons,List.count_nil]<;>omega) ?_
   refine ko (And.intro @qk_ @Xe_) ?_
   repeat ((try with_reducible refine Cw.go [999999] ?_);(simp(disch:=(first|assumption|omega| (simp only[VI_,Vi_,UInt64.reduceToNat];try omega))) only[↓Sx.S0,Sx.S1,Tryz.fx,qk_,Nat.reduceAdd,Nat.reducePow,Int.reducePow,Nat.reduceBEq, ↓reduceIte,UInt8.reduceToNat,UInt16.reduceToNat,UInt32.reduceToNat,UInt64.reduceToNat,Int.reduceToNat]))
   refine Cw.permL (M:=(bt,tkO t):: (b8,stO)::X) (by classical exact List.perm_iff_count.2 fun a=>by simp only[List.count_append,List.count_cons,List.count_nil]<;>omega) ?_
   refine Cw.world fun w9 hw9=> ?_
   have hnd9:=hw9.nodup
   have key0:=fun f'=>key (⟨0,false,0,t,S,G,X,b8,0⟩) f'
   simp only[QU_,hasL,Bool.or_false,Bool.false_or,Bool.or_true,Bool.true_or,Nat.reduceBEq,beq_self_eq_true, ↓reduceIte,Bool.false_eq_true] at key0
   clear key
   simp only[SL0,QU_,hasL,Bool.or_false,Bool.false_or,Bool.or_true,Bool.true_or,Nat.reduceBEq,beq_self_eq_true, ↓reduceIte,Bool.false_eq_true] at key0
   refine Cw.label ?_
   refine key0 _ ?_ ?_
   ·refine⟨(((Ext.refl w (X++ [(bt,tkO t)])).app (o:=stO) hw8).perm (by classical exact List.perm_iff_count.2 fun a=>by simp only[List.count_append,List.count_cons,List.count_nil]<;>omega)),hnd9,hw8,rfl,hA,hB, .inl ⟨rfl,by show 0+ (6 - t.next)≤6;omega,hne hte,hie.symm⟩⟩
   ·rfl
end Go.Proofs
end
section
open Go Go.Proofs Go.Sx Go.StP
namespace Go.Proofs
set_option maxRecDepth 10000
set_option maxHeartbeats 1000000
set_option linter.unusedSimpArgs false
theorem aej_: ∀ (f:Nat) (t:TkL) (S:DiskL),(xn_ f t S).t.name=t.name∧(xn_ f t S).t.data=t.data
 |0,_,_=>⟨rfl,rfl⟩
 |f+1,t,S=>by
  obtain⟨-,h2,h3,-⟩:=ajT_ t.next t S
  have hw: (qi_ (phT t.next t S)).t.name=t.name∧(qi_ (phT t.next t S)).t.data=t.data:=by
   unfold qi_
   split<;>exact⟨h2,h3⟩
  obtain⟨-,f2,f3,-⟩:=adt_ t.next t S
  have ih:=aej_ f (kd_ (phT t.next t S)) (phT t.next t S).S
  rw[f2,f3] at ih
  unfold xn_
  split
  ·exact hw
  ·split
   ·exact ih
   ·exact⟨f2,f3⟩
theorem apH_ {t:TkL} (h:TkB t) (S:DiskL):TkB (xv_ t S).t:=by
 unfold xv_
 split
 ·exact h
 ·exact⟨by rw[(aej_ _ t S).1];exact h.name,by rw[(aej_ _ t S).2];exact h.data⟩
theorem akF_ {t:TkL} {S:DiskL} (he:t.ended=false) (hn:t.next<6): ((xv_ t S).done=true∨(xv_ t S).e≠0)∨((xv_ t S).t.ended=false∧t.next< (xv_ t S).t.next∧(xv_ t S).t.next<6):=by
 have hs:xv_ t S=xn_ (6 - t.next) t S:=by unfold xv_;rw[if_neg (by rw[he];simp)]
 rw[hs]
 rcases aez_ (6 - t.next) t S (by omega) (by omega) with⟨h1,-⟩ | ⟨-,h2,-⟩ | ⟨-,-,h3,h4,h5,-⟩
 ·exact .inl (.inr h1)
 ·exact .inl (.inl h2)
 ·exact .inr ⟨h3,h4,h5⟩
theorem arz_ (f:Nat) (t:TkL) (S:DiskL):runG (f+1) t S=(if(xv_ t S).done=true∨(xv_ t S).e≠0 then((xv_ t S).e,(xv_ t S).t,(xv_ t S).S) else runG f (xv_ t S).t (xv_ t S).S):=rfl
set_option linter.defProp false
def ZM_:=And.intro (And.intro (@zd_) (@zc_)) (And.intro (@Sx.tup2_0) (@Sx.tup2_1))
structure RnG where
 f:Nat
 t:TkL
 S:DiskL
 G:DkG
 X:za_
def RnS (G:DkG) (bt:Nat) (R:Nat×TkL×DiskL) (N:Nat) (v:Value) (D:za_):Prop:=v=vi (R.1:Nat)∧ ∃X' G',(X'++ [(bt,tkO R.2.1)]).Perm D∧G'.bd=G.bd∧DkA X' G' R.2.2 N
theorem af7_ (X:za_) (G:DkG) (S:DiskL) (N bt:Nat) (t:TkL) (w:World) (hX: ∀p,p∈X++ [(bt,tkO t)]→w.heap[p.1]? =some p.2) (hn: (keys (X++ [(bt,tkO t)])).Nodup) (hA:DkA X G S N) (hN:N<700000) (hB:TkB t) (he:t.ended=false) (hne:t.next<6):
  Rets Tryz.prog 94 #[vp G.bd 0,vp bt 0] w (XS w (X++ [(bt,tkO t)]) (RnS G bt (runG 6 t S) (N+42))):=by
 refine Rets.enterX Tryz.func94 rfl (rs:= [.tmp 4]) Tryz.results94 Tryz.ntmps94 hX hn ?_
 refine kf ?_
 first|with_reducible refine ks [] @ZM_ ?_|refine kp @ZM_ ?_
 refine Cw.loopG (G:=RnG) [8,9,10,7,11,12,5,6,13,14,15,16,17,18,4] (fun g=> []) (fun g=>g.X++ [(bt,tkO g.t)]) (fun g=>runG g.f g.t g.S=runG 6 t S∧6 - g.t.next≤g.f∧g.t.ended=false∧g.t.next<6∧g.G.bd=G.bd∧DkA g.X g.G g.S (N+7* (6 - g.f))∧TkB g.t∧g.f≤6∧Ext w (X++ [(bt,tkO t)]) (g.X++ [(bt,tkO g.t)])) (fun g=>g.f) ⟨6,t,S,G,X⟩ rfl rfl ?_ ?_
 ·exact⟨rfl,by show 6 - t.next≤6;omega,he,hne,rfl,hA,hB,Nat.le_refl 6,Ext.refl w _⟩
 ·intro g j hg
  refine kv ?_
  obtain⟨f,t1,S1,G1,X1⟩:=g
  obtain⟨hR,hf,hen,hnx,hbd,hA1,hB1,hf6,hE⟩:=hg
  simp only at hR hf hen hnx hbd hA1 hB1 hf6 hE
  obtain⟨f,rfl⟩: ∃q,f=q+1:=⟨f - 1,by omega⟩
  rw[arz_] at hR
  first|with_reducible refine ks [] @ZM_ ?_|refine kp @ZM_ ?_
  have hsp:=fun(w':World) (hX': ∀p,p∈X1++ [(bt,tkO t1)]→w'.heap[p.1]? =some p.2) (hn': (keys (X1++ [(bt,tkO t1)])).Nodup)=>aik_ X1 G1 S1 (N+7* (6 - (f+1))) bt t1 w' hX' hn' hA1 (by omega) hB1 (fun _=>hnx)
  simp only[hbd] at hsp
  refine Ow.callX (X:=X1++ [(bt,tkO t1)]) (Y:= []) (List.append_nil _).symm rfl rfl Tryz.call129 (fun w' hw' hX' hn'=>hsp w' hX' hn') (fun v4 D4 hC4 hS4=> ?_)
  obtain⟨rfl,X2,G2,hp2,hbd2,hA2⟩:=hS4
  rw[List.append_nil]
  have hE2:=(hE.came0 hC4).perm hp2
  have hst:=akF_ (S:=S1) hen hnx
  have hsB:=apH_ hB1 S1
  refine Ow.permL hp2 ?_
  generalize xv_ t1 S1=r at*
  have hA3:DkA X2 G2 r.S (N+42):=⟨hA2.P,hA2.H,hA2.B.mono (by omega)⟩
  by_cases hd:r.done=true
  ·rw[if_pos (.inl hd)] at hR
   refine ko (And.intro @ZM_ @hd) ?_
   first|with_reducible refine ks [] (And.intro @ZM_ @hd) ?_|refine kp (And.intro @ZM_ @hd) ?_
   refine⟨_,(ke @ZM_), ?_⟩
   rw[←hR]
   exact⟨hE2,rfl,X2,G2,List.Perm.refl _,hbd2.trans hbd,hA3⟩
  ·have hd':r.done=false:=by simpa using hd
   by_cases he0:r.e=0
   ·have e0: ((r.e:Int) !=0)=false:=by rw[he0];rfl
    rw[if_neg (fun h=>by rcases h with h|h;exact hd h;exact h he0)] at hR
    obtain⟨s1,s2,s3⟩:=hst.resolve_left (fun h=>by rcases h with h|h;exact hd h;exact h he0)
    refine ko (And.intro @ZM_ (And.intro @hd' (@e0))) ?_
    first|with_reducible refine ks [] (And.intro @ZM_ (And.intro @hd' (@e0))) ?_|refine kp (And.intro @ZM_ (And.intro @hd' (@e0))) ?_
    exact Again.mk ⟨f,r.t,r.S,G2,X2⟩ (Nat.lt_succ_self f) ⟨hR,by show 6 - r.t.next≤f;omega,s1,s3,hbd2.trans hbd,⟨hA2.P,hA2.H,hA2.B.mono (by show _≤N+7* (6 - f);omega)⟩,hsB,by show f≤6;omega,hE2⟩ rfl rfl
   ·have e0: ((r.e:Int) !=0)=true:=by
     rw[bne_iff_ne];omega
    rw[if_pos (.inr he0)] at hR
    refine ko (And.intro @ZM_ (And.intro @hd' (@e0))) ?_
    first|with_reducible refine ks [] (And.intro @ZM_ (And.intro @hd' (@e0))) ?_|refine kp (And.intro @ZM_ (And.intro @hd' (@e0))) ?_
    refine⟨_,(ke @ZM_), ?_⟩
    rw[←hR]
    exact⟨hE2,rfl,X2,G2,List.Perm.refl _,hbd2.trans hbd,hA3⟩
end Go.Proofs
end
section
open Go Go.Proofs Go.Sx Go.StP
namespace Go.Proofs
set_option maxRecDepth 10000
set_option maxHeartbeats 400000
set_option linter.unusedSimpArgs false
theorem amX_ (dir name data:List UInt8) (light:Bool):j6_ (Zk_ Tryz.prog 193) (zX_ Tryz.prog 193) [(0,vs dir),(1,vs name),(2,vs data),(3, .bool light)]=some (.agg #[vs dir,vs name,vs data, .bool light,vi 0, .bool false, .bool false]):=by
 rw[show Zk_ Tryz.prog 193=some [(0,1),(1,1),(2,1),(3,1),(4,1),(5,1),(6,1)] from id (by kernel_rfl),Tryz.zr193];rfl
theorem VQ_ (dir name data:List UInt8) (light:Bool) (w:World):
  Rets Tryz.prog 95 #[vs dir,vs name,vs data, .bool light] w (fun v D=> ∃b,w.heap.size≤b∧v=vp b 0∧D= [(b,tkO (tk0 dir name data light))]):=by
 refine Rets.enter Tryz.func95 rfl (rs:= [.tmp 8]) Tryz.results95 Tryz.ntmps95 ?_
 refine kf ?_
 first|with_reducible refine ks [] @Nat.add_zero ?_|refine kp @Nat.add_zero ?_
 refine Ow.build (.agg #[vs dir,vs name,vs data, .bool light,vi 0, .bool false, .bool false]) rfl (amX_ dir name data light) ?_
 refine Ow.box rfl rfl fun b1 hb1 hw1=> ?_
 refine ko @Nat.add_zero ?_
 first|with_reducible refine ks [] @Nat.add_zero ?_|refine kp @Nat.add_zero ?_
 exact⟨_,rfl,b1,hw1,rfl,rfl⟩
end Go.Proofs
end
section
open Go Go.Proofs Go.Sx Go.StP
namespace Go.Proofs
set_option maxRecDepth 10000
set_option maxHeartbeats 1000000
set_option linter.unusedSimpArgs false
def PubS (G:DkG) (R:Nat×DiskL) (N:Nat) (v:Value) (D:za_):Prop:=v=vi (R.1:Nat)∧ ∃G',G'.bd=G.bd∧DkA D G' R.2 N
theorem QQ_ (X:za_) (G:DkG) (S:DiskL) (N:Nat) (dir name data:List UInt8) (w:World) (hX: ∀p,p∈X→w.heap[p.1]? =some p.2) (hn: (keys X).Nodup) (hA:DkA X G S N) (hN:N<700000) (hnm:name.length≤900000) (hdt:data.length≤1000000):
  Rets Tryz.prog 38 #[vp G.bd 0,vs dir,vs name,vs data] w (XS w X (PubS G (kP_ S dir name data false) (N+42))):=by
 have hB:TkB (tk0 dir name data false):=⟨hnm,hdt⟩
 refine Rets.enterX Tryz.func38 rfl (rs:= [.tmp 8]) Tryz.results38 Tryz.ntmps38 hX hn ?_
 refine kf ?_
 first|with_reducible refine ks [] @Nat.add_zero ?_|refine kp @Nat.add_zero ?_
 refine Ow.callF rfl rfl Tryz.call95 (S:=fun B v D=> ∃b',B≤b'∧v=vp b' 0∧D= [(b',tkO (tk0 dir name data false))]) (fun w' hw'=>VQ_ dir name data false w') ?_
 rintro B v D hab hB0 ⟨b1,hb1,rfl,rfl⟩
 refine⟨_,Mrg.fresh (by intro q hq;simp only[keys,List.map_cons,List.map_nil,List.mem_singleton] at hq;omega), ?_⟩
 refine Ow.callX (X:=X++ [(b1,tkO (tk0 dir name data false))]) (Y:= []) (List.append_nil _).symm rfl rfl Tryz.call94 (fun w' hw' hX' hn'=>af7_ X G S N b1 (tk0 dir name data false) w' hX' hn' hA hN hB rfl (Nat.succ_pos 5)) (fun v4 D4 hC4 hS4=> ?_)
 obtain⟨rfl,X2,G2,hp2,hbd2,hA2⟩:=hS4
 rw[List.append_nil]
 have hE2:=(((Ext.refl w X).app (o:=tkO (tk0 dir name data false)) (by omega)).came0 hC4).perm hp2
 refine Ow.permL hp2 ?_
 have hr:=akD_ S dir name data false
 rw[←hr]
 refine ko @Nat.add_zero ?_
 first|with_reducible refine ks [] @Nat.add_zero ?_|refine kp @Nat.add_zero ?_
 refine⟨_,(ke @Nat.add_zero), ?_⟩
 exact⟨hE2,rfl,G2,hbd2,hA2.P.mono fun b o h=>zj_ h,hA2.H,hA2.B⟩
theorem VM_ (X:za_) (G:DkG) (S:DiskL) (N:Nat) (dir name data:List UInt8) (w:World) (hX: ∀p,p∈X→w.heap[p.1]? =some p.2) (hn: (keys X).Nodup) (hA:DkA X G S N) (hN:N<700000) (hnm:name.length≤900000) (hdt:data.length≤1000000):
  Rets Tryz.prog 39 #[vp G.bd 0,vs dir,vs name,vs data] w (XS w X (PubS G (kP_ S dir name data true) (N+42))):=by
 have hB:TkB (tk0 dir name data true):=⟨hnm,hdt⟩
 refine Rets.enterX Tryz.func39 rfl (rs:= [.tmp 8]) Tryz.results39 Tryz.ntmps39 hX hn ?_
 refine kf ?_
 first|with_reducible refine ks [] @Nat.add_zero ?_|refine kp @Nat.add_zero ?_
 refine Ow.callF rfl rfl Tryz.call95 (S:=fun B v D=> ∃b',B≤b'∧v=vp b' 0∧D= [(b',tkO (tk0 dir name data true))]) (fun w' hw'=>VQ_ dir name data true w') ?_
 rintro B v D hab hB0 ⟨b1,hb1,rfl,rfl⟩
 refine⟨_,Mrg.fresh (by intro q hq;simp only[keys,List.map_cons,List.map_nil,List.mem_singleton] at hq;omega), ?_⟩
 refine Ow.callX (X:=X++ [(b1,tkO (tk0 dir name data true))]) (Y:= []) (List.append_nil _).symm rfl rfl Tryz.call94 (fun w' hw' hX' hn'=>af7_ X G S N b1 (tk0 dir name data true) w' hX' hn' hA hN hB rfl (Nat.succ_pos 5)) (fun v4 D4 hC4 hS4=> ?_)
 obtain⟨rfl,X2,G2,hp2,hbd2,hA2⟩:=hS4
 rw[List.append_nil]
 have hE2:=(((Ext.refl w X).app (o:=tkO (tk0 dir name data true)) (by omega)).came0 hC4).perm hp2
 refine Ow.permL hp2 ?_
 have hr:=akD_ S dir name data true
 rw[←hr]
 refine ko @Nat.add_zero ?_
 first|with_reducible refine ks [] @Nat.add_zero ?_|refine kp @Nat.add_zero ?_
 refine⟨_,(ke @Nat.add_zero), ?_⟩
 exact⟨hE2,rfl,G2,hbd2,hA2.P.mono fun b o h=>zj_ h,hA2.H,hA2.B⟩
end Go.Proofs
end
section
open Go Go.Proofs Go.Sx Go.StP
namespace Go.Proofs
set_option maxRecDepth 10000
set_option maxHeartbeats 400000
set_option linter.unusedSimpArgs false
def am4_ (s:List UInt8):Bool:=decide (4≤s.length)&&s.drop (s.length - 4)== [46,116,109,112]
def j3_ (dir:List UInt8):List (List UInt8)→Nat→DiskL→Nat×Nat×DiskL
 | [],n,S=>(n,0,S)
 |s::l,n,S=>if am4_ s=true then(if(zO_ S dir s).2≠0 then(n,(zO_ S dir s).2,(zO_ S dir s).1) else j3_ dir l (n+1) (zO_ S dir s).1) else j3_ dir l n S
def we_ (dir:List UInt8) (n:Nat) (S:DiskL):Nat×Nat×DiskL:=
 if(j3_ dir (ka_ S dir) n S).2.1≠0∨(j3_ dir (ka_ S dir) n S).1=n then j3_ dir (ka_ S dir) n S else((j3_ dir (ka_ S dir) n S).1,(zw_ (j3_ dir (ka_ S dir) n S).2.2 dir).2,(zw_ (j3_ dir (ka_ S dir) n S).2.2 dir).1)
def acI_:Nat→Nat→Nat→DiskL→Nat×Nat×DiskL
 |0,_,n,S=>(n,0,S)
 |f+1,k,n,S=>if(we_ (qP_ k) n S).2.1≠0 then we_ (qP_ k) n S else acI_ f (k+1) (we_ (qP_ k) n S).1 (we_ (qP_ k) n S).2.2
def ace_ (S:DiskL):Nat×Nat×DiskL:=acI_ 3 0 0 S
theorem ad3_ {dir:List UInt8} {l:List (List UInt8)} {i:Nat} (h:i<l.length) (n:Nat) (S:DiskL):j3_ dir (l.drop i) n S=if am4_ (l.getD i [])=true then(if(zO_ S dir (l.getD i [])).2≠0 then(n,(zO_ S dir (l.getD i [])).2,(zO_ S dir (l.getD i [])).1) else j3_ dir (l.drop (i+1)) (n+1) (zO_ S dir (l.getD i [])).1) else j3_ dir (l.drop (i+1)) n S:=by
 rw[List.drop_eq_getElem_cons h,List.getD_eq_getElem?_getD,List.getElem?_eq_getElem h]
 rfl
theorem ahk_ {dir:List UInt8} {l:List (List UInt8)} (n:Nat) (S:DiskL):j3_ dir (l.drop l.length) n S=(n,0,S):=by
 rw[List.drop_length];rfl
theorem anR_ (f k n:Nat) (S:DiskL):acI_ (f+1) k n S=(if(we_ (qP_ k) n S).2.1≠0 then we_ (qP_ k) n S else acI_ f (k+1) (we_ (qP_ k) n S).1 (we_ (qP_ k) n S).2.2):=rfl
theorem aqf_ {S:DiskL} (hB:DkB S) (dir:List UInt8): (ka_ S dir).length≤1000000∧ ∀s,s∈ka_ S dir→s.length≤1000000:=by
 unfold ka_
 split
 ·exact⟨Nat.zero_le _,fun s hs=>by cases hs⟩
 ·rename_i h
  obtain⟨k,hk,-⟩:=Qf_ (S:=S) (dir:=dir) (names:= []) (by omega)
  rw[hk]
  have hk3:=(zE_ hk).1
  refine⟨by rw[List.length_map];exact(hB k hk3).1,fun s hs=> ?_⟩
  obtain⟨p,hp,rfl⟩:=List.mem_map.1 hs
  exact(hB k hk3).2 p hp
set_option linter.defProp false
def wm_:=And.intro (@zd_) (@zc_)
theorem aaH_ (s p:List UInt8) (w:World) (hs:s.length<1099511627776):Rets Tryz.prog 131 #[vs s,vs p] w (fun v D=>v= .bool (decide (p.length≤s.length)&& (s.drop (s.length - p.length)==p))∧D= []):=by
 refine Rets.enterV Tryz.func131 rfl (rs:= [.tmp 4]) Tryz.results131 Tryz.ntmps131 ?_
 refine kf ?_
 by_cases h:p.length≤s.length
 ·have e1:decide ((p.length:Int)≤ (s.length:Int))=true:=decide_eq_true (by omega)
  have e2: (s.length:Int) - (p.length:Int)=((s.length - p.length:Nat):Int):=by omega
  have e3:decide (((s.length - p.length:Nat):Int)≤ (s.length:Int)∧(s.length:Int)≤ (s.length:Int))=true:=decide_eq_true (by omega)
  first|with_reducible refine ks [] (And.intro @wm_ (And.intro @e1 (And.intro @e2 (@e3)))) ?_|refine kp (And.intro @wm_ (And.intro @e1 (And.intro @e2 (@e3)))) ?_
  refine⟨_,(ke @wm_),trivial, ?_⟩
  simp[vr_,h]
 ·have e1:decide ((p.length:Int)≤ (s.length:Int))=false:=decide_eq_false (by omega)
  first|with_reducible refine ks [] (And.intro @wm_ @e1) ?_|refine kp (And.intro @wm_ @e1) ?_
  refine⟨_,(ke @wm_),trivial, ?_⟩
  simp[vr_,h]
theorem abK_ (s p:List UInt8) (w:World) (hs:s.length<1099511627776):Rets Tryz.prog 98 #[vs s,vs p] w (fun v D=>v= .bool (decide (p.length≤s.length)&& (s.drop (s.length - p.length)==p))∧D= []):=by
 refine Rets.enterV Tryz.func98 rfl (rs:= [.tmp 4]) Tryz.results98 Tryz.ntmps98 ?_
 refine kf ?_
 first|with_reducible refine ks [] @wm_ ?_|refine kp @wm_ ?_
 refine Ow.callFV rfl Tryz.call131 (fun w' hw'=>aaH_ s p w' hs) ?_
 refine ko @wm_ ?_
 first|with_reducible refine ks [] @wm_ ?_|refine kp @wm_ ?_
 refine⟨_,(ke @wm_),trivial, ?_⟩
 rfl
theorem X7_ (s:List UInt8) (w:World) (hs:s.length<1099511627776):Rets Tryz.prog 44 #[vs s] w (fun v D=>v= .bool (am4_ s)∧D= []):=by
 refine Rets.enterV Tryz.func44 rfl (rs:= [.tmp 2]) Tryz.results44 Tryz.ntmps44 ?_
 refine kf ?_
 first|with_reducible refine ks [] @wm_ ?_|refine kp @wm_ ?_
 refine Ow.callFV rfl Tryz.call98 (fun w' hw'=>abK_ s [46,116,109,112] w' hs) ?_
 refine ko @wm_ ?_
 first|with_reducible refine ks [] @wm_ ?_|refine kp @wm_ ?_
 refine⟨_,(ke @wm_),trivial, ?_⟩
 rfl
theorem apo_ {S:DiskL} {N:Nat} (h:DkN N S) (dir:List UInt8): (ka_ S dir).length≤N:=by
 unfold ka_
 split
 ·exact Nat.zero_le _
 ·rw[List.length_map]
  exact(h _).seen
theorem ahL_ {A B:za_} (h: (keys (A++B)).Nodup) {b:Nat} {o:Obj} (hb:Sx.look B b=some o):Sx.look (A++B) b=some o:=by
 rw[zs_,List.nodup_append] at h
 rw[zW_ fun hm=>h.2.2 b hm b (List.mem_map.2 ⟨_,zx_ hb,rfl⟩) rfl]
 exact hb
structure ClnG where
 k:Nat
 n:Nat
 S:DiskL
 G:DkG
 X:za_
 M:Nat
structure CliG where
 j:Nat
 n:Nat
 S:DiskL
 G:DkG
 X:za_
def ClnS (G:DkG) (R:Nat×Nat×DiskL) (N:Nat) (v:Value) (D:za_):Prop:=v= .tuple #[vi (R.1:Nat),vi (R.2.1:Nat)]∧ ∃G',G'.bd=G.bd∧DkA D G' R.2.2 N
structure ClnM (N k M:Nat):Prop where
 z:k=0→M≤N
 o:k≤1→M≤2*N
 t:k≤2→M≤4*N
 e:M≤8*N
theorem ClnM.next {N k M m:Nat} (h:ClnM N k M) (hk:k<3) (hm:m≤M):ClnM N (k+1) (M+m):=by
 obtain⟨a,b,c,d⟩:=h
 exact⟨by omega,by omega,by omega,by omega⟩
set_option linter.defProp false
def jn_:=And.intro (And.intro (@zd_) (@zc_)) (And.intro (@Sx.tup2_0) (@Sx.tup2_1))
theorem ahX_ (X:za_) (G:DkG) (S:DiskL) (N:Nat) (w:World) (hX: ∀p,p∈X→w.heap[p.1]? =some p.2) (hn: (keys X).Nodup) (hA:DkA X G S N) (hN:N≤100000):
  Rets Tryz.prog 46 #[vp G.bd 0] w (XS w X (ClnS G (ace_ S) (8*N))):=by
 refine Rets.enterX Tryz.func46 rfl (rs:= [.tmp 2, .tmp 3]) Tryz.results46 Tryz.ntmps46 hX hn ?_
 refine kf ?_
 first|with_reducible refine ks [] @jn_ ?_|refine kp @jn_ ?_
 refine Ow.build (.agg #[vs ql_,vs wi_,vs refD]) rfl (by kernel_rfl) ?_
 refine ko @jn_ ?_
 first|with_reducible refine ks [] @jn_ ?_|refine kp @jn_ ?_
 refine Cw.loopG (G:=ClnG) [14,15,6,16,7,17,18,19,20,21,22,23,24,9,25,26,27,28,29,30,31,10,32,33,34,35,2,3,36,37,4,38,39,40,41,42,43,44,11,45,46,47,48,49,13] (fun g=> [(4,vi g.n),(13,vi g.k)]) (fun g=>g.X) (fun g=>g.k≤3∧acI_ (3 - g.k) g.k g.n g.S=ace_ S∧g.G.bd=G.bd∧DkA g.X g.G g.S g.M∧Ext w X g.X∧ClnM N g.k g.M∧g.n≤g.M) (fun g=>3 - g.k) ⟨0,0,S,G,X,N⟩ rfl rfl ?_ ?_
 ·exact⟨Nat.zero_le _,rfl,rfl,hA,Ext.refl w X,⟨fun _=>Nat.le_refl _,fun _=>by show N≤2*N;omega,fun _=>by show N≤4*N;omega,by show N≤8*N;omega⟩,Nat.zero_le _⟩
 intro g j hg
 refine kv ?_
 obtain⟨k,n,S1,G1,X1,M⟩:=g
 simp only at hg ⊢
 obtain⟨hk,hR,hbd,hA1,hE,hM,hnM⟩:=hg
 have hM8:=hM.e
 rw[←hbd]
 by_cases hlt:k<3
 ·have d1:decide ((k:Int)<3)=true:=decide_eq_true (by omega)
  have ixk:=wG_ hlt
  have hM4:=hM.t (by omega)
  obtain⟨f,hf⟩: ∃f,3 - k=f+1:=⟨2 - k,by omega⟩
  rw[hf,anR_] at hR
  have hdb:=hA1.b (by omega)
  have hlb:=(aqf_ hdb (qP_ k)).2
  have hln:=apo_ hA1.B (qP_ k)
  have hcd:we_ (qP_ k) n S1=if(j3_ (qP_ k) (ka_ S1 (qP_ k)) n S1).2.1≠0∨(j3_ (qP_ k) (ka_ S1 (qP_ k)) n S1).1=n then j3_ (qP_ k) (ka_ S1 (qP_ k)) n S1 else((j3_ (qP_ k) (ka_ S1 (qP_ k)) n S1).1,(zw_ (j3_ (qP_ k) (ka_ S1 (qP_ k)) n S1).2.2 (qP_ k)).2,(zw_ (j3_ (qP_ k) (ka_ S1 (qP_ k)) n S1).2.2 (qP_ k)).1):=rfl
  first|with_reducible refine ks [] (And.intro @jn_ (And.intro @d1 (@ixk))) ?_|refine kp (And.intro @jn_ (And.intro @d1 (@ixk))) ?_
  refine Ow.callC rfl rfl Tryz.call79 (fun w' hw'=>Zm_ w' G1 S1 (qP_ k) (hA1.P.world hw') hdb) (fun B3 v3 D3 hA3 hB3 hN3 hS3=> ?_)
  rw[←Xx_] at hS3
  generalize ka_ S1 (qP_ k)=nms at*
  have hN3':New w.heap.size D3:=hN3.mono hB3
  have ln3:=vd_ hS3
  refine ko (And.intro @jn_ @ln3) ?_
  refine Cw.world fun w1 hw1=> ?_
  obtain⟨rb,off,arr,E,fz,hr3,hlk⟩:=hS3.rowL (z:= []) rfl ((hw1.perm (M:=D3++X1) List.perm_append_comm).part) aai_
  have rd3: ∀ (Y:za_),0<nms.length→zz_ w (D3++Y) rb=some (.cells arr E fz):=fun Y h0=>zb_ (zj_ (hlk h0))
  clear hw1 hlk
  refine Cw.permL (M:=D3++X1) List.perm_append_comm ?_
  have hE3:Ext w X (X1++D3):=⟨fun c hc=>by
   rw[zs_] at hc
   rcases List.mem_append.1 hc with hc|hc
   ·exact hE.new c hc
   ·exact .inr (hN3'.le c hc),fun c hc=>by rw[zs_];exact List.mem_append_left _ (hE.all c hc)⟩
  refine Cw.loopG (G:=CliG) [22,23,24,9,25,26,27,28,29,30,31,10,32,33,34,35,2,3,36,37,4,38,21] (fun g=> [(4,vi g.n),(21,vi g.j)]) (fun g=>D3++g.X) (fun g=>g.j≤nms.length∧j3_ (qP_ k) (nms.drop g.j) g.n g.S=j3_ (qP_ k) nms n S1∧g.G.bd=G1.bd∧DkA g.X g.G g.S (M+g.j)∧Ext w X (g.X++D3)∧g.n≤M+g.j) (fun g=>nms.length - g.j) ⟨0,n,S1,G1,X1⟩ rfl rfl ?_ ?_
  ·exact⟨Nat.zero_le _,rfl,rfl,hA1,hE3,hnM⟩
  intro g j hg
  refine kv ?_
  clear hA1 hE hE3
  obtain⟨j,n2,S2,G2,X2⟩:=g
  simp only at hg ⊢
  obtain⟨hj,hR2,hbd2,hA2,hE2,hn2⟩:=hg
  rw[←hbd2]
  by_cases hjt:j<nms.length
  ·have d2:decide ((j:Int)< (nms.length:Int))=true:=decide_eq_true (by omega)
   have ix3:=hr3.idx false j hjt
   have ld3:=fun n=>WG_ hr3 hjt n
   have rdj:=rd3 X2 (by omega)
   have hsl:=hlb _ (v5_ (z:= []) hjt)
   rw[ad3_ hjt] at hR2
   generalize nms.getD j []=s at*
   first|with_reducible refine ks [10] (And.intro @jn_ (And.intro @d2 (And.intro @ln3 (And.intro @ix3 (And.intro @rdj (@ld3)))))) ?_|refine kp (And.intro @jn_ (And.intro @d2 (And.intro @ln3 (And.intro @ix3 (And.intro @rdj (@ld3)))))) ?_
   refine Ow.callFV rfl Tryz.call44 (fun w' hw'=>X7_ s w' (by omega)) ?_
   cases ht:am4_ s with
   |false=>
    rw[if_neg (by rw[ht];simp)] at hR2
    refine ko @jn_ ?_
    first|with_reducible refine ks [] @jn_ ?_|refine kp @jn_ ?_
    exact Again.mk ⟨j+1,n2,S2,G2,X2⟩ (by show nms.length - (j+1)<nms.length - j;omega) ⟨hjt,hR2,rfl,⟨hA2.P,hA2.H,hA2.B.mono (by show M+j≤M+ (j+1);omega)⟩,hE2,by show n2≤M+ (j+1);omega⟩ rfl rfl
   |true=>
    rw[if_pos ht] at hR2
    refine ko @jn_ ?_
    refine Cw.permL (M:=X2++D3) List.perm_append_comm ?_
    first|with_reducible refine ks [] @jn_ ?_|refine kp @jn_ ?_
    refine Ow.callX (X:=X2) (Y:=D3) rfl rfl rfl Tryz.call77 (fun w' hw' hX' hn'=>kZ_ X2 G2 S2 (qP_ k) s w' hX' hn' hA2.P (by omega) (hA2.pend (by omega))) (fun v4 D4 hC4 hS4=> ?_)
    obtain⟨rfl,G3,hbd3,hP3⟩:=hS4
    have hE4:=hE2.came hC4
    have hA3':DkA D4 G3 (zO_ S2 (qP_ k) s).1 (M+ (j+1)):=⟨hP3,ae6_ hA2.H _ _,ahq_ hA2.B _ (by omega)⟩
    generalize zO_ S2 (qP_ k) s=q at*
    obtain⟨S3,e⟩:=q
    simp only at hR2 hA3' ⊢
    by_cases h0:e≠0
    ·have e1:=jN_ h0
     rw[if_pos h0] at hR2
     refine ko @jn_ ?_
     first|with_reducible refine ks [] (And.intro @jn_ @e1) ?_|refine kp (And.intro @jn_ @e1) ?_
     refine⟨_,(ke @jn_), ?_⟩
     have hcd':we_ (qP_ k) n S1=(n2,e,S3):=by rw[hcd,←hR2];exact if_pos (.inl h0)
     rw[hcd',if_pos h0] at hR
     rw[←hR]
     exact⟨hE4,rfl,G3,(hbd3.trans hbd2).trans hbd,(⟨hA3'.P.mono fun b o h=>zj_ h,hA3'.H,hA3'.B.mono (by omega)⟩:DkA (D4++D3) G3 S3 (8*N))⟩
    ·have e1: ((e:Int) !=0)=false:=by rw[show e=0 by simpa using h0];rfl
     rw[if_neg h0] at hR2
     refine Ow.permL (M:=D3++D4) List.perm_append_comm ?_
     refine ko @jn_ ?_
     first|with_reducible refine ks [] (And.intro @jn_ @e1) ?_|refine kp (And.intro @jn_ @e1) ?_
     exact Again.mk ⟨j+1,n2+1,S3,G3,D4⟩ (by show nms.length - (j+1)<nms.length - j;omega) ⟨hjt,hR2,hbd3,hA3',hE4,by show n2+1≤M+ (j+1);omega⟩ rfl rfl
  ·obtain rfl:j=nms.length:=by omega
   have d2:decide ((nms.length:Int)< (nms.length:Int))=false:=decide_eq_false (by omega)
   rw[ahk_] at hR2
   rw[←hR2] at hcd
   refine Cw.world fun wz hwz=> ?_
   have hP4:DkP (D3++X2) G2 S2:=hA2.P.mono fun b o h=>ahL_ hwz.nodup h
   have hE2':=hE2.perm (D':=D3++X2) List.perm_append_comm
   clear hwz
   by_cases hnn:n2=n
   ·have e1: ((n2:Int)==(n:Int))=true:=by rw[hnn];exact beq_self_eq_true _
    have hcd':we_ (qP_ k) n S1=(n2,0,S2):=by rw[hcd];exact if_pos (.inr hnn)
    rw[hcd',if_neg (by simp)] at hR
    first|with_reducible refine ks [] (And.intro @jn_ (And.intro @d2 (And.intro @ln3 (@e1)))) ?_|refine kp (And.intro @jn_ (And.intro @d2 (And.intro @ln3 (@e1)))) ?_
    exact Again.mk ⟨k+1,n2,S2,G2,D3++X2,M+nms.length⟩ (by show 3 - (k+1)<3 - k;omega) ⟨hlt,by rw[show 3 - (k+1)=f by omega];exact hR,rfl,⟨hP4,hA2.H,hA2.B⟩,hE2',hM.next hlt hln,hn2⟩ rfl rfl
   ·have e1: ((n2:Int)==(n:Int))=false:=beq_eq_false_iff_ne.2 (by omega)
    have hcd':we_ (qP_ k) n S1=(n2,(zw_ S2 (qP_ k)).2,(zw_ S2 (qP_ k)).1):=by rw[hcd];exact if_neg (fun h=>by rcases h with h|h;exact h rfl;exact hnn h)
    rw[hcd'] at hR
    clear hcd hcd'
    first|with_reducible refine ks [] (And.intro @jn_ (And.intro @d2 (And.intro @ln3 (@e1)))) ?_|refine kp (And.intro @jn_ (And.intro @d2 (And.intro @ln3 (@e1)))) ?_
    refine Ow.callX (X:=D3++X2) (Y:= []) (List.append_nil _).symm rfl rfl Tryz.call21 (fun w' hw' hX' hn'=>vM_ (D3++X2) G2 S2 (qP_ k) w' hX' hn' hP4) (fun v5 D5 hC5 hS5=> ?_)
    rw[List.append_nil]
    obtain⟨rfl,G3,hbd3,hP3⟩:=hS5
    have hE4:=hE2'.came0 hC5
    have hA3':DkA D5 G3 (zw_ S2 (qP_ k)).1 (M+nms.length):=⟨hP3,abr_ hA2.H _,adm_ hA2.B _⟩
    generalize zw_ S2 (qP_ k)=q at*
    obtain⟨S3,e⟩:=q
    simp only at hR hA3' ⊢
    by_cases h0:e≠0
    ·have e2:=jN_ h0
     rw[if_pos h0] at hR
     refine ko @jn_ ?_
     first|with_reducible refine ks [] (And.intro @jn_ @e2) ?_|refine kp (And.intro @jn_ @e2) ?_
     refine⟨_,(ke @jn_), ?_⟩
     rw[←hR]
     exact⟨hE4,rfl,G3,(hbd3.trans hbd2).trans hbd,(⟨hA3'.P,hA3'.H,hA3'.B.mono (hM.next hlt hln).e⟩:DkA D5 G3 S3 (8*N))⟩
    ·have e2: ((e:Int) !=0)=false:=by rw[show e=0 by simpa using h0];rfl
     rw[if_neg h0] at hR
     refine ko @jn_ ?_
     first|with_reducible refine ks [] (And.intro @jn_ @e2) ?_|refine kp (And.intro @jn_ @e2) ?_
     exact Again.mk ⟨k+1,n2,S3,G3,D5,M+nms.length⟩ (by show 3 - (k+1)<3 - k;omega) ⟨hlt,by rw[show 3 - (k+1)=f by omega];exact hR,hbd3,hA3',hE4,hM.next hlt hln,hn2⟩ rfl rfl
 ·obtain rfl:k=3:=by omega
  have d1:decide (((3:Nat):Int)<3)=false:=rfl
  first|with_reducible refine ks [] (And.intro @jn_ @d1) ?_|refine kp (And.intro @jn_ @d1) ?_
  refine⟨_,(ke @jn_), ?_⟩
  rw[←hR]
  exact⟨hE,rfl,G1,hbd,(⟨hA1.P,hA1.H,hA1.B.mono hM8⟩:DkA X1 G1 S1 (8*N))⟩
end Go.Proofs
end
section
open Go Go.Proofs Go.Sx Go.StP Go.Flo
namespace Go.Proofs
set_option maxRecDepth 10000
set_option maxHeartbeats 400000
set_option linter.unusedSimpArgs false
set_option linter.defProp false
def kQ_:=And.intro (@zd_) (And.intro (@zc_) (@acT_))
theorem abQ_ (x a b:Int) (w:World) (hx:x.natAbs<8192) (ha:a.natAbs<8192) (hb:b.natAbs<8192):
  Rets Tryz.prog 253 #[fl x,vi a,vi b] w (fun v D=>v= .tuple #[vi (if a≤x∧x≤b then x else 0), .bool (decide (a≤x∧x≤b))]∧D= []):=by
 refine Rets.enterV Tryz.func253 rfl (rs:= [.tmp 6, .tmp 7]) Tryz.results253 Tryz.ntmps253 ?_
 refine kf ?_
 first|with_reducible refine ks [] @kQ_ ?_|refine kp @kQ_ ?_
 refine Ow.convIF rfl rfl cvIF Tryz.underlying3 Tryz.underlying312 rfl ?_
 refine Ow.fgeq rfl rfl rfl hx ha ?_
 by_cases h1:a≤x
 ·rw[decide_eq_true h1]
  refine ko @kQ_ ?_
  refine Ow.convIF rfl rfl cvIF Tryz.underlying3 Tryz.underlying312 rfl ?_
  refine Ow.fleq rfl rfl rfl hx hb ?_
  by_cases h2:x≤b
  ·rw[decide_eq_true h2,decide_eq_true (show a≤x∧x≤b from⟨h1,h2⟩),if_pos ⟨h1,h2⟩]
   refine ko @kQ_ ?_
   first|with_reducible refine ks [] @kQ_ ?_|refine kp @kQ_ ?_
   refine Ow.convFI rfl rfl cvFI Tryz.underlying312 Tryz.underlying3 rfl hx ?_
   refine ko @kQ_ ?_
   first|with_reducible refine ks [] @kQ_ ?_|refine kp @kQ_ ?_
   refine Ow.convIF rfl rfl cvIF Tryz.underlying3 Tryz.underlying312 rfl ?_
   refine ko @kQ_ ?_
   refine Ow.feql rfl rfl rfl hx hx ?_
   rw[show(x==x)=true by simp]
   refine ko @kQ_ ?_
   first|with_reducible refine ks [] @kQ_ ?_|refine kp @kQ_ ?_
   refine⟨_,(ke @kQ_),trivial, ?_⟩
   rfl
  ·rw[decide_eq_false h2,decide_eq_false (show¬ (a≤x∧x≤b) from fun h=>h2 h.2),if_neg (fun h=>h2 h.2)]
   refine ko @kQ_ ?_
   first|with_reducible refine ks [] @kQ_ ?_|refine kp @kQ_ ?_
   refine⟨_,(ke @kQ_),trivial, ?_⟩
   rfl
 ·rw[decide_eq_false h1,decide_eq_false (show¬ (a≤x∧x≤b) from fun h=>h1 h.1),if_neg (fun h=>h1 h.1)]
  refine ko @kQ_ ?_
  first|with_reducible refine ks [] @kQ_ ?_|refine kp @kQ_ ?_
  refine⟨_,(ke @kQ_),trivial, ?_⟩
  rfl
def cpR (p:PcL) (b:Int):Value:=match cpV p b with
 |some q=> .tuple #[vi q.1,vi q.2, .bool true]
 |none=>if(1≤p.n∧p.n≤4099)∧p.x= []∧(p.n:Int)≤b then .tuple #[vi 0,vi p.n, .bool false] else .tuple #[vi 0,vi 0, .bool false]
theorem aqc_ {p:PcL} {b:Int} (h:1≤p.n∧p.n≤4099∧p.x= []∧(p.a:Int)≤b - p.n):cpV p b=some (p.a,p.n):=by unfold cpV;rw[if_pos h]
theorem V7_ {p:PcL} {b:Int} (h: ¬ (1≤p.n∧p.n≤4099∧p.x= []∧(p.a:Int)≤b - p.n)):cpV p b=none:=by unfold cpV;rw[if_neg h]
set_option linter.defProp false
def xf_:=And.intro (And.intro (And.intro (And.intro (@zd_) (@zc_)) (And.intro (@xF_) (@xD_))) (And.intro (And.intro (@va_) (@xm_)) (And.intro (@KJ_) (@cxz)))) (And.intro (And.intro (And.intro (@aaD_) (@WS_)) (And.intro (@kA_) (@Sx.tup2_0))) (And.intro (And.intro (@Sx.tup2_1) (@Sx.tup3_0)) (And.intro (@Sx.tup3_1) (@Sx.tup3_2))))
theorem Zd_ (p:PcL) (b:Int) (w:World) (hp:PcB p) (h0:0≤b) (h1:b≤4099):
  Rets Tryz.prog 247 #[.agg (pcC p).toArray,vi b] w (fun v D=>v=cpR p b∧D= []):=by
 obtain⟨hpa,hpn⟩:=hp
 refine Rets.enterV Tryz.func247 rfl (rs:= [.tmp 4, .tmp 5, .tmp 6]) Tryz.results247 Tryz.ntmps247 ?_
 refine kf ?_
 first|with_reducible refine ks [] @xf_ ?_|refine kp @xf_ ?_
 refine Ow.box rfl rfl fun b2 hb2 hw2=> ?_
 simp only[qB_,qA_,qJ_,zg_,List.nil_append,List.cons_append]
 refine Ow.go rfl ?_
 simp(disch:=(first|assumption|omega| (simp only[VI_,Vi_,UInt64.reduceToNat];try omega))) only[↓Sx.S0,Sx.S1,Tryz.fx,xf_,Nat.reduceAdd,Nat.reducePow,Int.reducePow,Nat.reduceBEq, ↓reduceIte,UInt8.reduceToNat,UInt16.reduceToNat,UInt32.reduceToNat,UInt64.reduceToNat,Int.reduceToNat]
 first|with_reducible refine ks [] @xf_ ?_|refine kp @xf_ ?_
 refine Ow.imag rfl rfl ?_
 refine Ow.callFV rfl Tryz.call253 (fun w' hw'=>abQ_ (p.n:Int) 1 4099 w' (by omega) (by omega) (by omega)) ?_
 unfold cpR
 by_cases c1:1≤p.n
 ·rw[decide_eq_true (show(1:Int)≤ (p.n:Int)∧(p.n:Int)≤4099 by omega),if_pos (show(1:Int)≤ (p.n:Int)∧(p.n:Int)≤4099 by omega)]
  by_cases c2:p.x= []
  ·have d2:decide (0< (p.x.length:Int))=false:=by rw[c2];rfl
   by_cases c4: (p.n:Int)≤b
   ·have d4:decide (b< (p.n:Int))=false:=decide_eq_false (by omega)
    refine ko (And.intro @xf_ (And.intro @d2 (@d4))) ?_
    first|with_reducible refine ks [] @xf_ ?_|refine kp @xf_ ?_
    refine Ow.real rfl rfl ?_
    refine ko @xf_ ?_
    refine Ow.callFV rfl Tryz.call253 (fun w' hw'=>abQ_ (p.a:Int) 0 (b - p.n) w' (by omega) (by omega) (by omega)) ?_
    by_cases c3: (p.a:Int)≤b - p.n
    ·rw[decide_eq_true (show(0:Int)≤ (p.a:Int)∧(p.a:Int)≤b - p.n by omega),if_pos (show(0:Int)≤ (p.a:Int)∧(p.a:Int)≤b - p.n by omega),aqc_ ⟨c1,hpn,c2,c3⟩]
     refine ko @xf_ ?_
     first|with_reducible refine ks [] @xf_ ?_|refine kp @xf_ ?_
     refine⟨_,(ke @xf_),⟨hw2,trivial⟩, ?_⟩
     rfl
    ·rw[decide_eq_false (show¬ ((0:Int)≤ (p.a:Int)∧(p.a:Int)≤b - p.n) by omega),if_neg (show¬ ((0:Int)≤ (p.a:Int)∧(p.a:Int)≤b - p.n) by omega),V7_ (fun h=>c3 h.2.2.2)]
     simp only
     rw[if_pos ⟨⟨c1,hpn⟩,c2,c4⟩]
     refine ko @xf_ ?_
     first|with_reducible refine ks [] @xf_ ?_|refine kp @xf_ ?_
     refine⟨_,(ke @xf_),⟨hw2,trivial⟩, ?_⟩
     rfl
   ·have d4:decide (b< (p.n:Int))=true:=decide_eq_true (by omega)
    rw[V7_ (fun h=>by have:=h.2.2.2;omega)]
    simp only
    rw[if_neg (fun h=>c4 h.2.2)]
    refine ko (And.intro @xf_ (And.intro @d2 (@d4))) ?_
    first|with_reducible refine ks [] @xf_ ?_|refine kp @xf_ ?_
    refine⟨_,(ke @xf_),⟨hw2,trivial⟩, ?_⟩
    rfl
  ·have d2:decide (0< (p.x.length:Int))=true:=decide_eq_true (by have:=List.length_pos_iff.2 c2;omega)
   rw[V7_ (fun h=>c2 h.2.2.1)]
   simp only
   rw[if_neg (fun h=>c2 h.2.1)]
   refine ko (And.intro @xf_ @d2) ?_
   first|with_reducible refine ks [] @xf_ ?_|refine kp @xf_ ?_
   refine⟨_,(ke @xf_),⟨hw2,trivial⟩, ?_⟩
   rfl
 ·rw[decide_eq_false (show¬ ((1:Int)≤ (p.n:Int)∧(p.n:Int)≤4099) by omega),if_neg (show¬ ((1:Int)≤ (p.n:Int)∧(p.n:Int)≤4099) by omega),V7_ (fun h=>c1 h.1)]
  simp only
  rw[if_neg (fun h=>c1 h.1.1)]
  refine ko @xf_ ?_
  first|with_reducible refine ks [] @xf_ ?_|refine kp @xf_ ?_
  refine⟨_,(ke @xf_),⟨hw2,trivial⟩, ?_⟩
  rfl
end Go.Proofs
end
section
open Go Go.Proofs Go.Sx Go.StP Go.Flo
namespace Go.Proofs
set_option maxRecDepth 10000
set_option maxHeartbeats 400000
set_option linter.unusedSimpArgs false
theorem Kp_ {p:PcL} {b:Int} (h:j8_ p b≠0):j8_ p b=(match cpV p b with|some q=>q.2|none=>p.x.length):=by
 unfold j8_ at h ⊢
 split
 ·rename_i hz
  rw[V7_ (fun hc=>by omega)]
 ·rename_i hz
  rw[if_neg hz] at h
  cases hc:cpV p b with
  |none=>rw[hc] at h;exact absurd rfl h
  |some q=>rfl
theorem aow_ {p:PcL} {b:Int} {q:Nat×Nat} (h:cpV p b=some q):q=(p.a,p.n)∧1≤p.n:=by
 unfold cpV at h
 split at h
 ·rename_i hc;cases h;exact⟨rfl,hc.1⟩
 ·cases h
set_option linter.defProp false
def jS_:=And.intro (And.intro (And.intro (And.intro (@zd_) (@zc_)) (And.intro (@xF_) (@xD_))) (And.intro (And.intro (@va_) (@xm_)) (And.intro (@KJ_) (@cxz)))) (And.intro (And.intro (And.intro (@aaD_) (@WS_)) (And.intro (@kA_) (@Sx.tup2_0))) (And.intro (And.intro (@Sx.tup2_1) (@Sx.tup3_0)) (And.intro (@Sx.tup3_1) (@Sx.tup3_2))))
theorem aeF_ (p:PcL) (b:Int) (w:World) (hp:PcB p) (h0:0≤b) (h1:b≤4099):
  Rets Tryz.prog 252 #[.agg (pcC p).toArray,vi b] w (fun v D=>v= .bool (decide (j8_ p b≠0))∧D= []):=by
 have hp':=hp
 obtain⟨hpa,hpn⟩:=hp'
 have hcall: ¬ (p.a=0∧p.n=0)→(cpV p b).isSome=decide (j8_ p b≠0):=by
  intro hz
  unfold j8_
  rw[if_neg (fun h=>hz ⟨h.1,h.2.1⟩)]
  cases hc:cpV p b with
  |none=>rfl
  |some q=>
   obtain⟨rfl,hn⟩:=aow_ hc
   rw[decide_eq_true (show p.n≠0 by omega)]
   rfl
 refine Rets.enterV Tryz.func252 rfl (rs:= [.tmp 4]) Tryz.results252 Tryz.ntmps252 ?_
 refine kf ?_
 first|with_reducible refine ks [3] @jS_ ?_|refine kp @jS_ ?_
 refine Ow.box rfl rfl fun b2 hb2 hw2=> ?_
 simp only[qB_,qA_,qJ_,zg_,List.nil_append,List.cons_append]
 refine Ow.go rfl ?_
 simp(disch:=(first|assumption|omega| (simp only[VI_,Vi_,UInt64.reduceToNat];try omega))) only[↓Sx.S0,Sx.S1,Tryz.fx,jS_,Nat.reduceAdd,Nat.reducePow,Int.reducePow,Nat.reduceBEq, ↓reduceIte,UInt8.reduceToNat,UInt16.reduceToNat,UInt32.reduceToNat,UInt64.reduceToNat,Int.reduceToNat]
 first|with_reducible refine ks [] @jS_ ?_|refine kp @jS_ ?_
 refine Ow.real rfl rfl ?_
 refine Ow.feql (b:=0) rfl rfl rfl (by omega) (by omega) ?_
 have fin: ∀v,v=cpR p b→ ∃x y,v= .tuple #[x,y, .bool (cpV p b).isSome]:=by
  rintro v rfl
  unfold cpR
  cases cpV p b with
  |some q=>exact⟨_,_,rfl⟩
  |none=>
   simp only
   split
   ·exact⟨_,_,rfl⟩
   ·exact⟨_,_,rfl⟩
 obtain⟨x,y,hxy⟩:=fin _ rfl
 by_cases ha:p.a=0
 ·have e1: (((p.a:Nat):Int)==0)=true:=by rw[ha];rfl
  rw[e1]
  refine ko @jS_ ?_
  refine Ow.imag rfl rfl ?_
  refine Ow.feql (b:=0) rfl rfl rfl (by omega) (by omega) ?_
  by_cases hn:p.n=0
  ·have e2: (((p.n:Nat):Int)==0)=true:=by rw[hn];rfl
   rw[e2]
   have hc:cpV p b=none:=V7_ (fun h=>by omega)
   by_cases hl:1≤p.x.length
   ·have d1:decide ((1:Int)≤ (p.x.length:Int))=true:=decide_eq_true (by omega)
    by_cases hm:p.x.length≤4099
    ·have d2:decide ((p.x.length:Int)≤4099)=true:=decide_eq_true (by omega)
     have hr:decide (j8_ p b≠0)=true:=decide_eq_true (by unfold j8_;rw[if_pos ⟨ha,hn,hm⟩];omega)
     rw[hr]
     refine ko (And.intro @jS_ (And.intro @d1 (@d2))) ?_
     first|with_reducible refine ks [] (And.intro @jS_ (And.intro @d1 (@d2))) ?_|refine kp (And.intro @jS_ (And.intro @d1 (@d2))) ?_
     refine⟨_,(ke @jS_),⟨hw2,trivial⟩, ?_⟩
     rfl
    ·have d2:decide ((p.x.length:Int)≤4099)=false:=decide_eq_false (by omega)
     have hr:decide (j8_ p b≠0)=false:=decide_eq_false (by unfold j8_;rw[if_neg (fun h=>hm h.2.2),hc];simp)
     rw[hr]
     refine ko (And.intro @jS_ (And.intro @d1 (@d2))) ?_
     first|with_reducible refine ks [] (And.intro @jS_ (And.intro @d1 (@d2))) ?_|refine kp (And.intro @jS_ (And.intro @d1 (@d2))) ?_
     refine⟨_,(ke @jS_),⟨hw2,trivial⟩, ?_⟩
     rfl
   ·have d1:decide ((1:Int)≤ (p.x.length:Int))=false:=decide_eq_false (by omega)
    have hr:decide (j8_ p b≠0)=false:=decide_eq_false (by unfold j8_;rw[if_pos ⟨ha,hn,by omega⟩];omega)
    rw[hr]
    refine ko (And.intro @jS_ @d1) ?_
    first|with_reducible refine ks [] (And.intro @jS_ @d1) ?_|refine kp (And.intro @jS_ @d1) ?_
    refine⟨_,(ke @jS_),⟨hw2,trivial⟩, ?_⟩
    rfl
  ·have e2: (((p.n:Nat):Int)==0)=false:=beq_eq_false_iff_ne.2 (by omega)
   rw[e2,←hcall (fun h=>hn h.2)]
   refine ko @jS_ ?_
   first|with_reducible refine ks [] @jS_ ?_|refine kp @jS_ ?_
   refine Ow.callFV rfl Tryz.call247 (fun w' hw'=>Zd_ p b w' hp h0 h1) ?_
   rw[hxy]
   refine ko @jS_ ?_
   first|with_reducible refine ks [] @jS_ ?_|refine kp @jS_ ?_
   refine⟨_,(ke @jS_),⟨hw2,trivial⟩, ?_⟩
   rfl
 ·have e1: (((p.a:Nat):Int)==0)=false:=beq_eq_false_iff_ne.2 (by omega)
  rw[e1,←hcall (fun h=>ha h.1)]
  refine ko @jS_ ?_
  first|with_reducible refine ks [] @jS_ ?_|refine kp @jS_ ?_
  refine Ow.callFV rfl Tryz.call247 (fun w' hw'=>Zd_ p b w' hp h0 h1) ?_
  rw[hxy]
  refine ko @jS_ ?_
  first|with_reducible refine ks [] @jS_ ?_|refine kp @jS_ ?_
  refine⟨_,(ke @jS_),⟨hw2,trivial⟩, ?_⟩
  rfl
end Go.Proofs
end
section
open Go Go.Proofs Go.Sx Go.StP Go.Flo
namespace Go.Proofs
set_option maxRecDepth 10000
set_option maxHeartbeats 400000
set_option linter.unusedSimpArgs false
theorem af8_ {p:PcL} {b:Int} {q:Nat×Nat} (h:cpV p b=some q):cpR p b= .tuple #[vi q.1,vi q.2, .bool true]:=by unfold cpR;rw[h]
theorem age_ {p:PcL} {b:Int} (h:cpV p b=none): ∃y:Int,cpR p b= .tuple #[vi 0,vi y, .bool false]:=by
 unfold cpR
 rw[h]
 simp only
 split
 ·exact⟨_,rfl⟩
 ·exact⟨_,rfl⟩
set_option linter.defProp false
def jr_:=And.intro (And.intro (And.intro (@zd_) (@zc_)) (And.intro (@xF_) (And.intro (@xD_) (@va_)))) (And.intro (And.intro (@xm_) (And.intro (@Sx.tup2_0) (@Sx.tup2_1))) (And.intro (@Sx.tup3_0) (And.intro (@Sx.tup3_1) (@Sx.tup3_2))))
theorem X2_ (b:Int) (v:Value) (l:List PcL) (w:World) (hv:PcSl w v l) (hl:BndP l) (hn:l.length<1000000000):
  Rets Tryz.prog 246 #[vi b,v] w (fun v D=>v= .tuple #[vi (chkV b l).1,vi (chkV b l).2]∧D= []):=by
 obtain⟨bb,off,arr,E,fz,hr⟩:=hv.row
 have ln:=hv.len
 refine Rets.enterV Tryz.func246 rfl (rs:= [.tmp 4, .tmp 5]) Tryz.results246 Tryz.ntmps246 ?_
 refine kf ?_
 unfold chkV
 by_cases hb0:b<0
 ·have d1:decide (b<0)=true:=decide_eq_true hb0
  rw[if_pos (.inl hb0)]
  first|with_reducible refine ks [] (And.intro @jr_ @d1) ?_|refine kp (And.intro @jr_ @d1) ?_
  refine⟨_,(ke @jr_),trivial, ?_⟩
  rfl
 have d1:decide (b<0)=false:=decide_eq_false hb0
 by_cases hb4:4099<b
 ·have d2:decide (4099<b)=true:=decide_eq_true hb4
  rw[if_pos (.inr hb4)]
  first|with_reducible refine ks [] (And.intro @jr_ (And.intro @d1 (@d2))) ?_|refine kp (And.intro @jr_ (And.intro @d1 (@d2))) ?_
  refine⟨_,(ke @jr_),trivial, ?_⟩
  rfl
 have d2:decide (4099<b)=false:=decide_eq_false hb4
 rw[if_neg (by omega)]
 first|with_reducible refine ks [] (And.intro @jr_ (And.intro @d1 (@d2))) ?_|refine kp (And.intro @jr_ (And.intro @d1 (@d2))) ?_
 refine Cw.loopG (G:=Nat) [18,19,20,21,24,25,26,27,28,29,30,4,5,22,23,6] (fun g=> [(6,vi g)]) (fun g=> []) (fun g=>g≤l.length∧anyZ b (l.take g)=false) (fun g=>l.length - g) 0 rfl rfl ?_ ?_
 ·exact⟨Nat.zero_le _,rfl⟩
 intro k jk hk
 refine kv ?_
 obtain⟨hk,hz⟩:=hk
 by_cases hlt:k<l.length
 ·have d3:decide ((k:Int)< (l.length:Int))=true:=decide_eq_true (by omega)
  have rd:=hr.has (by omega)
  have ix:=hr.idx true k hlt
  have ld:=hr.load ZN_ (by omega) hlt
  obtain⟨hpb,hpx⟩:=hl k hlt
  have htk:=ajx_ (b:=b) hlt
  have hmz:=WB_ (b:=b) hlt
  generalize l.getD k pc0=p at*
  first|with_reducible refine ks [] (And.intro @jr_ (And.intro @ln (And.intro @d3 (And.intro @ix (And.intro @rd (@ld)))))) ?_|refine kp (And.intro @jr_ (And.intro @ln (And.intro @d3 (And.intro @ix (And.intro @rd (@ld)))))) ?_
  refine Ow.callFV rfl Tryz.call252 (fun w' hw'=>aeF_ p b w' hpb (by omega) (by omega)) ?_
  by_cases hp0:j8_ p b=0
  ·rw[decide_eq_false (show¬ (j8_ p b≠0) by omega),if_pos (hmz hp0)]
   refine ko @jr_ ?_
   first|with_reducible refine ks [] @jr_ ?_|refine kp @jr_ ?_
   refine⟨_,(ke @jr_),trivial, ?_⟩
   rfl
  ·rw[decide_eq_true (show j8_ p b≠0 from hp0)]
   refine ko @jr_ ?_
   first|with_reducible refine ks [] @jr_ ?_|refine kp @jr_ ?_
   refine Again.mk (k+1) (by omega) ⟨hlt, ?_⟩ rfl rfl
   rw[htk,hz,Bool.false_or]
   exact beq_eq_false_iff_ne.2 hp0
 ·obtain rfl:k=l.length:=by omega
  have d3:decide ((l.length:Int)< (l.length:Int))=false:=decide_eq_false (by omega)
  rw[List.take_length] at hz
  rw[if_neg (by rw[hz];decide)]
  first|with_reducible refine ks [] (And.intro @jr_ (And.intro @ln (@d3))) ?_|refine kp (And.intro @jr_ (And.intro @ln (@d3))) ?_
  refine Cw.loopG (G:=Nat) [31,32,33,34,38,39,40,41,42,43,37,44,45,46,9,10,11,47,48,49,50,51,52,53,54,55,56,57,7,58,59,4,5,35,36,8] (fun g=> [(7,vi (wR_ b (l.take g):Nat)),(8,vi g)]) (fun g=> []) (fun g=>g≤l.length∧wR_ b (l.take g)≤4099) (fun g=>l.length - g) 0 rfl rfl ?_ ?_
  ·exact⟨Nat.zero_le _,by simp[wR_]⟩
  intro m jm hm
  refine kv ?_
  obtain⟨hm,hs⟩:=hm
  by_cases hlt:m<l.length
  ·have d4:decide ((m:Int)< (l.length:Int))=true:=decide_eq_true (by omega)
   have rd:=hr.has (by omega)
   have ix:=hr.idx true m hlt
   have ld:=hr.load ZN_ (by omega) hlt
   have ld1:zl_ (some (false,1)) (some (.cells arr E fz)) (off+m*2+1)=some (vs (l.getD m pc0).x):=hr.cell (j:=1) (n:=1) hlt (by omega)
   obtain⟨hpb,hpx⟩:=hl m hlt
   have hst:=aje_ (b:=b) hlt
   have hle:=JH_ (b:=b) (l:=l) (g:=m+1)
   have hp0:j8_ (l.getD m pc0) b≠0:=fun h=>by rw[WB_ hlt h] at hz;cases hz
   have hpr:=Kp_ hp0
   have hpl:=afO_ (l.getD m pc0) b
   generalize l.getD m pc0=p at*
   first|with_reducible refine ks [15] (And.intro @jr_ (And.intro @ln (And.intro @d4 (And.intro @ix (And.intro @rd (@ld)))))) ?_|refine kp (And.intro @jr_ (And.intro @ln (And.intro @d4 (And.intro @ix (And.intro @rd (@ld)))))) ?_
   refine Ow.callFV rfl Tryz.call247 (fun w' hw'=>Zd_ p b w' hpb (by omega) (by omega)) ?_
   have fin: ∀N:Nat,wR_ b (l.take (m+1))=wR_ b (l.take m)+N→((wR_ b (l.take m):Nat):Int)+ (N:Int)=((wR_ b (l.take (m+1)):Nat):Int):=fun N h=>by omega
   cases hc:cpV p b with
   |some q=>
    rw[hc] at hpr
    simp only at hpr
    rw[af8_ hc,←hpr]
    generalize j8_ p b=N at*
    have hf:=fin N hst
    refine ko @jr_ ?_
    by_cases h4:4099<wR_ b (l.take (m+1))
    ·have d5:decide ((4099:Int)< ((wR_ b (l.take (m+1)):Nat):Int))=true:=decide_eq_true (by omega)
     rw[if_pos (show 4099<wR_ b l by omega)]
     first|with_reducible refine ks [] (And.intro @jr_ (And.intro @hf (@d5))) ?_|refine kp (And.intro @jr_ (And.intro @hf (@d5))) ?_
     refine⟨_,(ke @jr_),trivial, ?_⟩
     rfl
    ·have d5:decide ((4099:Int)< ((wR_ b (l.take (m+1)):Nat):Int))=false:=decide_eq_false (by omega)
     first|with_reducible refine ks [] (And.intro @jr_ (And.intro @hf (@d5))) ?_|refine kp (And.intro @jr_ (And.intro @hf (@d5))) ?_
     exact Again.mk (m+1) (by omega) ⟨hlt,by omega⟩ rfl rfl
   |none=>
    rw[hc] at hpr
    simp only at hpr
    obtain⟨y,hy⟩:=age_ hc
    rw[hy]
    have hf:=fin p.x.length (by omega)
    refine ko (And.intro @jr_ (And.intro @ix (And.intro @rd (@ld1)))) ?_
    by_cases h4:4099<wR_ b (l.take (m+1))
    ·have d5:decide ((4099:Int)< ((wR_ b (l.take (m+1)):Nat):Int))=true:=decide_eq_true (by omega)
     rw[if_pos (show 4099<wR_ b l by omega)]
     first|with_reducible refine ks [] (And.intro @jr_ (And.intro @hf (@d5))) ?_|refine kp (And.intro @jr_ (And.intro @hf (@d5))) ?_
     refine⟨_,(ke @jr_),trivial, ?_⟩
     rfl
    ·have d5:decide ((4099:Int)< ((wR_ b (l.take (m+1)):Nat):Int))=false:=decide_eq_false (by omega)
     first|with_reducible refine ks [] (And.intro @jr_ (And.intro @hf (@d5))) ?_|refine kp (And.intro @jr_ (And.intro @hf (@d5))) ?_
     exact Again.mk (m+1) (by omega) ⟨hlt,by omega⟩ rfl rfl
  ·obtain rfl:m=l.length:=by omega
   have d4:decide ((l.length:Int)< (l.length:Int))=false:=decide_eq_false (by omega)
   rw[List.take_length] at hs
   rw[if_neg (by omega),List.take_length]
   first|with_reducible refine ks [] (And.intro @jr_ (And.intro @ln (@d4))) ?_|refine kp (And.intro @jr_ (And.intro @ln (@d4))) ?_
   refine⟨_,(ke @jr_),trivial, ?_⟩
   rfl
end Go.Proofs
end
section
open Go Go.Proofs Go.Sx Go.StP Go.Flo
namespace Go.Proofs
set_option maxRecDepth 10000
set_option maxHeartbeats 400000
set_option linter.unusedSimpArgs false
theorem arr_ {p:PcL} {b:Int} {q:Nat×Nat} (h:cpV p b=some q):q=(p.a,p.n)∧1≤p.n∧p.n≤4099∧p.x= []∧(p.a:Int)≤b - p.n:=by
 unfold cpV at h
 split at h
 ·rename_i hc;cases h;exact⟨rfl,hc⟩
 ·cases h
set_option linter.defProp false
def vy_:=And.intro (And.intro (And.intro (@zd_) (@zc_)) (And.intro (@xF_) (And.intro (@xD_) (@va_)))) (And.intro (And.intro (@xm_) (And.intro (@Sx.tup2_0) (@Sx.tup2_1))) (And.intro (@Sx.tup3_0) (And.intro (@Sx.tup3_1) (@Sx.tup3_2))))
theorem aeB_ (base:List UInt8) (v:Value) (l:List PcL) (w:World) (hv:PcSl w v l) (hl:BndP l) (hn:l.length<1000000000):
  Rets Tryz.prog 235 #[vs base,v] w (fun v' D=>v'= .tuple #[vs (if(chkV base.length l).2=0 then txtP base l else []),vi (chkV base.length l).2]∧D= []):=by
 obtain⟨bb,off,arr,E,fz,hr⟩:=hv.row
 have ln:=hv.len
 refine Rets.enterV Tryz.func235 rfl (rs:= [.tmp 4, .tmp 5]) Tryz.results235 Tryz.ntmps235 ?_
 refine kf ?_
 first|with_reducible refine ks [] @vy_ ?_|refine kp @vy_ ?_
 refine Ow.callFV rfl Tryz.call246 (fun w' hw'=>X2_ (base.length:Int) v l w' (hv.oldN hw' trivial) hl hn) ?_
 by_cases he: (chkV base.length l).2=0
 ·obtain⟨m,hm⟩: ∃m,chkV base.length l=(m,0):=⟨(chkV base.length l).1,by rw[←he]⟩
  obtain⟨-,hb4,hz,hs4,-,hl4⟩:=aep_ hm
  rw[if_pos he,hm]
  have e0: ((0:Int) !=0)=false:=rfl
  refine ko @vy_ ?_
  first|with_reducible refine ks [] (And.intro @vy_ @e0) ?_|refine kp (And.intro @vy_ @e0) ?_
  refine Cw.loopG (G:=Nat) [23,24,25,26,30,31,32,33,34,35,36,29,37,38,39,10,11,12,40,41,42,43,44,45,46,47,48,8,49,50,51,52,53,54,55,27,28,9] (fun g=> [(8,vs (txtP base (l.take g))),(9,vi g)]) (fun g=> []) (fun g=>g≤l.length) (fun g=>l.length - g) 0 rfl rfl ?_ ?_
  ·exact Nat.zero_le _
  intro k jk hk
  refine kv ?_
  by_cases hlt:k<l.length
  ·have d3:decide ((k:Int)< (l.length:Int))=true:=decide_eq_true (by omega)
   have rd:=hr.has (by omega)
   have ix:=hr.idx true k hlt
   have ld:=hr.load ZN_ (by omega) hlt
   have ld1:zl_ (some (false,1)) (some (.cells arr E fz)) (off+k*2+1)=some (vs (l.getD k pc0).x):=hr.cell (j:=1) (n:=1) hlt (by omega)
   obtain⟨hpb,hpx⟩:=hl k hlt
   have htk:=aiM_ (base:=base) hlt
   have hpt:pcT base (l.getD k pc0)=(match cpV (l.getD k pc0) base.length with|some q=>(base.drop q.1).take q.2++ (l.getD k pc0).x|none=>(l.getD k pc0).x):=rfl
   have htl: (txtP base (l.take k)).length≤4099:=by
    rw[aaC_ (base:=base) (apT_ (g:=k) hz)]
    have:=JH_ (b:=(base.length:Int)) (l:=l) (g:=k)
    omega
   have hxl:cpV (l.getD k pc0) base.length=none→(l.getD k pc0).x.length≤4099:=fun hc=>by
    have hp0:j8_ (l.getD k pc0) base.length≠0:=fun h=>by rw[WB_ hlt h] at hz;cases hz
    have h1:=Kp_ hp0
    have h2:=afO_ (l.getD k pc0) base.length
    rw[hc] at h1
    simp only at h1
    omega
   generalize l.getD k pc0=p at*
   first|with_reducible refine ks [] (And.intro @vy_ (And.intro @ln (And.intro @d3 (And.intro @ix (And.intro @rd (@ld)))))) ?_|refine kp (And.intro @vy_ (And.intro @ln (And.intro @d3 (And.intro @ix (And.intro @rd (@ld)))))) ?_
   refine Ow.callFV rfl Tryz.call247 (fun w' hw'=>Zd_ p (base.length:Int) w' hpb (by omega) (by omega)) ?_
   cases hc:cpV p base.length with
   |some q=>
    rw[hc] at hpt
    simp only at hpt
    obtain⟨rfl,h1,h2,h3,h4⟩:=arr_ hc
    rw[af8_ hc]
    rw[h3,List.append_nil] at hpt
    simp only at hpt ⊢
    refine ko @vy_ ?_
    first|with_reducible refine ks [] @vy_ ?_|refine kp @vy_ ?_
    refine Again.mk (k+1) (by omega) (by omega) rfl ?_
    rw[htk,hpt,←show(base.take (p.a+p.n)).drop p.a=(base.drop p.a).take p.n by rw[List.drop_take,Nat.add_sub_cancel_left]]
    rfl
   |none=>
    rw[hc] at hpt
    simp only at hpt
    obtain⟨y,hy⟩:=age_ hc
    have hx4:=hxl hc
    rw[hy]
    refine ko @vy_ ?_
    first|with_reducible refine ks [] (And.intro @vy_ (And.intro @ix (And.intro @rd (@ld1)))) ?_|refine kp (And.intro @vy_ (And.intro @ix (And.intro @rd (@ld1)))) ?_
    refine Again.mk (k+1) (by omega) (by omega) rfl ?_
    rw[htk,hpt]
    rfl
  ·obtain rfl:k=l.length:=by omega
   have d3:decide ((l.length:Int)< (l.length:Int))=false:=decide_eq_false (by omega)
   rw[List.take_length]
   first|with_reducible refine ks [] (And.intro @vy_ (And.intro @ln (@d3))) ?_|refine kp (And.intro @vy_ (And.intro @ln (@d3))) ?_
   refine⟨_,(ke @vy_),trivial, ?_⟩
   rfl
 ·rw[if_neg he]
  have e0: ((chkV base.length l).2 !=0)=true:=bne_iff_ne.2 he
  refine ko @vy_ ?_
  first|with_reducible refine ks [] (And.intro @vy_ @e0) ?_|refine kp (And.intro @vy_ @e0) ?_
  refine⟨_,(ke @vy_),trivial, ?_⟩
  rfl
end Go.Proofs
end
section
open Go Go.Proofs Go.Sx Go.StP Go.Flo
namespace Go.Proofs
set_option maxRecDepth 10000
set_option maxHeartbeats 400000
set_option linter.unusedSimpArgs false
def rrO (s:List UInt8) (a:Nat) (e:Int):Obj:= .cells #[vs s,vi a,vi e] 217 (0,0)
theorem afX_ (s:List UInt8) (a:Nat) (e:Int) (n:Nat):zl_ (some (false,n)) (some (rrO s a e)) 0=some (vs s):=(rfl)
theorem agB_ (s:List UInt8) (a:Nat) (e:Int) (n:Nat):zl_ (some (false,n)) (some (rrO s a e)) 1=some (vi a):=(rfl)
theorem afG_ (s:List UInt8) (a:Nat) (e:Int) (n:Nat):zl_ (some (false,n)) (some (rrO s a e)) 2=some (vi e):=(rfl)
theorem aa1_ (b:Nat) (s:List UInt8) (a:Nat) (e n:Int) (w:World) (ha:a≤s.length) (hs:s.length<1099511627776) (ho:w.heap[b]? =some (rrO s a e)):
  Rets Tryz.prog 182 #[vp b 0,vi n] w (fun v D=> ∃o,D= [(b,o)]∧v=vs (js_ s a e n).1∧o=rrO s (js_ s a e n).2.1 (js_ s a e n).2.2):=ZF_ b s a e n w ha hs ho
theorem q5_ (b:Nat) (s:List UInt8) (a:Nat) (e most:Int) (w:World) (ha:a≤s.length) (hs:s.length<1099511627776) (ho:w.heap[b]? =some (rrO s a e)):
  Rets Tryz.prog 146 #[vp b 0,vi most] w (fun v D=> ∃o,D= [(b,o)]∧v=vi (zB_ s a e most).1∧o=rrO s (zB_ s a e most).2.1 (zB_ s a e most).2.2):=xG_ b s a e most w ha hs ho
theorem Jh_ (b:Nat) (s:List UInt8) (a:Nat) (e:Int) (w:World) (ho:w.heap[b]? =some (rrO s a e)):
  Rets Tryz.prog 145 #[vp b 0] w (fun v D=>v=vi (vO_ s a e)∧D= []):=v1_ b s a e w ho
theorem zrRR:zX_ Tryz.prog 217=some (.agg #[vs [],vi 0,vi 0]):=id (by kernel_rfl)
theorem ami_ (s:List UInt8):j6_ (Zk_ Tryz.prog 217) (zX_ Tryz.prog 217) [(0,vs s)]=some (.agg #[vs s,vi 0,vi 0]):=by
 rw[show Zk_ Tryz.prog 217=some [(0,1),(1,1),(2,1)] from id (by kernel_rfl),zrRR];rfl
theorem aj5_:j6_ (Zk_ Tryz.prog 311) (zX_ Tryz.prog 311) []=some (.agg (pcC pc0).toArray):=by
 rw[show Zk_ Tryz.prog 311=some [(0,1),(1,1)] from id (by kernel_rfl),zrPc];rfl
theorem ajC_ (x n:Nat) (E:TypeId) (a:Bool):zr_ (some (a,1)) (some (.cells (pcC pc0).toArray E (0,0))) 0 (cx x n)=some (.cells (pcC ⟨x,n,[]⟩).toArray E (0,0)):=(rfl)
theorem akm_ (x:List UInt8) (E:TypeId) (a:Bool):zr_ (some (a,1)) (some (.cells (pcC pc0).toArray E (0,0))) 1 (vs x)=some (.cells (pcC ⟨0,0,x⟩).toArray E (0,0)):=(rfl)
structure RrG where
 a:Nat
 e:Int
 out:List PcL
 v:Value
 D:za_
 DG:za_
def RrJ (d:List UInt8) (a0:Nat) (e0:Int) (sz:Nat) (g:RrG):Prop:=
 New sz g.D∧New sz g.DG∧Gr g.D 311 2 g.v g.out.length (g.out.map pcC).flatten∧g.a≤d.length∧BndP g.out∧g.out.length≤g.a+1∧(g.e=0→g.out.length≤g.a)∧
  ((e0≠0∧g.e≠0)∨(e0=0∧((g.e=0∧pcs d a0=(g.out++ (pcs d g.a).1,(pcs d g.a).2))∨(g.e≠0∧pcs d a0=(g.out,g.a,g.e)))))
def agx_ (d:List UInt8) (v:Value) (D:za_):Prop:=match Z8_ d with
 |some p=> ∃x,v= .tuple #[vi p.1,x, .bool true]∧BndP p.2∧p.2.length≤4099∧p.1≤4099∧GrI D 311 2 x p.2.length (p.2.map pcC).flatten
 |none=>v= .tuple #[vi 0, .slice none 0 0, .bool false]
theorem alu_ {out:List PcL} {p:PcL} (h:BndP out) (hp:PcB p∧p.x.length<9223372036854775808):BndP (out++ [p]):=by
 intro g hg
 by_cases hlt:g<out.length
 ·rw[Wj_ hlt];exact h g hlt
 ·rw[List.length_append] at hg
  rw[V4_ (by omega),show g - out.length=0 by simp at hg;omega]
  exact hp
set_option linter.defProp false
def qh_:=And.intro (And.intro (And.intro (@zd_) (And.intro (@zc_) (@afX_))) (And.intro (And.intro (@agB_) (@afG_)) (And.intro (@xF_) (@xD_)))) (And.intro (And.intro (And.intro (@va_) (@xm_)) (And.intro (@Sx.tup2_0) (@Sx.tup2_1))) (And.intro (And.intro (@Sx.tup3_0) (@Sx.tup3_1)) (And.intro (@Sx.tup3_2) (@kA_))))
theorem aeJ_ (d:List UInt8) (w:World) (hd:d.length<100000000):Rets Tryz.prog 234 #[vs d] w (XS w [] (agx_ d)):=by
 refine Rets.enterX Tryz.func234 rfl (rs:= [.tmp 2, .tmp 3, .tmp 4]) Tryz.results234 Tryz.ntmps234 (fun p hp=>by cases hp) (by simp[keys]) ?_
 refine kf ?_
 first|with_reducible refine ks [] @qh_ ?_|refine kp @qh_ ?_
 refine Ow.build (.agg #[vs d,vi 0,vi 0]) rfl (ami_ d) ?_
 refine ko @qh_ ?_
 refine Ow.box rfl rfl fun br hbr hwr=> ?_
 simp only[qB_,qA_,qJ_,zg_,List.nil_append]
 refine Ow.permL (M:= [(br,rrO d 0 0)]) (List.Perm.refl _) ?_
 refine ko @qh_ ?_
 first|with_reducible refine ks [] @qh_ ?_|refine kp @qh_ ?_
 have l1:=jo_ (s:=d) (a:=0) (e:=0) (most:=4099) (Nat.zero_le _)
 have m1:=jJ_ (s:=d) (a:=0) (e:=0) (most:=4099) (by omega)
 refine Ow.callM rfl rfl Tryz.call146 (by simp[keys]) (fun w' hw'=>q5_ br d 0 0 4099 w' (Nat.zero_le _) (by omega) (hw'.has _ _ List.mem_cons_self)) ?_
 refine kn ?_
 refine ko @qh_ ?_
 first|with_reducible refine ks [] @qh_ ?_|refine kp @qh_ ?_
 have l2:=jo_ (s:=d) (a:=(zB_ d 0 0 4099).2.1) (e:=(zB_ d 0 0 4099).2.2) (most:=4099) l1.2
 refine Ow.callM rfl rfl Tryz.call146 (by simp[keys]) (fun w' hw'=>q5_ br d (zB_ d 0 0 4099).2.1 (zB_ d 0 0 4099).2.2 4099 w' l1.2 (by omega) (hw'.has _ _ List.mem_cons_self)) ?_
 have hdR:=acN_ d
 rw[show zB_ d 0 0 4099=dB d from rfl] at l2 m1 ⊢
 rw[show zB_ d (dB d).2.1 (dB d).2.2 4099=dM d from rfl] at l2 ⊢
 refine kn ?_
 refine ko @qh_ ?_
 first|with_reducible refine ks [] @qh_ ?_|refine kp @qh_ ?_
 refine Cw.permL (M:=(br,rrO d (dM d).2.1 (dM d).2.2):: ([]++ [])) (List.Perm.refl _) ?_
 refine Cw.loopG (G:=RrG) [20,21,22,23,24,25,26,27,28,29,30,31,32,33,34,35,9,36,10,37,38,39,40,41,42,43,44,45,46,47,48,49,50,51,52,53,54,55,56,8] (fun g=> [(8,g.v)]) (fun g=>(br,rrO d g.a g.e):: (g.D++g.DG)) (fun g=>RrJ d (dM d).2.1 (dM d).2.2 w.heap.size g) (fun g=>(if g.e=0 then d.length - g.a+1 else 0)) ⟨(dM d).2.1,(dM d).2.2,[], .slice none 0 0,[],[]⟩ rfl rfl ?_ ?_
 ·refine⟨trivial,trivial,Gr.nl,l2.2,fun g hg=>by simp at hg,by simp,fun _=>Nat.zero_le _, ?_⟩
  by_cases he: (dM d).2.2=0
  ·exact .inr ⟨he, .inl ⟨he,rfl⟩⟩
  ·exact .inl ⟨he,he⟩
 intro g j hg
 refine kv ?_
 obtain⟨a,e,out,v,D,DG⟩:=g
 obtain⟨hN,hNG,hG,hal,hB,hol,hol0,hrel⟩:=hg
 simp only at hN hNG hG hal hB hol hol0 hrel ⊢
 by_cases hc:e=0∧a<d.length
 ·obtain⟨rfl,hlt⟩:=hc
  have e0: ((0:Int)==0)=true:=rfl
  have d1:decide ((a:Int)< (d.length:Int))=true:=decide_eq_true (by omega)
  have hle1:=jo_ (s:=d) (a:=a) (e:=0) (most:=8199) hal
  have hm1:=jJ_ (s:=d) (a:=a) (e:=0) (most:=8199) (by omega)
  have hpR:pcR d a=pcR d a:=rfl
  conv at hpR=>rhs;unfold pcR
  first|with_reducible refine ks [1000008] (And.intro @qh_ (And.intro @e0 (@d1))) ?_|refine kp (And.intro @qh_ (And.intro @e0 (@d1))) ?_
  refine Ow.callM rfl rfl Tryz.call146 (by simp[keys]) (fun w' hw'=>q5_ br d a 0 8199 w' hal (by omega) (hw'.has _ _ List.mem_cons_self)) ?_
  generalize zB_ d a 0 8199=q at*
  obtain⟨q1,a1,e1⟩:=q
  simp only at hle1 hm1 hpR ⊢
  obtain⟨Q,rfl⟩: ∃Q:Nat,q1=(Q:Int):=⟨q1.toNat,by omega⟩
  have hQ:Q≤8199:=by omega
  refine kn ?_
  refine ko @qh_ ?_
  first|with_reducible refine ks [] @qh_ ?_|refine kp @qh_ ?_
  refine Ow.build (.agg (pcC pc0).toArray) rfl aj5_ ?_
  refine ko @qh_ ?_
  refine Ow.alloc rfl rfl zrPc fun b10 hb10 hw10=> ?_
  simp only[zg_,List.nil_append,List.cons_append]
  have h10:br<b10:=zv_ hb10 (by simp[keys])
  have hst:=amo_ pc0 pc0 311
  refine Ow.permL (M:=(b10, .cells (pcC pc0).toArray 311 (0,0)):: (br,rrO d a1 e1):: (D++DG)) (by classical exact List.perm_iff_count.2 fun a=>by simp only[List.count_append,List.count_cons,List.count_nil]<;>omega) ?_
  refine ko (And.intro @qh_ @hst) ?_
  refine Cw.cutO (G:=(PcL×Nat×Int)) [37,38,39,40,41,42,43,44,45,46,47,48,49,50,51,52] (fun g=> []) (fun g=>(b10, .cells (pcC g.1).toArray 311 (0,0)):: (br,rrO d g.2.1 g.2.2):: (D++DG)) (fun g=>pcR d a=g∧(PcB g.1∧g.1.x.length<9223372036854775808)) ?_ ?_
  ·by_cases hodd: (Q:Int)%2=1
   ·have d2: (((Q:Nat):Int)%2==1)=true:=by rw[beq_iff_eq];exact hodd
    rw[if_pos hodd] at hpR
    have hm2:=jJ_ (s:=d) (a:=a1) (e:=e1) (most:=4099) (by omega)
    first|with_reducible refine ks [] (And.intro @qh_ @d2) ?_|refine kp (And.intro @qh_ @d2) ?_
    refine Ow.callM rfl rfl Tryz.call146 (by simp[keys]) (fun w' hw'=>q5_ br d a1 e1 4099 w' hle1.2 (by omega) (hw'.has _ _ (List.mem_cons_of_mem _ List.mem_cons_self))) ?_
    generalize zB_ d a1 e1 4099=x at*
    obtain⟨x1,a2,e2⟩:=x
    simp only at hm2 hpR ⊢
    obtain⟨X,rfl⟩: ∃X:Nat,x1=(X:Int):=⟨x1.toNat,by omega⟩
    rw[Int.toNat_natCast,show((Q:Int) / 2).toNat=Q / 2 by omega] at hpR
    refine kn ?_
    refine Ow.convIF rfl rfl cvIF Tryz.underlying3 Tryz.underlying312 rfl ?_
    refine ko @qh_ ?_
    rw[show(Q:Int) / 2=((Q / 2:Nat):Int) by omega]
    refine Ow.convIF rfl rfl cvIF Tryz.underlying3 Tryz.underlying312 rfl ?_
    refine Ow.complexB (a:=(X:Nat)) (b:=(Q / 2:Nat)) rfl rfl rfl ?_
    have hs2:=fun a=>ajC_ X (Q / 2) 311 a
    refine ko (And.intro @qh_ @hs2) ?_
    refine CutO.mk (⟨X,Q / 2,[]⟩,a2,e2) ⟨hpR,⟨by show X≤4099;omega,by show Q / 2≤4099;omega⟩,by show 0<9223372036854775808;omega⟩ rfl rfl
   ·have d2: (((Q:Nat):Int)%2==1)=false:=by rw[beq_eq_false_iff_ne];exact hodd
    rw[if_neg hodd] at hpR
    first|with_reducible refine ks [] (And.intro @qh_ @d2) ?_|refine kp (And.intro @qh_ @d2) ?_
    refine Ow.callM rfl rfl Tryz.call182 (by simp[keys]) (fun w' hw'=>aa1_ br d a1 e1 ((Q:Int) / 2) w' hle1.2 (by omega) (hw'.has _ _ (List.mem_cons_of_mem _ List.mem_cons_self))) ?_
    have hxl: (js_ d a1 e1 ((Q:Int) / 2)).1.length≤d.length:=by
     unfold js_
     split
     ·simp
     ·split
      ·simp
      ·split
       ·simp
       ·simp only[List.length_take,List.length_drop];omega
    generalize js_ d a1 e1 ((Q:Int) / 2)=x at*
    obtain⟨x1,a2,e2⟩:=x
    simp only at hxl hpR ⊢
    refine kn ?_
    have hs2:=fun a=>akm_ x1 311 a
    refine ko (And.intro @qh_ @hs2) ?_
    refine CutO.mk (⟨0,0,x1⟩,a2,e2) ⟨hpR,⟨Nat.zero_le _,Nat.zero_le _⟩,by show x1.length<9223372036854775808;omega⟩ rfl rfl
  ·intro g j hg
   refine kv ?_
   obtain⟨p,a2,e2⟩:=g
   obtain⟨hpq,hpB⟩:=hg
   simp only at hpB ⊢
   have hle:=akk_ hal
   have hup:=ajr_ hal
   have hok:=ark_ hlt
   have her:=aoZ_ hlt
   rw[hpq] at hle hup hok her
   simp only at hle hup hok her
   first|with_reducible refine ks [] @qh_ ?_|refine kp @qh_ ?_
   refine Ow.buildSlice (e:=311) (pcC p).toArray rfl rfl (ao1_ p) fun b11 hb11 hw11=> ?_
   refine ko @qh_ ?_
   refine Ow.permL (M:=D++ ((b10, .cells (pcC p).toArray 311 (0,0)):: (br,rrO d a2 e2):: (DG++ [(b11, .cells (pcC p).toArray 311 (0,0))]))) (by classical exact List.perm_iff_count.2 fun a=>by simp only[List.count_append,List.count_cons,List.count_nil]<;>omega) ?_
   refine Ow.appendXG (e:=311) (k:=1) (new:=pcC p) (X:=D) v rfl rfl rfl rfl Tryz.underlying297 (id (by kernel_rfl):zZ_ Tryz.prog 311=some (true,2)) (by kernel_rfl) zrPc (by rw[xm_];rfl) Tryz.underlying297 (by intro k h;cases h) hG (fun w' hw'=>AppX.one1 (hw'.has b11 (.cells (pcC p).toArray 311 (0,0)) (by simp)) (ZN_ p) (akM_ p)) (by omega) (fun B3 v3 D3 hA3 hB3 hG3 hk13 hk23 hlk3=> ?_)
   have hN3:New w.heap.size D3:=New.of_le fun q hq=>by
    rcases hk23 q hq with h|h
    ·exact hN.le q h
    ·omega
   refine Ow.permL (M:=(br,rrO d a2 e2):: (D3++ ((b10, .cells (pcC p).toArray 311 (0,0)):: (DG++ [(b11, .cells (pcC p).toArray 311 (0,0))])))) (by classical exact List.perm_iff_count.2 fun a=>by simp only[List.count_append,List.count_cons,List.count_nil]<;>omega) ?_
   refine ko @qh_ ?_
   refine Again.mk ⟨a2,e2,out++ [p],v3,D3,(b10, .cells (pcC p).toArray 311 (0,0)):: (DG++ [(b11, .cells (pcC p).toArray 311 (0,0))])⟩ ?_ ⟨hN3,⟨hw10,hNG.app ⟨hw11,trivial⟩⟩,by simpa using hG3,hle.2,alu_ hB hpB, ?_, ?_, ?_⟩ rfl rfl
   ·show(if e2=0 then d.length - a2+1 else 0)< (if(0:Int)=0 then d.length - a+1 else 0)
    rw[if_pos rfl]
    split
    ·rename_i he;have:=hup he;omega
    ·omega
   ·show(out++ [p]).length≤a2+1
    have:=hol0 rfl
    rw[List.length_append];simp;omega
   ·intro he
    show(out++ [p]).length≤a2
    have:=hol0 rfl
    have:=hup he
    rw[List.length_append];simp;omega
   ·rcases hrel with⟨h1,h2⟩ | ⟨h1,h2|h2⟩
    ·exact absurd rfl h2
    ·refine .inr ⟨h1, ?_⟩
     by_cases he:e2=0
     ·refine .inl ⟨he, ?_⟩
      rw[h2.2,hok he]
      simp
     ·refine .inr ⟨he, ?_⟩
      rw[h2.2,her he]
    ·exact absurd rfl h2.1
 ·have hdone: (e==0&&decide ((a:Int)< (d.length:Int)))=false:=by
   rw[Bool.and_eq_false_iff]
   by_cases he:e=0
   ·right;exact decide_eq_false (fun h=>hc ⟨he,by omega⟩)
   ·left;exact beq_eq_false_iff_ne.2 he
  have hNr:New w.heap.size ((br,rrO d a e):: (D++DG)):=⟨hwr,hN.app hNG⟩
  by_cases he:e=0
  ·subst he
   have hal2: ¬a<d.length:=fun h=>hc ⟨rfl,h⟩
   have e0: ((0:Int)==0)=true:=rfl
   have d1:decide ((a:Int)< (d.length:Int))=false:=decide_eq_false (by omega)
   have hE:vO_ d a 0=0:=by unfold vO_;rw[if_neg (by simp),if_neg (by omega)]
   have n0: ((0:Int) !=0)=false:=rfl
   obtain⟨h1,h2⟩: (dM d).2.2=0∧pcs d (dM d).2.1=(out,a,0):=by
    rcases hrel with⟨h1,h2⟩ | ⟨h1,h2|h2⟩
    ·exact absurd rfl h2
    ·rw[aqq_ hal2] at h2
     exact⟨h1,by rw[h2.2,List.append_nil]⟩
    ·exact absurd rfl h2.1
   rw[h2] at hdR
   rw[if_neg (by rw[h1];simp),if_neg (by simp)] at hdR
   simp only at hdR
   first|with_reducible refine ks [] (And.intro @qh_ (And.intro @e0 (@d1))) ?_|refine kp (And.intro @qh_ (And.intro @e0 (@d1))) ?_
   refine Ow.callFV rfl Tryz.call145 (fun w' hw'=>Jh_ br d a 0 w' (hw'.has _ _ List.mem_cons_self)) ?_
   rw[hE]
   refine ko (And.intro @qh_ @n0) ?_
   first|with_reducible refine ks [] (And.intro @qh_ @n0) ?_|refine kp (And.intro @qh_ @n0) ?_
   refine Ow.callFV rfl Tryz.call246 (fun w' hw'=>X2_ (dB d).1 v out w' (hG.slM (fun b o hm=>hw'.has b o (by simp[hm])) rfl rfl ZN_) hB (by omega)) ?_
   unfold agx_
   by_cases hk:chkV (dB d).1 out=((dM d).1,0)
   ·rw[if_pos hk] at hdR
    rw[hdR,hk]
    obtain⟨-,-,-,-,-,hc4⟩:=aep_ hk
    have n1: ((dM d).1 !=(dM d).1)=false:=bne_self_eq_false _
    refine ko @qh_ ?_
    first|with_reducible refine ks [] (And.intro @qh_ (And.intro @n0 (@n1))) ?_|refine kp (And.intro @qh_ (And.intro @n0 (@n1))) ?_
    refine⟨_,(ke @qh_), ?_⟩
    refine⟨Ext.of_new hNr,v, ?_,hB,hc4,by show(dB d).1.toNat≤4099;omega,Gr.i hG fun q hq=>by simp[hq]⟩
    show Value.tuple #[vi (dB d).1,v, .bool true]= .tuple #[vi ((dB d).1.toNat:Nat),v, .bool true]
    rw[show(((dB d).1.toNat:Nat):Int)=(dB d).1 by omega]
   ·rw[if_neg hk] at hdR
    rw[hdR]
    obtain⟨N,E,hNE⟩: ∃N E,chkV (dB d).1 out=(N,E):=⟨_,_,rfl⟩
    rw[hNE] at hk ⊢
    by_cases hE0:E=0
    ·subst hE0
     have n1: (N !=(dM d).1)=true:=bne_iff_ne.2 (fun h=>hk (by rw[h]))
     refine ko @qh_ ?_
     first|with_reducible refine ks [] (And.intro @qh_ (And.intro @n0 (@n1))) ?_|refine kp (And.intro @qh_ (And.intro @n0 (@n1))) ?_
     refine⟨_,(ke @qh_), ?_⟩
     exact⟨Ext.of_new hNr,rfl⟩
    ·have n1: (E !=0)=true:=bne_iff_ne.2 hE0
     refine ko @qh_ ?_
     first|with_reducible refine ks [] (And.intro @qh_ @n1) ?_|refine kp (And.intro @qh_ @n1) ?_
     refine⟨_,(ke @qh_), ?_⟩
     exact⟨Ext.of_new hNr,rfl⟩
  ·have e0: (e==0)=false:=beq_eq_false_iff_ne.2 he
   have hE:vO_ d a e=e:=by unfold vO_;rw[if_pos he]
   have n0: (e !=0)=true:=bne_iff_ne.2 he
   have hno:Z8_ d=none:=by
    rw[hdR]
    rcases hrel with⟨h1,h2⟩ | ⟨h1,h2|h2⟩
    ·rw[if_pos h1]
    ·exact absurd h2.1 he
    ·rw[h2.2,if_neg (by rw[h1];simp),if_pos he]
   first|with_reducible refine ks [] (And.intro @qh_ @e0) ?_|refine kp (And.intro @qh_ @e0) ?_
   refine Ow.callFV rfl Tryz.call145 (fun w' hw'=>Jh_ br d a e w' (hw'.has _ _ List.mem_cons_self)) ?_
   rw[hE]
   refine ko (And.intro @qh_ @n0) ?_
   first|with_reducible refine ks [] (And.intro @qh_ @n0) ?_|refine kp (And.intro @qh_ @n0) ?_
   refine⟨_,(ke @qh_), ?_⟩
   refine⟨Ext.of_new hNr, ?_⟩
   unfold agx_
   rw[hno]
   rfl
end Go.Proofs
end
section
open Go Go.Proofs Go.Sx Go.StP Go.Flo
namespace Go.Proofs
set_option maxRecDepth 10000
set_option maxHeartbeats 400000
set_option linter.unusedSimpArgs false
set_option linter.defProp false
def wA_:=And.intro (And.intro (And.intro (@zd_) (@zc_)) (And.intro (@xF_) (And.intro (@xD_) (@va_)))) (And.intro (And.intro (@xm_) (And.intro (@Sx.tup2_0) (@Sx.tup2_1))) (And.intro (@Sx.tup3_0) (And.intro (@Sx.tup3_1) (@Sx.tup3_2))))
theorem aff_ (base d:List UInt8) (w:World) (hd:d.length<100000000):
  Rets Tryz.prog 215 #[vs base,vs d] w (fun v D=>v= .tuple #[vs (xP_ base d).1,vi (xP_ base d).2]∧D= []):=by
 refine Rets.enterV Tryz.func215 rfl (rs:= [.tmp 4, .tmp 5]) Tryz.results215 Tryz.ntmps215 ?_
 refine kf ?_
 first|with_reducible refine ks [] @wA_ ?_|refine kp @wA_ ?_
 refine Ow.callC rfl rfl Tryz.call234 (fun w' hw'=>aeJ_ d w' hd) (fun B1 v1 D1 hA1 hB1 hN1 hS1=> ?_)
 have hN1':=hN1.mono hB1
 unfold agx_ at hS1
 cases hr:Z8_ d with
 |none=>
  rw[hr] at hS1
  have hS1':v1= .tuple #[vi 0, .slice none 0 0, .bool false]:=hS1
  subst hS1'
  have hap:xP_ base d=([],2):=by unfold xP_;rw[hr]
  refine ko @wA_ ?_
  first|with_reducible refine ks [] @wA_ ?_|refine kp @wA_ ?_
  refine⟨_,(ke @wA_),hN1', ?_⟩
  rw[hap];rfl
 |some p=>
  rw[hr] at hS1
  obtain⟨x,rfl,hB,hl4,hp4,hg⟩:=hS1
  by_cases hb:p.1=base.length
  ·have e1: (((p.1:Nat):Int) !=((base.length:Nat):Int))=false:=by rw[hb];exact bne_self_eq_false _
   obtain⟨m,hm⟩:=Wk_ hr
   rw[hb] at hm
   have hap:xP_ base d=(txtP base p.2,0):=by unfold xP_;rw[hr];simp only;rw[if_neg (by simp[hb])]
   refine ko @wA_ ?_
   first|with_reducible refine ks [] (And.intro @wA_ @e1) ?_|refine kp (And.intro @wA_ @e1) ?_
   refine Ow.callFV rfl Tryz.call235 (fun w' hw'=>aeB_ base x p.2 w' (GrI.slV (hg.mono fun q hq=>by simp[hq]) hw' rfl rfl ZN_) hB (by omega)) ?_
   rw[hm,if_pos rfl]
   refine ko @wA_ ?_
   first|with_reducible refine ks [] @wA_ ?_|refine kp @wA_ ?_
   refine⟨_,(ke @wA_),hN1', ?_⟩
   rw[hap];rfl
  ·have e1: (((p.1:Nat):Int) !=((base.length:Nat):Int))=true:=by rw[bne_iff_ne];omega
   have hap:xP_ base d=([],19):=by unfold xP_;rw[hr];simp only;rw[if_pos hb]
   refine ko @wA_ ?_
   first|with_reducible refine ks [] (And.intro @wA_ @e1) ?_|refine kp (And.intro @wA_ @e1) ?_
   refine⟨_,(ke @wA_),hN1', ?_⟩
   rw[hap];rfl
structure PrG where
 at_:Nat
 out:List Nat
 v:Value
 D:za_
 DG:za_
set_option linter.defProp false
def jq_:=And.intro (And.intro (And.intro (@zd_) (@zc_)) (And.intro (@jD_) (@jy_))) (And.intro (And.intro (@jz_) (@qW_)) (And.intro (@Sx.tup2_0) (@Sx.tup2_1)))
theorem ah4_ (v0:Value) (l:List PartL) (a0:Int) (w:World) (hv:aop_ w v0 l):
  Rets Tryz.prog 214 #[v0,vi a0] w (XS w [] (abT_ l a0)):=by
 obtain⟨bb,off,arr,E,fz,hr⟩:=hv.row
 have ln:=hv.len
 refine Rets.enterX Tryz.func214 rfl (rs:= [.tmp 4, .tmp 5]) Tryz.results214 Tryz.ntmps214 (fun p hp=>by cases hp) (by simp[keys]) ?_
 refine kf ?_
 by_cases hc:200<l.length∨a0<0∨(l.length:Int)≤a0
 ·have hpv:ve_ l a0= .error 1:=by unfold ve_;rw[if_pos hc]
  unfold abT_
  rw[hpv]
  by_cases h1:200<l.length
  ·have d1:decide ((200:Int)< (l.length:Int))=true:=decide_eq_true (by omega)
   first|with_reducible refine ks [] (And.intro @jq_ (And.intro @ln (@d1))) ?_|refine kp (And.intro @jq_ (And.intro @ln (@d1))) ?_
   refine⟨_,(ke @jq_), ?_⟩
   exact⟨Ext.refl _ _,rfl⟩
  ·have d1:decide ((200:Int)< (l.length:Int))=false:=decide_eq_false (by omega)
   by_cases h2:a0<0
   ·have d2:decide (a0<0)=true:=decide_eq_true h2
    first|with_reducible refine ks [] (And.intro @jq_ (And.intro @ln (And.intro @d1 (@d2)))) ?_|refine kp (And.intro @jq_ (And.intro @ln (And.intro @d1 (@d2)))) ?_
    refine⟨_,(ke @jq_), ?_⟩
    exact⟨Ext.refl _ _,rfl⟩
   ·have d2:decide (a0<0)=false:=decide_eq_false h2
    have d3:decide ((l.length:Int)≤a0)=true:=decide_eq_true (by omega)
    first|with_reducible refine ks [] (And.intro @jq_ (And.intro @ln (And.intro @d1 (And.intro @d2 (@d3))))) ?_|refine kp (And.intro @jq_ (And.intro @ln (And.intro @d1 (And.intro @d2 (@d3))))) ?_
    refine⟨_,(ke @jq_), ?_⟩
    exact⟨Ext.refl _ _,rfl⟩
 ·have d1:decide ((200:Int)< (l.length:Int))=false:=decide_eq_false (by omega)
  have d2:decide (a0<0)=false:=decide_eq_false (by omega)
  have d3:decide ((l.length:Int)≤a0)=false:=decide_eq_false (by omega)
  obtain⟨A,rfl⟩: ∃A:Nat,a0=(A:Int):=⟨a0.toNat,by omega⟩
  have hpv:ve_ l (A:Int)=(xO_ l 5 A).map ([]++ ·):=by
   unfold ve_
   rw[if_neg hc,Int.toNat_natCast]
   cases xO_ l 5 A<;>rfl
  first|with_reducible refine ks [] (And.intro @jq_ (And.intro @ln (And.intro @d1 (And.intro @d2 (@d3))))) ?_|refine kp (And.intro @jq_ (And.intro @ln (And.intro @d1 (And.intro @d2 (@d3))))) ?_
  refine Cw.loopG (G:=PrG) [21,22,25,26,4,5,27,28,29,30,6,31,32,33,34,35,36,37,38,39,40,41,42,43,44,45,46,47,48,49,50,51,52,53,54,55,56,57,58,59,60,61,62,63,1,23,24,7] (fun g=> [(1,vi g.at_),(6,g.v),(7,vi g.out.length)]) (fun g=>g.D++g.DG) (fun g=>New w.heap.size g.D∧New w.heap.size g.DG∧Gr g.D 3 1 g.v g.out.length (g.out.map natC).flatten∧g.at_<l.length∧g.out.length≤5∧ve_ l (A:Int)=(xO_ l (5 - g.out.length) g.at_).map (g.out++ ·)) (fun g=>6 - g.out.length) ⟨A,[], .slice none 0 0,[],[]⟩ rfl rfl ?_ ?_
  ·exact⟨trivial,trivial,Gr.nl,by show A<l.length;omega,by simp,hpv⟩
  intro g j hg
  refine kv ?_
  obtain⟨a,out,v,D,DG⟩:=g
  obtain⟨hN,hNG,hG,hal,hol,hrel⟩:=hg
  simp only at hN hNG hG hal hol hrel ⊢
  have d4:decide ((out.length:Int)<6)=true:=decide_eq_true (by omega)
  by_cases h5:out.length=5
  ·have d5: ((out.length:Int)==5)=true:=by rw[h5];rfl
   rw[h5] at hrel
   have hpe:ve_ l (A:Int)= .error 11:=hrel
   first|with_reducible refine ks [] (And.intro @jq_ (And.intro @d4 (@d5))) ?_|refine kp (And.intro @jq_ (And.intro @d4 (@d5))) ?_
   refine⟨_,(ke @jq_), ?_⟩
   refine⟨Ext.of_new (hN.app hNG), ?_⟩
   unfold abT_
   rw[hpe]
   rfl
  ·have d5: ((out.length:Int)==5)=false:=beq_eq_false_iff_ne.2 (by omega)
   have hk5:xO_ l (5 - out.length) a=xO_ l (4 - out.length+1) a:=by congr 1;omega
   rw[hk5,xO_] at hrel
   first|with_reducible refine ks [] (And.intro @jq_ (And.intro @d4 (@d5))) ?_|refine kp (And.intro @jq_ (And.intro @d4 (@d5))) ?_
   refine Ow.buildSlice (e:=3) #[vi a] rfl rfl (by kernel_rfl) fun b9 hb9 hw9=> ?_
   refine ko @jq_ ?_
   refine Ow.permL (M:=D++ (DG++ [(b9, .cells #[vi a] 3 (0,0))])) (by classical exact List.perm_iff_count.2 fun a=>by simp only[List.count_append,List.count_cons,List.count_nil]<;>omega) ?_
   refine Ow.appendXG (e:=3) (k:=1) (new:=natC a) (X:=D) v rfl rfl rfl rfl Tryz.underlying196 (id (by kernel_rfl):zZ_ Tryz.prog 3=some (false,1)) (by kernel_rfl) (id (by kernel_rfl):zX_ Tryz.prog 3=some (vi 0)) rfl Tryz.underlying196 (by intro k h;cases h) hG (fun w' hw'=>AppX.one1 (hw'.has b9 (.cells #[vi a] 3 (0,0)) (by simp)) (agA_ a) rfl) (by omega) (fun B3 v3 D3 hA3 hB3 hG3 hk13 hk23 hlk3=> ?_)
   have hN3:New w.heap.size D3:=New.of_le fun c hc=>by
    rcases hk23 c hc with h|h
    ·exact hN.le c h
    ·omega
   have hG4:Gr D3 3 1 v3 (out++ [a]).length ((out++ [a]).map natC).flatten:=by simpa using hG3
   have hol2: (out++ [a]).length=out.length+1:=by simp
   have hNG9:New w.heap.size (DG++ [(b9, .cells #[vi a] 3 (0,0))]):=hNG.app ⟨hw9,trivial⟩
   generalize DG++ [(b9,Obj.cells #[vi a] 3 (0,0))]=DG' at*
   have hNr:New w.heap.size (D3++DG'):=hN3.app hNG9
   have hb0:0<l.length:=by omega
   have hbl:=hr.lt hb0
   have rd:zz_ w (D3++DG') bb=some (.cells arr E fz):=by rw[qw_ (hNr.not hbl)];exact hr.has hb0
   have i2:=hr.idx true a hal
   have ld0:zl_ (some (false,1)) (some (.cells arr E fz)) (off+a*3)=some (.bool (l.getD a j9_).d):=hr.cell (j:=0) (n:=1) hal (by omega)
   have ld1:zl_ (some (false,1)) (some (.cells arr E fz)) (off+a*3+1)=some (vi (l.getD a j9_).b):=hr.cell (j:=1) (n:=1) hal (by omega)
   generalize l.getD a j9_=p at*
   cases hd:p.d with
   |false=>
    rw[hd,if_neg (by simp)] at hrel
    rw[hd] at ld0
    by_cases hb:p.b=0
    ·have e1: (p.b !=0)=false:=by rw[hb];rfl
     rw[if_neg (by simp[hb])] at hrel
     refine ko (And.intro @jq_ (And.intro @i2 (And.intro @rd (And.intro @ld0 (And.intro @ld1 (@e1)))))) ?_
     first|with_reducible refine ks [] (And.intro @jq_ (And.intro @i2 (And.intro @rd (And.intro @ld0 (And.intro @ld1 (@e1)))))) ?_|refine kp (And.intro @jq_ (And.intro @i2 (And.intro @rd (And.intro @ld0 (And.intro @ld1 (@e1)))))) ?_
     refine⟨_,(ke @jq_), ?_⟩
     refine⟨Ext.of_new hNr, ?_⟩
     unfold abT_
     rw[hrel]
     exact⟨v3,rfl,by show(out++ [a]).length≤5;omega,Gr.i hG4 fun c hc=>by simp[hc]⟩
    ·have e1: (p.b !=0)=true:=by rw[bne_iff_ne];exact hb
     rw[if_pos hb] at hrel
     have hpe:ve_ l (A:Int)= .error 2:=hrel
     refine ko (And.intro @jq_ (And.intro @i2 (And.intro @rd (And.intro @ld0 (And.intro @ld1 (@e1)))))) ?_
     first|with_reducible refine ks [] (And.intro @jq_ (And.intro @i2 (And.intro @rd (And.intro @ld0 (And.intro @ld1 (@e1)))))) ?_|refine kp (And.intro @jq_ (And.intro @i2 (And.intro @rd (And.intro @ld0 (And.intro @ld1 (@e1)))))) ?_
     refine⟨_,(ke @jq_), ?_⟩
     refine⟨Ext.of_new hNr, ?_⟩
     unfold abT_
     rw[hpe];rfl
   |true=>
    rw[hd,if_pos rfl] at hrel
    rw[hd] at ld0
    by_cases hb:p.b<0
    ·have e1:decide (p.b<0)=true:=decide_eq_true hb
     rw[if_pos (.inl hb)] at hrel
     have hpe:ve_ l (A:Int)= .error 2:=hrel
     refine ko (And.intro @jq_ (And.intro @i2 (And.intro @rd (And.intro @ld0 (And.intro @ld1 (@e1)))))) ?_
     first|with_reducible refine ks [] (And.intro @jq_ (And.intro @i2 (And.intro @rd (And.intro @ld0 (And.intro @ld1 (@e1)))))) ?_|refine kp (And.intro @jq_ (And.intro @i2 (And.intro @rd (And.intro @ld0 (And.intro @ld1 (@e1)))))) ?_
     refine⟨_,(ke @jq_), ?_⟩
     refine⟨Ext.of_new hNr, ?_⟩
     unfold abT_
     rw[hpe];rfl
    ·have e1:decide (p.b<0)=false:=decide_eq_false hb
     by_cases hb2: (a:Int)≤p.b
     ·have e2:decide ((a:Int)≤p.b)=true:=decide_eq_true hb2
      rw[if_pos (.inr hb2)] at hrel
      have hpe:ve_ l (A:Int)= .error 2:=hrel
      refine ko (And.intro @jq_ (And.intro @i2 (And.intro @rd (And.intro @ld0 (And.intro @ld1 (And.intro @e1 (@e2))))))) ?_
      first|with_reducible refine ks [] (And.intro @jq_ (And.intro @i2 (And.intro @rd (And.intro @ld0 (And.intro @ld1 (And.intro @e1 (@e2))))))) ?_|refine kp (And.intro @jq_ (And.intro @i2 (And.intro @rd (And.intro @ld0 (And.intro @ld1 (And.intro @e1 (@e2))))))) ?_
      refine⟨_,(ke @jq_), ?_⟩
      refine⟨Ext.of_new hNr, ?_⟩
      unfold abT_
      rw[hpe];rfl
     ·have e2:decide ((a:Int)≤p.b)=false:=decide_eq_false hb2
      rw[if_neg (by omega)] at hrel
      obtain⟨Bn,hBn⟩: ∃Bn:Nat,p.b=(Bn:Int):=⟨p.b.toNat,by omega⟩
      rw[hBn] at ld1 e1 e2 hrel
      rw[Int.toNat_natCast] at hrel
      refine ko (And.intro @jq_ (And.intro @i2 (And.intro @rd (And.intro @ld0 (And.intro @ld1 (And.intro @e1 (@e2))))))) ?_
      first|with_reducible refine ks [] (And.intro @jq_ (And.intro @i2 (And.intro @rd (And.intro @ld0 (And.intro @ld1 (And.intro @e1 (@e2))))))) ?_|refine kp (And.intro @jq_ (And.intro @i2 (And.intro @rd (And.intro @ld0 (And.intro @ld1 (And.intro @e1 (@e2))))))) ?_
      refine Again.mk ⟨Bn,out++ [a],v3,D3,DG'⟩ (by show 6 - (out++ [a]).length<6 - out.length;omega) ⟨hN3,hNG9,hG4,by show Bn<l.length;omega,by show(out++ [a]).length≤5;omega, ?_⟩ rfl (by simp only[hol2];rfl)
      show ve_ l (A:Int)=(xO_ l (5 - (out++ [a]).length) Bn).map ((out++ [a])++ ·)
      rw[hrel,show 5 - (out++ [a]).length=4 - out.length by omega]
      split
      ·rename_i h4
       rw[h4];rfl
      ·cases xO_ l (4 - out.length) Bn with
       |error x=>rfl
       |ok x=>show Except.ok _=Except.ok _;simp
end Go.Proofs
end
