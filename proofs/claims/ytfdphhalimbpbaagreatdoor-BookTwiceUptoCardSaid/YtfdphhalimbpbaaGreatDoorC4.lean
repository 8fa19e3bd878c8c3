/-
  Part 4 of the walk: contracts of the functions that the law reaches, and the calculus they stand on.
  No conditions.
-/
import Derived.Test.YtfdphhalimbpbaaGreatDoorC3
import Derived.Lib.Small
import Derived.Lib.Walk
import Derived.Sort.Grow
import Derived.Deep.Draws
import Derived.Shelf.SlSortCmp.NoneTotal
import Derived.Shelf.SlLaysF0
import Derived.Ground.SlsfProg
set_option maxRecDepth 100000
set_option maxHeartbeats 4000000
set_option linter.unusedSimpArgs false
set_option linter.defProp false
open Go.Proofs.Tryz
section
open Go Go.Proofs Go.Sx
namespace Go.Proofs
def Cw.perm {P:Program} {w0:World} {c:Code} {f:Fr} {L:aB} {K:cK} (M:aB) (hs: ∀p,p∈M↔p∈L) (hn: (keys M).Nodup) (h:Cw P w0 c f M K):Cw P w0 c f L K:=fun w hw=>h w (hw.same hs hn)
def Dt (id:IdL):rF prog 30 1 [(0, .agg (a8 id.l))]=some (24,a8 id.l):=by
 have h2:Value.cells (.agg (a8 id.l))=(id.l.map v8).toArray:=ag _
 have hz:au prog 24=some (.agg ((List.replicate 32 (0:UInt8)).map v8).toArray):=zr24
 have s3: (id.l.map v8).toArray.size=32:=by simp[id.h]
 have gS:=AR (id.l.map v8) [] ((List.replicate 32 (0:UInt8)).map v8) (by simp[id.h])
 have hd:List.drop (id.l.map v8).length ((List.replicate 32 (0:UInt8)).map v8)= []:=List.drop_eq_nil_of_le (by simp[id.h])
 rw[hd,List.append_nil,List.nil_append] at gS
 have hzz: ((Array.range (1*32)).map fun x=>(Value.cells (.agg ((List.replicate 32 (0:UInt8)).map v8).toArray))[x% (Value.cells (.agg ((List.replicate 32 (0:UInt8)).map v8).toArray)).size]!)=((List.replicate 32 (0:UInt8)).map v8).toArray:=by kernel_rfl
 simp only[rF,underlying30,ag24,hz,Option.map_some]
 rw[if_neg (by decide),if_neg (by decide)]
 simp only
 rw[hzz]
 have dg:Instr.fill (fun i=>some (i*32,32)) ((List.replicate 32 (0:UInt8)).map v8).toArray [(0,Value.agg (a8 id.l))]=some (a8 id.l):=by
  have s4: (((List.replicate 32 (0:UInt8)).map v8).toArray).size=32:=by simp
  unfold Instr.fill
  simp only[h2,s3,s4,Nat.zero_mul,ne_eq,not_true_eq_false,decide_false,Bool.false_or,Nat.zero_add,Nat.lt_irrefl,gt_iff_lt,Bool.false_eq_true, ↓reduceIte]
  unfold Instr.fill
  congr 1
  have hz:=JF (id.l.map v8) 0 0 ((List.replicate 32 (0:UInt8)).map v8).toArray
  have hp:dZ ((List.replicate 32 (0:UInt8)).map v8).toArray 0 (id.l.map v8)=(id.l.map v8).toArray:=gS
  rw[Nat.add_zero,hp] at hz
  simp only[Nat.zero_add] at hz
  rw[←Array.foldl_toList,Array.toList_zipIdx]
  exact hz
 rw[dg]
 rfl
def ep (r:RefL):List UInt8:= [69]++dz r.name++r.id.l
def lK:=aN (aN (aN @bB @iH) (aN @iG @iE)) (aN (aN @bA @rC) (aN @rA (aN @kX @eqId)))
def Ze_ (r:RefL) (w:World) (hG:GlobC w) (hr:r.name.length<1000000):
  Rets prog 150 #[.agg (aH r).toArray] w (XS w [] (fun v _=>v=vs (eQ (ep r)))):=by
 have hg3: (4:Nat)<w.heap.size:=by obtain⟨e,f,h⟩:=hG;exact(Array.getElem?_eq_some_iff.1 h).1
 refine Rets.enterX func150 rfl (rs:= [.tmp 2]) results150 ntmps150 (fun p hp=>by cases hp) (by simp[keys]) ?_
 refine kf ?_
 refine ky @lK ?_
 refine Ow.box rfl rfl fun b0 kw eU=> ?_
 simp only[ck,cV,kX,List.nil_append]
 refine ko @lK ?_
 refine ky @lK ?_
 refine Ow.alloc rfl rfl zr236 fun b1 aO aP=> ?_
 obtain⟨h01,-⟩:=aO
 refine ko @lK ?_
 refine Ow.permL (List.Perm.swap _ _ _) ?_
 have fp:Ext w [] [(b1,Obj.cells #[.pointer none, .slice none 0 0] 236 (0,0)),(b0,Obj.cells (aH r).toArray 149 (0,0))]:=
  ((Ext.refl w []).app aP).app eU
 have hZ:BldAt b1 [] [(b1, .cells #[.pointer none, .slice none 0 0] 236 (0,0))]:=BldAt.zero b1 (fN _ _ _)
 refine ky @lK ?_
 refine Ow.buildSlice (e:=9) #[vs [69]] rfl rfl kR fun b2 al bR=> ?_
 obtain⟨uW,h02,-⟩:=al
 have bq:=fp.app (o:= .cells #[vs [69]] 9 (0,0)) bR
 refine ko @lK ?_
 refine Ow.callX (Y:= [(b0, .cells (aH r).toArray 149 (0,0)),(b2, .cells #[vs [69]] 9 (0,0))]) (by simp) rfl rfl call154 (fun w' aA hX hn=>JJ b1 [(b1, .cells #[.pointer none, .slice none 0 0] 236 (0,0))] [] _ b2 0 [[69]] _ _ _ w' hZ hX hn (StrS.lit [[69]] rfl rfl (aA.has _ _ (av _ (av _ aa)))) (fun _ hm=>by simp[keys] at hm;omega) (by simp) (by simp)) (fun v3 D3 GR jl=> ?_)
 obtain⟨rfl,kI⟩:=jl
 have nu:=Ext.came (D:= [(b1,Obj.cells #[.pointer none, .slice none 0 0] 236 (0,0))]) (Y:= [(b0,Obj.cells (aH r).toArray 149 (0,0)),(b2, .cells #[vs [69]] 9 (0,0))]) bq GR
 have Gt:b0∉keys D3:=fun hm=>by
  rcases GR.new b0 hm with h| ⟨h,-⟩
  ·simp[keys] at h;omega
  exact Nat.lt_irrefl _ (ak h (by simp[keys]))
 simp only[List.flatten_cons,List.flatten_nil,List.append_nil,List.nil_append] at kI
 have rd0:aT w (D3++ [(b0,Obj.cells (aH r).toArray 149 (0,0)),(b2, .cells #[vs [69]] 9 (0,0))]) b0=some (.cells (aH r).toArray 149 (0,0)):=ac (by rw[g8 Gt];exact fN _ _ _)
 refine ko @lK ?_
 refine ky (aN @lK @rd0) ?_
 refine Ow.buildSlice (e:=9) #[vs r.name] rfl rfl kR fun b4 ir lC=> ?_
 have bI:=ij (r.name.length:Int)
 have dE:lE [r.name]=dz r.name:=by simp[lE]
 have htn: (dz r.name).length=(eY (d_ r.name.length)).length+r.name.length:=by unfold dz;rw[List.length_append]
 have hb14:b1∈keys D3:=GR.all b1 (by simp[keys])
 have jA:=nu.app (o:= .cells #[vs r.name] 9 (0,0)) lC
 refine ko @lK ?_
 refine Ow.callX (Y:= [(b0, .cells (aH r).toArray 149 (0,0)),(b2, .cells #[vs [69]] 9 (0,0)),(b4, .cells #[vs r.name] 9 (0,0))]) (by simp) rfl rfl call124 (fun w' aA hX hn=>Lo b1 D3 [69] _ b4 0 [r.name] _ _ _ w' kI hX hn (StrS.lit [r.name] rfl rfl (aA.has _ _ (db _ aa))) (fun _ hm=>Nat.lt_irrefl _ (ak ir (by rw[ae];exact bl _ hm))) (by rw[dE];simp only[List.length_cons,List.length_nil];omega) (by simp)) (fun v5 D5 uZ rN=> ?_)
 obtain⟨rfl,mo⟩:=rN
 rw[dE] at mo
 have jB:=Ext.came (D:=D3) (Y:= [(b0,Obj.cells (aH r).toArray 149 (0,0)),(b2, .cells #[vs [69]] 9 (0,0)),(b4, .cells #[vs r.name] 9 (0,0))]) (by simpa using jA) uZ
 have Gu:b0∉keys D5:=fun hm=>by
  rcases uZ.new b0 hm with h| ⟨h,-⟩
  ·exact Gt h
  exact Nat.lt_irrefl _ (ak h (by simp[keys]))
 have rd5:aT w (D5++ [(b0,Obj.cells (aH r).toArray 149 (0,0)),(b2, .cells #[vs [69]] 9 (0,0)),(b4, .cells #[vs r.name] 9 (0,0))]) b0=some (.cells (aH r).toArray 149 (0,0)):=ac (by rw[g8 Gu];exact fN _ _ _)
 refine ko @lK ?_
 refine ky (aN @lK @rd5) ?_
 refine Ow.buildSlice (e:=24) (a8 r.id.l) rfl rfl (Dt r.id) fun b6 gx gF=> ?_
 have jf:=jB.app (o:= .cells (a8 r.id.l) 24 (0,0)) gF
 have Gm: ∀w',w'.heap[b6]? =some (.cells (a8 r.id.l) 24 (0,0))→RowS 32 gw id0 w' (vsl b6 0 1 1) [r.id] b6 0 (a8 r.id.l) 24 (0,0):=fun w' h=>RowS.sl rfl h (by
  intro k hk j hj
  obtain rfl:k=0:=by simpa using hk
  simp only[Nat.zero_mul,Nat.zero_add,List.getD_cons_zero]
  rw[←Af,List.getElem?_toArray])
 have iw:=w7 [r.id]
 refine ko @lK ?_
 refine Ow.callX (Y:= [(b0, .cells (aH r).toArray 149 (0,0)),(b2, .cells #[vs [69]] 9 (0,0)),(b4, .cells #[vs r.name] 9 (0,0)),(b6, .cells (a8 r.id.l) 24 (0,0))]) (by simp) rfl rfl call125 (fun w' aA hX hn=>De b1 D5 _ _ b6 0 [r.id] _ _ _ w' mo hX hn (Gm w' (aA.has _ _ (db _ aa))) (fun _ hm=>Nat.lt_irrefl _ (ak gx (by rw[ae];exact bl _ hm))) (by simp only[List.length_append,List.length_cons,List.length_nil];omega)) (fun v7 D7 ox jD=> ?_)
 obtain⟨rfl,GO⟩:=jD
 have km:=Ext.came (D:=D5) (Y:= [(b0,Obj.cells (aH r).toArray 149 (0,0)),(b2, .cells #[vs [69]] 9 (0,0)),(b4, .cells #[vs r.name] 9 (0,0)),(b6, .cells (a8 r.id.l) 24 (0,0))]) (by simpa using jf) ox
 have rJ:=BldAt.app (Y:= [(b0,Obj.cells (aH r).toArray 149 (0,0)),(b2, .cells #[vs [69]] 9 (0,0)),(b4, .cells #[vs r.name] 9 (0,0)),(b6, .cells (a8 r.id.l) 24 (0,0))]) GO
 rw[show [69]++dz r.name++idsL [r.id]=ep r by simp[idsL,ep]] at rJ
 have gP: (ep r).length=1+ (dz r.name).length+r.id.l.length:=by simp[ep];omega
 have hil2:=r.id.h
 generalize D7++ [(b0,Obj.cells (aH r).toArray 149 (0,0)),(b2, .cells #[vs [69]] 9 (0,0)),(b4, .cells #[vs r.name] 9 (0,0)),(b6, .cells (a8 r.id.l) 24 (0,0))]=D8 at*
 refine ko @lK ?_
 refine ky @lK ?_
 refine Ow.callX (Y:= []) (by simp) rfl rfl call155 (fun w' aA hX hn=>Wl_ b1 D8 (ep r) w' (GlobC.ofE hG km aA (by simp[keys])) (km.not hg3 (by simp[keys])) rJ hX hn oM) (fun v9 D9 qE p7=> ?_)
 subst p7
 rw[List.append_nil]
 refine ko @lK ?_
 refine ky @lK ?_
 refine⟨_,(ke @lK), ?_⟩
 exact⟨km.came0 qE,rfl⟩
def ZR (r:RefL): (aH r).toArray.extract 1 33=a8 r.id.l:=by
 show(aH r).toArray.extract 1 33=(r.id.l.map v8).toArray
 rw[List.extract_toArray]
 congr 1
 unfold aH
 rw[List.extract_eq_take_drop,List.drop_succ_cons,List.drop_zero,List.take_of_length_le (by simp[r.id.h])]
def W6:Tryz.prog.stoodInHeld 149=false:=by kernel_rfl
def VS:Tryz.prog.eqGuardType Tryz.prog.depth 149=false:=by kernel_rfl
def Zd:aK prog 9=some (false,1):=by kernel_rfl
def axq_:aK prog 24=some (true,32):=by kernel_rfl
def Zz (r r':RefL):eqD prog 8 149 (.agg (aH r).toArray) (.agg (aH r').toArray)=some (r.name==r'.name&&r.id.l==r'.id.l):=by
 have hn:eqD prog 7 9 (vs r.name) (vs r'.name)=some (r.name==r'.name):=by
  unfold eqD
  rw[underlying9]
  simp only[vs,vx]
 have hi:eqD prog 7 24 (.agg (a8 r.id.l)) (.agg (a8 r'.id.l))=some (r.id.l==r'.id.l):=
  sY (d:=5) underlying24 underlying5 ag5 _ _ r.id.h r'.id.h
 unfold eqD
 rw[underlying149]
 simp only
 rw[W6]
 have p0: ∀ (r:RefL),Sx.partV (false,1) (aH r).toArray 0=some (vs r.name):=fun r=>rfl
 have p1: ∀ (r:RefL),Sx.partV (true,32) (aH r).toArray 1=some (.agg (a8 r.id.l)):=fun r=>by
  show some (Value.agg ((aH r).toArray.extract 1 33))=_
  rw[ZR]
 simp only[Bool.false_eq_true, ↓reduceIte,yk,Zd,axq_,rg,p0,p1,hn,hi]
 cases(r.name==r'.name)<;>cases(r.id.l==r'.id.l)<;>simp
def axZ_ (r r':RefL):ab prog .neq 149 (.agg (aH r).toArray) (.agg (aH r').toArray)=some (.bool (!(r.name==r'.name&&r.id.l==r'.id.l))):=by
 unfold ab eqX
 rw[VS]
 simp[eN,Zz]
def keyR (r:RefL):List UInt8×List UInt8:=(r.name,r.id.l)
def lw (a b:List RefL):Bool:=a.map keyR==b.map keyR
def Wa {a b:List RefL} {i:Nat} (ha:i<a.length) (hb:i<b.length) (h: (((a.getD i cD).name==(b.getD i cD).name)&& ((a.getD i cD).id.l==(b.getD i cD).id.l))=false):lw a b=false:=by
 unfold lw
 rw[beq_eq_false_iff_ne]
 intro e
 have:=congrArg (·[i]?) e
 simp only[List.getElem?_map,List.getElem?_eq_getElem ha,List.getElem?_eq_getElem hb,Option.map_some,Option.some.injEq,keyR,Prod.mk.injEq] at this
 rw[List.getD_eq_getElem?_getD,List.getD_eq_getElem?_getD,List.getElem?_eq_getElem ha,List.getElem?_eq_getElem hb] at h
 simp[this.1,this.2] at h
def TX {a b:List RefL} (hl:a.length=b.length) (h: ∀i,i<a.length→(((a.getD i cD).name==(b.getD i cD).name)&& ((a.getD i cD).id.l==(b.getD i cD).id.l))=true):lw a b=true:=by
 unfold lw
 rw[beq_iff_eq]
 apply List.ext_getElem?
 intro i
 rw[List.getElem?_map,List.getElem?_map]
 by_cases hi:i<a.length
 ·have xz:i<b.length:=by omega
  have:=h i hi
  rw[List.getD_eq_getElem?_getD,List.getD_eq_getElem?_getD,List.getElem?_eq_getElem hi,List.getElem?_eq_getElem xz] at this
  simp only[Option.getD_some,Bool.and_eq_true,beq_iff_eq] at this
  rw[List.getElem?_eq_getElem hi,List.getElem?_eq_getElem xz]
  simp[keyR,this.1,this.2]
 rw[List.getElem?_eq_none oM,List.getElem?_eq_none oM]
def qu:=aN (aN @bB (aN @iH @iG)) (aN @iE (aN @bA @axZ_))
def My (x y:Value) (b1 o1 b2 o2:Nat) (l1 l2:List RefL) (a1 a2:Array Value) (E1 E2:TypeId) (f1 f2:Nat×Nat) (w:World) (h1:RowS 33 aH cD w x l1 b1 o1 a1 E1 f1) (h2:RowS 33 aH cD w y l2 b2 o2 a2 E2 f2) (mJ:l1.length<1000000) (_hl2:l2.length<1000000):
  Rets prog 51 #[x,y] w (fun v D=>v= .bool (lw l1 l2)∧D= []):=by
 refine Rets.enterV func51 rfl (rs:= [.tmp 4]) results51 ntmps51 ?_
 refine kf ?_
 ((try with_reducible refine Cw.go [] ?_);(try simp(disch:=first|exact dD|fail) only[↓Sx.S0,Sx.S1,fx,qu,Nat.reduceAdd,Nat.reducePow,Int.reducePow,Nat.reduceBEq, ↓reduceIte,UInt8.reduceToNat,UInt16.reduceToNat,UInt32.reduceToNat,UInt64.reduceToNat,Int.reduceToNat,h1.len,h2.len]))
 by_cases dC:l1.length=l2.length
 ·((try with_reducible refine Cw.go [] ?_);(try simp(disch:=first|exact dD|fail) only[↓Sx.S0,Sx.S1,fx,qu,Nat.reduceAdd,Nat.reducePow,Int.reducePow,Nat.reduceBEq, ↓reduceIte,UInt8.reduceToNat,UInt16.reduceToNat,UInt32.reduceToNat,UInt64.reduceToNat,Int.reduceToNat,h1.len,h2.len]))
  refine Cw.loopG (G:=Nat) [11,12,13,14,17,18,19,20,21,22,23,24,25,4,15,16,5] (fun g=> [(5,vi g)]) (fun g=> []) (fun g=>g≤l1.length∧ ∀i,i<g→(((l1.getD i cD).name==(l2.getD i cD).name)&& ((l1.getD i cD).id.l==(l2.getD i cD).id.l))=true) (fun g=>l1.length - g) 0 rfl rfl ?_ ?_
  ·exact⟨by omega,fun i hi=>by omega⟩
  intro g j hg
  refine kv ?_
  obtain⟨qU,eJ⟩:=hg
  by_cases aC:g<l1.length
  ·have mP:g<l2.length:=by omega
   have aO:=h1.has oM
   have al:=h2.has oM
   have ld1:=h1.load ef oM aC
   have ld2:=h2.load ef oM mP
   ((try with_reducible refine Cw.go [] ?_);(try simp(disch:=first|exact dD|fail) only[↓Sx.S0,Sx.S1,fx,qu,Nat.reduceAdd,Nat.reducePow,Int.reducePow,Nat.reduceBEq, ↓reduceIte,UInt8.reduceToNat,UInt16.reduceToNat,UInt32.reduceToNat,UInt64.reduceToNat,Int.reduceToNat,h1.len]))
   refine Cw.regionS [b1,b2] [0,1,2,4,5,6,3,7,8] [] kR kR kR ?_
   simp only[bF, ↓bE, ↓ay, ↓bD, ↓bC,az]
   refine Ow.goQ ?_
   simp(disch:=first|exact dD|fail) only[↓Sx.S0,Sx.S1,fx,qu,Nat.reduceAdd,Nat.reducePow,Int.reducePow,Nat.reduceBEq, ↓reduceIte,UInt8.reduceToNat,UInt16.reduceToNat,UInt32.reduceToNat,UInt64.reduceToNat,Int.reduceToNat,h1.idx,h2.idx,aO,al,ld1,ld2]
   try with_reducible refine Ow.nil ?_
   cases hq: (((l1.getD g cD).name==(l2.getD g cD).name)&& ((l1.getD g cD).id.l==(l2.getD g cD).id.l))
   ·refine ky @qu ?_
    refine⟨_,(ke @qu),trivial, ?_⟩
    rw[Wa aC mP hq];rfl
   refine ky @qu ?_
   refine Again.mk (g+1) oM ⟨by omega,fun i hi=> ?_⟩ rfl rfl
   by_cases y3:i=g
   ·rw[y3];exact hq
   exact eJ i oM
  obtain rfl:g=l1.length:=by omega
  ((try with_reducible refine Cw.go [] ?_);(try simp(disch:=first|exact dD|fail) only[↓Sx.S0,Sx.S1,fx,qu,Nat.reduceAdd,Nat.reducePow,Int.reducePow,Nat.reduceBEq, ↓reduceIte,UInt8.reduceToNat,UInt16.reduceToNat,UInt32.reduceToNat,UInt64.reduceToNat,Int.reduceToNat,h1.len]))
  rw[TX dC eJ]
  refine⟨_,(ke @qu),trivial, ?_⟩
  rfl
 refine ky @qu ?_
 have:lw l1 l2=false:=by
  unfold lw
  rw[beq_eq_false_iff_ne]
  intro e
  exact dC (by simpa using congrArg List.length e)
 rw[this]
 refine⟨_,(ke @qu),trivial, ?_⟩
 rfl
end Go.Proofs
end
namespace Go.RefP
open Go Go.Sx
abbrev Pr:=List UInt8×List UInt8
def zp:Pr:=([],[])
def fD (z:List UInt8) (r:Pr) (m:aZ):aZ:=if r.2==z then delV r.1 (updV r.1 r.2 m) else updV r.1 r.2 m
def nL (x:Pr):aZ→Bool→aZ
 | [],dn=>if dn then [] else [x]
 |p::r,dn=>if p.1==x.1 then nL x r dn else if !dn&& !(ltB p.1 x.1||p.1==x.1) then x::p::nL x r true else p::nL x r dn
def setL (z:List UInt8) (l:aZ) (x:Pr):aZ:=nL x l (x.2==z)
def Rising (l:aZ):Prop:=l.Pairwise fun a b=>ltB a.1 b.1=true
def pZ (m:aZ):Prop:=(m.map Prod.fst).Nodup
def Rising.nd {l:aZ} (h:Rising l):pZ l:=by
 unfold pZ List.Nodup
 rw[List.pairwise_map]
 exact List.Pairwise.imp (fun jn=>x8 jn) h
def but (k:List UInt8) (m:aZ):aZ:=m.filter fun p=> !(p.1==k)
def w3 {k:List UInt8} {m:aZ} (h:k∉m.map Prod.fst):but k m=m:=by
 unfold but
 refine List.filter_eq_self.2 fun p hp=> ?_
 have:p.1≠k:=fun e=>h (List.mem_map.2 ⟨p,hp,e⟩)
 simp[this]
def CF (k:List UInt8) (m:aZ):k∉ (but k m).map Prod.fst:=by
 intro h
 obtain⟨p,hp,rfl⟩:=List.mem_map.1 h
 simp[but] at hp
theorem Ik {k v:List UInt8}: ∀ {m:aZ},pZ m→(updV k v m).Perm ((k,v)::but k m)
 | [],_=>List.Perm.refl _
 |p::r,h=>by
  simp only[pZ,List.map_cons,List.nodup_cons] at h
  unfold updV
  cases hk: (k==p.1)
  ·simp only[Bool.false_eq_true, ↓reduceIte]
   have cQ: (p.1==k)=false:=by
    rw[beq_eq_false_iff_ne] at hk ⊢;exact fun e=>hk e.symm
   have ih:=Ik (k:=k) (v:=v) (m:=r) h.2
   have:but k (p::r)=p::but k r:=by unfold but;rw[List.filter_cons];simp[cQ]
   rw[this]
   exact(List.Perm.cons p ih).trans (List.Perm.swap _ _ _)
  simp only[↓reduceIte]
  have e:k=p.1:=by simpa using hk
  subst e
  have:but p.1 (p::r)=r:=by
   have h2:=w3 h.1
   unfold but at h2 ⊢;rw[List.filter_cons];simp[h2]
  rw[this]
def Yk {k v:List UInt8} {m:aZ} (h:pZ m):pZ (updV k v m):=by
 have hp:=(Ik (k:=k) (v:=v) h).map Prod.fst
 refine(List.Perm.nodup_iff hp).2 ?_
 simp only[List.map_cons,List.nodup_cons]
 refine⟨CF k m, ?_⟩
 exact List.Nodup.sublist (List.Sublist.map _ List.filter_sublist) h
theorem F7 {k:List UInt8}: ∀ {m:aZ},pZ m→delV k m=but k m
 | [],_=>rfl
 |p::r,h=>by
  simp only[pZ,List.map_cons,List.nodup_cons] at h
  unfold delV
  cases hk: (k==p.1)
  ·have cQ: (p.1==k)=false:=by
    rw[beq_eq_false_iff_ne] at hk ⊢;exact fun e=>hk e.symm
   simp only[Bool.false_eq_true, ↓reduceIte,F7 h.2]
   unfold but;rw[List.filter_cons];simp[cQ]
  have e:k=p.1:=by simpa using hk
  subst e
  simp only[↓reduceIte]
  have h2:=w3 h.1
  unfold but at h2 ⊢;rw[List.filter_cons];simp[h2]
def Y0 {k v:List UInt8} {m:aZ} (h:pZ m): (but k (updV k v m)).Perm (but k m):=by
 have hp:=(Ik (k:=k) (v:=v) h).filter fun p=> !(p.1==k)
 have e1:List.filter (fun p=> !(p.1==k)) ((k,v)::but k m)=but k m:=by
  rw[List.filter_cons]
  simp only[beq_self_eq_true,Bool.not_true,Bool.false_eq_true, ↓reduceIte]
  exact w3 (CF k m)
 rw[e1] at hp
 exact hp
def Tq {z:List UInt8} {r:Pr} {m:aZ} (h:pZ m): (fD z r m).Perm (if r.2==z then but r.1 m else r::but r.1 m):=by
 unfold fD
 split
 ·rw[F7 (Yk h)];exact Y0 h
 exact Ik h
theorem A4 (x:Pr): ∀ (l:aZ),nL x l true=but x.1 l
 | []=>rfl
 |p::r=>by
  unfold nL
  cases h: (p.1==x.1)
  ·simp only[Bool.false_eq_true, ↓reduceIte,Bool.not_true,Bool.false_and,A4 x r]
   unfold but;rw[List.filter_cons];simp[h]
  simp only[↓reduceIte,A4 x r]
  unfold but;rw[List.filter_cons];simp[h]
theorem JM (x:Pr): ∀ (l:aZ),(nL x l false).Perm (x::but x.1 l)
 | []=>List.Perm.refl _
 |p::r=>by
  unfold nL
  cases h: (p.1==x.1)
  ·have e:but x.1 (p::r)=p::but x.1 r:=by unfold but;rw[List.filter_cons];simp[h]
   simp only[Bool.false_eq_true, ↓reduceIte,Bool.not_false,Bool.true_and,Bool.or_false]
   rw[e]
   split
   ·rw[A4]
   exact(List.Perm.cons p (JM x r)).trans (List.Perm.swap _ _ _)
  have e:but x.1 (p::r)=but x.1 r:=by unfold but;rw[List.filter_cons];simp[h]
  simp only[↓reduceIte]
  rw[e]
  exact JM x r
def U5 (z:List UInt8) (l:aZ) (x:Pr): (setL z l x).Perm (if x.2==z then but x.1 l else x::but x.1 l):=by
 unfold setL
 cases x.2==z
 ·exact JM x l
 rw[A4];exact List.Perm.refl _
def Bl {k:List UInt8} {l:aZ} (h:Rising l):Rising (but k l):=List.Pairwise.sublist List.filter_sublist h
def SZ {x p:Pr} {l:aZ} (h:p∈nL x l false):p=x∨p∈l:=by
 have:=(JM x l).mem_iff.1 h
 rcases List.mem_cons.1 this with rfl|h2
 ·exact .inl rfl
 exact .inr (List.mem_filter.1 h2).1
theorem Lx (x:Pr): ∀ {l:aZ},Rising l→Rising (nL x l false)
 | [],_=>List.pairwise_singleton _ _
 |p::r,h=>by
  have h':=List.pairwise_cons.1 h
  unfold nL
  cases hk: (p.1==x.1)
  ·simp only[Bool.false_eq_true, ↓reduceIte,Bool.not_false,Bool.true_and,Bool.or_false]
   have aU:p.1≠x.1:=by simpa using hk
   cases hl:ltB p.1 x.1
   ·have hx:=vP hl aU
    simp only[Bool.not_false, ↓reduceIte]
    rw[A4]
    refine List.pairwise_cons.2 ⟨?_,List.pairwise_cons.2 ⟨?_,Bl h'.2⟩⟩
    ·intro q hq
     rcases List.mem_cons.1 hq with rfl|hq
     ·exact hx
     exact tu hx (h'.1 q (List.mem_filter.1 hq).1)
    intro q hq
    exact h'.1 q (List.mem_filter.1 hq).1
   simp only[Bool.not_true,Bool.false_eq_true, ↓reduceIte]
   refine List.pairwise_cons.2 ⟨?_,Lx x h'.2⟩
   intro q hq
   rcases SZ hq with rfl|hq
   ·exact hl
   exact h'.1 q hq
  simp only[↓reduceIte]
  exact Lx x h'.2
def QP {z:List UInt8} {l:aZ} {x:Pr} (h:Rising l):Rising (setL z l x):=by
 unfold setL
 cases x.2==z
 ·exact Lx x h
 rw[A4];exact Bl h
def Rel (m l:aZ):Prop:=m.Perm l∧Rising l
theorem Rel.nd {m l:aZ} (h:Rel m l):pZ m:=(List.Perm.nodup_iff (h.1.map Prod.fst)).2 h.2.nd
def Rel.set {z:List UInt8} {m l:aZ} {x:Pr} (h:Rel m l):Rel (fD z x m) (setL z l x):=by
 refine⟨?_,QP h.2⟩
 have hb: (but x.1 m).Perm (but x.1 l):=h.1.filter _
 refine(Tq h.nd).trans (List.Perm.trans ?_ (U5 z l x).symm)
 split
 ·exact hb
 exact List.Perm.cons _ hb
def gX (nm:List UInt8→Bool) (z:List UInt8) (t:aZ) (g:Nat):Bool:=
 nm (t.getD g zp).1&& !((t.getD g zp).2==z)&& (g==0||ltB (t.getD (g - 1) zp).1 (t.getD g zp).1)
def tabM (nm:List UInt8→Bool) (z:List UInt8) (t:aZ):Nat→Option aZ
 |0=>some []
 |g+1=>(tabM nm z t g).bind fun m=>if(gX nm z t g&&decide ((fD z (t.getD g zp) m).length≤16))=true then some (fD z (t.getD g zp) m) else none
def gr (nm:List UInt8→Bool) (z:List UInt8) (l:aZ) (m0:aZ):Nat→Option aZ
 |0=>some m0
 |g+1=>(gr nm z l m0 g).bind fun m=>if(nm (l.getD g zp).1&&decide ((fD z (l.getD g zp) m).length≤16))=true then some (fD z (l.getD g zp) m) else none
def ofM (nm:List UInt8→Bool) (z:List UInt8) (t l:aZ) (k:Nat):Option aZ:=(tabM nm z t t.length).bind fun m=>gr nm z l m k
def logL (nm:List UInt8→Bool) (z:List UInt8) (l:aZ) (m0:aZ):Nat→Option aZ
 |0=>some m0
 |g+1=>(logL nm z l m0 g).bind fun m=>if(nm (l.getD g zp).1&&decide ((setL z m (l.getD g zp)).length≤16))=true then some (setL z m (l.getD g zp)) else none
def v_ (nm:List UInt8→Bool) (z:List UInt8) (t:aZ):Bool:=(List.range t.length).all (gX nm z t)
def ofL (nm:List UInt8→Bool) (z:List UInt8) (t l:aZ) (k:Nat):Option aZ:=
 if t.length≤16∧l.length≤100∧v_ nm z t=true then logL nm z l t k else none
def Ck {nm:List UInt8→Bool} {z:List UInt8} {l m0:aZ} {g:Nat} (h:gr nm z l m0 g=none): ∀k,g≤k→gr nm z l m0 k=none:=by
 intro k hk
 induction hk with
 |refl=>exact h
 |step _ ih=>unfold gr;rw[ih];rfl
def Sm {nm:List UInt8→Bool} {z:List UInt8} {t:aZ} {g:Nat} (h:tabM nm z t g=none): ∀k,g≤k→tabM nm z t k=none:=by
 intro k hk
 induction hk with
 |refl=>exact h
 |step _ ih=>unfold tabM;rw[ih];rfl
theorem KG {nm:List UInt8→Bool} {z:List UInt8} {t:aZ}: ∀ (g:Nat),g≤t.length→(∀i,i<g→gX nm z t i=true)→Rising (t.take g)∧(0<g→ ∀p,p∈t.take (g - 1)→ltB p.1 (t.getD (g - 1) zp).1=true)
 |0,_,_=>⟨by simp[Rising],fun h=>by omega⟩
 |g+1,hg,h=>by
  have ih:=KG (nm:=nm) (z:=z) (t:=t) g oM (fun i hi=>h i oM)
  have aC:g<t.length:=by omega
  have e:t.take (g+1)=t.take g++ [t.getD g zp]:=by
   rw[List.take_add_one,List.getElem?_eq_getElem aC,List.getD_eq_getElem?_getD,List.getElem?_eq_getElem aC];rfl
  have key: ∀p,p∈t.take g→ltB p.1 (t.getD g zp).1=true:=by
   intro p hp
   cases g with
   |zero=>simp at hp
   |succ k=>
    have hk:k<t.length:=by omega
    have h1:=h (k+1) oM
    unfold gX at h1
    simp only[Bool.and_eq_true,Bool.or_eq_true,Nat.add_sub_cancel] at h1
    have h2:ltB (t.getD k zp).1 (t.getD (k+1) zp).1=true:=by
     rcases h1.2 with h3|h3
     ·simp at h3
     exact h3
    have e2:t.take (k+1)=t.take k++ [t.getD k zp]:=by
     rw[List.take_add_one,List.getElem?_eq_getElem hk,List.getD_eq_getElem?_getD,List.getElem?_eq_getElem hk];rfl
    rw[e2] at hp
    rcases List.mem_append.1 hp with hp|hp
    ·exact tu (ih.2 oM p hp) h2
    rw[List.mem_singleton.1 hp];exact h2
  refine⟨?_,fun _=>key⟩
  rw[e]
  refine List.pairwise_append.2 ⟨ih.1,List.pairwise_singleton _ _, ?_⟩
  intro a ha b hb
  rw[List.mem_singleton.1 hb]
  exact key a ha
theorem E6 {k v:List UInt8}: ∀ {m:aZ},k∉m.map Prod.fst→updV k v m=m++ [(k,v)]
 | [],_=>rfl
 |p::r,h=>by
  simp only[List.map_cons,List.mem_cons,not_or] at h
  unfold updV
  rw[if_neg (by simpa using h.1),E6 h.2];rfl
theorem sL {nm:List UInt8→Bool} {z:List UInt8} {t:aZ}: ∀ (g:Nat),g≤t.length→tabM nm z t g=if g≤16∧(∀i,i<g→gX nm z t i=true) then some (t.take g) else none
 |0,_=>by simp[tabM]
 |g+1,hg=>by
  have aC:g<t.length:=by omega
  have ih:=sL (nm:=nm) (z:=z) (t:=t) g oM
  unfold tabM
  rw[ih]
  by_cases h:g≤16∧(∀i,i<g→gX nm z t i=true)
  ·rw[if_pos h,Option.bind_some]
   cases ht:gX nm z t g
   ·rw[Bool.false_and,if_neg (by simp),if_neg]
    intro h2;rw[h2.2 g oM] at ht;cases ht
   have dr: ∀i,i<g+1→gX nm z t i=true:=by
    intro i hi
    by_cases e:i=g
    ·rw[e];exact ht
    exact h.2 i oM
   have hr:=KG (nm:=nm) (z:=z) (t:=t) (g+1) hg dr
   have ez: (t.getD g zp).1∉ (t.take g).map Prod.fst:=by
    intro hm
    obtain⟨p,hp,e⟩:=List.mem_map.1 hm
    exact x8 (hr.2 oM p hp) e
   have hz: ((t.getD g zp).2==z)=false:=by
    unfold gX at ht
    simp only[Bool.and_eq_true,Bool.not_eq_true'] at ht
    exact ht.1.2
   have hs:fD z (t.getD g zp) (t.take g)=t.take (g+1):=by
    unfold fD
    rw[hz,if_neg (by simp),E6 ez,List.take_add_one,List.getElem?_eq_getElem aC,List.getD_eq_getElem?_getD,List.getElem?_eq_getElem aC];rfl
   rw[hs,Bool.true_and]
   have hl: (t.take (g+1)).length=g+1:=by simp;omega
   rw[hl]
   by_cases h6:g+1≤16
   ·rw[if_pos (by simpa using h6),if_pos ⟨h6,dr⟩]
   rw[if_neg (by simpa using h6),if_neg (fun h2=>h6 h2.1)]
  rw[if_neg h,if_neg]
  ·rfl
  intro h2;exact h ⟨by omega,fun i hi=>h2.2 i oM⟩
theorem EA {nm:List UInt8→Bool} {z:List UInt8} {l m0 l0:aZ} (h:Rel m0 l0): ∀ (k:Nat),(gr nm z l m0 k=none∧logL nm z l l0 k=none)∨ ∃m d,gr nm z l m0 k=some m∧logL nm z l l0 k=some d∧Rel m d
 |0=> .inr ⟨_,_,rfl,rfl,h⟩
 |k+1=>by
  unfold gr logL
  rcases EA h k with⟨h1,h2⟩ | ⟨m,d,h1,h2,hr⟩
  ·rw[h1,h2];exact .inl ⟨rfl,rfl⟩
  rw[h1,h2]
  simp only[Option.bind_some]
  have hs:Rel (fD z (l.getD k zp) m) (setL z d (l.getD k zp)):=hr.set
  rw[hs.1.length_eq]
  split
  ·exact .inr ⟨_,_,rfl,rfl,hs⟩
  exact .inl ⟨rfl,rfl⟩
def Fm (nm:List UInt8→Bool) (z:List UInt8) (t l:aZ) (hl:l.length≤100) (k:Nat):
  (ofM nm z t l k=none∧ofL nm z t l k=none)∨ ∃m d,ofM nm z t l k=some m∧ofL nm z t l k=some d∧Rel m d:=by
 unfold ofM ofL
 rw[sL t.length (ap _)]
 have dr:v_ nm z t=true↔ ∀i,i<t.length→gX nm z t i=true:=by
  unfold v_;rw[List.all_eq_true];simp
 by_cases h:t.length≤16∧(∀i,i<t.length→gX nm z t i=true)
 ·rw[if_pos h,if_pos ⟨h.1,hl,dr.2 h.2⟩,Option.bind_some,List.take_length]
  have hr:=(KG t.length (ap _) h.2).1
  rw[List.take_length] at hr
  exact EA ⟨List.Perm.refl _,hr⟩ k
 rw[if_neg h,if_neg (fun h2=>h ⟨h2.1,dr.1 h2.2.2⟩)]
 exact .inl ⟨rfl,rfl⟩
def vv (nm:List UInt8→Bool) (z:List UInt8) (t l:aZ):Bool:=(ofM nm z t l l.length).isSome&&decide (l.length≤100)
def k5 (nm:List UInt8→Bool) (z:List UInt8) (t l:aZ):Bool:=(ofL nm z t l l.length).isSome
def V5 (nm:List UInt8→Bool) (z:List UInt8) (t l:aZ):vv nm z t l=k5 nm z t l:=by
 unfold vv k5
 by_cases hl:l.length≤100
 ·rcases Fm nm z t l hl l.length with⟨h1,h2⟩ | ⟨m,d,h1,h2,-⟩<;>rw[h1,h2]<;>simp[hl]
 rw[show ofL nm z t l l.length=none by unfold ofL;rw[if_neg (fun h=>hl h.2.1)]]
 simp[hl]
theorem wO {k v:List UInt8}: ∀ {m:aZ} {p:Pr},p∈updV k v m→p.2=v∨p∈m
 | [],p,h=>by simp only[updV,List.mem_singleton] at h;exact .inl (by rw[h])
 |q::r,p,h=>by
  unfold updV at h
  split at h
  ·rcases List.mem_cons.1 h with rfl|h
   ·exact .inl rfl
   exact .inr (av _ h)
  rcases List.mem_cons.1 h with rfl|h
  ·exact .inr aa
  rcases wO h with h|h
  ·exact .inl h
  exact .inr (av _ h)
theorem EG {k:List UInt8}: ∀ {m:aZ} {p:Pr},p∈delV k m→p∈m
 | [],_,h=>h
 |q::r,p,h=>by
  unfold delV at h
  split at h
  ·exact av _ h
  rcases List.mem_cons.1 h with rfl|h
  ·exact aa
  exact av _ (EG h)
def WZ {z:List UInt8} {r p:Pr} {m:aZ} (h:p∈fD z r m):p.2=r.2∨p∈m:=by
 unfold fD at h
 split at h
 ·exact wO (EG h)
 exact wO h
def AllLen (m:aZ):Prop:= ∀p,p∈m→p.2.length=32
def AllLen.set {z:List UInt8} {r:Pr} {m:aZ} (h:AllLen m) (hr:r.2.length=32):AllLen (fD z r m):=by
 intro p hp
 rcases WZ hp with e|h2
 ·rw[e];exact hr
 exact h p h2
theorem Da {nm:List UInt8→Bool} {z:List UInt8} {t:aZ} (ht: ∀g,g<t.length→(t.getD g zp).2.length=32): ∀ (g:Nat) (m:aZ),g≤t.length→tabM nm z t g=some m→AllLen m
 |0,m,_,h=>by cases h;intro p hp;cases hp
 |g+1,m,hg,h=>by
  unfold tabM at h
  cases h1:tabM nm z t g with
  |none=>rw[h1] at h;cases h
  |some m1=>
   rw[h1,Option.bind_some] at h
   split at h
   ·cases h
    exact(Da ht g m1 oM h1).set (ht g oM)
   cases h
theorem EP {nm:List UInt8→Bool} {z:List UInt8} {l m0:aZ} (hl: ∀g,g<l.length→(l.getD g zp).2.length=32) (h0:AllLen m0): ∀ (g:Nat) (m:aZ),g≤l.length→gr nm z l m0 g=some m→AllLen m
 |0,m,_,h=>by cases h;exact h0
 |g+1,m,hg,h=>by
  unfold gr at h
  cases h1:gr nm z l m0 g with
  |none=>rw[h1] at h;cases h
  |some m1=>
   rw[h1,Option.bind_some] at h
   split at h
   ·cases h
    exact(EP hl h0 g m1 oM h1).set (hl g oM)
   cases h
def FC {nm:List UInt8→Bool} {z:List UInt8} {t l:aZ} {k:Nat} {m:aZ} (ht: ∀g,g<t.length→(t.getD g zp).2.length=32) (hl: ∀g,g<l.length→(l.getD g zp).2.length=32) (hk:k≤l.length) (h:ofM nm z t l k=some m):AllLen m:=by
 unfold ofM at h
 cases h1:tabM nm z t t.length with
 |none=>rw[h1] at h;cases h
 |some m1=>
  rw[h1,Option.bind_some] at h
  exact EP hl (Da ht _ _ (ap _) h1) k m hk h
end Go.RefP
section
open Go Go.Proofs Go.Sx Go.RefP
namespace Go.Proofs
def mkId (l:List UInt8):IdL:=if h:l.length=32 then⟨l,h⟩ else id0
def FF {l:List UInt8} (h:l.length=32):mkId l=⟨l,h⟩:=by unfold mkId;rw[dif_pos h]
def refR (s:List UInt8) (a:Nat) (e:Int):RefL×Nat×Int:=
 (⟨(aY s a e 32).1,mkId (idR s (aY s a e 32).2.1 (aY s a e 32).2.2).1⟩,(idR s (aY s a e 32).2.1 (aY s a e 32).2.2).2)
def FB (s:List UInt8) (a:Nat) (e:Int) (ha:a≤s.length):oneR s a e ha=refR s a e:=by
 unfold oneR refR
 rw[FF (sM (yv ha).2)]
def F2 {s:List UInt8} {a:Nat} {e:Int} (ha:a≤s.length):a≤ (refR s a e).2.1∧(refR s a e).2.1≤s.length:=by
 have h1:=yv (e:=e) (most:=32) ha
 have h2:=Zc (e:=(aY s a e 32).2.2) h1.2
 unfold refR
 exact⟨by simp only;omega,h2.2⟩
def dW (s:List UInt8) (a:Nat) (e:Int):Nat→List RefL×Nat×Int
 |0=>([],a,e)
 |g+1=>((dW s a e g).1++ [(refR s (dW s a e g).2.1 (dW s a e g).2.2).1],(refR s (dW s a e g).2.1 (dW s a e g).2.2).2)
theorem Dx {s:List UInt8} {a:Nat} {e:Int} (ha:a≤s.length): ∀g,a≤ (dW s a e g).2.1∧(dW s a e g).2.1≤s.length
 |0=>⟨ap _,ha⟩
 |g+1=>by
  have ih:=Dx (e:=e) ha g
  have h:=F2 (e:=(dW s a e g).2.2) ih.2
  unfold dW
  exact⟨by simp only;omega,h.2⟩
theorem AL (s:List UInt8) (a:Nat) (e:Int): ∀g,(dW s a e g).1.length=g
 |0=>rfl
 |g+1=>by unfold dW;simp[AL s a e g]
def endR (s:List UInt8) (a:Nat) (e:Int):Int:=if e≠0 then e else if(a:Int)<s.length then 5 else 0
def prs (l:List RefL):aZ:=l.map fun r=>(r.name,r.id.l)
def iD (l:List RefL): (prs l).length=l.length:=by simp[prs]
def qw (l:List RefL) (g:Nat) (h:g<l.length): (prs l).getD g zp=((l.getD g cD).name,(l.getD g cD).id.l):=by
 unfold prs
 rw[List.getD_eq_getElem?_getD,List.getD_eq_getElem?_getD,List.getElem?_map,List.getElem?_eq_getElem h];rfl
def bV (t l:List RefL):Bool:=vv cN z32 (prs t) (prs l)
def pK (s:List UInt8):Option (List RefL×Nat):=
 match cm s 0 0 [72] with
 | (none,_)=>none
 | (some c,at_,_)=>
  let n:=aG c 0 0 16
  let tb:=dW c n.2.1 n.2.2 n.1.toNat
  if endR c tb.2.1 tb.2.2=0∧bV tb.1 []=true then some (tb.1,at_) else none
def lN (s:List UInt8) (tb:List RefL) (log:List RefL) (at_:Nat):Option (List RefL×Nat):=
 match cm s at_ 0 [69] with
 | (none,_)=>none
 | (some c,to,_)=>if endR c (refR c 0 0).2.1 (refR c 0 0).2.2=0∧bV tb (log++ [(refR c 0 0).1])=true then some (log++ [(refR c 0 0).1],to) else none
def kc (s:List UInt8) (tb:List RefL):Nat→List RefL→Nat→List RefL×Nat
 |0,log,at_=>(log,at_)
 |n+1,log,at_=>match lN s tb log at_ with
  |none=>(log,at_)
  |some p=>kc s tb n p.1 p.2
def iY (s:List UInt8):Option (List RefL×List RefL×Nat):=(pK s).map fun h=>(h.1,kc s h.1 101 [] h.2)
def Lf {t l:List RefL} (h:bV t l=true):l.length≤100:=by
 unfold bV vv at h
 rw[Bool.and_eq_true,decide_eq_true_eq,iD] at h
 exact h.2
def TZ {s:List UInt8} {tb log:List RefL} {at_:Nat} {p:List RefL×Nat} (h:lN s tb log at_=some p):p.1.length=log.length+1∧p.1.length≤100:=by
 unfold lN at h
 split at h
 ·cases h
 split at h
 ·rename_i h2
  cases h
  exact⟨by simp,Lf h2.2⟩
 cases h
theorem Ba (s:List UInt8) (tb:List RefL): ∀ (n m:Nat) (log:List RefL) (at_:Nat),101≤n+log.length→101≤m+log.length→log.length≤100→kc s tb n log at_=kc s tb m log at_
 |0,_,log,at_,h1,_,h3=>by omega
 |n+1,0,log,at_,_,h2,h3=>by omega
 |n+1,m+1,log,at_,h1,h2,h3=>by
  unfold kc
  cases hn:lN s tb log at_ with
  |none=>rfl
  |some p=>
   have:=TZ hn
   exact Ba s tb n m p.1 p.2 oM oM this.2
def VE (l:List RefL) (k:Nat):prs (l.take k)=(prs l).take k:=by unfold prs;rw[List.map_take]
def wx (r:RefL) (m:aZ):sc r m=fD z32 (r.name,r.id.l) m:=rfl
def vU (a b:Value) (E:TypeId) (n:Nat):aQ (some (false,n)) (some (.cells #[a,b] E (0,0))) 0=some a:=(rfl)
def u4 (a b:Value) (E:TypeId) (n:Nat):aQ (some (false,n)) (some (.cells #[a,b] E (0,0))) 1=some b:=(rfl)
def ki (l:List UInt8) (h:l.length=32):ab prog .eql 24 (.agg (a8 l)) (.agg (a8 z32))=some (.bool (l==z32)):=eqId l z32 ⟨h,by simp[z32]⟩
def wb_ (s:List UInt8) (w:World) (hs:s.length<1099511627776):
  Rets prog 149 #[vs s] w (fun v D=>v= .bool (cN s)∧D= []):=NU s w hs
structure OG where
 g:Nat
 m:aZ
 o:Obj
theorem CE {nm:List UInt8→Bool} {z:List UInt8} {l m0:aZ} {n:Nat}: ∀k,k≤n→gr nm z (l.take n) m0 k=gr nm z l m0 k
 |0,_=>rfl
 |k+1,h=>by
  unfold gr
  rw[CE k oM]
  have: (l.take n).getD k zp=l.getD k zp:=by rw[List.getD_eq_getElem?_getD,List.getD_eq_getElem?_getD,List.getElem?_take_of_lt oM]
  rw[this]
def cY:=aN (aN (aN @bB (aN @iH @iG)) (aN @iE (aN @bA @rC))) (aN (aN @rA (aN @kX @ki)) (aN (aN @u3 @tw) (aN @vU @u4)))
def OfSRf (n:Nat) (t l:List RefL) (k:Nat) (v:Value) (D:aB):Prop:=
 match ofM cN z32 (prs t) (prs l) k with
 |some m=> ∃b o,v= .tuple #[vm b, .bool (decide (l.length≤100))]∧D= [(b,o)]∧MapR o m∧n≤b
 |none=>v= .tuple #[.map none, .bool false]∧New n D
def yq {nm:List UInt8→Bool} {z:List UInt8} {t m:aZ} {g:Nat} (h:tabM nm z t g=some m):tabM nm z t (g+1)=if(gX nm z t g&&decide ((fD z (t.getD g zp) m).length≤16))=true then some (fD z (t.getD g zp) m) else none:=by
 rw[tabM,h];rfl
def K_ {nm:List UInt8→Bool} {z:List UInt8} {l m0 m:aZ} {g:Nat} (h:gr nm z l m0 g=some m):gr nm z l m0 (g+1)=if(nm (l.getD g zp).1&&decide ((fD z (l.getD g zp) m).length≤16))=true then some (fD z (l.getD g zp) m) else none:=by
 rw[gr,h];rfl
def OfSRf.tab {n:Nat} {t l:List RefL} {k g:Nat} (h:tabM cN z32 (prs t) (g+1)=none) (hg:g<t.length) {D:aB} (hD:New n D):OfSRf n t l k (.tuple #[.map none, .bool false]) D:=by
 unfold OfSRf ofM
 rw[Sm h _ (by rw[iD];exact hg)]
 exact⟨rfl,hD⟩
def OfSRf.log {n:Nat} {t l:List RefL} {k g:Nat} {m:aZ} (ht:tabM cN z32 (prs t) t.length=some m) (h:gr cN z32 (prs l) m (g+1)=none) (hg:g<k) {D:aB} (hD:New n D):OfSRf n t l k (.tuple #[.map none, .bool false]) D:=by
 unfold OfSRf ofM
 rw[iD,ht,Option.bind_some,Ck h _ hg]
 exact⟨rfl,hD⟩
def OfSRf.new {n:Nat} {t l:List RefL} {k:Nat} {v:Value} {D:aB} (h:OfSRf n t l k v D):New n D:=by
 unfold OfSRf at h
 split at h
 ·obtain⟨b,o,-,rfl,-,hb⟩:=h
  exact⟨hb,trivial⟩
 exact h.2
def wk (vt vl:Value) (t l:List RefL) (k:Nat) (w:World) (ht:gY w vt t) (hl:gY w vl l) (dE:t.length<1000000) (eK:l.length<1000000) (hk:k≤l.length)
  (dS: ∀g,g<t.length→(t.getD g cD).name.length<1099511627776) (bI: ∀g,g<l.length→(l.getD g cD).name.length<1099511627776):
  Rets prog 89 #[.agg #[vt,vl],vi k] w (OfSRf w.heap.size t l k):=by
 refine Rets.enter func89 rfl (rs:= [.tmp 4, .tmp 5]) results89 ntmps89 ?_
 refine kf ?_
 obtain⟨b1,o1,a1,E1,f1,h1⟩:=ht.row
 refine kz [1000014] @cY ?_
 refine Ow.box rfl rfl fun bx g_ bT=> ?_
 simp only[ck,cV,ce,ag,List.nil_append,List.cons_append]
 refine Ow.go rfl ?_
 simp(disch:=first|exact dD|fail) only[↓Sx.S0,Sx.S1,fx,cY,Nat.reduceAdd,Nat.reducePow,Int.reducePow,Nat.reduceBEq, ↓reduceIte,UInt8.reduceToNat,UInt16.reduceToNat,UInt32.reduceToNat,UInt64.reduceToNat,Int.reduceToNat]
 refine ky @cY ?_
 refine Ow.makeMap rfl rfl fun bm o tM n4 rS=> ?_
 obtain⟨hxm,-⟩:=tM
 rw[List.cons_append,List.nil_append]
 refine ko @cY ?_
 ((try with_reducible refine Cw.go [] ?_);(try simp(disch:=first|exact dD|fail) only[↓Sx.S0,Sx.S1,fx,cY,Nat.reduceAdd,Nat.reducePow,Int.reducePow,Nat.reduceBEq, ↓reduceIte,UInt8.reduceToNat,UInt16.reduceToNat,UInt32.reduceToNat,UInt64.reduceToNat,Int.reduceToNat,ht.len]))
 refine Cw.loopG (G:=OG) [16,17,18,19,8,7,20,21,22,23,24,25,26,27,28,29,30,31,32,33,34,35,36,37,38,39,40,41,42,43,44,45,46,47,48,49,50,51,4,5,52,15] (fun g=> [(15,vi g.g)]) (fun g=> [(bx, .cells #[vt,vl] 73 (0,0)),(bm,g.o)]) (fun g=>g.g≤t.length∧tabM cN z32 (prs t) g.g=some g.m∧MapR g.o g.m) (fun g=>t.length - g.g) ⟨0,[],o⟩ rfl rfl ?_ ?_
 ·exact⟨aq _,rfl,rS⟩
 intro g j hg
 refine kv ?_
 obtain⟨g,m,o⟩:=g
 simp only at hg ⊢
 obtain⟨iW,o0,cF⟩:=hg
 by_cases aC:g<t.length
 ·have aO:=h1.has oM
  have Gy:=h1.lt oM
  have ld1:=h1.load ef oM aC
  ((try with_reducible refine Cw.go [7] ?_);(try simp(disch:=first|exact dD|fail) only[↓Sx.S0,Sx.S1,fx,cY,Nat.reduceAdd,Nat.reducePow,Int.reducePow,Nat.reduceBEq, ↓reduceIte,UInt8.reduceToNat,UInt16.reduceToNat,UInt32.reduceToNat,UInt64.reduceToNat,Int.reduceToNat,ht.len,h1.idx,aO,ld1]))
  refine Ow.alloc rfl rfl oZ fun b5 jF gU=> ?_
  simp only[ag,List.nil_append,List.cons_append]
  obtain⟨hx5,Jl,-⟩:=jF
  refine ko @cY ?_
  refine ky @cY ?_
  have iw:=(t.getD g cD).id.h
  have ec:=dS g aC
  have pE:=qw t g aC
  generalize hr:t.getD g cD=r at*
  refine Cw.regionS [bx,b1,b5] [0,1,2,3,4,5,7,6,8,9,10,11,12,13,14,16,17,21,15,18,19,20,22,23,24,25,26,27,28,29,30,31] [] kR kR kR ?_
  simp only[bF, ↓bE, ↓ay, ↓bD, ↓bC,az]
  refine kq @cY ?_
  refine Ow.callFV rfl call149 (fun w' aA=>wb_ r.name w' ec) ?_
  cases hn:cN r.name
  ·have cG:gX cN z32 (prs t) g=false:=by unfold gX;rw[pE];simp only[hn,Bool.false_and]
   refine kq @cY ?_
   try with_reducible refine Ow.nil ?_
   refine ky @cY ?_
   refine⟨_,(ke @cY), ?_⟩
   exact OfSRf.tab (by rw[yq o0,cG];rfl) aC ⟨bT,n4,gU,trivial⟩
  refine kq @cY ?_
  refine Ow.build (.agg (a8 z32)) rfl kR ?_
  cases hz: (r.id.l==z32)
  ·by_cases h0:g=0
   ·have hd:decide ((0:Int)< (g:Int))=false:=by simp[h0]
    have cG:gX cN z32 (prs t) g=true:=by unfold gX;rw[pE];simp only[hn,hz,h0,beq_self_eq_true,Bool.true_or,Bool.not_false,Bool.and_self]
    refine kq (aN @cY (aN @hz @hd)) ?_
    refine Ow.soft rfl rfl rfl ?_
    refine Ow.callE rfl rfl call158 (by simp[keys]) (fun w' aA=>wR bm o m r w' (aA.has _ _ (av _ aa)) cF) (fun v o' hS=> ?_)
    with_reducible refine Ow.nil ?_
    refine⟨fun b hb=>AN (by simp only[List.mem_cons,List.not_mem_nil,or_false] at hb;omega), ?_⟩
    refine kn ?_
    obtain⟨rfl,fG⟩:=hS
    rw[wx] at fG ⊢
    by_cases rH: (fD z32 (r.name,r.id.l) m).length≤16
    ·have gO:decide ((fD z32 (r.name,r.id.l) m).length≤16)=true:=by simpa using rH
     refine kq (aN @cY @gO) ?_
     try with_reducible refine Ow.nil ?_
     refine Cw.forgetN [(bx, .cells #[vt,vl] 73 (0,0)),(bm,o')] (by exact⟨bT,n4,gU,trivial⟩) (by intro p hp;simp only[List.mem_cons,List.not_mem_nil,or_false] at hp ⊢;all_goals (first| (rcases hp with rfl|hp<;>simp_all) | (subst hp;simp) |simp_all)) (by simp[keys]<;>omega) ?_
     refine ky @cY ?_
     refine Again.mk ⟨g+1,fD z32 (r.name,r.id.l) m,o'⟩ (by simp only;omega) ⟨aC, ?_,fG⟩ rfl rfl
     rw[yq o0,cG,pE,Bool.true_and,gO,if_pos rfl]
    have gO:decide ((fD z32 (r.name,r.id.l) m).length≤16)=false:=by simpa using rH
    refine kq (aN @cY @gO) ?_
    try with_reducible refine Ow.nil ?_
    refine ky @cY ?_
    refine⟨_,(ke @cY), ?_⟩
    exact OfSRf.tab (by rw[yq o0,pE,gO,Bool.and_false];rfl) aC ⟨bT,n4,gU,trivial⟩
   have hd:decide ((0:Int)< (g:Int))=true:=by simp;omega
   have ld2:aQ (some (false,1)) (some (.cells a1 E1 f1)) (o1+ (g - 1)*33)=some (vs (t.getD (g - 1) cD).name):=h1.cell (j:=0) (n:=1) (show g - 1<t.length by omega) oM
   have zi:nC (.sl (true,33)) vt (some ((g:Int) - 1))=some (vp b1 (o1+ (g - 1)*33)):=by
    have:=h1.idx true (g - 1) oM
    rw[show((g - 1:Nat):Int)=(g:Int) - 1 by omega] at this
    exact this
   have hpp:=qw t (g - 1) (show g - 1<t.length by omega)
   have HJ: (g==0)=false:=by simpa using h0
   have cG:gX cN z32 (prs t) g=ltB (t.getD (g - 1) cD).name r.name:=by unfold gX;rw[pE,hpp];simp only[hn,hz,HJ,Bool.false_or,Bool.not_false,Bool.true_and]
   cases hq:Op.bytesLess (t.getD (g - 1) cD).name r.name
   ·refine kq (aN @cY (aN @hz (aN @hd (aN @zi (aN @aO (aN @ld2 @hq)))))) ?_
    try with_reducible refine Ow.nil ?_
    refine ky @cY ?_
    refine⟨_,(ke @cY), ?_⟩
    exact OfSRf.tab (by rw[yq o0,cG,show ltB (t.getD (g - 1) cD).name r.name=false from hq];rfl) aC ⟨bT,n4,gU,trivial⟩
   refine kq (aN @cY (aN @hz (aN @hd (aN @zi (aN @aO (aN @ld2 @hq)))))) ?_
   refine Ow.soft rfl rfl rfl ?_
   refine Ow.callE rfl rfl call158 (by simp[keys]) (fun w' aA=>wR bm o m r w' (aA.has _ _ (av _ aa)) cF) (fun v o' hS=> ?_)
   with_reducible refine Ow.nil ?_
   refine⟨fun b hb=>AN (by simp only[List.mem_cons,List.not_mem_nil,or_false] at hb;omega), ?_⟩
   refine kn ?_
   obtain⟨rfl,fG⟩:=hS
   rw[wx] at fG ⊢
   by_cases rH: (fD z32 (r.name,r.id.l) m).length≤16
   ·have gO:decide ((fD z32 (r.name,r.id.l) m).length≤16)=true:=by simpa using rH
    refine kq (aN @cY @gO) ?_
    try with_reducible refine Ow.nil ?_
    refine Cw.forgetN [(bx, .cells #[vt,vl] 73 (0,0)),(bm,o')] (by exact⟨bT,n4,gU,trivial⟩) (by intro p hp;simp only[List.mem_cons,List.not_mem_nil,or_false] at hp ⊢;all_goals (first| (rcases hp with rfl|hp<;>simp_all) | (subst hp;simp) |simp_all)) (by simp[keys]<;>omega) ?_
    refine ky @cY ?_
    refine Again.mk ⟨g+1,fD z32 (r.name,r.id.l) m,o'⟩ (by simp only;omega) ⟨aC, ?_,fG⟩ rfl rfl
    rw[yq o0,cG,pE,gO,Bool.and_true]
    exact if_pos hq
   have gO:decide ((fD z32 (r.name,r.id.l) m).length≤16)=false:=by simpa using rH
   refine kq (aN @cY @gO) ?_
   try with_reducible refine Ow.nil ?_
   refine ky @cY ?_
   refine⟨_,(ke @cY), ?_⟩
   exact OfSRf.tab (by rw[yq o0,pE,gO,Bool.and_false];rfl) aC ⟨bT,n4,gU,trivial⟩
  have cG:gX cN z32 (prs t) g=false:=by unfold gX;rw[pE];simp only[hz,Bool.not_true,Bool.and_false,Bool.false_and]
  refine kq (aN @cY @hz) ?_
  try with_reducible refine Ow.nil ?_
  refine ky @cY ?_
  refine⟨_,(ke @cY), ?_⟩
  exact OfSRf.tab (by rw[yq o0,cG];rfl) aC ⟨bT,n4,gU,trivial⟩
 obtain rfl:g=t.length:=by omega
 obtain⟨b2,o2,a2,E2,f2,h2⟩:=hl.row
 obtain⟨vl',cb,bz,-⟩:=hl.take hk true
 obtain⟨b3,o3,a3,E3,f3,h3⟩:=bz.row
 have qX: (l.take k).length=k:=by simp;omega
 have uz:=bz.len
 rw[qX] at uz
 ((try with_reducible refine Cw.go [] ?_);(try simp(disch:=first|exact dD|fail) only[↓Sx.S0,Sx.S1,fx,cY,Nat.reduceAdd,Nat.reducePow,Int.reducePow,Nat.reduceBEq, ↓reduceIte,UInt8.reduceToNat,UInt16.reduceToNat,UInt32.reduceToNat,UInt64.reduceToNat,Int.reduceToNat,ht.len,hl.len,cb,uz]))
 refine Cw.loopG (G:=OG) [59,60,61,10,62,63,64,65,66,67,68,69,70,71,4,5,72,58] (fun g=> [(58,vi g.g)]) (fun g=> [(bx, .cells #[vt,vl] 73 (0,0)),(bm,g.o)]) (fun g=>g.g≤k∧gr cN z32 (prs l) m g.g=some g.m∧MapR g.o g.m) (fun g=>k - g.g) ⟨0,m,o⟩ rfl rfl ?_ ?_
 ·exact⟨aq _,rfl,cF⟩
 intro g j hg
 refine kv ?_
 obtain⟨g,mm,o⟩:=g
 simp only at hg ⊢
 obtain⟨hgl2,tQ,HK⟩:=hg
 by_cases mP:g<k
 ·have gA:=h3.has oM
  have hb3l:=h3.lt oM
  have ld3:=h3.load ef oM (show g< (l.take k).length by omega)
  have jH: (l.take k).getD g cD=l.getD g cD:=by rw[List.getD_eq_getElem?_getD,List.getD_eq_getElem?_getD,List.getElem?_take_of_lt mP]
  rw[jH] at ld3
  have hix3:=h3.idx true g oM
  have iw:=(l.getD g cD).id.h
  have ec:=bI g oM
  have pE:=qw l g oM
  generalize hr:l.getD g cD=r at*
  refine kz [13] (aN @cY (aN @hix3 (aN @gA @ld3))) ?_
  refine Ow.alloc rfl rfl oZ fun b5 jF gU=> ?_
  simp only[ag,List.nil_append,List.cons_append]
  obtain⟨hx5,Jl,-⟩:=jF
  refine ko @cY ?_
  refine ky @cY ?_
  refine Ow.callFV rfl call149 (fun w' aA=>wb_ r.name w' ec) ?_
  cases hn:cN r.name
  ·refine ko @cY ?_
   try with_reducible refine Ow.nil ?_
   refine ky @cY ?_
   refine⟨_,(ke @cY), ?_⟩
   exact OfSRf.log o0 (by rw[K_ tQ,pE];simp only[hn,Bool.false_and,Bool.false_eq_true, ↓reduceIte]) mP ⟨bT,n4,gU,trivial⟩
  refine ko @cY ?_
  refine Ow.callE rfl rfl call158 (by simp[keys]) (fun w' aA=>wR bm o mm r w' (aA.has _ _ (av _ aa)) HK) (fun v o' hS=> ?_)
  refine kn ?_
  obtain⟨rfl,fG⟩:=hS
  rw[wx] at fG ⊢
  by_cases rH: (fD z32 (r.name,r.id.l) mm).length≤16
  ·have gO:decide ((fD z32 (r.name,r.id.l) mm).length≤16)=true:=by simpa using rH
   refine ko (aN @cY @gO) ?_
   try with_reducible refine Ow.nil ?_
   refine Cw.forgetN [(bx, .cells #[vt,vl] 73 (0,0)),(bm,o')] (by exact⟨bT,n4,gU,trivial⟩) (by intro p hp;simp only[List.mem_cons,List.not_mem_nil,or_false] at hp ⊢;all_goals (first| (rcases hp with rfl|hp<;>simp_all) | (subst hp;simp) |simp_all)) (by simp[keys]<;>omega) ?_
   refine ky @cY ?_
   refine Again.mk ⟨g+1,fD z32 (r.name,r.id.l) mm,o'⟩ (by simp only;omega) ⟨mP, ?_,fG⟩ rfl rfl
   rw[K_ tQ,pE]
   simp only[hn,gO,Bool.and_true, ↓reduceIte]
  have gO:decide ((fD z32 (r.name,r.id.l) mm).length≤16)=false:=by simpa using rH
  refine ko (aN @cY @gO) ?_
  try with_reducible refine Ow.nil ?_
  refine ky @cY ?_
  refine⟨_,(ke @cY), ?_⟩
  exact OfSRf.log o0 (by rw[K_ tQ,pE];simp only[gO,Bool.and_false,Bool.false_eq_true, ↓reduceIte]) mP ⟨bT,n4,gU,trivial⟩
 obtain rfl:g=k:=by omega
 ((try with_reducible refine Cw.go [1000014] ?_);(try simp(disch:=first|exact dD|fail) only[↓Sx.S0,Sx.S1,fx,cY,Nat.reduceAdd,Nat.reducePow,Int.reducePow,Nat.reduceBEq, ↓reduceIte,UInt8.reduceToNat,UInt16.reduceToNat,UInt32.reduceToNat,UInt64.reduceToNat,Int.reduceToNat,hl.len]))
 refine Cw.seq ?_
 refine Cw.regionS [bx] [0,1,5,2,3,4,6] [] kR kR kR ?_
 simp only[bF, ↓bE, ↓ay, ↓bD, ↓bC,az]
 refine Ow.goQ ?_
 simp(disch:=first|exact dD|fail) only[↓Sx.S0,Sx.S1,fx,cY,Nat.reduceAdd,Nat.reducePow,Int.reducePow,Nat.reduceBEq, ↓reduceIte,UInt8.reduceToNat,UInt16.reduceToNat,UInt32.reduceToNat,UInt64.reduceToNat,Int.reduceToNat,hl.len]
 try with_reducible refine Ow.nil ?_
 refine Cw.forgetN [(bm,o)] (by exact⟨bT,n4,trivial⟩) (by intro p hp;simp only[List.mem_cons,List.not_mem_nil,or_false] at hp ⊢;all_goals (first| (rcases hp with rfl|hp<;>simp_all) | (subst hp;simp) |simp_all)) (by simp[keys]<;>omega) ?_
 refine ky @cY ?_
 refine⟨_,(ke @cY), ?_⟩
 unfold OfSRf ofM
 rw[iD,o0,Option.bind_some,tQ]
 exact⟨bm,o,congrArg (fun b=>Value.tuple #[vm bm, .bool b]) (decide_eq_decide.2 oM),rfl,HK,n4⟩
def fm:=aN (aN (aN @bB (aN @iH @iG)) (aN (aN @iE @bA) (aN @rC @rA))) (aN (aN (aN @kX @ki) (aN @u3 @tw)) (aN (aN @vU @u4) (aN @tup2_0 @tup2_1)))
def lZ (a b:Value) (E:TypeId):aQ (some (true,2)) (some (.cells #[a,b] E (0,0))) 0=some (.agg #[a,b]):=rZ _ E (0,0) 2 rfl
def ig (l:List RefL):Prop:= ∀g,g<l.length→(l.getD g cD).name.length<1099511627776
def A5 (vt vl:Value) (t l:List RefL) (w:World) (ht:gY w vt t) (hl:gY w vl l) (dE:t.length<1000000) (eK:l.length<1000000) (dS:ig t) (bI:ig l):
  Rets prog 88 #[.agg #[vt,vl]] w (fun v D=>v= .bool (bV t l)∧D= []):=by
 unfold bV vv
 rw[iD]
 refine Rets.enterV func88 rfl (rs:= [.tmp 2]) results88 ntmps88 ?_
 refine kf ?_
 refine ky @fm ?_
 refine Ow.box rfl rfl fun bx g_ bT=> ?_
 simp only[ck,cV,ce,ag,List.nil_append,List.cons_append]
 refine Ow.go rfl ?_
 simp(disch:=first|exact dD|fail) only[↓Sx.S0,Sx.S1,fx,fm,Nat.reduceAdd,Nat.reducePow,Int.reducePow,Nat.reduceBEq, ↓reduceIte,UInt8.reduceToNat,UInt16.reduceToNat,UInt32.reduceToNat,UInt64.reduceToNat,Int.reduceToNat]
 ((try with_reducible refine Cw.go [] ?_);(try simp(disch:=first|exact dD|fail) only[↓Sx.S0,Sx.S1,fx,fm,Nat.reduceAdd,Nat.reducePow,Int.reducePow,Nat.reduceBEq, ↓reduceIte,UInt8.reduceToNat,UInt16.reduceToNat,UInt32.reduceToNat,UInt64.reduceToNat,Int.reduceToNat,hl.len,lZ]))
 refine Ow.callN rfl rfl call89 (S:=(fun B v D=>OfSRf B t l l.length v D)) (fun w' aA=>wk vt vl t l l.length w' (ht.oldN aA ⟨bT,trivial⟩) (hl.oldN aA ⟨bT,trivial⟩) dE eK (ap _) dS bI) (fun B v D h=>h.new) (fun B v D hA hB hS=> ?_)
 have ez:=hS.new
 unfold OfSRf at hS
 cases ho:ofM cN z32 (prs t) (prs l) l.length with
 |none=>
  rw[ho] at hS
  obtain⟨rfl,hD⟩:=hS
  refine ko @fm ?_
  refine ky @fm ?_
  refine⟨_,(ke @fm),⟨bT,ez.mono hB⟩, ?_⟩
  rfl
 |some m=>
  rw[ho] at hS
  obtain⟨b,o,rfl,rfl,hm,hb⟩:=hS
  refine ko @fm ?_
  refine ky @fm ?_
  refine⟨_,(ke @fm),⟨bT,Nat.le_trans hB hb,trivial⟩, ?_⟩
  simp[bv]
def Dd {m:aZ} {n z:List UInt8} (h:AllLen m) (hz:z.length=32): (getV n z m).length=32:=by
 unfold getV
 cases hf:m.find? fun p=>n==p.1 with
 |none=>exact hz
 |some p=>exact h p (List.mem_of_find?_eq_some hf)
def sA (l:List RefL): ∀g,g< (prs l).length→((prs l).getD g zp).2.length=32:=by
 intro g hg
 rw[iD] at hg
 rw[qw l g hg]
 exact(l.getD g cD).id.h
def nD (t l:List RefL) (n:List UInt8):List UInt8:=
 match ofM cN z32 (prs t) (prs l) l.length with
 |some m=>if l.length≤100 then getV n z32 m else z32
 |none=>z32
def Qp (vt vl:Value) (t l:List RefL) (n:List UInt8) (w:World) (ht:gY w vt t) (hl:gY w vl l) (dE:t.length<1000000) (eK:l.length<1000000) (dS:ig t) (bI:ig l):
  Rets prog 82 #[.agg #[vt,vl],vs n] w (fun v D=>v= .agg (a8 (nD t l n))∧D= []):=by
 refine Rets.enterV func82 rfl (rs:= [.cell 4 24]) results82 ntmps82 ?_
 refine kf ?_
 refine ky @fm ?_
 refine Ow.box rfl rfl fun bx g_ bT=> ?_
 simp only[ck,cV,ce,ag,List.nil_append,List.cons_append]
 refine Ow.go rfl ?_
 simp(disch:=first|exact dD|fail) only[↓Sx.S0,Sx.S1,fx,fm,Nat.reduceAdd,Nat.reducePow,Int.reducePow,Nat.reduceBEq, ↓reduceIte,UInt8.reduceToNat,UInt16.reduceToNat,UInt32.reduceToNat,UInt64.reduceToNat,Int.reduceToNat]
 have zrId:au prog 24=some (.agg (a8 (List.replicate 32 0))):=zr24
 rw[show(List.replicate 32 (0:UInt8))=z32 from rfl] at zrId
 have yd:z32.length=32:=by simp[z32]
 refine Ow.alloc rfl rfl zrId fun b1 aO aP=> ?_
 simp only[ag,List.nil_append,List.cons_append]
 obtain⟨hx1,-⟩:=aO
 refine ko @fm ?_
 ((try with_reducible refine Cw.go [] ?_);(try simp(disch:=first|exact dD|fail) only[↓Sx.S0,Sx.S1,fx,fm,Nat.reduceAdd,Nat.reducePow,Int.reducePow,Nat.reduceBEq, ↓reduceIte,UInt8.reduceToNat,UInt16.reduceToNat,UInt32.reduceToNat,UInt64.reduceToNat,Int.reduceToNat,hl.len,lZ]))
 refine Ow.callN rfl rfl call89 (S:=(fun B v D=>OfSRf B t l l.length v D)) (fun w' aA=>wk vt vl t l l.length w' (ht.oldN aA ⟨bT,aP,trivial⟩) (hl.oldN aA ⟨bT,aP,trivial⟩) dE eK (ap _) dS bI) (fun B v D h=>h.new) (fun B v D hA hB hS=> ?_)
 have ez:=hS.new
 unfold OfSRf at hS
 unfold nD
 cases ho:ofM cN z32 (prs t) (prs l) l.length with
 |none=>
  rw[ho] at hS
  obtain⟨rfl,hD⟩:=hS
  refine ko @fm ?_
  refine ky @fm ?_
  refine Ow.build (.agg (a8 z32)) rfl kR ?_
  refine ko @fm ?_
  refine ky @fm ?_
  refine⟨_,(ke @fm),⟨bT,aP,ez.mono hB⟩, ?_⟩
  rfl
 |some m=>
  rw[ho] at hS
  obtain⟨b,o,rfl,rfl,hm,hb⟩:=hS
  obtain⟨K0,h1b,-⟩:=hA
  have I6:=Nat.le_trans hB hb
  by_cases nq:l.length≤100
  ·have hd:decide (l.length≤100)=true:=by simpa using nq
   refine ko @fm ?_
   refine ky (aN @fm @hd) ?_
   refine Ow.mapGet rfl rfl underlying162 underlying9 zrId rfl rfl (ac (by rw[pI _ _ _ _ oM,pI _ _ _ _ oM];exact fN _ _ _)) hm ?_
   have iW:=Dd (n:=n) (FC (sA t) (sA l) (by rw[iD];exact ap _) ho) yd
   refine ko @fm ?_
   refine ky @fm ?_
   refine⟨_,(ke @fm),⟨bT,aP,I6,trivial⟩, ?_⟩
   exact congrArg (fun x=>Value.agg (a8 x)) (if_pos nq).symm
  have hd:decide (l.length≤100)=false:=by simpa using nq
  refine ko @fm ?_
  refine ky (aN @fm @hd) ?_
  refine Ow.build (.agg (a8 z32)) rfl kR ?_
  refine ko @fm ?_
  refine ky @fm ?_
  refine⟨_,(ke @fm),⟨bT,aP,I6,trivial⟩, ?_⟩
  exact congrArg (fun x=>Value.agg (a8 x)) (if_neg nq).symm
def zrBk:au prog 73=some (.agg #[.slice none 0 0, .slice none 0 0]):=id kR
def Rz (l:List UInt8) (E:TypeId) (h:l.length=32):aQ (some (true,32)) (some (.cells (a8 l) E (0,0))) 0=some (.agg (a8 l)):=JK l E (0,0) 32 h
def yt (p q x y:Value) (E:TypeId) (hx:Value.oneCell' x=true) (hy:Value.oneCell' y=true):aw (some (true,2)) (some (.cells #[p,q] E (0,0))) 0 (.agg #[x,y])=some (.cells #[x,y] E (0,0)):=
 Ij 2 true #[x,y] #[p,q] E ⟨rfl,rfl⟩ (by simp[hx,hy])
def Ki (p q:Value) (E:TypeId):aw (some (true,2)) (some (.cells #[p,q] E (0,0))) 0 (.agg #[.slice none 0 0, .slice none 0 0])=some (.cells #[.slice none 0 0, .slice none 0 0] E (0,0)):=yt _ _ _ _ E rfl rfl
def AddS (_n:Nat) (t l:List RefL) (nm:List UInt8) (id:IdL) (v:Value) (D:aB):Prop:=
 if bV t l=true∧cN nm=true then
  (if bV t (l++ [⟨nm,id⟩])=true then∃vt vl,v= .tuple #[.agg #[vt,vl],vs (eQ (ep ⟨nm,id⟩)),vi 0]∧GrI D 149 33 vt t.length (t.map aH).flatten∧GrI D 149 33 vl (l.length+1) ((l++ [(⟨nm,id⟩:RefL)]).map aH).flatten
  else v= .tuple #[.agg #[.slice none 0 0, .slice none 0 0],vs [],vi 18])
 else v= .tuple #[.agg #[.slice none 0 0, .slice none 0 0],vs [],vi 1]
def AddS.arg {n:Nat} {t l:List RefL} {nm:List UInt8} {id:IdL} {D:aB} (h: ¬ (bV t l=true∧cN nm=true)):AddS n t l nm id (.tuple #[.agg #[.slice none 0 0, .slice none 0 0],vs [],vi 1]) D:=by
 unfold AddS;rw[if_neg h]
def AddS.full {n:Nat} {t l:List RefL} {nm:List UInt8} {id:IdL} {D:aB} (h:bV t l=true∧cN nm=true) (h2:bV t (l++ [(⟨nm,id⟩:RefL)])=false):AddS n t l nm id (.tuple #[.agg #[.slice none 0 0, .slice none 0 0],vs [],vi 18]) D:=by
 unfold AddS;rw[if_pos h,if_neg (by rw[h2];simp)]
def AddS.ok {n:Nat} {t l:List RefL} {nm:List UInt8} {id:IdL} {D:aB} {vt vl:Value} (h:bV t l=true∧cN nm=true) (h2:bV t (l++ [(⟨nm,id⟩:RefL)])=true) (h3:GrI D 149 33 vt t.length (t.map aH).flatten) (h4:GrI D 149 33 vl (l.length+1) ((l++ [(⟨nm,id⟩:RefL)]).map aH).flatten):
  AddS n t l nm id (.tuple #[.agg #[vt,vl],vs (eQ (ep ⟨nm,id⟩)),vi 0]) D:=by
 unfold AddS;rw[if_pos h,if_pos h2];exact⟨vt,vl,rfl,h3,h4⟩
def J4 (x y:Value) (hx:x.cells= #[x]) (hy:y.cells= #[y]):fI (d8 prog 73) (au prog 73) [(0,x),(1,y)]=some (.agg #[x,y]):=by
 have hp:d8 prog 73=some [(0,1),(1,1)]:=id kR
 rw[hp,zrBk]
 simp[fI,Sx.fillV,hx,hy,dZ]
def zF (r:RefL):rF prog 71 1 [(0, .agg (aH r).toArray)]=some (149,(aH r).toArray):=
 rk underlying71 (id kR) oZ (by decide) (ef r)
def newE {z:Obj} {n:Nat} {E:aB} {p:Nat→Prop} (h:E= []∨ ∃b,E= [(b,z)]∧n≤b∧p b):New n E:=by
 rcases h with rfl| ⟨b,rfl,hb,-⟩
 ·trivial
 exact⟨hb,trivial⟩
structure AG where
 D1:aB
 D2:aB
 v1:Value
 v2:Value
 b7:Nat
def eD:=aN (aN (aN (aN @bB @iH) (aN @iG @iE)) (aN (aN @bA @rC) (aN @rA @kX))) (aN (aN (aN @ki @u3) (aN @tw @vU)) (aN (aN @u4 @lZ) (aN @tup2_0 (aN @tup2_1 @Ki))))
def V3 (vt vl:Value) (t l:List RefL) (nm:List UInt8) (id:IdL) (w:World) (hG:GlobC w) (ht:gY w vt t) (hl:gY w vl l) (dE:t.length<1000) (eK:l.length<1000) (dS:ig t) (bI:ig l) (ec:nm.length<1000000):
  Rets prog 83 #[.agg #[vt,vl],vs nm, .agg (a8 id.l)] w (XS w [] (AddS w.heap.size t l nm id)):=by
 have iw:=id.h
 have l4: (4:Nat)<w.heap.size:=by obtain⟨e,f,h⟩:=hG;exact(Array.getElem?_eq_some_iff.1 h).1
 refine Rets.enterX func83 rfl (rs:= [.cell 6 73, .tmp 7, .tmp 8]) results83 ntmps83 (fun p hp=>by cases hp) (by simp[keys]) ?_
 refine kf ?_
 refine kz [5] @eD ?_
 refine Ow.box rfl rfl fun bx g_ bT=> ?_
 simp only[ck,cV,ce,ag,List.nil_append,List.cons_append]
 refine Ow.go rfl ?_
 simp(disch:=first|exact dD|fail) only[↓Sx.S0,Sx.S1,fx,eD,Nat.reduceAdd,Nat.reducePow,Int.reducePow,Nat.reduceBEq, ↓reduceIte,UInt8.reduceToNat,UInt16.reduceToNat,UInt32.reduceToNat,UInt64.reduceToNat,Int.reduceToNat]
 refine Ow.box rfl rfl fun bi uh kT=> ?_
 simp only[ck,cV,ce,ag,List.nil_append,List.cons_append]
 refine Ow.go rfl ?_
 simp(disch:=first|exact dD|fail) only[↓Sx.S0,Sx.S1,fx,eD,Nat.reduceAdd,Nat.reducePow,Int.reducePow,Nat.reduceBEq, ↓reduceIte,UInt8.reduceToNat,UInt16.reduceToNat,UInt32.reduceToNat,UInt64.reduceToNat,Int.reduceToNat]
 obtain⟨hxi,-⟩:=uh
 refine Ow.alloc rfl rfl zrBk fun br gz di=> ?_
 simp only[ag,List.nil_append,List.cons_append]
 obtain⟨hxr,hir,-⟩:=gz
 refine ko @eD ?_
 refine ky @eD ?_
 refine Ow.callFV rfl call88 (fun w' aA=>A5 vt vl t l w' (ht.oldN aA ⟨bT,kT,di,trivial⟩) (hl.oldN aA ⟨bT,kT,di,trivial⟩) oM oM dS bI) ?_
 cases hr:bV t l
 ·refine ko @eD ?_
  refine ky @eD ?_
  refine Ow.build (.agg #[.slice none 0 0, .slice none 0 0]) rfl kR ?_
  refine ko @eD ?_
  refine ky @eD ?_
  refine⟨_,(ke @eD), ?_⟩
  refine⟨Ext.of_new ⟨bT,kT,di,trivial⟩, ?_⟩
  exact AddS.arg (by simp[hr])
 refine ko @eD ?_
 refine Ow.callFV rfl call149 (fun w' aA=>wb_ nm w' oM) ?_
 cases hn:cN nm
 ·refine ko @eD ?_
  refine ky @eD ?_
  refine Ow.build (.agg #[.slice none 0 0, .slice none 0 0]) rfl kR ?_
  refine ko @eD ?_
  refine ky @eD ?_
  refine⟨_,(ke @eD), ?_⟩
  refine⟨Ext.of_new ⟨bT,kT,di,trivial⟩, ?_⟩
  exact AddS.arg (by simp[hn])
 refine ko @eD ?_
 refine ky @eD ?_
 refine Ow.build _ rfl (Kc nm id) ?_
 refine ko @eD ?_
 refine Ow.alloc rfl rfl oZ fun b9 qM jN=> ?_
 simp only[ag,List.nil_append,List.cons_append]
 obtain⟨hx9,hi9,hr9,-⟩:=qM
 generalize hR: (⟨nm,id⟩:RefL)=r
 refine ko @eD ?_
 refine ky @eD ?_
 refine Cw.regionD [bx,b9] [11] 10 10 73 11 _ rfl kR kR rfl kR zrBk (fun hD=> ?_)
 simp only[List.replicate_succ,List.replicate_zero]
 refine OwD.run [0,3,1,4,6] [true,true,false,true,true,false,true,false,false,false,false,false] 6 rfl hD kR fun k hk=> ?_
 simp only[bF, ↓bE, ↓ay, ↓bD, ↓bC,az]
 simp(disch:=first|exact dD|fail) only[↓Sx.S0,Sx.S1,fx,eD,Nat.reduceAdd,Nat.reducePow,Int.reducePow,Nat.reduceBEq, ↓reduceIte,UInt8.reduceToNat,UInt16.reduceToNat,UInt32.reduceToNat,UInt64.reduceToNat,Int.reduceToNat,Md.next_sofnil,Md.next_sofnil]
 (with_reducible refine hk _ _ _ ?_);clear hk k
 generalize GY: [(bx,Obj.cells #[vt,vl] 73 (0,0)),(bi,Obj.cells (a8 id.l) 24 (0,0)),(br,Obj.cells #[Value.slice none 0 0,Value.slice none 0 0] 73 (0,0)),(b9,Obj.cells (aH r).toArray 149 (0,0))]=L0
 have lO:New w.heap.size L0:=by rw[←GY];exact⟨bT,kT,di,jN,trivial⟩
 have hkx:bx∈keys L0:=by rw[←GY];simp[keys]
 have qW:b9∈keys L0:=by rw[←GY];simp[keys]
 have dC: ∀c,c∈keys L0→c≤b9:=by
  rw[←GY];intro c hc;simp only[keys,List.map_cons,List.map_nil,List.mem_cons,List.not_mem_nil,or_false] at hc;omega
 have qJ: ∀r,r∈ [bx,b9]→r∈keys L0:=by
  intro r hr;simp only[List.mem_cons,List.not_mem_nil,or_false] at hr;rcases hr with rfl|rfl<;>assumption
 refine OwD.via (G:=AG) (fun g=> [Value.agg #[vt,vl],vs nm,Value.agg (a8 id.l),vp bx 0,undef,vp bi 0,vp br 0,vs [],vi 0,vp b9 0,undef,Value.agg #[vt,vl],Value.bool true,Value.bool false,Value.bool false,vs nm,Value.bool true,Value.bool false,Value.bool false,undef,vs nm,Value.agg (a8 id.l),Value.agg (aH r).toArray,vp bx 0,vt,g.v1,vp bx 1,vl,g.v2,Value.agg (aH r).toArray,vsl g.b7 0 1 1,undef,undef,undef,undef,undef,undef,undef,undef,undef]) (fun g=>L0++g.D1++g.D2++ [(g.b7,Obj.cells (aH r).toArray 149 (0,0))]) (fun g=>New (b9+1) g.D1∧New (b9+1) g.D2∧b9<g.b7∧Gr g.D1 149 33 g.v1 t.length (t.map aH).flatten∧Gr g.D2 149 33 g.v2 l.length (l.map aH).flatten) 3 [true,true,true,true,true,true,true,true,false,false,false,false] (fun key=> ?_) (fun g hg=> ?_)
 ·refine OwD.two 2 7 _ _ hD rfl rfl kR (fun E hE=> ?_) (fun E hE=> ?_)
  ·have oy:New w.heap.size E:=newE hE
   refine Ow.callC rfl rfl call81 (fun w' aA=>ti vt t w' (ht.oldN aA (lO.app oy)) oM) (fun B1 v1 D1 eF dV bX bu=> ?_)
   have JV:New (b9+1) D1:=bX.mono (ak eF (by simp[ae,qW]))
   with_reducible refine Ow.nil ?_
   refine⟨_,u0,ma (fun r hr=>by simp[ae,qJ r hr]), ?_⟩
   simp only[List.set_cons_zero,List.set_cons_succ,k7,iP,iQ]
   refine OwD.two 5 7 _ _ hD rfl rfl kR (fun E hE=> ?_) (fun E hE=> ?_)
   ·have oy:New w.heap.size E:=newE hE
    refine Ow.callC rfl rfl call81 (fun w' aA=>ti vl l w' (hl.oldN aA ((lO.app (bX.mono dV)).app oy)) oM) (fun B2 v2 D2 dG cZ cJ bH=> ?_)
    have GZ:New (b9+1) D2:=cJ.mono (ak dG (by simp[ae,qW]))
    with_reducible refine Ow.nil ?_
    refine⟨_,u0,ma (fun r hr=>by simp[ae,qJ r hr]), ?_⟩
    simp only[List.set_cons_zero,List.set_cons_succ,k7,iP,iQ]
    refine OwD.soft 7 _ hD rfl kR (fun E hE=> ?_)
    refine Ow.buildSlice (e:=149) (aH r).toArray rfl rfl (zF r) fun b7 gy fZ=> ?_
    have Ga:b9<b7:=ak gy (by simp[ae,qW])
    with_reducible refine Ow.nil ?_
    refine⟨_,u0,ma (fun r hr=>by simp[ae,qJ r hr]), ?_⟩
    simp only[List.set_cons_zero,List.set_cons_succ,k7,iP,iQ]
    exact key ⟨D1,D2,v1,v2,b7⟩ _ _ ⟨JV,GZ,Ga,bu,bH⟩ rfl pM
   have oy:New w.heap.size E:=newE hE
   refine Ow.buildSlice (e:=149) (aH r).toArray rfl rfl (zF r) fun b7 gy fZ=> ?_
   have Ga:b9<b7:=ak gy (by simp[ae,qW])
   with_reducible refine Ow.nil ?_
   refine⟨_,u0,ma (fun r hr=>by simp[ae,qJ r hr]), ?_⟩
   simp only[List.set_cons_zero,List.set_cons_succ,k7,iP,iQ]
   refine OwD.soft 5 _ hD rfl kR (fun E hE=> ?_)
   have oy:New w.heap.size E:=newE hE
   refine Ow.callC rfl rfl call81 (fun w' aA=>ti vl l w' (hl.oldN aA (((lO.app (bX.mono dV)).app (show New w.heap.size [(b7,Obj.cells (aH r).toArray 149 (0,0))] from⟨fZ,trivial⟩)).app oy)) oM) (fun B2 v2 D2 dG cZ cJ bH=> ?_)
   have GZ:New (b9+1) D2:=cJ.mono (ak dG (by simp[ae,qW]))
   with_reducible refine Ow.nil ?_
   refine⟨_,u0,ma (fun r hr=>by simp[ae,qJ r hr]), ?_⟩
   simp only[List.set_cons_zero,List.set_cons_succ,k7,iP,iQ]
   exact key ⟨D1,D2,v1,v2,b7⟩ _ _ ⟨JV,GZ,Ga,bu,bH⟩ rfl pM
  have oy:New w.heap.size E:=newE hE
  refine Ow.buildSlice (e:=149) (aH r).toArray rfl rfl (zF r) fun b7 gy fZ=> ?_
  have Ga:b9<b7:=ak gy (by simp[ae,qW])
  with_reducible refine Ow.nil ?_
  refine⟨_,u0,ma (fun r hr=>by simp[ae,qJ r hr]), ?_⟩
  simp only[List.set_cons_zero,List.set_cons_succ,k7,iP,iQ]
  refine OwD.soft 2 _ hD rfl kR (fun E hE=> ?_)
  have oy:New w.heap.size E:=newE hE
  refine Ow.callC rfl rfl call81 (fun w' aA=>ti vt t w' (ht.oldN aA ((lO.app (show New w.heap.size [(b7,Obj.cells (aH r).toArray 149 (0,0))] from⟨fZ,trivial⟩)).app oy)) oM) (fun B1 v1 D1 eF dV bX bu=> ?_)
  have JV:New (b9+1) D1:=bX.mono (ak eF (by simp[ae,qW]))
  with_reducible refine Ow.nil ?_
  refine⟨_,u0,ma (fun r hr=>by simp[ae,qJ r hr]), ?_⟩
  simp only[List.set_cons_zero,List.set_cons_succ,k7,iP,iQ]
  refine OwD.soft 5 _ hD rfl kR (fun E hE=> ?_)
  have oy:New w.heap.size E:=newE hE
  refine Ow.callC rfl rfl call81 (fun w' aA=>ti vl l w' (hl.oldN aA (((lO.app (show New w.heap.size [(b7,Obj.cells (aH r).toArray 149 (0,0))] from⟨fZ,trivial⟩)).app (bX.mono dV)).app oy)) oM) (fun B2 v2 D2 dG cZ cJ bH=> ?_)
  have GZ:New (b9+1) D2:=cJ.mono (ak dG (by simp[ae,qW]))
  with_reducible refine Ow.nil ?_
  refine⟨_,u0,ma (fun r hr=>by simp[ae,qJ r hr]), ?_⟩
  simp only[List.set_cons_zero,List.set_cons_succ,k7,iP,iQ]
  exact key ⟨D1,D2,v1,v2,b7⟩ _ _ ⟨JV,GZ,Ga,bu,bH⟩ rfl pM
 obtain⟨D1,D2,v1,v2,b7⟩:=g
 obtain⟨lT,mw,gy,lR,mu⟩:=hg
 simp only at lT mw gy lR mu ⊢
 refine OwD.soft 8 _ hD rfl kR (fun E hE=> ?_)
 have oy:=newE hE
 refine Ow.permL (M:=D2++ (L0++D1++ [(b7,Obj.cells (aH r).toArray 149 (0,0))]++E)) pM ?_
 refine Ow.appendX (e:=149) (k:=1) (new:=aH r) (X:=D2) v2 rfl rfl rfl rfl underlying71 ag149 kR oZ (by rw[kX,List.size_toArray,ef]) underlying71 (by intro k h;cases h) mu (fun w' aA=>AppX.one1 (aA.has b7 (.cells (aH r).toArray 149 (0,0)) (by simp)) (ef r) (zI r)) oM oM (fun B v3 D3 fU kI cO iy fw bz=> ?_)
 have hB9:b9<B:=ak fU (by simp[ae,qW])
 have yE:New (b9+1) D3:=New.of_le fun c hc=>by
  rcases fw c hc with h|h
  ·exact mw.le c h
  omega
 have hRD: ∀r,r∈ [bx,b9]→r∉keys D3:=fun r hr hm=>by have:=yE.le r hm;have:=dC r (qJ r hr);omega
 with_reducible refine Ow.nil ?_
 refine⟨D3++ (L0++D1++ [(b7,Obj.cells (aH r).toArray 149 (0,0))]),pM,fun r hr=> ?_, ?_⟩
 ·have h0:=qJ r hr
  rw[JB (hRD r hr),yr (by simp[ae,h0]),yr h0,yr (by simp[ae,h0]),yr (by simp[ae,h0]),yr h0]
 simp only[List.set_cons_zero,List.set_cons_succ,k7,iP,iQ]
 refine OwD.soft 9 _ hD rfl kR (fun E2 bw=> ?_)
 refine Ow.build (.agg #[v1,v3]) rfl (J4 v1 v3 lR.cell.2 cO.cell.2) ?_
 with_reducible refine Ow.nil ?_
 refine⟨D3++ (L0++D1++ [(b7,Obj.cells (aH r).toArray 149 (0,0))]),List.Perm.refl _,fun _ _=>rfl, ?_⟩
 simp only[List.set_cons_zero,List.set_cons_succ,k7,iP,iQ]
 refine OwD.real [11] rfl hD kR kR kR kR (fun r hr=> .inl (by simp[ae,qJ r hr])) ?_
 simp only[bF, ↓bE, ↓ay, ↓bD, ↓bC,az]
 intro b10 fQ kK
 simp only[iP,iQ]
 refine Ow.store rfl rfl rfl (L':=(D3++ (L0++D1++ [(b7,Obj.cells (aH r).toArray 149 (0,0))]))++ [(b10,Obj.cells #[v1,v3] 73 (0,0))]) ?_ ?_
 ·simp only[ck,cV,ce]
  rw[ag73,AD,KZ kK,ag,yt _ _ _ _ _ lR.cell.1 cO.cell.1,zH,LW kK]
  exact []
 subst GY
 refine kq @eD ?_
 refine Cw.permL (M:= [(bx,Obj.cells #[vt,vl] 73 (0,0)),(bi,Obj.cells (a8 id.l) 24 (0,0)),(br,Obj.cells #[Value.slice none 0 0,Value.slice none 0 0] 73 (0,0)),(b9,Obj.cells (aH r).toArray 149 (0,0)),(b10,Obj.cells #[v1,v3] 73 (0,0)),(b7,Obj.cells (aH r).toArray 149 (0,0))]++ (D1++D3)) pM ?_
 simp only[List.cons_append,List.nil_append]
 have kP:w.heap.size≤b7:=by omega
 have hn1':=lT.mono (show w.heap.size≤b9+1 by omega)
 have hn3':=yE.mono (show w.heap.size≤b9+1 by omega)
 have hnD:=hn1'.app hn3'
 have Gw:bx≠b10∧bi≠b10∧br≠b10∧b9≠b10:=by
  simp only[ae,List.mem_append,not_or] at kK
  obtain⟨-,⟨h0,-⟩,-⟩:=kK
  simp only[keys,List.map_cons,List.map_nil,List.mem_cons,List.not_mem_nil,or_false,not_or] at h0
  obtain⟨h1,h2,h3,h4⟩:=h0
  exact⟨Ne.symm h1,Ne.symm h2,Ne.symm h3,Ne.symm h4⟩
 obtain⟨I7,hi10,hr10,h910⟩:=Gw
 have dg: (l.map aH).flatten++aH r=((l++ [r]).map aH).flatten:=by simp
 rw[dg] at cO
 have HL:Gr D3 149 33 v3 (l.length+1) ((l++ [r]).map aH).flatten:= .inl cO
 have vC:r.name.length<1000000:=by rw[←hR];exact ec
 have iC:ig (l++ [r]):=by
  intro g hg
  by_cases aC:g<l.length
  ·have:=bI g aC
   rwa [List.getD_eq_getElem?_getD,List.getElem?_append_left aC,←List.getD_eq_getElem?_getD]
  have:g=l.length:=by simp at hg;omega
  subst this
  rw[List.getD_eq_getElem?_getD,List.getElem?_append_right (ap _)]
  simp;omega
 refine ky (aN @eD @lZ) ?_
 refine Ow.callFV rfl call88 (fun w' aA=>A5 v1 v3 t (l++ [r]) w' (lR.slM (fun b o hm=>aA.has b o (by simp[hm])) rfl rfl ef) (HL.slM (fun b o hm=>aA.has b o (by simp[hm])) (by simp) rfl ef) oM (by simp;omega) dS iC) ?_
 cases jL:bV t (l++ [r])
 ·refine ko @eD ?_
  refine ky @eD ?_
  refine Ow.build (.agg #[.slice none 0 0, .slice none 0 0]) rfl kR ?_
  refine ko @eD ?_
  refine ky @eD ?_
  refine⟨_,(ke @eD), ?_⟩
  refine⟨Ext.of_new ⟨bT,kT,di,jN,fQ,kP,hnD⟩, ?_⟩
  exact AddS.full ⟨hr,hn⟩ (by rw[hR];exact jL)
 refine ko @eD ?_
 refine ky @eD ?_
 refine Cw.regionO [0,1,2,3,4,5] [3] rfl kR kR ?_
 simp only[bF, ↓bE, ↓ay, ↓bD, ↓bC,az]
 refine kq (aN @eD @lZ) ?_
 refine Ow.callFV rfl call150 (fun w' aA=>(Ze_ r w' (GlobC.of hG aA (New.not (L:=(bx,Obj.cells #[vt,vl] 73 (0,0)):: (bi,Obj.cells (a8 id.l) 24 (0,0)):: (br,Obj.cells #[Value.slice none 0 0,Value.slice none 0 0] 73 (0,0)):: (b9,Obj.cells (aH r).toArray 149 (0,0)):: (b10,Obj.cells #[v1,v3] 73 (0,0)):: (b7,Obj.cells (aH r).toArray 149 (0,0)):: (D1++D3)) ⟨bT,kT,di,jN,fQ,kP,hnD⟩ l4)) vC).quiet) ?_
 have bL:=yt (.slice none 0 0) (.slice none 0 0) v1 v3 73 lR.cell.1 cO.cell.1
 refine Ow.store rfl rfl rfl (ke (aN @eD @bL)) ?_
 refine kq @eD ?_
 try with_reducible refine Ow.nil ?_
 refine ky @eD ?_
 refine⟨_,(ke @eD), ?_⟩
 refine⟨Ext.of_new ⟨bT,kT,di,jN,fQ,kP,hnD⟩, ?_⟩
 have HI:=AddS.ok (n:=w.heap.size) (D:=(bx,Obj.cells #[vt,vl] 73 (0,0)):: (bi,Obj.cells (a8 id.l) 24 (0,0)):: (br,Obj.cells #[v1,v3] 73 (0,0)):: (b9,Obj.cells (aH r).toArray 149 (0,0)):: (b10,Obj.cells #[v1,v3] 73 (0,0)):: (b7,Obj.cells (aH r).toArray 149 (0,0)):: (D1++D3)) ⟨hr,hn⟩ (by rw[hR];exact jL) (lR.i fun p hp=>by simp[hp]) (by rw[hR];exact HL.i fun p hp=>by simp[hp])
 rw[hR] at HI
 exact HI
def axB_ (id:IdL): ∀k,k< [id].length→ ∀j,j<32→(a8 id.l)[0+k*32+j]? =(gw ([id].getD k id0))[j]? :=by
 intro k hk j hj
 obtain rfl:k=0:=by simpa using hk
 simp only[Nat.zero_mul,Nat.zero_add,List.getD_cons_zero]
 rw[←Af,List.getElem?_toArray]
def refB (r:RefL):List UInt8:=dz r.name++r.id.l
def tabB (t:List RefL):List UInt8:=(t.map refB).flatten
def pN (t:List RefL):List UInt8:= [72]++eY (d_ t.length)++tabB t
def logB (l:List RefL):List UInt8:=(l.map fun r=>eQ (ep r)).flatten
def be (t l:List RefL):List UInt8:=eQ (pN t)++logB l
def SmallN (l:List RefL):Prop:= ∀g,g<l.length→(l.getD g cD).name.length<1000
def SmallN.short {l:List RefL} (h:SmallN l):ig l:=fun g hg=>Nat.lt_trans (h g hg) oM
def WB {r:RefL} (h:r.name.length<1000): (refB r).length<1100:=by
 have:=ij (r.name.length:Int)
 have:=r.id.h
 simp only[refB,dz,List.length_append];omega
def EC (t:List RefL) (g:Nat) (h:g<t.length):t.take (g+1)=t.take g++ [t.getD g cD]:=by
 rw[List.take_add_one,List.getElem?_eq_getElem h,List.getD_eq_getElem?_getD,List.getElem?_eq_getElem h];rfl
def CX (t:List RefL) (g:Nat) (h:g<t.length):tabB (t.take (g+1))=tabB (t.take g)++refB (t.getD g cD):=by
 unfold tabB
 rw[EC t g h,List.map_append,List.flatten_append];simp only[List.map_cons,List.map_nil,List.flatten_cons,List.flatten_nil,List.append_nil]
def DI (t:List RefL) (g:Nat) (h:g<t.length):logB (t.take (g+1))=logB (t.take g)++eQ (ep (t.getD g cD)):=by
 unfold logB
 rw[EC t g h,List.map_append,List.flatten_append];simp only[List.map_cons,List.map_nil,List.flatten_cons,List.flatten_nil,List.append_nil]
theorem J8 {t:List RefL} (h:SmallN t): ∀g,g≤t.length→(tabB (t.take g)).length≤g*1100
 |0,_=>by simp[tabB]
 |g+1,hg=>by
  rw[CX t g hg,List.length_append]
  have:=J8 h g oM
  have:=WB (h g hg)
  omega
def Ef {r:RefL} (h:r.name.length<1000): (eQ (ep r)).length<1200:=by
 have h1:=ij (r.name.length:Int)
 have h2:=r.id.h
 have h3:=ij ((gZ (ep r)).length:Int)
 have h4:=As (ep r)
 simp only[eQ,dz,List.length_append] at h3 ⊢
 rw[h4] at h3 ⊢
 simp only[ep,dz,List.length_append,List.length_cons,List.length_nil] at h3 ⊢
 omega
theorem wS {t:List RefL} (h:SmallN t): ∀g,g≤t.length→(logB (t.take g)).length≤g*1200
 |0,_=>by simp[logB]
 |g+1,hg=>by
  rw[DI t g hg,List.length_append]
  have:=wS h g oM
  have:=Ef (h g hg)
  omega
def zU {w0:World} {L X D:aB} (hC:Came w0 L X D) {b:Nat} (hb:b∈keys L) (hX:b∉keys X):b∉keys D:=fun hm=>by
 rcases hC.new b hm with h| ⟨h,-⟩
 ·exact hX h
 exact Nat.lt_irrefl _ (ak h hb)
def Ak {w0:World} {L X D:aB} (hC:Came w0 L X D) (hX:New w0.heap.size X):New w0.heap.size D:=New.of_le fun c hc=>by
 rcases hC.new c hc with h| ⟨-,h⟩
 ·exact hX.le c h
 exact h
def eR:=aN (aN (aN (aN @bB @iH) (aN @iG @iE)) (aN (aN @bA @rC) (aN @rA @kX))) (aN (aN (aN @ki @u3) (aN @tw @vU)) (aN (aN @u4 @lZ) (aN @tup2_0 @tup2_1)))
def Bm (vt vl:Value) (t l:List RefL) (w:World) (hG:GlobC w) (ht:gY w vt t) (hl:gY w vl l) (dE:t.length<1000) (eK:l.length<1000) (dS:SmallN t) (bI:SmallN l):
  Rets prog 86 #[.agg #[vt,vl]] w (fun v D=>v=(if bV t l=true then .tuple #[vs (be t l),vi 0] else .tuple #[vs [],vi 1])∧D= []):=by
 have l4: (4:Nat)<w.heap.size:=by obtain⟨e,f,h⟩:=hG;exact(Array.getElem?_eq_some_iff.1 h).1
 refine Rets.enterV func86 rfl (rs:= [.tmp 2, .tmp 3]) results86 ntmps86 ?_
 refine kf ?_
 refine ky @eR ?_
 refine Ow.box rfl rfl fun bx g_ bT=> ?_
 simp only[ck,cV,ce,ag,List.nil_append,List.cons_append]
 refine Ow.go rfl ?_
 simp(disch:=first|exact dD|fail) only[↓Sx.S0,Sx.S1,fx,eR,Nat.reduceAdd,Nat.reducePow,Int.reducePow,Nat.reduceBEq, ↓reduceIte,UInt8.reduceToNat,UInt16.reduceToNat,UInt32.reduceToNat,UInt64.reduceToNat,Int.reduceToNat]
 refine ky (aN @eR @lZ) ?_
 refine Ow.callFV rfl call88 (fun w' aA=>A5 vt vl t l w' (ht.oldN aA ⟨bT,trivial⟩) (hl.oldN aA ⟨bT,trivial⟩) oM oM dS.short bI.short) ?_
 cases hr:bV t l
 ·refine ko @eR ?_
  refine ky @eR ?_
  refine⟨_,(ke @eR),⟨bT,trivial⟩, ?_⟩
  rfl
 refine ko @eR ?_
 refine ky @eR ?_
 refine Ow.alloc rfl rfl zr236 fun b4 ir lC=> ?_
 obtain⟨hx4,-⟩:=ir
 refine ko @eR ?_
 refine Ow.permL (M:= [(b4, .cells #[.pointer none, .slice none 0 0] 236 (0,0))]++ [(bx, .cells #[vt,vl] 73 (0,0))]) pM ?_
 rw[List.cons_append,List.nil_append]
 have hZ:BldAt b4 [] [(b4, .cells #[.pointer none, .slice none 0 0] 236 (0,0))]:=BldAt.zero b4 (fN _ _ _)
 refine ky @eR ?_
 refine Ow.buildSlice (e:=9) #[vs [72]] rfl rfl kR fun b5 jF gU=> ?_
 obtain⟨h45,hx5,-⟩:=jF
 refine ko @eR ?_
 refine Ow.callX (Y:= [(bx, .cells #[vt,vl] 73 (0,0)),(b5, .cells #[vs [72]] 9 (0,0))]) (by simp) rfl rfl call154 (fun w' aA hX hn=>JJ b4 [(b4, .cells #[.pointer none, .slice none 0 0] 236 (0,0))] [] _ b5 0 [[72]] _ _ _ w' hZ hX hn (StrS.lit [[72]] rfl rfl (aA.has _ _ (av _ (av _ aa)))) (fun _ hm=>by simp[keys] at hm;omega) (by simp) (by simp)) (fun v6 D6 JU Gm=> ?_)
 obtain⟨rfl,tF⟩:=Gm
 simp only[List.flatten_cons,List.flatten_nil,List.append_nil,List.nil_append] at tF
 have hx6:bx∉keys D6:=zU JU (by simp[keys]) (by simp[keys];omega)
 have mr:New w.heap.size D6:=Ak JU ⟨lC,trivial⟩
 have rd6:aT w (D6++ [(bx, .cells #[vt,vl] 73 (0,0)),(b5, .cells #[vs [72]] 9 (0,0))]) bx=some (.cells #[vt,vl] 73 (0,0)):=ac (by rw[g8 hx6];exact fN _ _ _)
 refine ko @eR ?_
 ((try with_reducible refine Cw.go [] ?_);(try simp(disch:=first|exact dD|fail) only[↓Sx.S0,Sx.S1,fx,eR,Nat.reduceAdd,Nat.reducePow,Int.reducePow,Nat.reduceBEq, ↓reduceIte,UInt8.reduceToNat,UInt16.reduceToNat,UInt32.reduceToNat,UInt64.reduceToNat,Int.reduceToNat,rd6,ht.len]))
 refine Ow.buildSlice (e:=3) #[vi t.length] rfl rfl kR fun b7 gy fZ=> ?_
 refine ko @eR ?_
 refine Ow.callX (Y:= [(bx, .cells #[vt,vl] 73 (0,0)),(b5, .cells #[vs [72]] 9 (0,0)),(b7, .cells #[vi t.length] 3 (0,0))]) (by simp) rfl rfl call123 (fun w' aA hX hn=>X3_ b4 D6 _ _ b7 0 [(t.length:Int)] _ _ _ w' tF hX hn (OneS.lit [(t.length:Int)] rfl rfl (aA.has _ _ (db _ aa))) (fun _ hm=>Nat.lt_irrefl _ (ak gy (by rw[ae];exact bl _ hm))) (by simp)) (fun v8 D8 GS Gn=> ?_)
 obtain⟨rfl,rJ⟩:=Gn
 rw[Cr] at rJ
 have hx7:bx<b7:=ak gy (by simp[ae,keys])
 have hx8:bx∉keys D8:=zU GS (by simp[ae,keys]) hx6
 have rM:New w.heap.size D8:=Ak GS mr
 have rd8:aT w (D8++ [(bx, .cells #[vt,vl] 73 (0,0)),(b5, .cells #[vs [72]] 9 (0,0)),(b7, .cells #[vi t.length] 3 (0,0))]) bx=some (.cells #[vt,vl] 73 (0,0)):=ac (by rw[g8 hx8];exact fN _ _ _)
 refine ko @eR ?_
 ((try with_reducible refine Cw.go [] ?_);(try simp(disch:=first|exact dD|fail) only[↓Sx.S0,Sx.S1,fx,eR,Nat.reduceAdd,Nat.reducePow,Int.reducePow,Nat.reduceBEq, ↓reduceIte,UInt8.reduceToNat,UInt16.reduceToNat,UInt32.reduceToNat,UInt64.reduceToNat,Int.reduceToNat,rd8,ht.len]))
 refine Cw.permL (M:=(D8++ [(b5, .cells #[vs [72]] 9 (0,0)),(b7, .cells #[vi t.length] 3 (0,0))])++ [(bx, .cells #[vt,vl] 73 (0,0))]) pM ?_
 obtain⟨b1,o1,a1,E1,f1,h1⟩:=ht.row
 refine Cw.loopG (G:=WG) [24,25,26,6,27,28,29,30,31,32,33,34,35,23] (fun g=> [(23,vi g.g)]) (fun g=>g.D++ [(bx, .cells #[vt,vl] 73 (0,0))]) (fun g=>g.g≤t.length∧New w.heap.size g.D∧bx∉keys g.D∧BldAt b4 ([72]++eY (d_ t.length)++tabB (t.take g.g)) g.D) (fun g=>t.length - g.g) ⟨0,D8++ [(b5, .cells #[vs [72]] 9 (0,0)),(b7, .cells #[vi t.length] 3 (0,0))]⟩ rfl rfl ?_ ?_
 ·exact⟨aq _,rM.app ⟨gU,fZ,trivial⟩,by intro hm;rw[ae] at hm;exact(List.mem_append.1 hm).elim hx8 (fun h=>by simp[keys] at h;omega),by simpa [tabB] using BldAt.app rJ⟩
 intro g j hg
 refine kv ?_
 obtain⟨g,D⟩:=g
 simp only at hg ⊢
 obtain⟨qU,hN,hxD,kJ⟩:=hg
 by_cases aC:g<t.length
 ·have aO:=h1.has oM
  have Gy:=h1.lt oM
  have ld1:=h1.load ef oM aC
  have hNL:New w.heap.size (D++ [(bx, .cells #[vt,vl] 73 (0,0))]):=hN.app ⟨bT,trivial⟩
  have rd1:aT w (D++ [(bx, .cells #[vt,vl] 73 (0,0))]) b1=some (.cells a1 E1 f1):=by rw[kY (hNL.not Gy)];exact aO
  have ec:=dS g aC
  have vE:=CX t g aC
  have dE:=J8 dS g qU
  generalize Ju:t.getD g cD=r at*
  ((try with_reducible refine Cw.go [11] ?_);(try simp(disch:=first|exact dD|fail) only[↓Sx.S0,Sx.S1,fx,eR,Nat.reduceAdd,Nat.reducePow,Int.reducePow,Nat.reduceBEq, ↓reduceIte,UInt8.reduceToNat,UInt16.reduceToNat,UInt32.reduceToNat,UInt64.reduceToNat,Int.reduceToNat,h1.idx,rd1,ld1]))
  refine Ow.alloc rfl rfl oZ fun b6 gx gF=> ?_
  simp only[ag,List.nil_append,List.cons_append]
  have hx6:bx<b6:=ak gx (by simp[ae,keys])
  have lk6: ∀o,Sx.look (D++ [(bx,Obj.cells #[vt,vl] 73 (0,0))]++ [(b6,o)]) b6=some o:=fun o=>jQ gx
  have st6: ∀o x,setB (D++ [(bx,Obj.cells #[vt,vl] 73 (0,0))]++ [(b6,o)]) b6 x=D++ [(bx,Obj.cells #[vt,vl] 73 (0,0))]++ [(b6,x)]:=fun o x=>zA gx
  have rr6: ∀o,aT w (D++ [(bx,Obj.cells #[vt,vl] 73 (0,0))]++ [(b6,o)]) b6=some o:=fun o=>ac (lk6 o)
  refine ko (aN @eR (aN @lk6 (aN @st6 @n8))) ?_
  refine ky (aN @eR (aN @lk6 (aN @st6 (aN @rr6 @n8)))) ?_
  refine Ow.buildSlice (e:=9) #[vs r.name] rfl rfl kR fun b9 qM jN=> ?_
  have bI:=ij (r.name.length:Int)
  have I2:lE [r.name]=dz r.name:=by simp[lE]
  have htn: (dz r.name).length=(eY (d_ r.name.length)).length+r.name.length:=by unfold dz;rw[List.length_append]
  have hnt0:=ij (t.length:Int)
  rw[List.append_assoc,List.append_assoc]
  simp only[List.cons_append,List.nil_append]
  refine ko @eR ?_
  refine Ow.callX (Y:= [(bx,Obj.cells #[vt,vl] 73 (0,0)),(b6, .cells (aH r).toArray 149 (0,0)),(b9, .cells #[vs r.name] 9 (0,0))]) (by simp) rfl rfl call124 (fun w' aA hX hn=>Lo b4 D _ _ b9 0 [r.name] _ _ _ w' kJ hX hn (StrS.lit [r.name] rfl rfl (aA.has _ _ (db _ (av _ (av _ aa))))) (fun _ hm=>Nat.lt_irrefl _ (ak qM (by simp[ae,hm]))) (by rw[I2];simp only[List.length_append,List.length_cons,List.length_nil];omega) (by simp)) (fun v10 D10 nt xf=> ?_)
  obtain⟨rfl,GN⟩:=xf
  rw[I2] at GN
  have I7:bx∉keys D10:=zU nt (by simp[ae,keys]) hxD
  have h610:b6∉keys D10:=zU nt (by simp[ae,keys]) (fun hm=>Nat.lt_irrefl _ (ak gx (by simp[ae,hm])))
  have nw:New w.heap.size D10:=Ak nt hN
  have rd10:aT w (D10++ [(bx,Obj.cells #[vt,vl] 73 (0,0)),(b6, .cells (aH r).toArray 149 (0,0)),(b9, .cells #[vs r.name] 9 (0,0))]) b6=some (.cells (aH r).toArray 149 (0,0)):=ac (by rw[g8 h610,pI _ _ _ _ oM];exact fN _ _ _)
  refine ko @eR ?_
  refine ky (aN @eR @rd10) ?_
  refine Ow.buildSlice (e:=24) (a8 r.id.l) rfl rfl (Dt r.id) fun b11 ny oD=> ?_
  have iw:=w7 [r.id]
  have hil2:=r.id.h
  have hids:idsL [r.id]=r.id.l:=by simp[idsL]
  have hx9:bx<b9:=ak qM (by simp[ae,keys])
  have hx11:bx<b11:=ak ny (by simp[ae,keys])
  rw[List.append_assoc]
  simp only[List.cons_append,List.nil_append]
  refine ko @eR ?_
  refine Ow.callX (Y:= [(bx,Obj.cells #[vt,vl] 73 (0,0)),(b6, .cells (aH r).toArray 149 (0,0)),(b9, .cells #[vs r.name] 9 (0,0)),(b11, .cells (a8 r.id.l) 24 (0,0))]) (by simp) rfl rfl call125 (fun w' aA hX hn=>De b4 D10 _ _ b11 0 [r.id] _ _ _ w' GN hX hn (RowS.sl rfl (aA.has b11 (.cells (a8 r.id.l) 24 (0,0)) (db _ (av _ (av _ (av _ aa))))) (axB_ r.id)) (fun _ hm=>Nat.lt_irrefl _ (ak ny (by simp[ae,hm]))) (by simp only[List.length_append,List.length_cons,List.length_nil];omega)) (fun v12 D12 GQ qK=> ?_)
  obtain⟨rfl,mC⟩:=qK
  rw[hids] at mC
  have hx12:bx∉keys D12:=zU GQ (by simp[ae,keys]) I7
  have jg:New w.heap.size D12:=Ak GQ nw
  refine ko @eR ?_
  try with_reducible refine Ow.nil ?_
  refine Cw.permL (M:=(D12++ [(b6, .cells (aH r).toArray 149 (0,0)),(b9, .cells #[vs r.name] 9 (0,0)),(b11, .cells (a8 r.id.l) 24 (0,0))])++ [(bx, .cells #[vt,vl] 73 (0,0))]) pM ?_
  refine ky @eR ?_
  refine Again.mk (WG.mk (g+1) (D12++ [(b6, .cells (aH r).toArray 149 (0,0)),(b9, .cells #[vs r.name] 9 (0,0)),(b11, .cells (a8 r.id.l) 24 (0,0))])) (by show t.length - (g+1)<t.length - g;omega) ⟨by show g+1≤t.length;omega,jg.app ⟨gF,jN,oD,trivial⟩, ?_, ?_⟩ rfl rfl
  ·intro hm;rw[ae] at hm;exact(List.mem_append.1 hm).elim hx12 (fun h=>by simp[keys] at h;omega)
  show BldAt b4 ([72]++eY (d_ t.length)++tabB (t.take (g+1))) _
  rw[vE,refB]
  simp only[List.append_assoc] at mC ⊢
  exact BldAt.app mC
 obtain rfl:g=t.length:=by omega
 have dE:=J8 dS t.length (ap _)
 rw[List.take_length] at dE kJ
 have hnt0:=ij (t.length:Int)
 refine ky @eR ?_
 refine Ow.callX (Y:= [(bx,Obj.cells #[vt,vl] 73 (0,0))]) (by simp) rfl rfl call155 (fun w' aA hX hn=>Wl_ b4 D _ w' (GlobC.of hG aA (New.not (L:=D++ [(bx,Obj.cells #[vt,vl] 73 (0,0))]) (hN.app ⟨bT,trivial⟩) l4)) (hN.not l4) kJ hX hn (by simp only[List.length_append,List.length_cons,List.length_nil];omega)) (fun v13 D13 kl jh=> ?_)
 have Gl:v13=vs (eQ (pN t)):=jh
 subst Gl
 have i4: (eQ (pN t)).length<1200000:=by
  have h3:=ij ((gZ (pN t)).length:Int)
  have h4:=As (pN t)
  simp only[eQ,dz,List.length_append]
  rw[h4] at h3 ⊢
  simp only[pN,List.length_append,List.length_cons,List.length_nil] at h3 ⊢
  omega
 have dH: ∀x,eQ (pN t)++x=eQ (pN t)++x:=fun _=>rfl
 generalize hHd:eQ (pN t)=hd at*
 have hx13:bx∉keys D13:=zU kl (by simp[ae,keys]) hxD
 have qG:New w.heap.size D13:=Ak kl hN
 have rd13:aT w (D13++ [(bx, .cells #[vt,vl] 73 (0,0))]) bx=some (.cells #[vt,vl] 73 (0,0)):=ac (by rw[g8 hx13];exact fN _ _ _)
 refine ko @eR ?_
 ((try with_reducible refine Cw.go [] ?_);(try simp(disch:=first|exact dD|fail) only[↓Sx.S0,Sx.S1,fx,eR,Nat.reduceAdd,Nat.reducePow,Int.reducePow,Nat.reduceBEq, ↓reduceIte,UInt8.reduceToNat,UInt16.reduceToNat,UInt32.reduceToNat,UInt64.reduceToNat,Int.reduceToNat,rd13,hl.len]))
 obtain⟨b2,o2,a2,E2,f2,h2⟩:=hl.row
 rw[show hd=hd++logB (l.take 0) by simp[logB]]
 refine Cw.loopG (G:=WG) [41,42,43,9,44,45,46,47,7,48,40] (fun g=> [(40,vi g.g),(7,vs (hd++logB (l.take g.g)))]) (fun g=>g.D) (fun g=>g.g≤l.length∧New w.heap.size g.D) (fun g=>l.length - g.g) ⟨0,D13++ [(bx, .cells #[vt,vl] 73 (0,0))]⟩ rfl rfl ?_ ?_
 ·exact⟨aq _,qG.app ⟨bT,trivial⟩⟩
 intro g j hg
 refine kv ?_
 obtain⟨g,D⟩:=g
 simp only at hg ⊢
 obtain⟨qU,hN⟩:=hg
 have hll2:=wS bI g qU
 by_cases aC:g<l.length
 ·have al:=h2.has oM
  have hb2l:=h2.lt oM
  have ld2:=h2.load ef oM aC
  have rd2:aT w D b2=some (.cells a2 E2 f2):=by rw[kY (hN.not hb2l)];exact al
  have ec:=bI g aC
  have vE:=DI l g aC
  have oA:=Ef ec
  generalize Ju:l.getD g cD=r at*
  ((try with_reducible refine Cw.go [17] ?_);(try simp(disch:=first|exact dD|fail) only[↓Sx.S0,Sx.S1,fx,eR,Nat.reduceAdd,Nat.reducePow,Int.reducePow,Nat.reduceBEq, ↓reduceIte,UInt8.reduceToNat,UInt16.reduceToNat,UInt32.reduceToNat,UInt64.reduceToNat,Int.reduceToNat,h2.idx,rd2,ld2]))
  refine Ow.alloc rfl rfl oZ fun b9 qM jN=> ?_
  simp only[ag,List.nil_append,List.cons_append]
  have lk9: ∀o,Sx.look (D++ [(b9,o)]) b9=some o:=fun o=>jQ qM
  have st9: ∀o x,setB (D++ [(b9,o)]) b9 x=D++ [(b9,x)]:=fun o x=>zA qM
  have rr9: ∀o,aT w (D++ [(b9,o)]) b9=some o:=fun o=>ac (lk9 o)
  refine ko (aN @eR (aN @lk9 (aN @st9 @n8))) ?_
  refine ky (aN @eR @rr9) ?_
  refine Ow.callFV rfl call150 (fun w' aA=>(Ze_ r w' (GlobC.of hG aA (New.not (L:=D++ [(b9,Obj.cells (aH r).toArray 149 (0,0))]) (hN.app ⟨jN,trivial⟩) l4)) oM).quiet) ?_
  refine ko @eR ?_
  refine ky @eR ?_
  refine Again.mk (WG.mk (g+1) (D++ [(b9,Obj.cells (aH r).toArray 149 (0,0))])) (by show l.length - (g+1)<l.length - g;omega) ⟨by show g+1≤l.length;omega,hN.app ⟨jN,trivial⟩⟩ rfl ?_
  rw[vE,←List.append_assoc]
  rfl
 obtain rfl:g=l.length:=by omega
 refine ky @eR ?_
 refine⟨_,(ke @eR),hN, ?_⟩
 (rw[List.take_length];simp only[be,hHd, ↓reduceIte];rfl)
def bP:=aN (aN (aN (aN @bB @iH) (aN @iG @iE)) (aN (aN @bA @rC) (aN @rA @kX))) (aN (aN (aN @ki @u3) (aN @tw @vU)) (aN (aN @u4 @lZ) (aN @tup2_0 (aN @tup2_1 @Ki))))
def VZ (w:World):Rets prog 167 #[.pointer none] w (fun v D=>v=vi 3∧D= []):=by
 refine Rets.enterV func167 rfl (rs:= [.tmp 2]) results167 ntmps167 ?_
 refine kf ?_
 refine ky @bP ?_
 refine Ow.callFV rfl call218 (fun w' aA=>EF w') ?_
 refine ko @bP ?_
 refine ky @bP ?_
 refine⟨_,(ke @bP),trivial, ?_⟩
 rfl
def OM (m:Int) (w:World):Rets prog 165 #[.pointer none,vi m] w (fun v D=>v=vi 0∧D= []):=by
 refine Rets.enterV func165 rfl (rs:= [.tmp 4]) results165 ntmps165 ?_
 refine kf ?_
 refine ky @bP ?_
 refine Cw.scopeS ?_
 refine ky @bP ?_
 refine Ow.callFV rfl call218 (fun w' aA=>EF w') ?_
 refine ko @bP ?_
 refine ky @bP ?_
 refine⟨_,(ke @bP),trivial, ?_⟩
 rfl
theorem Bk (most:Int): ∀ (l:List UInt8) (k n m k':Nat),bO most l k n= .ok (m,k')→(m:Int)≤most
 | [],_,_,_,_,h=>by simp[bO] at h
 |c::r,k,n,m,k',h=>by
  unfold bO at h
  split at h
  ·split at h
   ·cases h
   exact Bk most r _ _ _ _ h
  split at h
  ·cases h
  split at h
  ·rename_i hh
   cases h
   exact hh.2
  cases h
def T5 {s:List UInt8} {a:Nat} {e most:Int} (h0:0≤most):0≤ (aG s a e most).1∧(aG s a e most).1≤most:=by
 unfold aG
 split
 ·exact⟨Int.le_refl 0,h0⟩
 split
 ·rename_i n k h
  exact⟨Int.natCast_nonneg _,Bk most _ _ _ _ _ h⟩
 exact⟨Int.le_refl 0,h0⟩
def LK {s:List UInt8} {a:Nat} {e:Int} (hs:s.length<1099511627776): (refR s a e).1.name.length<1099511627776:=LI (e:=e) (most:=32) hs
theorem VF_ {s:List UInt8} {a:Nat} {e:Int} (hs:s.length<1099511627776): ∀g,ig (dW s a e g).1
 |0=>fun g hg=>by simp[dW] at hg
 |g+1=>by
  intro i hi
  rw[AL] at hi
  unfold dW
  simp only
  by_cases aC:i<g
  ·rw[List.getD_eq_getElem?_getD,List.getElem?_append_left (by rw[AL];exact aC),←List.getD_eq_getElem?_getD]
   exact VF_ hs g i (by rw[AL];exact aC)
  have:i=(dW s a e g).1.length:=by rw[AL];omega
  subst this
  rw[List.getD_eq_getElem?_getD,List.getElem?_append_right (ap _)]
  simp only[Nat.sub_self,List.getElem?_cons_zero,Option.getD_some]
  exact LK hs
def sK (s:List UInt8) (v:Value) (D:aB):Prop:=
 match iY s with
 |some (tb,log,at_)=> ∃vt vl,v= .tuple #[.agg #[vt,vl],vi at_,vi 0]∧GrI D 149 33 vt tb.length (tb.map aH).flatten∧GrI D 149 33 vl log.length (log.map aH).flatten
 |none=>v= .tuple #[.agg #[.slice none 0 0, .slice none 0 0],vi 0,vi 2]
theorem LF {b:Nat} {x:Obj}: ∀ {D L:aB},b∉keys D→setB (D++L) b x=D++setB L b x
 | [],_,_=>rfl
 | (c,y)::r,L,h=>by
  simp only[keys,List.map_cons,List.mem_cons,not_or] at h
  rw[List.cons_append,vV _ _ _ _ _ (Ne.symm h.1),LF (by simpa [keys] using h.2)];rfl
def Bu (b:Nat) (s:List UInt8) (a:Nat) (e:Int) (w:World) (ho:w.heap[b]? =some (.cells #[vs s,vi a,vi e] 314 (0,0))):
  Rets prog 167 #[vp b 0] w (fun v D=>v=vi (endR s a e)∧D= []):=Sa b s a e w ho
def Rb {l:List RefL} {r:RefL} (h:ig l) (hr:r.name.length<1099511627776):ig (l++ [r]):=by
 intro g hg
 by_cases aC:g<l.length
 ·have:=h g aC
  rwa [List.getD_eq_getElem?_getD,List.getElem?_append_left aC,←List.getD_eq_getElem?_getD]
 have:g=l.length:=by simp at hg;omega
 subst this
 rw[List.getD_eq_getElem?_getD,List.getElem?_append_right (ap _)]
 simpa using hr
def TP {s:List UInt8} (h: (cm s 0 0 [72]).1=none):iY s=none:=by
 unfold iY pK
 generalize cm s 0 0 [72]=p at h ⊢
 obtain⟨o,q⟩:=p
 simp only at h
 subst h
 rfl
def UA {s c:List UInt8} (h: (cm s 0 0 [72]).1=some c):
  pK s=if endR c (dW c (aG c 0 0 16).2.1 (aG c 0 0 16).2.2 (aG c 0 0 16).1.toNat).2.1 (dW c (aG c 0 0 16).2.1 (aG c 0 0 16).2.2 (aG c 0 0 16).1.toNat).2.2=0∧bV (dW c (aG c 0 0 16).2.1 (aG c 0 0 16).2.2 (aG c 0 0 16).1.toNat).1 []=true then some ((dW c (aG c 0 0 16).2.1 (aG c 0 0 16).2.2 (aG c 0 0 16).1.toNat).1,(cm s 0 0 [72]).2.1) else none:=by
 unfold pK
 generalize cm s 0 0 [72]=p at h ⊢
 obtain⟨o,a,e⟩:=p
 simp only at h
 subst h
 rfl
def FG {s:List UInt8} (h:pK s=none):iY s=none:=by unfold iY;rw[h];rfl
def Fk {s:List UInt8} {a:Nat} {e:Int} {p:List UInt8} (ha:a≤s.length):a≤ (cm s a e p).2.1∧(cm s a e p).2.1≤s.length:=yv ha
def Tb {s:List UInt8} {tb log:List RefL} {at_:Nat} (h: (cm s at_ 0 [69]).1=none):lN s tb log at_=none:=by
 unfold lN
 generalize cm s at_ 0 [69]=p at h ⊢
 obtain⟨o,q⟩:=p
 simp only at h
 subst h
 rfl
def US {s:List UInt8} {tb log:List RefL} {at_:Nat} {c:List UInt8} (h: (cm s at_ 0 [69]).1=some c):
  lN s tb log at_=if endR c (refR c 0 0).2.1 (refR c 0 0).2.2=0∧bV tb (log++ [(refR c 0 0).1])=true then some (log++ [(refR c 0 0).1],(cm s at_ 0 [69]).2.1) else none:=by
 unfold lN
 generalize cm s at_ 0 [69]=p at h ⊢
 obtain⟨o,a,e⟩:=p
 simp only at h
 subst h
 rfl
def Kv {s:List UInt8} {tb log:List RefL} {at_ a0:Nat} (hh:pK s=some (tb,a0)) (hl: ∀k,101≤k+log.length→kc s tb k log at_=kc s tb 101 [] a0) (hn:lN s tb log at_=none):iY s=some (tb,log,at_):=by
 unfold iY
 rw[hh,Option.map_some,←hl 101 oM]
 unfold kc
 rw[hn]
structure RG where
 lab:Nat
 br:Nat
 b6:Nat
 b7:Nat
 vt:Value
 vl:Value
 x:Value
 y:Value
 tb:List RefL
 log:List RefL
 at_:Nat
 D:aB
structure HG where
 g:Nat
 vt:Value
 D:aB
def bkO (x y:Value):Obj:= .cells #[x,y] 73 (0,0)
def rdO (s:List UInt8) (a e:Int):Obj:= .cells #[vs s,vi a,vi e] 314 (0,0)
def nlV:Value:= .slice none 0 0
def RJ (s:List UInt8) (n b2:Nat) (g:RG):Prop:=
 (g.lab=1∧n≤g.br∧n≤g.b6∧n≤g.b7∧b2≠g.br∧b2≠g.b6∧b2≠g.b7∧g.br≠g.b6∧g.br≠g.b7∧g.b6≠g.b7∧New n g.D∧
  GrI g.D 149 33 g.vt g.tb.length (g.tb.map aH).flatten∧GrI g.D 149 33 g.vl g.log.length (g.log.map aH).flatten∧
  Value.oneCell' g.x=true∧Value.oneCell' g.y=true∧ig g.tb∧ig g.log∧g.tb.length<1000∧g.log.length≤100∧g.at_≤s.length∧
  ∃a0,pK s=some (g.tb,a0)∧ ∀k,101≤k+g.log.length→kc s g.tb k g.log g.at_=kc s g.tb 101 [] a0)∨
 (g.lab=2∧n≤g.b6∧b2≠g.b6∧New n g.D∧
  GrI g.D 149 33 g.vt g.tb.length (g.tb.map aH).flatten∧GrI g.D 149 33 g.vl g.log.length (g.log.map aH).flatten∧iY s=some (g.tb,g.log,g.at_))∨
 (g.lab=0∧New n g.D∧iY s=none)
def RH (s:List UInt8) (b2:Nat) (g:RG):aB:=
 match g.lab with
 |1=>(b2,bkO nlV nlV):: (g.br,rdO s g.at_ 0):: (g.b6,bkO g.vt g.vl):: (g.b7,bkO g.x g.y)::g.D
 |2=>(b2,bkO nlV nlV):: (g.b6,bkO g.vt g.vl)::g.D
 |_=>(b2,bkO nlV nlV)::g.D
def RSl (g:RG):List (Nat×Value):=
 match g.lab with
 |1=> [(5,vp g.br 0),(6,vp g.b6 0),(7,vp g.b7 0)]
 |2=> [(6,vp g.b6 0),(8,vi g.at_)]
 |_=> []
def RL (g:RG):Nat:=
 match g.lab with
 |1=>1
 |2=>2
 |_=>0
def yh {D:aB} {E:TypeId} {m n:Nat} {v:Value} {cs:List Value} (h:GrI D E m v n cs):Value.oneCell' v=true∧v.cells= #[v]:=by
 obtain⟨X,-,h⟩:=h;exact h.cell
def PW (s:List UInt8) (w:World) (hG:GlobC w) (hs:s.length<1000000):
  Rets prog 95 #[vs s] w (XS w [] (sK s)):=by
 have l4: (4:Nat)<w.heap.size:=by obtain⟨e,f,h⟩:=hG;exact(Array.getElem?_eq_some_iff.1 h).1
 refine Rets.enterX func95 rfl (rs:= [.cell 2 73, .tmp 3, .tmp 4]) results95 ntmps95 (fun p hp=>by cases hp) (by simp[keys]) ?_
 refine kf ?_
 refine ky @bP ?_
 refine Ow.alloc rfl rfl zrBk fun b2 al bR=> ?_
 simp only[ag,List.nil_append,List.cons_append]
 refine ko @bP ?_
 refine ky @bP ?_
 refine Cw.scopeL (G:=RG) (fun g=>RL g) [10,11,5,6,7,8,12,13,9,14,15,16,17,18,19,20,21,22,23,24,25,26,27,28,29,30,31,32,33,34,35,36,37,38,39,40,41,42,43,44,45,46,47,48,49,50,51,52,53,54,55,56,57,58,59,60,3,4,61] (fun g=>RSl g) (fun g=>RH s b2 g) (fun g=>RJ s w.heap.size b2 g) (fun g=>(if g.lab=1 then 102 - g.log.length else 0)) ?_ ?_ ?_
 ·intro g
  unfold RL
  split<;>rfl
 ·intro g j hg
  rcases hg with hg|hg|hg
  ·obtain⟨lab,br,b6,b7,vt,vl,x,y,tb,log,at_,D⟩:=g
   obtain⟨l5,hg⟩:=hg
   simp only at l5
   subst l5
   simp only[RL,RSl,RH] at hg ⊢
   obtain⟨di,gF,fZ,h2r,uY,JS,rV,l9,h67,hN,jH,iW,hox,hoy,bL,cb,dE,eK,zb,a0,jw,pB⟩:=hg
   simp only[bkO,rdO,nlV]
   simp only[jU,gv,Bool.or_false,Bool.false_or,Bool.or_true,Bool.true_or,Nat.reduceBEq,beq_self_eq_true, ↓reduceIte,Bool.false_eq_true]
   refine kv ?_
   try with_reducible refine z6 ?_
   refine kz [14] @bP ?_
   refine Ow.callFV rfl call168 (fun w' aA=>Dg br s at_ 0 w' (aA.has _ _ (av _ aa))) ?_
   refine ko @bP ?_
   refine ky @bP ?_
   refine Ow.permL (M:= [(br, .cells #[vs s,vi at_,vi 0] 314 (0,0))]++ ((b2, .cells #[.slice none 0 0, .slice none 0 0] 73 (0,0)):: (b6, .cells #[vt,vl] 73 (0,0)):: (b7, .cells #[x,y] 73 (0,0))::D)) pM ?_
   refine Ow.callX (Y:=((b2, .cells #[.slice none 0 0, .slice none 0 0] 73 (0,0)):: (b6, .cells #[vt,vl] 73 (0,0)):: (b7, .cells #[x,y] 73 (0,0))::D)) (by simp) rfl rfl call164 (fun w' aA hX hn=>Xa_ br s at_ 0 [69] w' (GlobC.of hG aA (New.not (L:= [(br, .cells #[vs s,vi at_,vi 0] 314 (0,0))]++ ((b2, .cells #[.slice none 0 0, .slice none 0 0] 73 (0,0)):: (b6, .cells #[vt,vl] 73 (0,0)):: (b7, .cells #[x,y] 73 (0,0))::D)) (by exact⟨di,bR,gF,fZ,hN⟩) l4)) oM zb oM (hX _ aa)) (fun v1 D1 rK bu=> ?_)
   rcases bu with⟨kQ,rfl,rfl⟩ | ⟨b',c,hc,rfl,eG,aU,rfl⟩
   ·refine Ow.permL (M:=(b2, .cells #[.slice none 0 0, .slice none 0 0] 73 (0,0)):: (b6, .cells #[vt,vl] 73 (0,0)):: (br, .cells #[vs s,vi (cm s at_ 0 [69]).2.1,vi (cm s at_ 0 [69]).2.2] 314 (0,0)):: (b7, .cells #[x,y] 73 (0,0))::D) pM ?_
    refine ko @bP ?_
    refine ky (aN @bP @pv) ?_
    refine Jump.mk ⟨2,br,b6,b7,vt,vl,x,y,tb,log,at_,(br, .cells #[vs s,vi (cm s at_ 0 [69]).2.1,vi (cm s at_ 0 [69]).2.2] 314 (0,0)):: (b7, .cells #[x,y] 73 (0,0))::D⟩ rfl (by show 0<102 - log.length;omega) (.inr (.inl ⟨rfl,gF,uY,⟨di,fZ,hN⟩,jH.mono fun p hp=>by simp[hp],iW.mono fun p hp=>by simp[hp], ?_⟩)) rfl rfl
    exact Kv jw pB (Tb kQ)
   have hbA:b2<b'∧br<b'∧b6<b'∧b7<b':=by
    rcases rK.new b' (by simp[keys]) with h| ⟨h,-⟩
    ·simp[keys] at h;omega
    obtain⟨q1,q2,q3,q4,-⟩:=h
    exact⟨q2,q1,q3,q4⟩
   obtain⟨h2b,lA,h6b,h7b⟩:=hbA
   have k_:=Dp oM hc
   have ze:=EX hc
   rw[ze]
   have y9:=Fk (p:= [69]) (e:=0) zb
   generalize Jx: (cm s at_ 0 [69]).2.1=to at*
   refine ko @bP ?_
   refine ky (aN @bP @nilR) ?_
   refine Cw.regionS [b6] [0,2,5,1,3,4,6,7,8,9,10] [10] kR kR kR ?_
   simp only[bF, ↓bE, ↓ay, ↓bD, ↓bC,az]
   refine kq @bP ?_
   refine Ow.soft rfl rfl rfl ?_
   refine Ow.callC rfl rfl call81 (fun w' aA=>ti vl log w' (GrI.slV (iW.mono (fun p hp=>by simp[hp])) aA rfl rfl ef) oM) (fun B1 v3 Dc eF dV bX jl=> ?_)
   have hAc:=eF
   try simp only[List.cons_append,List.nil_append] at hAc
   obtain⟨qr,qb,q2,q6,q7,-⟩:=hAc
   with_reducible refine Ow.nil ?_
   refine⟨ma (by simp[keys]), ?_⟩
   try simp only[List.cons_append,List.nil_append]
   refine Ow.soft rfl rfl rfl ?_
   refine Ow.callM rfl rfl call166 (by simp[keys]) (fun w' aA=>EY b' c 0 0 w' (aq _) oM (aA.has _ _ (av _ aa))) ?_
   with_reducible refine Ow.nil ?_
   refine⟨fun b hb=>AN (by simp only[List.mem_cons,List.not_mem_nil,or_false] at hb;omega), ?_⟩
   rw[FB]
   have dh:=LK (s:=c) (a:=0) (e:=0) k_
   have dg:=F2 (s:=c) (a:=0) (e:=0) (aq _)
   have dJ:=US (tb:=tb) (log:=log) hc
   rw[Jx] at dJ
   generalize refR c 0 0=rr at*
   obtain⟨r,ra,re⟩:=rr
   simp only at dh dg dJ ⊢
   refine kn ?_
   try simp only[List.cons_append,List.nil_append]
   refine Ow.soft rfl rfl rfl ?_
   refine Ow.buildSlice (e:=149) (aH r).toArray rfl rfl (zF r) fun b8 iu m_=> ?_
   have h68:b6<b8:=ak iu (by simp[keys])
   have h78:b7<b8:=ak iu (by simp[keys])
   have h28:b2<b8:=ak iu (by simp[keys])
   have hr8:br<b8:=ak iu (by simp[keys])
   have hb8':b'<b8:=ak iu (by simp[keys])
   with_reducible refine Ow.nil ?_
   refine⟨ma (by simp[keys]), ?_⟩
   try simp only[List.cons_append,List.nil_append]
   refine Ow.soft rfl rfl rfl ?_
   refine Ow.permL (M:=Dc++ (((br, .cells #[vs s,vi to,vi 0] 314 (0,0)):: (b', .cells #[vs c,vi ra,vi re] 314 (0,0)):: (b2, .cells #[.slice none 0 0, .slice none 0 0] 73 (0,0)):: (b6, .cells #[vt,vl] 73 (0,0)):: (b7, .cells #[x,y] 73 (0,0))::D)++ [(b8, .cells (aH r).toArray 149 (0,0))])) pM ?_
   refine Ow.appendX (e:=149) (k:=1) (new:=aH r) (X:=Dc) v3 rfl rfl rfl rfl underlying71 ag149 kR oZ (by rw[kX,List.size_toArray,ef]) underlying71 (by intro k h;cases h) jl (fun w' aA=>AppX.one1 (aA.has b8 (.cells (aH r).toArray 149 (0,0)) (by simp)) (ef r) (zI r)) oM oM (fun B v4 D4 fo mn cO iy fw bz=> ?_)
   have rJ:b8<B:=ak fo (by simp[ae,keys])
   have Hh: ∀q,q<B1→q<B→q∉keys D4:=fun q h1 h2 hm=>by
    rcases fw q hm with h|h
    ·have:=bX.le q h;omega
    omega
   have rI:=Hh b6 q6 oM
   have h74:=Hh b7 q7 oM
   with_reducible refine Ow.nil ?_
   refine⟨fun q hq=> ?_, ?_⟩
   ·rw[List.mem_singleton] at hq
    subst hq
    rw[JB rI]
    simp(disch:=omega) only[List.cons_append,List.nil_append,oH,IM]
   try simp only[List.cons_append,List.nil_append]
   refine Ow.build (.agg #[vt,v4]) rfl (J4 vt v4 (yh jH).2 cO.cell.2) ?_
   have f_:rY (aK prog 73) (D4++ (((br, .cells #[vs s,vi to,vi 0] 314 (0,0)):: (b', .cells #[vs c,vi ra,vi re] 314 (0,0)):: (b2, .cells #[.slice none 0 0, .slice none 0 0] 73 (0,0)):: (b6, .cells #[vt,vl] 73 (0,0)):: (b7, .cells #[x,y] 73 (0,0))::D)++ [(b8, .cells (aH r).toArray 149 (0,0))])) (vp b7 0) (.agg #[vt,v4])=some (D4++ (((br, .cells #[vs s,vi to,vi 0] 314 (0,0)):: (b', .cells #[vs c,vi ra,vi re] 314 (0,0)):: (b2, .cells #[.slice none 0 0, .slice none 0 0] 73 (0,0)):: (b6, .cells #[vt,vl] 73 (0,0)):: (b7, .cells #[vt,v4] 73 (0,0))::D)++ [(b8, .cells (aH r).toArray 149 (0,0))])):=by
    rw[ag73,AD,g8 h74]
    simp(disch:=omega) only[List.cons_append,fN,pI]
    rw[yt _ _ _ _ _ (yh jH).1 cO.cell.1,zH,LF h74]
    simp(disch:=omega) only[n5,vV]
   refine Ow.store rfl rfl rfl f_ ?_
   refine kq @bP ?_
   refine Cw.permL (M:=(b2, .cells #[.slice none 0 0, .slice none 0 0] 73 (0,0)):: (br, .cells #[vs s,vi to,vi 0] 314 (0,0)):: (b6, .cells #[vt,vl] 73 (0,0)):: (b7, .cells #[vt,v4] 73 (0,0)):: (b', .cells #[vs c,vi ra,vi re] 314 (0,0)):: (b8, .cells (aH r).toArray 149 (0,0)):: (D++D4)) pM ?_
   try simp only[k7,CM,iP,iQ]
   have kr:New w.heap.size (D++D4):=hN.app (New.of_le fun q hq=>by
    rcases fw q hq with h|h
    ·have:=bX.le q h;omega
    omega)
   have hNn:New w.heap.size ((br, .cells #[vs s,vi to,vi 0] 314 (0,0)):: (b7, .cells #[vt,v4] 73 (0,0)):: (b', .cells #[vs c,vi ra,vi re] 314 (0,0)):: (b8, .cells (aH r).toArray 149 (0,0)):: (D++D4)):=⟨di,fZ,oM,m_,kr⟩
   have hfl4: (log.map aH).flatten++aH r=((log++ [r]).map aH).flatten:=by simp
   rw[hfl4] at cO
   have HM:Gr D4 149 33 v4 (log.length+1) ((log++ [r]).map aH).flatten:= .inl cO
   have H_:ig (log++ [r]):=Rb cb dh
   refine ky @bP ?_
   refine Ow.callFV rfl call167 (fun w' aA=>Bu b' c ra re w' (aA.has _ _ (by simp))) ?_
   by_cases he:endR c ra re=0
   ·have hb: (endR c ra re !=0)=false:=by simp[he]
    refine ko (aN @bP @hb) ?_
    refine ky (aN @bP @lZ) ?_
    refine Ow.callFV rfl call88 (fun w' aA=>A5 vt v4 tb (log++ [r]) w' (GrI.slV (jH.mono (fun p hp=>by simp[hp])) aA rfl rfl ef) (HM.slM (fun b o hm=>aA.has b o (by simp[hm])) (by simp) rfl ef) oM (by simp;omega) bL H_) ?_
    cases hr:bV tb (log++ [r])
    ·refine Ow.permL (M:=(b2, .cells #[.slice none 0 0, .slice none 0 0] 73 (0,0)):: (b6, .cells #[vt,vl] 73 (0,0)):: ((br, .cells #[vs s,vi to,vi 0] 314 (0,0)):: (b7, .cells #[vt,v4] 73 (0,0)):: (b', .cells #[vs c,vi ra,vi re] 314 (0,0)):: (b8, .cells (aH r).toArray 149 (0,0)):: (D++D4))) pM ?_
     refine ko @bP ?_
     refine ky @bP ?_
     refine Jump.mk ⟨2,br,b6,b7,vt,vl,x,y,tb,log,at_,((br, .cells #[vs s,vi to,vi 0] 314 (0,0)):: (b7, .cells #[vt,v4] 73 (0,0)):: (b', .cells #[vs c,vi ra,vi re] 314 (0,0)):: (b8, .cells (aH r).toArray 149 (0,0)):: (D++D4))⟩ rfl (by show 0<102 - log.length;omega) (.inr (.inl ⟨rfl,gF,uY,hNn,jH.mono fun p hp=>by simp[hp],iW.mono fun p hp=>by simp[hp], ?_⟩)) rfl rfl
     exact Kv jw pB (by rw[dJ,if_neg (by simp[hr])])
    rw[if_pos ⟨he,hr⟩] at dJ
    have zl:=Lf hr
    have yX:=yt vt vl vt v4 73 (yh jH).1 cO.cell.1
    refine ko @bP ?_
    refine ky (aN @bP (aN @lZ @yX)) ?_
    have HN:GrI ((b', .cells #[vs c,vi ra,vi re] 314 (0,0)):: (b8, .cells (aH r).toArray 149 (0,0)):: (D++D4)) 149 33 v4 (log++ [r]).length ((log++ [r]).map aH).flatten:=by
     rw[List.length_append];exact HM.i fun p hp=>by simp[hp]
    refine Jump.mk ⟨1,br,b6,b7,vt,v4,vt,v4,tb,log++ [r],to,(b', .cells #[vs c,vi ra,vi re] 314 (0,0)):: (b8, .cells (aH r).toArray 149 (0,0)):: (D++D4)⟩ rfl (by show 102 - (log++ [r]).length<102 - log.length;rw[List.length_append,List.length_singleton];omega) (.inl ⟨rfl,di,gF,fZ,h2r,uY,JS,rV,l9,h67,⟨oM,m_,kr⟩,jH.mono fun p hp=>by simp[hp],HN,(yh jH).1,cO.cell.1,bL,H_,dE,zl,y9.2,a0,jw, ?_⟩) rfl rfl
    intro k hk
    simp only at hk ⊢
    rw[List.length_append,List.length_singleton] at hk
    rw[←pB (k+1) oM,kc,dJ]
   have hb: (endR c ra re !=0)=true:=by simpa using he
   refine Ow.permL (M:=(b2, .cells #[.slice none 0 0, .slice none 0 0] 73 (0,0)):: (b6, .cells #[vt,vl] 73 (0,0)):: ((br, .cells #[vs s,vi to,vi 0] 314 (0,0)):: (b7, .cells #[vt,v4] 73 (0,0)):: (b', .cells #[vs c,vi ra,vi re] 314 (0,0)):: (b8, .cells (aH r).toArray 149 (0,0)):: (D++D4))) pM ?_
   refine ko (aN @bP @hb) ?_
   refine ky @bP ?_
   refine Jump.mk ⟨2,br,b6,b7,vt,vl,x,y,tb,log,at_,((br, .cells #[vs s,vi to,vi 0] 314 (0,0)):: (b7, .cells #[vt,v4] 73 (0,0)):: (b', .cells #[vs c,vi ra,vi re] 314 (0,0)):: (b8, .cells (aH r).toArray 149 (0,0)):: (D++D4))⟩ rfl (by show 0<102 - log.length;omega) (.inr (.inl ⟨rfl,gF,uY,hNn,jH.mono fun p hp=>by simp[hp],iW.mono fun p hp=>by simp[hp], ?_⟩)) rfl rfl
   exact Kv jw pB (by rw[dJ,if_neg (fun h=>he h.1)])
  ·obtain⟨lab,br,b6,b7,vt,vl,x,y,tb,log,at_,D⟩:=g
   obtain⟨l5,hg⟩:=hg
   simp only at l5
   subst l5
   simp only[RL,RSl,RH] at hg ⊢
   obtain⟨gF,uY,hN,jH,iW,dH⟩:=hg
   simp only[bkO,rdO,nlV]
   simp only[jU,gv,Bool.or_false,Bool.false_or,Bool.or_true,Bool.true_or,Nat.reduceBEq,beq_self_eq_true, ↓reduceIte,Bool.false_eq_true]
   refine kv ?_
   try with_reducible refine z6 ?_
   have hst2:=yt (.slice none 0 0) (.slice none 0 0) vt vl 73 (yh jH).1 (yh iW).1
   refine ky (aN @bP (aN @lZ @hst2)) ?_
   refine⟨_,(ke @bP), ?_⟩
   refine⟨Ext.of_new ⟨bR,gF,hN⟩, ?_⟩
   unfold sK
   rw[dH]
   exact⟨vt,vl,rfl,jH.mono fun p hp=>by simp[hp],iW.mono fun p hp=>by simp[hp]⟩
  obtain⟨lab,br,b6,b7,vt,vl,x,y,tb,log,at_,D⟩:=g
  obtain⟨l5,hg⟩:=hg
  simp only at l5
  subst l5
  simp only[RL,RSl,RH] at hg ⊢
  obtain⟨hN,dH⟩:=hg
  simp only[bkO,rdO,nlV]
  simp only[jU,gv,Bool.or_false,Bool.false_or,Bool.or_true,Bool.true_or,Nat.reduceBEq,beq_self_eq_true, ↓reduceIte,Bool.false_eq_true]
  refine kv ?_
  try with_reducible refine z6 ?_
  refine ky @bP ?_
  refine Ow.build (.agg #[.slice none 0 0, .slice none 0 0]) rfl kR ?_
  refine ko @bP ?_
  refine ky @bP ?_
  refine⟨_,(ke @bP), ?_⟩
  refine⟨Ext.of_new ⟨bR,hN⟩, ?_⟩
  unfold sK
  rw[dH];rfl
 intro key
 repeat ((try with_reducible refine Cw.go [999999] ?_);(simp(disch:=first|exact dD|fail) only[↓Sx.S0,Sx.S1,fx,bP,Nat.reduceAdd,Nat.reducePow,Int.reducePow,Nat.reduceBEq, ↓reduceIte,UInt8.reduceToNat,UInt16.reduceToNat,UInt32.reduceToNat,UInt64.reduceToNat,Int.reduceToNat]))
 refine Ow.callF rfl rfl call147 (S:=fun B v D=> ∃b',B≤b'∧v=vp b' 0∧D= [(b', .cells #[vs s,vi 0,vi 0] 314 (0,0))]) (fun w' aA=>C5 s w') ?_
 rintro B v D jn hB ⟨br,gz,rfl,rfl⟩
 obtain⟨h2B,-⟩:=jn
 refine⟨_,Mrg.fresh (by intro q hq;simp only[keys,List.map_cons,List.map_nil,List.mem_singleton] at hq;omega), ?_⟩
 simp only[List.cons_append,List.nil_append]
 refine ko @bP ?_
 repeat ((try with_reducible refine Cw.go [999999] ?_);(simp(disch:=first|exact dD|fail) only[↓Sx.S0,Sx.S1,fx,bP,Nat.reduceAdd,Nat.reducePow,Int.reducePow,Nat.reduceBEq, ↓reduceIte,UInt8.reduceToNat,UInt16.reduceToNat,UInt32.reduceToNat,UInt64.reduceToNat,Int.reduceToNat]))
 refine Ow.alloc rfl rfl zrBk fun b6 gx gF=> ?_
 simp only[ag,List.nil_append,List.cons_append]
 obtain⟨uY,rV,-⟩:=gx
 refine ko @bP ?_
 refine Ow.alloc rfl rfl zrBk fun b7 gy fZ=> ?_
 simp only[ag,List.nil_append,List.cons_append]
 obtain⟨JS,l9,h67,-⟩:=gy
 refine ko @bP ?_
 repeat ((try with_reducible refine Cw.go [999999] ?_);(simp(disch:=first|exact dD|fail) only[↓Sx.S0,Sx.S1,fx,bP,Nat.reduceAdd,Nat.reducePow,Int.reducePow,Nat.reduceBEq, ↓reduceIte,UInt8.reduceToNat,UInt16.reduceToNat,UInt32.reduceToNat,UInt64.reduceToNat,Int.reduceToNat]))
 refine Ow.permL (M:= [(br, .cells #[vs s,vi 0,vi 0] 314 (0,0))]++ [(b2, .cells #[.slice none 0 0, .slice none 0 0] 73 (0,0)),(b6, .cells #[.slice none 0 0, .slice none 0 0] 73 (0,0)),(b7, .cells #[.slice none 0 0, .slice none 0 0] 73 (0,0))]) pM ?_
 refine Ow.callX (Y:= [(b2, .cells #[.slice none 0 0, .slice none 0 0] 73 (0,0)),(b6, .cells #[.slice none 0 0, .slice none 0 0] 73 (0,0)),(b7, .cells #[.slice none 0 0, .slice none 0 0] 73 (0,0))]) (by simp) rfl rfl call164 (fun w' aA hX hn=>Xa_ br s 0 0 [72] w' (GlobC.of hG aA (New.not (L:= [(br, .cells #[vs s,vi 0,vi 0] 314 (0,0))]++ [(b2, .cells #[.slice none 0 0, .slice none 0 0] 73 (0,0)),(b6, .cells #[.slice none 0 0, .slice none 0 0] 73 (0,0)),(b7, .cells #[.slice none 0 0, .slice none 0 0] 73 (0,0))]) (by exact⟨oM,bR,gF,fZ,trivial⟩) l4)) oM (aq _) oM (hX _ aa)) (fun v1 D1 rK bu=> ?_)
 rcases bu with⟨kQ,rfl,rfl⟩ | ⟨b',c,hc,rfl,eG,aU,rfl⟩
 ·refine ko @bP ?_
  repeat ((try with_reducible refine Cw.go [999999] ?_);(simp(disch:=first|exact dD|fail) only[↓Sx.S0,Sx.S1,fx,bP,Nat.reduceAdd,Nat.reducePow,Int.reducePow,Nat.reduceBEq, ↓reduceIte,UInt8.reduceToNat,UInt16.reduceToNat,UInt32.reduceToNat,UInt64.reduceToNat,Int.reduceToNat]))
  refine Ow.callFV rfl call165 (fun w' aA=>OM 16 w') ?_
  refine ko @bP ?_
  repeat ((try with_reducible refine Cw.go [999999] ?_);(simp(disch:=first|exact dD|fail) only[↓Sx.S0,Sx.S1,fx,bP,Nat.reduceAdd,Nat.reducePow,Int.reducePow,Nat.reduceBEq, ↓reduceIte,UInt8.reduceToNat,UInt16.reduceToNat,UInt32.reduceToNat,UInt64.reduceToNat,Int.reduceToNat]))
  refine Cw.loopG (G:=Unit) [17,18,19,20,21,22,23,24,25,16] (fun g=> [(16,vi 0)]) (fun g=> [(br, .cells #[vs s,vi (cm s 0 0 [72]).2.1,vi (cm s 0 0 [72]).2.2] 314 (0,0)),(b2, .cells #[.slice none 0 0, .slice none 0 0] 73 (0,0)),(b6, .cells #[.slice none 0 0, .slice none 0 0] 73 (0,0)),(b7, .cells #[.slice none 0 0, .slice none 0 0] 73 (0,0))]) (fun g=>True) (fun g=>0) () rfl rfl ?_ ?_
  ·trivial
  intro g j hg
  refine kv ?_
  repeat ((try with_reducible refine Cw.go [999999] ?_);(simp(disch:=first|exact dD|fail) only[↓Sx.S0,Sx.S1,fx,bP,Nat.reduceAdd,Nat.reducePow,Int.reducePow,Nat.reduceBEq, ↓reduceIte,UInt8.reduceToNat,UInt16.reduceToNat,UInt32.reduceToNat,UInt64.reduceToNat,Int.reduceToNat]))
  have h30: ((3:Int) !=0)=true:=rfl
  refine Ow.callFV rfl call167 (fun w' aA=>VZ w') ?_
  refine Ow.permL (M:=(b2, .cells #[.slice none 0 0, .slice none 0 0] 73 (0,0)):: [(br, .cells #[vs s,vi (cm s 0 0 [72]).2.1,vi (cm s 0 0 [72]).2.2] 314 (0,0)),(b6, .cells #[.slice none 0 0, .slice none 0 0] 73 (0,0)),(b7, .cells #[.slice none 0 0, .slice none 0 0] 73 (0,0))]) pM ?_
  refine ko (aN @bP @h30) ?_
  repeat ((try with_reducible refine Cw.go [999999] ?_);(simp(disch:=first|exact dD|fail) only[↓Sx.S0,Sx.S1,fx,bP,Nat.reduceAdd,Nat.reducePow,Int.reducePow,Nat.reduceBEq, ↓reduceIte,UInt8.reduceToNat,UInt16.reduceToNat,UInt32.reduceToNat,UInt64.reduceToNat,Int.reduceToNat]))
  exact Jump.mk ⟨0,br,b6,b7,nlV,nlV,nlV,nlV,[],[],0,[(br, .cells #[vs s,vi (cm s 0 0 [72]).2.1,vi (cm s 0 0 [72]).2.2] 314 (0,0)),(b6, .cells #[.slice none 0 0, .slice none 0 0] 73 (0,0)),(b7, .cells #[.slice none 0 0, .slice none 0 0] 73 (0,0))]⟩ rfl trivial (.inr (.inr ⟨rfl,⟨oM,gF,fZ,trivial⟩,TP kQ⟩)) rfl rfl
 have hbA:b2<b'∧br<b'∧b6<b'∧b7<b':=by
  rcases rK.new b' (by simp[keys]) with h| ⟨h,-⟩
  ·simp[keys] at h;omega
  obtain⟨q1,q2,q3,q4,-⟩:=h
  exact⟨q2,q1,q3,q4⟩
 obtain⟨h2b,lA,h6b,h7b⟩:=hbA
 have k_:=Dp oM hc
 have ze:=EX hc
 have jw:=UA hc
 rw[ze]
 have y9:=Fk (s:=s) (a:=0) (p:= [72]) (e:=0) (aq _)
 generalize Jx: (cm s 0 0 [72]).2.1=to at*
 simp only[List.cons_append,List.nil_append]
 refine ko @bP ?_
 repeat ((try with_reducible refine Cw.go [999999] ?_);(simp(disch:=first|exact dD|fail) only[↓Sx.S0,Sx.S1,fx,bP,Nat.reduceAdd,Nat.reducePow,Int.reducePow,Nat.reduceBEq, ↓reduceIte,UInt8.reduceToNat,UInt16.reduceToNat,UInt32.reduceToNat,UInt64.reduceToNat,Int.reduceToNat]))
 refine Ow.callM rfl rfl call165 (by simp[keys]) (fun w' aA=>Kd_ b' c 0 0 16 w' (aq _) oM (aA.has _ _ (av _ aa))) ?_
 have ec:=T5 (s:=c) (a:=0) (e:=0) (most:=16) oM
 have Hf:=i_ (s:=c) (a:=0) (e:=0) (most:=16) (aq _)
 generalize aG c 0 0 16=nn at*
 obtain⟨n1,na,ne⟩:=nn
 simp only at ec Hf jw ⊢
 obtain⟨k,rfl⟩:=Int.eq_ofNat_of_zero_le ec.1
 have hk16:k≤16:=by omega
 refine kn ?_
 refine ko @bP ?_
 repeat ((try with_reducible refine Cw.go [999999] ?_);(simp(disch:=first|exact dD|fail) only[↓Sx.S0,Sx.S1,fx,bP,Nat.reduceAdd,Nat.reducePow,Int.reducePow,Nat.reduceBEq, ↓reduceIte,UInt8.reduceToNat,UInt16.reduceToNat,UInt32.reduceToNat,UInt64.reduceToNat,Int.reduceToNat]))
 refine Cw.permL (M:=(b', .cells #[vs c,vi na,vi ne] 314 (0,0)):: (b6, .cells #[.slice none 0 0, .slice none 0 0] 73 (0,0)):: (br, .cells #[vs s,vi to,vi 0] 314 (0,0)):: (b2, .cells #[.slice none 0 0, .slice none 0 0] 73 (0,0)):: (b7, .cells #[.slice none 0 0, .slice none 0 0] 73 (0,0)):: []) pM ?_
 refine Cw.loopG (G:=HG) [17,18,19,20,21,22,23,24,25,16] (fun g=> [(16,vi g.g)]) (fun g=>(b', .cells #[vs c,vi (dW c na ne g.g).2.1,vi (dW c na ne g.g).2.2] 314 (0,0)):: (b6, .cells #[g.vt, .slice none 0 0] 73 (0,0)):: (br, .cells #[vs s,vi to,vi 0] 314 (0,0)):: (b2, .cells #[.slice none 0 0, .slice none 0 0] 73 (0,0)):: (b7, .cells #[.slice none 0 0, .slice none 0 0] 73 (0,0))::g.D) (fun g=>g.g≤k∧New (b'+1) g.D∧Gr g.D 149 33 g.vt g.g ((dW c na ne g.g).1.map aH).flatten) (fun g=>k - g.g) ⟨0, .slice none 0 0,[]⟩ rfl rfl ?_ ?_
 ·exact⟨aq _,trivial,Gr.nl⟩
 intro g j hg
 refine kv ?_
 obtain⟨g,vt,D⟩:=g
 simp only at hg ⊢
 obtain⟨hgk,kr,fq⟩:=hg
 have Hv:=Dx (e:=ne) Hf.2 g
 by_cases aC:g<k
 ·repeat ((try with_reducible refine Cw.go [999999] ?_);(simp(disch:=first|exact dD|fail) only[↓Sx.S0,Sx.S1,fx,bP,Nat.reduceAdd,Nat.reducePow,Int.reducePow,Nat.reduceBEq, ↓reduceIte,UInt8.reduceToNat,UInt16.reduceToNat,UInt32.reduceToNat,UInt64.reduceToNat,Int.reduceToNat]))
  refine Cw.regionS [b6] [0,2,1,3,4,5,6,7] [7] kR kR kR ?_
  simp only[bF, ↓bE, ↓ay, ↓bD, ↓bC,az]
  refine kq @bP ?_
  refine Ow.soft rfl rfl rfl ?_
  refine Ow.callM rfl rfl call166 (by simp[keys]) (fun w' aA=>EY b' c (dW c na ne g).2.1 (dW c na ne g).2.2 w' Hv.2 oM (aA.has _ _ aa)) ?_
  with_reducible refine Ow.nil ?_
  refine⟨fun b hb=>AN (by simp only[List.mem_cons,List.not_mem_nil,or_false] at hb;omega), ?_⟩
  rw[FB]
  have dh:=LK (s:=c) (a:=(dW c na ne g).2.1) (e:=(dW c na ne g).2.2) k_
  have Hw:dW c na ne (g+1)=((dW c na ne g).1++ [(refR c (dW c na ne g).2.1 (dW c na ne g).2.2).1],(refR c (dW c na ne g).2.1 (dW c na ne g).2.2).2):=rfl
  generalize refR c (dW c na ne g).2.1 (dW c na ne g).2.2=rr at*
  obtain⟨r,ra,re⟩:=rr
  simp only at dh Hw ⊢
  refine kn ?_
  refine Ow.soft rfl rfl rfl ?_
  refine Ow.buildSlice (e:=149) (aH r).toArray rfl rfl (zF r) fun b8 iu m_=> ?_
  have hb8':b'<b8:=ak iu (by simp[keys])
  with_reducible refine Ow.nil ?_
  refine⟨ma (by simp[keys]), ?_⟩
  try simp only[List.cons_append,List.nil_append]
  refine Ow.soft rfl rfl rfl ?_
  refine Ow.permL (M:=D++ ((b', .cells #[vs c,vi ra,vi re] 314 (0,0)):: (b6, .cells #[vt, .slice none 0 0] 73 (0,0)):: (br, .cells #[vs s,vi to,vi 0] 314 (0,0)):: (b2, .cells #[.slice none 0 0, .slice none 0 0] 73 (0,0)):: (b7, .cells #[.slice none 0 0, .slice none 0 0] 73 (0,0)):: [(b8, .cells (aH r).toArray 149 (0,0))])) pM ?_
  refine Ow.appendX (e:=149) (k:=1) (new:=aH r) (X:=D) vt rfl rfl rfl rfl underlying71 ag149 kR oZ (by rw[kX,List.size_toArray,ef]) underlying71 (by intro k h;cases h) fq (fun w' aA=>AppX.one1 (aA.has b8 (.cells (aH r).toArray 149 (0,0)) (by simp)) (ef r) (zI r)) oM oM (fun B v4 D4 fo mn cO iy fw bz=> ?_)
  have rJ:b'<B:=ak fo (by simp[ae,keys])
  have gM:New (b'+1) D4:=New.of_le fun q hq=>by
   rcases fw q hq with h|h
   ·exact kr.le q h
   omega
  have rI:b6∉keys D4:=gM.not oM
  with_reducible refine Ow.nil ?_
  refine⟨fun q hq=> ?_, ?_⟩
  ·rw[List.mem_singleton] at hq
   subst hq
   rw[JB rI]
   simp(disch:=omega) only[List.cons_append,List.nil_append,oH,IM]
  try simp only[List.cons_append,List.nil_append]
  have yX:rY (aK prog 71) (D4++ ((b', .cells #[vs c,vi ra,vi re] 314 (0,0)):: (b6, .cells #[vt, .slice none 0 0] 73 (0,0)):: (br, .cells #[vs s,vi to,vi 0] 314 (0,0)):: (b2, .cells #[.slice none 0 0, .slice none 0 0] 73 (0,0)):: (b7, .cells #[.slice none 0 0, .slice none 0 0] 73 (0,0)):: [(b8, .cells (aH r).toArray 149 (0,0))])) (vp b6 0) v4=some (D4++ ((b', .cells #[vs c,vi ra,vi re] 314 (0,0)):: (b6, .cells #[v4, .slice none 0 0] 73 (0,0)):: (br, .cells #[vs s,vi to,vi 0] 314 (0,0)):: (b2, .cells #[.slice none 0 0, .slice none 0 0] 73 (0,0)):: (b7, .cells #[.slice none 0 0, .slice none 0 0] 73 (0,0)):: [(b8, .cells (aH r).toArray 149 (0,0))])):=by
   rw[ag71,AD,g8 rI]
   simp(disch:=omega) only[fN,pI]
   rw[EU _ _ _ _ cO.cell,zH,LF rI]
   simp(disch:=omega) only[n5,vV]
  refine kq @bP ?_
  refine Ow.store rfl rfl rfl yX ?_
  try with_reducible refine Ow.nil ?_
  refine Cw.permL (M:=(b', .cells #[vs c,vi ra,vi re] 314 (0,0)):: (b6, .cells #[v4, .slice none 0 0] 73 (0,0)):: (br, .cells #[vs s,vi to,vi 0] 314 (0,0)):: (b2, .cells #[.slice none 0 0, .slice none 0 0] 73 (0,0)):: (b7, .cells #[.slice none 0 0, .slice none 0 0] 73 (0,0)):: (D4++ [(b8, .cells (aH r).toArray 149 (0,0))])) pM ?_
  repeat ((try with_reducible refine Cw.go [999999] ?_);(simp(disch:=first|exact dD|fail) only[↓Sx.S0,Sx.S1,fx,bP,Nat.reduceAdd,Nat.reducePow,Int.reducePow,Nat.reduceBEq, ↓reduceIte,UInt8.reduceToNat,UInt16.reduceToNat,UInt32.reduceToNat,UInt64.reduceToNat,Int.reduceToNat]))
  refine Again.mk (HG.mk (g+1) v4 (D4++ [(b8, .cells (aH r).toArray 149 (0,0))])) (by show k - (g+1)<k - g;omega) ⟨by show g+1≤k;omega,gM.app ⟨by omega,trivial⟩, ?_⟩ ?_ rfl
  ·show Gr (D4++ [(b8, .cells (aH r).toArray 149 (0,0))]) 149 33 v4 (g+1) ((dW c na ne (g+1)).1.map aH).flatten
   rw[Hw]
   have e: (((dW c na ne g).1++ [r]).map aH).flatten=((dW c na ne g).1.map aH).flatten++aH r:=by simp
   rw[e]
   exact Gr.app (.inl cO)
  simp only[Hw]
 obtain rfl:g=k:=by omega
 have yV:=VF_ (a:=na) (e:=ne) k_ g
 have u_:=AL c na ne g
 rw[Int.toNat_natCast] at jw
 generalize dW c na ne g=tt at*
 obtain⟨tb,ra,re⟩:=tt
 simp only at jw yV u_ fq Hv ⊢
 have hNw:New w.heap.size ((br, .cells #[vs s,vi to,vi 0] 314 (0,0)):: (b', .cells #[vs c,vi ra,vi re] 314 (0,0)):: (b6, .cells #[vt, .slice none 0 0] 73 (0,0)):: (b7, .cells #[.slice none 0 0, .slice none 0 0] 73 (0,0))::D):=⟨by omega,by omega,by omega,by omega,kr.mono oM⟩
 rw[←u_] at fq
 repeat ((try with_reducible refine Cw.go [999999] ?_);(simp(disch:=first|exact dD|fail) only[↓Sx.S0,Sx.S1,fx,bP,Nat.reduceAdd,Nat.reducePow,Int.reducePow,Nat.reduceBEq, ↓reduceIte,UInt8.reduceToNat,UInt16.reduceToNat,UInt32.reduceToNat,UInt64.reduceToNat,Int.reduceToNat]))
 refine Ow.callFV rfl call167 (fun w' aA=>Bu b' c ra re w' (aA.has _ _ aa)) ?_
 by_cases he:endR c ra re=0
 ·have hb: (endR c ra re !=0)=false:=by simp[he]
  refine ko (aN @bP @hb) ?_
  repeat ((try with_reducible refine Cw.go [999999] ?_);(simp(disch:=first|exact dD|fail) only[↓Sx.S0,Sx.S1,fx,bP,Nat.reduceAdd,Nat.reducePow,Int.reducePow,Nat.reduceBEq, ↓reduceIte,UInt8.reduceToNat,UInt16.reduceToNat,UInt32.reduceToNat,UInt64.reduceToNat,Int.reduceToNat,lZ]))
  refine Ow.callFV rfl call88 (fun w' aA=>A5 vt (.slice none 0 0) tb [] w' (fq.slM (fun b o hm=>aA.has b o (by simp[hm])) rfl rfl ef) (SlV.nil w') oM (by simp) yV (fun g hg=>by simp at hg)) ?_
  cases hr:bV tb []
  ·refine Ow.permL (M:=(b2, .cells #[.slice none 0 0, .slice none 0 0] 73 (0,0)):: ((br, .cells #[vs s,vi to,vi 0] 314 (0,0)):: (b', .cells #[vs c,vi ra,vi re] 314 (0,0)):: (b6, .cells #[vt, .slice none 0 0] 73 (0,0)):: (b7, .cells #[.slice none 0 0, .slice none 0 0] 73 (0,0))::D)) pM ?_
   refine ko @bP ?_
   repeat ((try with_reducible refine Cw.go [999999] ?_);(simp(disch:=first|exact dD|fail) only[↓Sx.S0,Sx.S1,fx,bP,Nat.reduceAdd,Nat.reducePow,Int.reducePow,Nat.reduceBEq, ↓reduceIte,UInt8.reduceToNat,UInt16.reduceToNat,UInt32.reduceToNat,UInt64.reduceToNat,Int.reduceToNat]))
   exact Jump.mk ⟨0,br,b6,b7,nlV,nlV,nlV,nlV,[],[],0,((br, .cells #[vs s,vi to,vi 0] 314 (0,0)):: (b', .cells #[vs c,vi ra,vi re] 314 (0,0)):: (b6, .cells #[vt, .slice none 0 0] 73 (0,0)):: (b7, .cells #[.slice none 0 0, .slice none 0 0] 73 (0,0))::D)⟩ rfl trivial (.inr (.inr ⟨rfl,hNw,FG (by rw[jw,if_neg (by simp[hr])])⟩)) rfl rfl
  rw[if_pos ⟨he,hr⟩] at jw
  refine Ow.permL (M:=(b2, .cells #[.slice none 0 0, .slice none 0 0] 73 (0,0)):: (br, .cells #[vs s,vi to,vi 0] 314 (0,0)):: (b6, .cells #[vt, .slice none 0 0] 73 (0,0)):: (b7, .cells #[.slice none 0 0, .slice none 0 0] 73 (0,0)):: ((b', .cells #[vs c,vi ra,vi re] 314 (0,0))::D)) pM ?_
  refine ko @bP ?_
  have key0:=fun f'=>key (⟨1,br,b6,b7,vt, .slice none 0 0, .slice none 0 0, .slice none 0 0,tb,[],to,((b', .cells #[vs c,vi ra,vi re] 314 (0,0))::D)⟩) f'
  simp only[jU,gv,Bool.or_false,Bool.false_or,Bool.or_true,Bool.true_or,Nat.reduceBEq,beq_self_eq_true, ↓reduceIte,Bool.false_eq_true] at key0
  clear key
  repeat ((try with_reducible refine Cw.go [999999] ?_);(simp(disch:=first|exact dD|fail) only[↓Sx.S0,Sx.S1,fx,bP,Nat.reduceAdd,Nat.reducePow,Int.reducePow,Nat.reduceBEq, ↓reduceIte,UInt8.reduceToNat,UInt16.reduceToNat,UInt32.reduceToNat,UInt64.reduceToNat,Int.reduceToNat]))
  refine Cw.label ?_
  refine key0 _ (.inl ⟨rfl,(by simp only;omega),gF,fZ,(by simp only;omega),(by simp only;omega),(by simp only;omega),(by simp only;omega),(by simp only;omega),(by simp only;omega),⟨by omega,kr.mono oM⟩,fq.i fun p hp=>by simp[hp],Gr.nl.i (X:= []) fun p hp=>(by cases hp),rfl,rfl,yV,fun g hg=>(by simp at hg),by simp only;omega,by simp,y9.2,to,jw, ?_⟩) ?_
  ·intro k hk
   exact Ba s tb k 101 [] to (by simpa using hk) (by simp) (by simp)
  rfl
 have hb: (endR c ra re !=0)=true:=by simpa using he
 refine Ow.permL (M:=(b2, .cells #[.slice none 0 0, .slice none 0 0] 73 (0,0)):: ((br, .cells #[vs s,vi to,vi 0] 314 (0,0)):: (b', .cells #[vs c,vi ra,vi re] 314 (0,0)):: (b6, .cells #[vt, .slice none 0 0] 73 (0,0)):: (b7, .cells #[.slice none 0 0, .slice none 0 0] 73 (0,0))::D)) pM ?_
 refine ko (aN @bP @hb) ?_
 repeat ((try with_reducible refine Cw.go [999999] ?_);(simp(disch:=first|exact dD|fail) only[↓Sx.S0,Sx.S1,fx,bP,Nat.reduceAdd,Nat.reducePow,Int.reducePow,Nat.reduceBEq, ↓reduceIte,UInt8.reduceToNat,UInt16.reduceToNat,UInt32.reduceToNat,UInt64.reduceToNat,Int.reduceToNat]))
 exact Jump.mk ⟨0,br,b6,b7,nlV,nlV,nlV,nlV,[],[],0,((br, .cells #[vs s,vi to,vi 0] 314 (0,0)):: (b', .cells #[vs c,vi ra,vi re] 314 (0,0)):: (b6, .cells #[vt, .slice none 0 0] 73 (0,0)):: (b7, .cells #[.slice none 0 0, .slice none 0 0] 73 (0,0))::D)⟩ rfl trivial (.inr (.inr ⟨rfl,hNw,FG (by rw[jw,if_neg (fun h=>he h.1)])⟩)) rfl rfl
end Go.Proofs
end
section
open Go Go.Proofs Go.Sx Go.StP
namespace Go.Proofs
def aL:List UInt8:= [98,111,111,107]
structure BkL where
 t:List RefL
 l:List RefL
 n:Nat
def da (S:DiskL):List UInt8×Nat×DiskL:=
 if(ci S aJ aL).2=6 then(be [] [],bN S aJ aL (be [] []) false) else((ci S aJ aL).1,(ci S aJ aL).2,S)
def endB (S:DiskL) (s:List UInt8) (p:List RefL×List RefL×Nat):Option BkL×Nat×DiskL:=
 let q:Nat×DiskL:=if p.2.2<s.length then bN S aJ aL (s.take p.2.2) false else(0,S)
 if q.1≠0 then(none,q) else
 if(bU q.2 aJ aL).2≠0 then(none,(bU q.2 aJ aL).2,(bU q.2 aJ aL).1) else(some ⟨p.1,p.2.1,p.2.1.length⟩,0,(bU q.2 aJ aL).1)
def dF (S:DiskL):Option BkL×Nat×DiskL:=
 if(da S).2.1≠0 then(none,(da S).2) else match iY (da S).1 with
  |none=>(none,17,(da S).2.2)
  |some p=>endB (da S).2.2 (da S).1 p
structure BoA (bo:Nat) (G:DkG) (S:DiskL) (N:Nat) (B:BkL) (vt vl:Value) (D K X:aB):Prop where
 perm:X.Perm ((bo, .cells #[vp G.bd 0,vt,vl,vi (B.n:Nat)] 151 (0,0)):: (D++K))
 D:DkA D G S N
 t:GrI K 149 33 vt B.t.length (B.t.map aH).flatten
 l:GrI K 149 33 vl B.l.length (B.l.map aH).flatten
def BoP (bo bd:Nat) (S:DiskL) (N:Nat) (B:BkL) (X:aB):Prop:= ∃G vt vl D K,G.bd=bd∧BoA bo G S N B vt vl D K X
def DkA.perm {X Y:aB} {G:DkG} {S:DiskL} {N:Nat} (h:DkA X G S N) (hn: (keys X).Nodup) (hp:X.Perm Y):DkA Y G S N:=⟨h.P.mono fun _b _o hl=>vY (((hp.map Prod.fst).nodup_iff).1 hn) (hp.mem_iff.1 (cu hl)),h.H,h.B⟩
def DkA.app {X Y:aB} {G:DkG} {S:DiskL} {N:Nat} (h:DkA X G S N):DkA (X++Y) G S N:=⟨h.P.mono fun _b _o hl=>bZ hl,h.H,h.B⟩
def DkA.le {X:aB} {G:DkG} {S:DiskL} {N M:Nat} (h:DkA X G S N) (hN:N≤M):DkA X G S M:=⟨h.P,h.H,h.B.mono hN⟩
end Go.Proofs
end
section
open Go Go.Proofs Go.Sx Go.StP Go.RefP
namespace Go.Proofs
def sj (a b c d:Value) (n:Nat) (E:TypeId) (fz:Nat×Nat):aQ (some (false,n)) (some (.cells #[a,b,c,d] E fz)) 0=some a:=(rfl)
def s_ (a b c d:Value) (n:Nat) (E:TypeId) (fz:Nat×Nat):aQ (some (false,n)) (some (.cells #[a,b,c,d] E fz)) 1=some b:=(rfl)
def sg (a b c d:Value) (n:Nat) (E:TypeId) (fz:Nat×Nat):aQ (some (false,n)) (some (.cells #[a,b,c,d] E fz)) 2=some c:=(rfl)
def sm (a b c d:Value) (n:Nat) (E:TypeId) (fz:Nat×Nat):aQ (some (false,n)) (some (.cells #[a,b,c,d] E fz)) 3=some d:=(rfl)
def sy (a b c d:Value) (E:TypeId) (fz:Nat×Nat):aQ (some (true,2)) (some (.cells #[a,b,c,d] E fz)) 1=some (.agg #[b,c]):=(rfl)
def qA (a b c d:Value) (n:Int) (E:TypeId):aw (some (false,1)) (some (.cells #[a,b,c,d] E (0,0))) 3 (vi n)=some (.cells #[a,b,c,vi n] E (0,0)):=by
 have h:Value.oneCell' (vi n)=true∧(vi n).cells= #[vi n]:=⟨rfl,rfl⟩
 simp[aw,h,dZ]
def G5 (a b c d x y:Value) (E:TypeId) (hx:Value.oneCell' x=true) (hy:Value.oneCell' y=true):aw (some (true,2)) (some (.cells #[a,b,c,d] E (0,0))) 1 (.agg #[x,y])=some (.cells #[a,x,y,d] E (0,0)):=by
 simp[aw,hx,hy,dZ,ag]
def nX (b o:Nat):ab prog .eql 69 (vp b o) (.pointer none)=some (.bool false):=by
 simp[ab,eqX,eN,eA,underlying69,vp]
def Wi:ab prog .eql 69 (.pointer none) (.pointer none)=some (.bool true):=by
 simp[ab,eqX,eN,eA,underlying69]
def uS {D:aB} {E:TypeId} {m n:Nat} {v:Value} {cs:List Value} (h:GrI D E m v n cs):Value.oneCell' v=true∧v.cells= #[v]:=by
 obtain⟨X,-,h⟩:=h;exact h.cell
def FU {D:aB} {E:TypeId} {m n:Nat} {v:Value} {cs:List Value} (h:GrI D E m v n cs) (x:Bool×Nat):eb (.sl x) v=some (vi n):=by
 obtain⟨X,-,h⟩:=h;exact h.len x
def jX {D:aB} {v:Value} {l:List RefL} {w:World} (h:GrI D 149 33 v l.length (l.map aH).flatten) (hD: ∀b o,(b,o)∈D→w.heap[b]? =some o):gY w v l:=by
 obtain⟨X,hX,h⟩:=h
 exact h.slM (fun b o hm=>hD b o (hX _ hm)) rfl rfl ef
def kD (S:DiskL) (B:BkL):Nat×DiskL×BkL:=if(bU S aJ aL).2≠0 then((bU S aJ aL).2,(bU S aJ aL).1,B) else(0,(bU S aJ aL).1,{B with n:=B.l.length})
def nj (n:Nat): ((n:Int) !=0)=decide (n≠0):=by
 rw[Bool.eq_iff_iff,bne_iff_ne,decide_eq_true_eq];omega
def f4:=aN (aN (aN @bB @bA) (aN @Sx.tup2_0 (aN @Sx.tup2_1 @sj))) (aN (aN @s_ (aN @sg @sm)) (aN @sy (aN @qA @nX)))
def KY (bo bd:Nat) (S:DiskL) (N:Nat) (B:BkL) (X:aB) (w:World) (hX: ∀p,p∈X→w.heap[p.1]? =some p.2) (hn: (keys X).Nodup) (hP:BoP bo bd S N B X):
  Rets prog 42 #[vp bo 0] w (XS w X (fun v D=>v=vi ((kD S B).1:Nat)∧BoP bo bd (kD S B).2.1 N (kD S B).2.2 D)):=by
 obtain⟨G,vt,vl,D,K,rfl,hA⟩:=hP
 have fp:Ext w X (D++ ((bo,Obj.cells #[vp G.bd 0,vt,vl,vi (B.n:Nat)] 151 (0,0))::K)):=(Ext.refl w X).perm ((hA.perm.trans pM).symm)
 refine Rets.enterX func42 rfl (rs:= [.tmp 2]) results42 ntmps42 hX hn ?_
 refine kf ?_
 refine Cw.permL hA.perm.symm ?_
 refine ky @f4 ?_
 refine Ow.permL (M:=D++ ((bo, .cells #[vp G.bd 0,vt,vl,vi (B.n:Nat)] 151 (0,0))::K)) pM ?_
 refine Ow.callX (X:=D) (Y:=(bo, .cells #[vp G.bd 0,vt,vl,vi (B.n:Nat)] 151 (0,0))::K) rfl rfl rfl call85 (fun w' aA aj ad=>BJ D G S aJ aL w' aj ad hA.D.P (by decide)) (fun v2 D2 hC2 bH=> ?_)
 obtain⟨rfl,dA⟩:=bH
 have dG:DkA D2 G (bU S aJ aL).1 N:=⟨dA,TV hA.D.H _ _,VL hA.D.B _ _⟩
 have bw:=fp.came hC2
 refine Ow.permL (M:=(bo, .cells #[vp G.bd 0,vt,vl,vi (B.n:Nat)] 151 (0,0)):: (D2++K)) pM ?_
 have gS: ((bo,Obj.cells #[vp G.bd 0,vt,vl,vi (B.n:Nat)] 151 (0,0)):: (D2++K)).Perm (D2++ ((bo, .cells #[vp G.bd 0,vt,vl,vi (B.n:Nat)] 151 (0,0))::K)):=pM
 have aU:=nj (bU S aJ aL).2
 have lnl:=FU hA.l
 unfold kD
 by_cases h0: (bU S aJ aL).2=0
 ·rw[if_neg (by simpa using h0)]
  rw[ah (by simpa using h0)] at aU
  refine ko (aN @f4 @aU) ?_
  refine ky (aN @f4 (aN @aU @lnl)) ?_
  refine⟨_,(ke @f4), ?_⟩
  have nu:Ext w X ((bo, .cells #[vp G.bd 0,vt,vl,vi (B.l.length:Nat)] 151 (0,0)):: (D2++K)):=(bw.perm gS).keys rfl
  exact⟨nu,rfl,G,vt,vl,D2,K,rfl,⟨List.Perm.refl _,dG,hA.t,hA.l⟩⟩
 rw[if_pos h0]
 rw[aW h0] at aU
 refine ko (aN @f4 @aU) ?_
 refine ky (aN @f4 @aU) ?_
 refine⟨_,(ke @f4), ?_⟩
 exact⟨bw.perm gS,rfl,G,vt,vl,D2,K,rfl,⟨List.Perm.refl _,dG,hA.t,hA.l⟩⟩
def BoW (w:World) (bo bd:Nat) (B:BkL):Prop:= ∃vt vl,w.heap[bo]? =some (.cells #[vp bd 0,vt,vl,vi (B.n:Nat)] 151 (0,0))∧gY w vt B.t∧gY w vl B.l
def BoP.W {w:World} {bo bd:Nat} {S:DiskL} {N:Nat} {B:BkL} {X:aB} (h:BoP bo bd S N B X) (hX: ∀b o,(b,o)∈X→w.heap[b]? =some o):BoW w bo bd B:=by
 obtain⟨G,vt,vl,D,K,rfl,hA⟩:=h
 have hp: ∀b o,(b,o)∈ ((bo,Obj.cells #[vp G.bd 0,vt,vl,vi (B.n:Nat)] 151 (0,0)):: (D++K))→w.heap[b]? =some o:=fun b o hm=>hX b o (hA.perm.mem_iff.2 hm)
 exact⟨vt,vl,hp _ _ aa,jX hA.t fun b o hm=>hp b o (av _ (db _ hm)),jX hA.l fun b o hm=>hp b o (av _ (db _ hm))⟩
theorem BoW.oldN {w w':World} {L:aB} {bo bd:Nat} {B:BkL} (h:BoW w bo bd B) (hw:Hp w L w') (hN:New w.heap.size L):BoW w' bo bd B:=by
 obtain⟨vt,vl,hb,ht,hl⟩:=h
 have fE:=(Array.getElem?_eq_some_iff.1 hb).1
 exact⟨vt,vl,(hw.old _ fE (hN.not fE)).trans hb,ht.oldN hw hN,hl.oldN hw hN⟩
def M2 (bo bd:Nat) (B:BkL) (w:World) (hW:BoW w bo bd B):Rets prog 43 #[vp bo 0] w (fun v D=>v=vi (B.n:Nat)∧D= []):=by
 obtain⟨vt,vl,hb,-,-⟩:=hW
 have fE:=(Array.getElem?_eq_some_iff.1 hb).1
 refine Rets.enterV func43 rfl (rs:= [.tmp 2]) results43 ntmps43 ?_
 refine kf ?_
 refine ky (aN @f4 @hb) ?_
 refine⟨_,(ke @f4),trivial, ?_⟩
 rfl
def m7:au prog 73=some (.agg #[.slice none 0 0, .slice none 0 0]):=id kR
def Cg:fI (d8 prog 73) (au prog 73) []=some (.agg #[.slice none 0 0, .slice none 0 0]):=id kR
def yn (a b x y:Value) (E:TypeId) (hx:Value.oneCell' x=true) (hy:Value.oneCell' y=true):aw (some (true,2)) (some (.cells #[a,b] E (0,0))) 0 (.agg #[x,y])=some (.cells #[x,y] E (0,0)):=by
 simp[aw,hx,hy,dZ,ag]
def A3 (a b:Value) (E:TypeId):aQ (some (true,2)) (some (.cells #[a,b] E (0,0))) 0=some (.agg #[a,b]):=(rfl)
def Wp_ (w:World):Rets prog 39 #[.pointer none] w (fun v D=>v= .agg #[.slice none 0 0, .slice none 0 0]∧D= []):=by
 refine Rets.enterV func39 rfl (rs:= [.cell 2 73]) results39 ntmps39 ?_
 refine kf ?_
 refine ky @f4 ?_
 refine Ow.alloc rfl rfl m7 fun b2 al bR=> ?_
 simp only[ag,List.nil_append,List.cons_append]
 refine ko @f4 ?_
 refine ky (aN @f4 @Wi) ?_
 refine Ow.build (.agg #[.slice none 0 0, .slice none 0 0]) rfl Cg ?_
 have stz:=yn (.slice none 0 0) (.slice none 0 0) (.slice none 0 0) (.slice none 0 0) 73 rfl rfl
 refine ko (aN @f4 @stz) ?_
 refine ky (aN @f4 (aN @stz @A3)) ?_
 refine⟨_,(ke @f4),⟨bR,trivial⟩, ?_⟩
 rfl
def KU (bo bd:Nat) (B:BkL) (w:World) (hW:BoW w bo bd B) (dE:B.t.length<1000000) (eK:B.l.length<1000000):Rets prog 39 #[vp bo 0] w (XS w [] (fun v D=> ∃vt vl,v= .agg #[vt,vl]∧GrI D 149 33 vt B.t.length (B.t.map aH).flatten∧GrI D 149 33 vl B.l.length (B.l.map aH).flatten)):=by
 obtain⟨vt,vl,hb,ht,hl⟩:=hW
 have fE:=(Array.getElem?_eq_some_iff.1 hb).1
 refine Rets.enterX func39 rfl (rs:= [.cell 2 73]) results39 ntmps39 (fun p hp=>by cases hp) (by simp[keys]) ?_
 refine kf ?_
 refine ky @f4 ?_
 refine Ow.alloc rfl rfl m7 fun b2 al bR=> ?_
 simp only[ag,List.nil_append,List.cons_append]
 have cJ:New w.heap.size [(b2,Obj.cells #[.slice none 0 0, .slice none 0 0] 73 (0,0))]:=⟨bR,trivial⟩
 have r1: ∀L:aB,New w.heap.size L→aT w L bo=some (.cells #[vp bd 0,vt,vl,vi (B.n:Nat)] 151 (0,0)):=fun L hL=>by rw[kY (hL.not fE)];exact hb
 have r2:=r1 _ cJ
 refine ko @f4 ?_
 refine ky @f4 ?_
 refine Cw.regionG [bo] [13] 14 kR rfl ?_
 simp only[List.replicate_succ,List.replicate_zero]
 refine OwG.run [0,1,2,3,4,6,7,8,9,10] [true,true,true,true,true,false,true,true,true,true,true,false,false,false] 4 rfl kR kR fun k hk=> ?_
 simp only[bF, ↓bE, ↓ay, ↓bD, ↓bC,az]
 simp(disch:=first|exact dD|fail) only[↓Sx.S0,Sx.S1,fx,f4,Nat.reduceAdd,Nat.reducePow,Int.reducePow,Nat.reduceBEq, ↓reduceIte,UInt8.reduceToNat,UInt16.reduceToNat,UInt32.reduceToNat,UInt64.reduceToNat,Int.reduceToNat,Md.next_sofnil,r2]
 (with_reducible refine hk _ _ _ ?_);clear hk k
 refine OwG.one 5 _ kR rfl ?_
 refine Ow.callC rfl rfl call81 (fun w' aA=>ti vt B.t w' (ht.oldN aA cJ) dE) (fun B1 v1 D1 eF dV bX bu=> ?_)
 have dL:=bX.mono dV
 have jg:=cJ.app dL
 have r3:=r1 _ jg
 with_reducible refine Ow.nil ?_
 refine⟨(fun r hr=>by rw[List.mem_singleton.1 hr];exact r3.trans r2.symm), ?_⟩
 simp only[List.set_cons_zero,List.set_cons_succ,k7,iP,iQ]
 refine OwG.one 11 _ kR rfl ?_
 refine Ow.callC rfl rfl call81 (fun w' aA=>ti vl B.l w' (hl.oldN aA jg) eK) (fun B4 v4 D4 fo mn gM bQ=> ?_)
 have Gd:=gM.mono mn
 have qH:=jg.app Gd
 have r4:=r1 _ qH
 with_reducible refine Ow.nil ?_
 refine⟨(fun r hr=>by rw[List.mem_singleton.1 hr];exact r4.trans r3.symm), ?_⟩
 simp only[List.set_cons_zero,List.set_cons_succ,k7,iP,iQ]
 refine OwG.rest [12,13] rfl kR kR ?_
 simp only[bF, ↓bE, ↓ay, ↓bD, ↓bC,az]
 refine kq @f4 ?_
 refine Ow.build (.agg #[v1,v4]) rfl (J4 v1 v4 bu.cell.2 bQ.cell.2) ?_
 have stz:=yn (.slice none 0 0) (.slice none 0 0) v1 v4 73 bu.cell.1 bQ.cell.1
 refine kq @f4 ?_
 refine Ow.store rfl rfl rfl (ke (aN @f4 @stz)) ?_
 refine ko @f4 ?_
 refine ky (aN @f4 @A3) ?_
 refine⟨_,(ke @f4), ?_⟩
 exact⟨Ext.of_new ⟨bR,dL.app Gd⟩,v1,v4,rfl,bu.i fun p hp=>av _ (bl _ hp),bQ.i fun p hp=>av _ (db _ hp)⟩
def Le (t l:List RefL) (n:List UInt8): (nD t l n).length=32:=by
 have yd:z32.length=32:=by simp[z32]
 unfold nD
 cases ho:ofM cN z32 (prs t) (prs l) l.length with
 |none=>exact yd
 |some m=>
  simp only
  split
  ·exact Dd (n:=n) (FC (sA t) (sA l) (by rw[iD];exact ap _) ho) yd
  exact yd
def Ls (bo bd:Nat) (B:BkL) (n:List UInt8) (w:World) (hW:BoW w bo bd B) (dE:B.t.length<1000000) (eK:B.l.length<1000000) (dS:ig B.t) (bI:ig B.l):Rets prog 40 #[vp bo 0,vs n] w (XS w [] (fun v _D=>v= .agg (a8 (nD B.t B.l n)))):=by
 have JW:=hW
 obtain⟨vt,vl,hb,ht,hl⟩:=hW
 have fE:=(Array.getElem?_eq_some_iff.1 hb).1
 refine Rets.enterX func40 rfl (rs:= [.cell 4 24]) results40 ntmps40 (fun p hp=>by cases hp) (by simp[keys]) ?_
 refine kf ?_
 refine ky @f4 ?_
 refine Ow.alloc rfl rfl zr24 fun b2 al bR=> ?_
 simp only[ag,List.nil_append,List.cons_append]
 refine ko @f4 ?_
 have vH:=Le B.t B.l n
 have yd: (List.replicate 32 (0:UInt8)).length=32:=rfl
 refine Ow.callC rfl rfl call39 (fun w' aA=>KU bo bd B w' (JW.oldN aA ⟨bR,trivial⟩) dE eK) (fun B1 v1 D1 eF dV bX bu=> ?_)
 obtain⟨va,vb,rfl,rP,mv⟩:=bu
 refine ko @f4 ?_
 refine Ow.callFV rfl call82 (fun w' aA=>Qp va vb B.t B.l n w' (jX rP fun b o hm=>aA.has b o (av _ hm)) (jX mv fun b o hm=>aA.has b o (av _ hm)) dE eK dS bI) ?_
 refine ko @f4 ?_
 refine ky @f4 ?_
 refine⟨_,(ke @f4), ?_⟩
 exact⟨Ext.of_new ⟨bR,bX.mono dV⟩,rfl⟩
def Fj:bV [] []=true:=by rfl
def Ti (b o:Nat) (x y:Value):fI (d8 prog 151) (au prog 151) [(0,vp b o),(1, .agg #[x,y])]=some (.agg #[vp b o,x,y,vi 0]):=by
 rw[show d8 prog 151=some [(0,1),(1,2),(3,1)] from id kR,show au prog 151=some (.agg #[.pointer none, .slice none 0 0, .slice none 0 0,vi 0]) from id kR]
 have h: (vp b o).cells= #[vp b o]:=rfl
 simp[fI,Sx.fillV,h,ag,dZ]
def NewS (bd:Nat) (R:Option BkL×Nat×DiskL) (N:Nat) (v:Value) (D:aB):Prop:=
 match R.1 with
 |none=>v= .tuple #[.pointer none,vi (R.2.1:Nat)]∧ ∃G,G.bd=bd∧DkA D G R.2.2 N
 |some B=> ∃bo,v= .tuple #[vp bo 0,vi 0]∧BoP bo bd R.2.2 N B D
def q_ {w w':World} {X L:aB} (h:GlobC w) (hE:Ext w X L) (hw:Hp w L w') (hn: (4:Nat)∉keys X):GlobC w':=h.ofE hE hw hn
def rz: (be [] []).length≤1000:=by decide+kernel
def BoP.dk {bo bd:Nat} {S:DiskL} {N:Nat} {B:BkL} {X:aB} (h:BoP bo bd S N B X) (hn: (keys X).Nodup): ∃G,G.bd=bd∧DkA X G S N:=by
 obtain⟨G,vt,vl,D,K,hG,hA⟩:=h
 refine⟨G,hG,DkA.perm (X:=D++ ((bo, .cells #[vp G.bd 0,vt,vl,vi (B.n:Nat)] 151 (0,0))::K)) hA.D.app ?_ ((hA.perm.trans pM).symm)⟩
 exact(((hA.perm.trans pM).map Prod.fst).nodup_iff).1 hn
def mW {w:World} {X D E:aB} (h:Ext w X D) (hN:New w.heap.size E):Ext w X (D++E):=⟨fun c hc=>by
  rw[ae] at hc
  exact(List.mem_append.1 hc).elim (h.new c) fun hc=> .inr (hN.le c hc),fun c hc=>by rw[ae];exact bl _ (h.all c hc)⟩
structure BnG where
 s:List UInt8
 e:Nat
 S:DiskL
 G:DkG
 X:aB
def eM:=aN (aN (aN @bB (aN @bA @Sx.tup2_0)) (aN (aN @Sx.tup2_1 @tup3_0) (aN @tup3_1 @tup3_2))) (aN (aN @sj (aN @s_ @sg)) (aN (aN @sm @sy) (aN @qA @A3)))
def yj (X:aB) (G:DkG) (S:DiskL) (N:Nat) (w:World) (hX: ∀p,p∈X→w.heap[p.1]? =some p.2) (hn: (keys X).Nodup) (hA:DkA X G S N) (hN:N<600000) (hC:GlobC w) (ur: (4:Nat)∉keys X) (hs: (ci S aJ aL).1.length<1000000):
  Rets prog 50 #[vp G.bd 0] w (XS w X (NewS G.bd (dF S) (N+84))):=by
 have hE:=Ext.refl w X
 refine Rets.enterX func50 rfl (rs:= [.tmp 2, .tmp 3]) results50 ntmps50 hX hn ?_
 refine kf ?_
 refine kz [1000002,1000010] @eM ?_
 refine Ow.callFV rfl call94 (fun w' aA=>BB w' G S aJ aL (hA.P.world aA) (by decide)) ?_
 refine ko @eM ?_
 refine Cw.cutO (G:=BnG) [4,5,17,18,19,20,21,22,23,24,25,26] (fun g=> [(4,vs g.s),(5,vi (g.e:Nat))]) (fun g=>g.X) (fun g=>Ext w X g.X∧g.G.bd=G.bd∧DkA g.X g.G g.S (N+42)∧da S=(g.s,g.e,g.S)∧g.s.length<1000000) ?_ ?_
 ·by_cases h6: (ci S aJ aL).2=6
  ·have e6: (((ci S aJ aL).2:Nat):Int)=6:=by rw[h6];rfl
   have d6: ((((ci S aJ aL).2:Nat):Int)==6)=true:=by rw[e6];rfl
   refine ky (aN @eM @d6) ?_
   refine Ow.build (.agg #[.slice none 0 0, .slice none 0 0]) rfl Cg ?_
   refine ko @eM ?_
   refine Ow.callFV rfl call86 (fun w' aA=>Bm (.slice none 0 0) (.slice none 0 0) [] [] w' (q_ hC hE aA ur) (SlV.nil w') (SlV.nil w') (by decide) (by decide) (fun g hg=>absurd hg (Nat.not_lt_zero g)) (fun g hg=>absurd hg (Nat.not_lt_zero g))) ?_
   rw[if_pos Fj]
   refine ko @eM ?_
   refine ky @eM ?_
   refine Ow.callX (X:=X) (Y:= []) (List.append_nil _).symm rfl rfl call87 (fun w' aA aj ad=>Lm X G S N aJ aL (be [] []) w' aj ad hA oM (by decide) (by have:=rz;omega)) (fun v1 D1 rK bu=> ?_)
   rw[List.append_nil]
   obtain⟨rfl,G1,aO,eF⟩:=bu
   refine ko @eM ?_
   exact CutO.mk ⟨be [] [],(bN S aJ aL (be [] []) false).1,(bN S aJ aL (be [] []) false).2,G1,D1⟩ ⟨hE.came0 rK,aO,eF,by unfold da;rw[if_pos h6],by have:=rz;show(be [] []).length<_;omega⟩ rfl rfl
  have d6: ((((ci S aJ aL).2:Nat):Int)==6)=false:=beq_eq_false_iff_ne.2 oM
  refine ky (aN @eM @d6) ?_
  exact CutO.mk ⟨(ci S aJ aL).1,(ci S aJ aL).2,S,G,X⟩ ⟨hE,rfl,hA.le oM,by unfold da;rw[if_neg h6],hs⟩ rfl rfl
 intro g j hg
 refine kv ?_
 clear hX hn hA hE
 obtain⟨s,e,S1,G1,X1⟩:=g
 simp only at hg ⊢
 obtain⟨hE,GW,hA,hbeg,cb⟩:=hg
 rw[←GW]
 clear GW
 have aU:=nj e
 unfold dF
 rw[hbeg]
 simp only
 by_cases he:e=0
 ·rw[if_neg (by simpa using he)]
  rw[ah (by simpa using he)] at aU
  refine kz [1000010] (aN @eM @aU) ?_
  refine Ow.callC rfl rfl call95 (fun w' aA=>PW s w' (q_ hC hE aA ur) cb) (fun B2 v2 D2 dG cZ cJ bH=> ?_)
  have Gc:=cJ.mono cZ
  unfold sK at bH
  cases hr:iY s with
  |none=>
   rw[hr] at bH
   subst bH
   refine ko @eM ?_
   refine Ow.alloc rfl rfl m7 fun b6 gx gF=> ?_
   simp only[ag,List.nil_append,List.cons_append]
   have k6:=fun o=>jQ (o:=o) gx
   have s6:=fun o x=>zA (o:=o) (x:=x) gx
   have stz:=yn (.slice none 0 0) (.slice none 0 0) (.slice none 0 0) (.slice none 0 0) 73 rfl rfl
   have e2: ((2:Int) !=0)=true:=rfl
   refine ko (aN @eM (aN @k6 (aN @s6 (aN @stz @n8)))) ?_
   refine kz [1000010] (aN @eM @e2) ?_
   refine⟨_,(ke @eM), ?_⟩
   exact⟨(mW (mW hE Gc) ⟨gF,trivial⟩),rfl,G1,rfl,(hA.le oM).app.app⟩
  |some p=>
   obtain⟨tb,log,at_⟩:=p
   rw[hr] at bH
   obtain⟨vt,vl,rfl,jH,iW⟩:=bH
   refine ko @eM ?_
   refine Ow.alloc rfl rfl m7 fun b6 gx gF=> ?_
   simp only[ag,List.nil_append,List.cons_append]
   have k6:=fun o=>jQ (o:=o) gx
   have s6:=fun o x=>zA (o:=o) (x:=x) gx
   have stz:=yn (.slice none 0 0) (.slice none 0 0) vt vl 73 (uS jH).1 (uS iW).1
   have e2: ((0:Int) !=0)=false:=rfl
   refine ko (aN @eM (aN @k6 (aN @s6 (aN @stz @n8)))) ?_
   refine kz [1000010] (aN @eM @e2) ?_
   have mr:New w.heap.size (D2++ [(b6,Obj.cells #[vt,vl] 73 (0,0))]):=Gc.app ⟨gF,trivial⟩
   refine Cw.permL (M:=X1++ (D2++ [(b6, .cells #[vt,vl] 73 (0,0))])) pM ?_
   have jf:Ext w X (X1++ (D2++ [(b6,Obj.cells #[vt,vl] 73 (0,0))])):=mW hE mr
   refine Cw.cutO (G:=BnG) [9,38,39,40,41,42,43,44,45,46,47,48,49] (fun g=> []) (fun g=>g.X++ (D2++ [(b6, .cells #[vt,vl] 73 (0,0))])) (fun g=>Ext w X (g.X++ (D2++ [(b6,Obj.cells #[vt,vl] 73 (0,0))]))∧g.G.bd=G1.bd∧DkA g.X g.G g.S (N+84)∧(if at_<s.length then bN S1 aJ aL (s.take at_) false else(0,S1))=(0,g.S)) ?_ ?_
   ·by_cases zb:at_<s.length
    ·have dat:decide ((at_:Int)< (s.length:Int))=true:=aW oM
     have dE: (s.take at_).length<1000000:=by rw[List.length_take];omega
     refine ky (aN @eM @dat) ?_
     refine Ow.callX (X:=X1) (Y:=D2++ [(b6, .cells #[vt,vl] 73 (0,0))]) rfl rfl rfl call87 (fun w' aA aj ad=>Lm X1 G1 S1 (N+42) aJ aL (s.take at_) w' aj ad hA oM (by decide) oM) (fun v7 D7 ox jD=> ?_)
     obtain⟨q,Jr⟩: ∃q,q=bN S1 aJ aL (s.take at_) false:=⟨_,rfl⟩
     rw[←Jr] at jD
     have he:q.1≠0→endB S1 s (tb,log,at_)=(none,q):=fun h0=>by
      unfold endB
      simp only[if_pos zb]
      rw[←Jr,if_pos h0]
     have hJ: (if at_<s.length then bN S1 aJ aL (s.take at_) false else(0,S1))=q:=by rw[if_pos zb,Jr]
     clear Jr
     obtain⟨qe,qs⟩:=q
     obtain⟨rfl,G7,gy,mB⟩:=jD
     simp only at he mB ⊢
     have km:=jf.came ox
     have kP:=nj qe
     by_cases h0:qe=0
     ·rw[ah (by simpa using h0)] at kP
      refine ko (aN @eM @kP) ?_
      refine ky (aN @eM @kP) ?_
      exact CutO.mk ⟨[],0,qs,G7,D7⟩ ⟨km,gy,mB,by rw[hJ,h0]⟩ rfl rfl
     rw[aW h0] at kP
     refine ko (aN @eM @kP) ?_
     refine ky (aN @eM @kP) ?_
     refine⟨_,(ke @eM), ?_⟩
     refine⟨km, ?_⟩
     rw[he h0]
     exact⟨rfl,G7,gy,mB.app⟩
    have dat:decide ((at_:Int)< (s.length:Int))=false:=ah oM
    refine ky (aN @eM @dat) ?_
    exact CutO.mk ⟨[],0,S1,G1,X1⟩ ⟨jf,rfl,hA.le oM,by rw[if_neg zb]⟩ rfl rfl
   intro g j hg
   refine kv ?_
   clear hE jf hA
   obtain⟨s3,e3,S3,G3,X3⟩:=g
   simp only at hg ⊢
   obtain⟨hE,GW,hA,hq⟩:=hg
   rw[←GW]
   clear GW
   have heb:endB S1 s (tb,log,at_)=if(bU S3 aJ aL).2≠0 then(none,(bU S3 aJ aL).2,(bU S3 aJ aL).1) else(some ⟨tb,log,log.length⟩,0,(bU S3 aJ aL).1):=by
    unfold endB
    simp only[hq]
    rw[if_neg (by simp)]
   rw[heb]
   refine Cw.world fun wz gG=> ?_
   have r6:aT w (X3++ (D2++ [(b6,Obj.cells #[vt,vl] 73 (0,0))])) b6=some (.cells #[vt,vl] 73 (0,0)):=ac (vY gG.nodup (by simp))
   clear gG wz
   refine ky (aN @eM @r6) ?_
   refine Ow.build (.agg #[vp G3.bd 0,vt,vl,vi 0]) rfl (Ti G3.bd 0 vt vl) ?_
   refine ko @eM ?_
   refine Ow.box rfl rfl fun bo fW hwo=> ?_
   simp only[ck,cV,ce,ag]
   refine Ow.permL (M:=(bo, .cells #[vp G3.bd 0,vt,vl,vi 0] 151 (0,0)):: (X3++ (D2++ [(b6, .cells #[vt,vl] 73 (0,0))]))) pM ?_
   have hEo:Ext w X ((bo, .cells #[vp G3.bd 0,vt,vl,vi 0] 151 (0,0)):: (X3++ (D2++ [(b6, .cells #[vt,vl] 73 (0,0))]))):=(mW hE (E:= [(bo,Obj.cells #[vp G3.bd 0,vt,vl,vi 0] 151 (0,0))]) ⟨hwo,trivial⟩).perm pM
   have hPo:BoP bo G3.bd S3 (N+84) ⟨tb,log,0⟩ ((bo, .cells #[vp G3.bd 0,vt,vl,vi 0] 151 (0,0)):: (X3++ (D2++ [(b6, .cells #[vt,vl] 73 (0,0))]))):=⟨G3,vt,vl,X3,D2++ [(b6, .cells #[vt,vl] 73 (0,0))],rfl,⟨List.Perm.refl _,hA,jH.mono fun p hp=>bl _ hp,iW.mono fun p hp=>bl _ hp⟩⟩
   generalize (bo,Obj.cells #[vp G3.bd 0,vt,vl,vi 0] 151 (0,0)):: (X3++ (D2++ [(b6, .cells #[vt,vl] 73 (0,0))]))=L0 at*
   refine ko @eM ?_
   refine ky @eM ?_
   refine Ow.callX (X:=L0) (Y:= []) (List.append_nil _).symm rfl rfl call42 (fun w' aA aj ad=>KY bo G3.bd S3 (N+84) ⟨tb,log,0⟩ L0 w' aj ad hPo) (fun v5 D5 uZ rN=> ?_)
   rw[List.append_nil]
   have jB:=hEo.came0 uZ
   by_cases h5: (bU S3 aJ aL).2=0
   ·have hsb:kD S3 ⟨tb,log,0⟩=(0,(bU S3 aJ aL).1,⟨tb,log,log.length⟩):=by
     unfold kD
     rw[if_neg (by simpa using h5)]
    rw[hsb] at rN
    obtain⟨rfl,lQ⟩:=rN
    rw[if_neg (by simpa using h5)]
    have e0: (((0:Nat):Int) !=0)=false:=rfl
    refine ko (aN @eM @e0) ?_
    refine ky (aN @eM @e0) ?_
    refine⟨_,(ke @eM), ?_⟩
    exact⟨jB,bo,rfl,lQ⟩
   have hsb:kD S3 ⟨tb,log,0⟩=((bU S3 aJ aL).2,(bU S3 aJ aL).1,⟨tb,log,0⟩):=by
    unfold kD
    rw[if_pos h5]
   rw[hsb] at rN
   obtain⟨rfl,lQ⟩:=rN
   rw[if_pos h5]
   refine Ow.world fun wz gG=> ?_
   have hnd5:=gG.nodup
   clear gG wz
   have mR:=nj (bU S3 aJ aL).2
   rw[aW h5] at mR
   refine ko (aN @eM @mR) ?_
   refine ky (aN @eM @mR) ?_
   refine⟨_,(ke @eM), ?_⟩
   exact⟨jB,rfl,lQ.dk hnd5⟩
 rw[if_pos he]
 rw[aW he] at aU
 refine kz [1000010] (aN @eM @aU) ?_
 refine⟨_,(ke @eM), ?_⟩
 exact⟨hE,rfl,G1,rfl,hA.le oM⟩
def mj (S:DiskL) (B:BkL) (nm:List UInt8) (old id:IdL):Nat×DiskL×BkL:=
 if nD B.t B.l nm≠old.l then(12,S,B) else
 if¬ (bV B.t B.l=true∧cN nm=true) then(1,S,B) else
 if bV B.t (B.l++ [⟨nm,id⟩])=false then(18,S,B) else
 if(bW S aJ aL (eQ (ep ⟨nm,id⟩))).2≠0 then((bW S aJ aL (eQ (ep ⟨nm,id⟩))).2,(bW S aJ aL (eQ (ep ⟨nm,id⟩))).1,B) else
 (0,(bW S aJ aL (eQ (ep ⟨nm,id⟩))).1,{B with l:=B.l++ [⟨nm,id⟩]})
def ax1_ (l l':List UInt8) (h:l.length=32∧l'.length=32):ab prog .neq 24 (.agg (a8 l)) (.agg (a8 l'))=some (.bool (!(l==l'))):=
 Dl underlying24 underlying5 ag5 kR l l' h
def DkA.app2 {X X':aB} {G G':DkG} {S:DiskL} {N:Nat} {nm s:List UInt8} (h:DkA X G S N) (hP:DkP X' G' (bW S aJ nm s).1):DkA X' G' (bW S aJ nm s).1 N:=⟨hP,OY h.H _ _ _,QR h.B _ _ _⟩
def AddS.form {n:Nat} {t l:List RefL} {nm:List UInt8} {id:IdL} {v:Value} {D:aB} (h:AddS n t l nm id v D): ∃va vb s,∃e:Nat,v= .tuple #[.agg #[va,vb],vs s,vi (e:Nat)]∧Value.oneCell' va=true∧Value.oneCell' vb=true∧
  ((¬ (bV t l=true∧cN nm=true)∧e=1)∨((bV t l=true∧cN nm=true)∧bV t (l++ [⟨nm,id⟩])=false∧e=18)∨
   ((bV t l=true∧cN nm=true)∧bV t (l++ [⟨nm,id⟩])=true∧e=0∧s=eQ (ep ⟨nm,id⟩)∧GrI D 149 33 va t.length (t.map aH).flatten∧GrI D 149 33 vb (l++ [(⟨nm,id⟩:RefL)]).length ((l++ [(⟨nm,id⟩:RefL)]).map aH).flatten)):=by
 unfold AddS at h
 by_cases hr:bV t l=true∧cN nm=true
 ·rw[if_pos hr] at h
  by_cases h2:bV t (l++ [⟨nm,id⟩])=true
  ·rw[if_pos h2] at h
   obtain⟨vt,vl,rfl,h3,h4⟩:=h
   exact⟨vt,vl,_,0,rfl,(uS h3).1,(uS h4).1, .inr (.inr ⟨hr,h2,rfl,rfl,h3,by rw[List.length_append];exact h4⟩)⟩
  rw[if_neg h2] at h
  exact⟨_,_,_,18,h,rfl,rfl, .inr (.inl ⟨hr,by simpa using h2,rfl⟩)⟩
 rw[if_neg hr] at h
 exact⟨_,_,_,1,h,rfl,rfl, .inl ⟨hr,rfl⟩⟩
def T7 {r:RefL} (h:r.name.length<1000000): (eQ (ep r)).length<1001000:=by
 have h1:=ij (r.name.length:Int)
 have h2:=r.id.h
 have h3:=ij ((gZ (ep r)).length:Int)
 have h4:=As (ep r)
 simp only[eQ,dz,List.length_append] at h3 ⊢
 rw[h4] at h3 ⊢
 simp only[ep,dz,List.length_append,List.length_cons,List.length_nil] at h3 ⊢
 omega
def axH_ {n:Nat} {E:aB} {o:Obj} {Q:Nat→Prop} (h:E= []∨ ∃b,E= [(b,o)]∧n≤b∧Q b):New n E:=by
 rcases h with rfl| ⟨b,rfl,h,-⟩
 ·trivial
 exact⟨h,trivial⟩
def gd:=aN (aN (aN (aN @bB @bA) (aN @Sx.tup2_0 @Sx.tup2_1)) (aN (aN @tup3_0 @tup3_1) (aN @tup3_2 @sj))) (aN (aN (aN @s_ @sg) (aN @sm @sy)) (aN (aN @qA @A3) (aN @J3 (aN @ax1_ @nX))))
def wS_ (bo bd:Nat) (S:DiskL) (N:Nat) (B:BkL) (nm:List UInt8) (old id:IdL) (X:aB) (w:World) (hX: ∀p,p∈X→w.heap[p.1]? =some p.2) (hn: (keys X).Nodup) (hP:BoP bo bd S N B X) (hN:N<600000) (hC:GlobC w) (ur: (4:Nat)∉keys X)
  (dE:B.t.length<1000) (eK:B.l.length<1000) (dS:ig B.t) (bI:ig B.l) (ec:nm.length<1000000):
  Rets prog 41 #[vp bo 0,vs nm, .agg (a8 old.l), .agg (a8 id.l)] w (XS w X (fun v D=>v=vi ((mj S B nm old id).1:Nat)∧BoP bo bd (mj S B nm old id).2.1 N (mj S B nm old id).2.2 D)):=by
 have lP:=hP
 obtain⟨G,vt,vl,D,K,rfl,hA⟩:=hP
 have iA:=old.h
 have HO:=id.h
 have vH:=Le B.t B.l nm
 have fP:X.Perm (D++ ((bo,Obj.cells #[vp G.bd 0,vt,vl,vi (B.n:Nat)] 151 (0,0))::K)):=hA.perm.trans pM
 refine Rets.enterX func41 rfl (rs:= [.tmp 8]) results41 ntmps41 hX hn ?_
 refine kf ?_
 refine ky @gd ?_
 refine Ow.box rfl rfl fun b6 gx gF=> ?_
 simp only[ck,cV,ce,ag]
 refine ko @gd ?_
 refine Ow.box rfl rfl fun b7 gy fZ=> ?_
 simp only[ck,cV,ce,ag]
 have hpL: (X++ [(b6,Obj.cells (a8 old.l) 24 (0,0))]++ [(b7,Obj.cells (a8 id.l) 24 (0,0))]).Perm ((b7, .cells (a8 id.l) 24 (0,0)):: (b6, .cells (a8 old.l) 24 (0,0)):: (bo, .cells #[vp G.bd 0,vt,vl,vi (B.n:Nat)] 151 (0,0)):: (D++K)):=((hA.perm.append_right _).append_right _).trans pM
 refine Ow.permL hpL.symm ?_
 refine Ow.world fun wz gG=> ?_
 have ao:=gG.nodup
 clear gG wz
 have aU:b7≠b6∧b7≠bo∧b6≠bo∧b7∉keys K∧b6∉keys K∧b7∉keys D∧b6∉keys D:=by
  simp only[keys,List.map_cons,List.map_append,List.nodup_cons,List.mem_cons,List.mem_append,not_or] at ao ⊢
  exact⟨ao.1.1,ao.1.2.1,ao.2.1.1,ao.1.2.2.2,ao.2.1.2.2,ao.1.2.2.1,ao.2.1.2.1⟩
 obtain⟨lT,mw,yE,hn4,mR,hn6,kP⟩:=aU
 refine ko @gd ?_
 refine ky @gd ?_
 have hPW: ∀w' L',Hp w L' w'→(∀p,p∈ ((bo,Obj.cells #[vp G.bd 0,vt,vl,vi (B.n:Nat)] 151 (0,0)):: (D++K))→p∈L')→BoW w' bo G.bd B:=fun w' L' aA GX=>lP.W fun b o hm=>aA.has b o (GX _ (hA.perm.mem_iff.1 hm))
 unfold mj
 refine Cw.regionS [b6] [0,1,3,2,4,5] [] kR kR kR ?_
 simp only[bF, ↓bE, ↓ay, ↓bD, ↓bC,az]
 refine kq @gd ?_
 refine Ow.soft rfl rfl rfl ?_
 refine Ow.callC rfl rfl call40 (fun w' aA=>Ls bo G.bd B nm w' (hPW w' _ aA (fun p hp=>av _ (av _ hp))) oM oM dS bI) (fun B1 v1 D1 eF dV bX bu=> ?_)
 subst bu
 have dL:=bX.mono dV
 with_reducible refine Ow.nil ?_
 refine⟨ma (fun b hb=>by rw[List.mem_singleton.1 hb];simp[keys]), ?_⟩
 have dC: (nD B.t B.l nm).length=32∧old.l.length=32:=⟨vH,iA⟩
 refine kq @gd ?_
 have fp:Ext w X ((b7, .cells (a8 id.l) 24 (0,0)):: (b6, .cells (a8 old.l) 24 (0,0)):: (bo, .cells #[vp G.bd 0,vt,vl,vi (B.n:Nat)] 151 (0,0)):: (D++K)):=(mW (mW (Ext.refl w X) (E:= [(b6,Obj.cells (a8 old.l) 24 (0,0))]) ⟨gF,trivial⟩) (E:= [(b7,Obj.cells (a8 id.l) 24 (0,0))]) ⟨fZ,trivial⟩).perm hpL.symm
 have bq:=mW fp dL
 by_cases J_:nD B.t B.l nm=old.l
 ·have hb: (!(nD B.t B.l nm==old.l))=false:=by rw[J_];simp
  rw[if_neg (by simpa using J_)]
  refine ky (aN @gd @hb) ?_
  have bw:Ext w X ((b7, .cells (a8 id.l) 24 (0,0)):: (b6, .cells (a8 old.l) 24 (0,0)):: (bo, .cells #[vp G.bd 0,vt,vl,vi (B.n:Nat)] 151 (0,0)):: (D++K++D1)):=bq.perm pM
  have hm7: (b7,Obj.cells (a8 id.l) 24 (0,0))∈ (b7,Obj.cells (a8 id.l) 24 (0,0)):: (b6, .cells (a8 old.l) 24 (0,0)):: (bo, .cells #[vp G.bd 0,vt,vl,vi (B.n:Nat)] 151 (0,0)):: (D++K++D1):=by simp
  have l6: (bo,Obj.cells #[vp G.bd 0,vt,vl,vi (B.n:Nat)] 151 (0,0))∈ (b7,Obj.cells (a8 id.l) 24 (0,0)):: (b6, .cells (a8 old.l) 24 (0,0)):: (bo, .cells #[vp G.bd 0,vt,vl,vi (B.n:Nat)] 151 (0,0)):: (D++K++D1):=by simp
  have hmK: ∀p,p∈K→p∈ (b7,Obj.cells (a8 id.l) 24 (0,0)):: (b6, .cells (a8 old.l) 24 (0,0)):: (bo, .cells #[vp G.bd 0,vt,vl,vi (B.n:Nat)] 151 (0,0)):: (D++K++D1):=fun p hp=>by simp[hp]
  have hpL0: ((b7,Obj.cells (a8 id.l) 24 (0,0)):: (b6, .cells (a8 old.l) 24 (0,0)):: (bo, .cells #[vp G.bd 0,vt,vl,vi (B.n:Nat)] 151 (0,0)):: (D++K++D1)).Perm ((bo, .cells #[vp G.bd 0,vt,vl,vi (B.n:Nat)] 151 (0,0)):: (D++ (K++ ((b7, .cells (a8 id.l) 24 (0,0)):: (b6, .cells (a8 old.l) 24 (0,0))::D1)))):=pM
  refine Cw.world fun wz gG=> ?_
  have Hd:=gG.nodup
  clear gG wz
  generalize (b7,Obj.cells (a8 id.l) 24 (0,0)):: (b6, .cells (a8 old.l) 24 (0,0)):: (bo, .cells #[vp G.bd 0,vt,vl,vi (B.n:Nat)] 151 (0,0)):: (D++K++D1)=L0 at*
  have r7:aT w L0 b7=some (.cells (a8 id.l) 24 (0,0)):=ac (vY Hd hm7)
  have ro:aT w L0 bo=some (.cells #[vp G.bd 0,vt,vl,vi (B.n:Nat)] 151 (0,0)):=ac (vY Hd l6)
  have hk7:b7∈keys L0:=List.mem_map_of_mem hm7
  have Jk:bo∈keys L0:=List.mem_map_of_mem l6
  refine Cw.regionD [bo,b7] [12] 11 9 73 14 _ rfl kR kR rfl kR m7 (fun hD=> ?_)
  simp only[List.replicate_succ,List.replicate_zero]
  refine OwD.run [0,1,2,3,4,5] [true,true,true,true,true,true,false,false,false,false,false,false,false,false,false] 8 rfl hD kR fun k hk=> ?_
  simp only[bF, ↓bE, ↓ay, ↓bD, ↓bC,az]
  simp(disch:=first|exact dD|fail) only[↓Sx.S0,Sx.S1,fx,gd,Nat.reduceAdd,Nat.reducePow,Int.reducePow,Nat.reduceBEq, ↓reduceIte,UInt8.reduceToNat,UInt16.reduceToNat,UInt32.reduceToNat,UInt64.reduceToNat,Int.reduceToNat,Md.next_sofnil,ro,r7]
  (with_reducible refine hk _ _ _ ?_);clear hk k
  refine OwD.soft 6 _ hD rfl kR (fun E jf=> ?_)
  have hEE:=mW bw (axH_ jf)
  have hmE: ∀p,p∈K→p∈L0++E:=fun p hp=>bl _ (hmK p hp)
  refine Ow.callC rfl rfl call83 (fun w' aA=>V3 vt vl B.t B.l nm id w' (q_ hC hEE aA ur) (jX hA.t fun b o hm=>aA.has b o (hmE _ hm)) (jX hA.l fun b o hm=>aA.has b o (hmE _ hm)) dE eK dS bI ec) (fun B3 v3 D3 fU kI gL jl=> ?_)
  have mE:=gL.mono kI
  obtain⟨va,vb,s,e,rfl,yH,ho2,df⟩:=AddS.form (n:=0) jl
  with_reducible refine Ow.nil ?_
  refine⟨_,u0,ma (fun r hr=>by simp only[List.mem_cons,List.not_mem_nil,or_false] at hr;rcases hr with rfl|rfl;exact Jk;exact hk7), ?_⟩
  simp only[List.set_cons_zero,List.set_cons_succ,k7,iP,iQ]
  refine OwD.run [7,8,9,10] [true,true,true,true,true,true,true,true,true,true,true,false,false,false,false] 3 rfl hD kR fun k hk=> ?_
  simp only[bF, ↓bE, ↓ay, ↓bD, ↓bC,az]
  simp(disch:=first|exact dD|fail) only[↓Sx.S0,Sx.S1,fx,gd,Nat.reduceAdd,Nat.reducePow,Int.reducePow,Nat.reduceBEq, ↓reduceIte,UInt8.reduceToNat,UInt16.reduceToNat,UInt32.reduceToNat,UInt64.reduceToNat,Int.reduceToNat,Md.next_sofnil,tup3_0,tup3_1,tup3_2]
  (with_reducible refine hk _ _ _ ?_);clear hk k
  refine OwD.real [12,13,14] rfl hD kR kR kR kR (fun r hr=>by simp only[List.mem_cons,List.not_mem_nil,or_false] at hr;rw[ae];rcases hr with rfl|rfl;exact .inl (bl _ Jk);exact .inl (bl _ hk7)) ?_
  simp only[bF, ↓bE, ↓ay, ↓bD, ↓bC,az]
  intro b9 jN kK
  simp only[iP,iQ]
  refine Ow.store rfl rfl rfl (L':=L0++D3++ [(b9, .cells #[va,vb] 73 (0,0))]) ?_ ?_
  ·simp only[ck,cV,ce]
   have bL:aw (some (true,2)) (some (Obj.cells (Value.cells (.agg #[.slice none 0 0, .slice none 0 0])) 73 (0,0))) 0 (.agg #[va,vb])=some (.cells #[va,vb] 73 (0,0)):=by
    rw[ag];exact yn _ _ _ _ _ yH ho2
   rw[ag73,AD,KZ kK,bL,zH,LW kK]
   exact []
  have yK: (L0++D3++ [(b9,Obj.cells #[va,vb] 73 (0,0))]).Perm ((bo, .cells #[vp G.bd 0,vt,vl,vi (B.n:Nat)] 151 (0,0)):: (b9, .cells #[va,vb] 73 (0,0)):: (D++ (K++ (((b7, .cells (a8 id.l) 24 (0,0)):: (b6, .cells (a8 old.l) 24 (0,0))::D1)++D3)))):=((hpL0.append_right _).append_right _).trans pM
  have mp:=(mW (mW bw mE) (E:= [(b9,Obj.cells #[va,vb] 73 (0,0))]) ⟨jN,trivial⟩).perm yK.symm
  have hgD: ∀p,p∈D3→p∈ ((b7,Obj.cells (a8 id.l) 24 (0,0)):: (b6, .cells (a8 old.l) 24 (0,0))::D1)++D3:=fun p hp=>db _ hp
  generalize ((b7,Obj.cells (a8 id.l) 24 (0,0)):: (b6, .cells (a8 old.l) 24 (0,0))::D1)++D3=R0 at yK mp hgD
  have qM:bo≠b9:=fun e=>kK (by rw[ae];exact bl _ (e▸Jk))
  have ro9:aT w (L0++D3++ [(b9,Obj.cells #[va,vb] 73 (0,0))]) bo=some (.cells #[vp G.bd 0,vt,vl,vi (B.n:Nat)] 151 (0,0)):=by
   rw[List.append_assoc,yr Jk];exact ro
  rcases df with⟨hr,rfl⟩ | ⟨hr,h2,rfl⟩ | ⟨hr,h2,rfl,rfl,rP,mv⟩
  ·have e1: (((1:Nat):Int) !=0)=true:=rfl
   rw[if_pos hr]
   refine ko (aN @gd @e1) ?_
   refine ky (aN @gd @e1) ?_
   refine⟨_,(ke @gd), ?_⟩
   exact⟨mp.perm yK,rfl,G,vt,vl,D,(b9, .cells #[va,vb] 73 (0,0)):: (K++R0),rfl,⟨yK.trans pM,hA.D,hA.t.mono fun p hp=>av _ (bl _ hp),hA.l.mono fun p hp=>av _ (bl _ hp)⟩⟩
  ·have e1: (((18:Nat):Int) !=0)=true:=rfl
   rw[if_neg (by simpa using hr),if_pos h2]
   refine ko (aN @gd @e1) ?_
   refine ky (aN @gd @e1) ?_
   refine⟨_,(ke @gd), ?_⟩
   exact⟨mp.perm yK,rfl,G,vt,vl,D,(b9, .cells #[va,vb] 73 (0,0)):: (K++R0),rfl,⟨yK.trans pM,hA.D,hA.t.mono fun p hp=>av _ (bl _ hp),hA.l.mono fun p hp=>av _ (bl _ hp)⟩⟩
  have e1: (((0:Nat):Int) !=0)=false:=rfl
  rw[if_neg (by simpa using hr),if_neg (by rw[h2];decide)]
  refine ko (aN @gd (aN @e1 @ro9)) ?_
  refine ky (aN @gd (aN @e1 @ro9)) ?_
  have rU: (D++ ((bo,Obj.cells #[vp G.bd 0,vt,vl,vi (B.n:Nat)] 151 (0,0)):: (b9, .cells #[va,vb] 73 (0,0)):: (K++R0))).Perm ((bo, .cells #[vp G.bd 0,vt,vl,vi (B.n:Nat)] 151 (0,0)):: (b9, .cells #[va,vb] 73 (0,0)):: (D++ (K++R0))):=pM
  refine Ow.permL (rU.trans yK.symm) ?_
  have oA:=T7 (r:=⟨nm,id⟩) ec
  refine Ow.callX (X:=D) (Y:=(bo, .cells #[vp G.bd 0,vt,vl,vi (B.n:Nat)] 151 (0,0)):: (b9, .cells #[va,vb] 73 (0,0)):: (K++R0)) rfl rfl rfl call84 (fun w' aA aj ad=>X9_ D G S aJ aL (eQ (ep ⟨nm,id⟩)) w' aj ad hA.D.P (by decide) oM (hA.D.used oM)) (fun v5 D5 uZ rN=> ?_)
  obtain⟨rfl,lQ⟩:=rN
  have xV:=hA.D.app2 lQ
  have jB:=(mp.perm rU).came uZ
  have pD: (D5++ ((bo,Obj.cells #[vp G.bd 0,vt,vl,vi (B.n:Nat)] 151 (0,0)):: (b9, .cells #[va,vb] 73 (0,0)):: (K++R0))).Perm ((bo, .cells #[vp G.bd 0,vt,vl,vi (B.n:Nat)] 151 (0,0)):: (b9, .cells #[va,vb] 73 (0,0)):: (D5++ (K++R0))):=pM
  refine Ow.permL pD.symm ?_
  have jf:=jB.perm pD.symm
  have mR:=nj (bW S aJ aL (eQ (ep ⟨nm,id⟩))).2
  by_cases h0: (bW S aJ aL (eQ (ep ⟨nm,id⟩))).2=0
  ·rw[if_neg (by simpa using h0)]
   rw[ah (by simpa using h0)] at mR
   have st:=G5 (vp G.bd 0) vt vl (vi (B.n:Nat)) va vb 151 yH ho2
   refine ko (aN @gd @mR) ?_
   refine ky (aN @gd (aN @mR @st)) ?_
   refine⟨_,(ke @gd), ?_⟩
   have km:Ext w X ((bo, .cells #[vp G.bd 0,va,vb,vi (B.n:Nat)] 151 (0,0)):: (b9, .cells #[va,vb] 73 (0,0)):: (D5++ (K++R0))):=jf.keys rfl
   exact⟨km,rfl,G,va,vb,D5,(b9, .cells #[va,vb] 73 (0,0)):: (K++R0),rfl,⟨pM,xV,rP.mono fun p hp=>av _ (db _ (hgD p hp)),mv.mono fun p hp=>av _ (db _ (hgD p hp))⟩⟩
  rw[if_pos h0]
  rw[aW h0] at mR
  refine ko (aN @gd @mR) ?_
  refine ky (aN @gd @mR) ?_
  refine⟨_,(ke @gd), ?_⟩
  exact⟨jf,rfl,G,vt,vl,D5,(b9, .cells #[va,vb] 73 (0,0)):: (K++R0),rfl,⟨pM,xV,hA.t.mono fun p hp=>av _ (bl _ hp),hA.l.mono fun p hp=>av _ (bl _ hp)⟩⟩
 have hb: (!(nD B.t B.l nm==old.l))=true:=by simpa using J_
 rw[if_pos J_]
 refine ky (aN @gd @hb) ?_
 refine⟨_,(ke @gd), ?_⟩
 exact⟨bq,rfl,G,vt,vl,D,K++ ((b7, .cells (a8 id.l) 24 (0,0)):: (b6, .cells (a8 old.l) 24 (0,0))::D1),rfl,⟨pM,hA.D,hA.t.mono fun p hp=>bl _ hp,hA.l.mono fun p hp=>bl _ hp⟩⟩
def mainN:List UInt8:= [109,97,105,110]
def idO (k:UInt8):IdL:=⟨k::List.replicate 31 0,rfl⟩
def ka0:DiskL:=cT 1000
def ka1:DiskL:=(dF ka0).2.2
def kb1:BkL:=⟨[],[],0⟩
def ka2:DiskL:=(mj ka1 kb1 mainN (idO 0) (idO 1)).2.1
def kb2:BkL:=⟨[],[⟨mainN,idO 1⟩],0⟩
def ka3:DiskL:=(kD ka2 kb2).2.1
def kb3:BkL:=⟨[],[⟨mainN,idO 1⟩],1⟩
def ka4:DiskL:=gl ka3 []
def axi_: (ci ka0 aJ aL).1.length<1000000:=by decide+kernel
def axm_: (dF ka0).1=some kb1:=by kernel_rfl
def axu_:mj ka1 kb1 mainN (idO 0) (idO 1)=(0,ka2,kb2):=by kernel_rfl
def axR_:kD ka2 kb2=(0,ka3,kb3):=by kernel_rfl
def ax3_:mj ka3 kb3 mainN (idO 0) (idO 2)=(12,ka3,kb3):=by kernel_rfl
def axv_: (ci ka4 aJ aL).1.length<1000000:=by decide+kernel
def ax0_: (dF ka4).1=some kb3:=by kernel_rfl
def axj_:nD [] [⟨mainN,idO 1⟩] mainN=(idO 1).l:=by kernel_rfl
def FO:fI (d8 prog 24) (au prog 24) []=some (.agg (a8 (idO 0).l)):=id kR
def F5:fI (d8 prog 24) (au prog 24) [(0,v8 1)]=some (.agg (a8 (idO 1).l)):=id kR
def YI:fI (d8 prog 24) (au prog 24) [(0,v8 2)]=some (.agg (a8 (idO 2).l)):=id kR
theorem NewS.some {bd:Nat} {R:Option BkL×Nat×DiskL} {N:Nat} {v:Value} {D:aB} {B:BkL} (h:R.1=some B) (hS:NewS bd R N v D): ∃bo,v= .tuple #[vp bo 0,vi 0]∧BoP bo bd R.2.2 N B D:=by
 unfold NewS at hS;rw[h] at hS;exact hS
def lD {w:World} {L:aB} (h:GlobC w) (hn:New w.heap.size L): (4:Nat)∉keys L:=by
 obtain⟨e,f,h⟩:=h
 exact hn.not (Array.getElem?_eq_some_iff.1 h).1
def sO:ig []:=fun g hg=>absurd hg (Nat.not_lt_zero g)
def FZ:ig [⟨mainN,idO 1⟩]:=fun g hg=>by
 obtain rfl:g=0:=by simpa using hg
 show mainN.length<_
 decide
def axA_:ab prog .eql 24 (.agg (a8 (idO 1).l)) (.agg (a8 (idO 1).l))=some (.bool true):=by
 rw[eqId _ _ ⟨(idO 1).h,(idO 1).h⟩];simp
def iN:=aN (aN (aN @bB @bA) (aN @Sx.tup2_0 @Sx.tup2_1)) (aN (aN @tup3_0 @tup3_1) (aN @tup3_2 @nX))
def I8 (w:World) (hG:oX w) (hC:GlobC w):Rets prog 36 #[] w (fun v D=>v= .bool true∧D= []):=by
 refine Rets.enterV func36 rfl (rs:= [.tmp 0]) results36 ntmps36 ?_
 refine kf ?_
 refine ky @iN ?_
 refine Ow.callC rfl rfl call80 (fun w' aA=>Ku 1000 w' (by decide) (li hG aA trivial)) (fun B0 v0 D0 tC zX lO Gk=> ?_)
 obtain⟨G0,rfl,lP⟩:=Gk
 rw[List.nil_append]
 have fp:Ext w [] D0:=Ext.of_new (lO.mono zX)
 have tC:DkA D0 G0 ka0 0:=⟨lP,EZ 1000,wj 1000⟩
 refine ko @iN ?_
 refine ky @iN ?_
 refine Ow.callX (X:=D0) (Y:= []) (List.append_nil _).symm rfl rfl call50 (fun w' aA aj ad=>yj D0 G0 ka0 0 w' aj ad tC oM (q_ hC fp aA (by simp[keys])) (lD hC fp.new0) axi_) (fun v1 D1 rK bu=> ?_)
 rw[List.append_nil]
 have bq:=fp.came0 rK
 obtain⟨bo,rfl,ai⟩:=bu.some axm_
 replace ai:BoP bo G0.bd ka1 84 kb1 D1:=ai
 have e0: ((0:Int) !=0)=false:=rfl
 refine ko (aN @iN @e0) ?_
 refine ky (aN @iN @e0) ?_
 refine Ow.build (.agg (a8 (idO 0).l)) rfl FO ?_
 refine ko @iN ?_
 refine Ow.build (.agg (a8 (idO 1).l)) rfl F5 ?_
 refine ko @iN ?_
 refine Ow.callX (X:=D1) (Y:= []) (List.append_nil _).symm rfl rfl call41 (fun w' aA aj ad=>wS_ bo G0.bd ka1 84 kb1 mainN (idO 0) (idO 1) D1 w' aj ad ai oM (q_ hC bq aA (by simp[keys])) (lD hC bq.new0) (by decide) (by decide) sO sO (by decide)) (fun v2 D2 hC2 bH=> ?_)
 rw[List.append_nil]
 have bw:=bq.came0 hC2
 rw[axu_] at bH
 obtain⟨rfl,dA⟩:=bH
 refine ko @iN ?_
 refine Ow.callX (X:=D2) (Y:= []) (List.append_nil _).symm rfl rfl call42 (fun w' aA aj ad=>KY bo G0.bd ka2 84 kb2 D2 w' aj ad dA) (fun v3 D3 GR jl=> ?_)
 rw[List.append_nil]
 have nu:=bw.came0 GR
 rw[axR_] at jl
 obtain⟨rfl,o_⟩:=jl
 refine ko @iN ?_
 refine ky @iN ?_
 refine Ow.build (.agg (a8 (idO 0).l)) rfl FO ?_
 refine ko @iN ?_
 refine Ow.build (.agg (a8 (idO 2).l)) rfl YI ?_
 refine ko @iN ?_
 refine Ow.callX (X:=D3) (Y:= []) (List.append_nil _).symm rfl rfl call41 (fun w' aA aj ad=>wS_ bo G0.bd ka3 84 kb3 mainN (idO 0) (idO 2) D3 w' aj ad o_ oM (q_ hC nu aA (by simp[keys])) (lD hC nu.new0) (by decide) (by decide) sO FZ (by decide)) (fun v4 D4 dc bQ=> ?_)
 rw[List.append_nil]
 have jA:=nu.came0 dc
 rw[ax3_] at bQ
 obtain⟨rfl,G4,vt,vl,D,K,ir,fo⟩:=bQ
 have hp4:D4.Perm (D++ ((bo,Obj.cells #[vp G4.bd 0,vt,vl,vi (kb3.n:Nat)] 151 (0,0))::K)):=fo.perm.trans pM
 have jB:=jA.perm hp4.symm
 have mq:=jB.new0
 rw[←ir]
 refine ko @iN ?_
 refine ky @iN ?_
 refine Ow.permL hp4.symm ?_
 refine Ow.callX (X:=D) (Y:=(bo, .cells #[vp G4.bd 0,vt,vl,vi (kb3.n:Nat)] 151 (0,0))::K) rfl rfl rfl call49 (fun w' aA aj ad=>KR D G4 ka3 (.slice none 0 0) [] w' aj ad fo.D.P (li hG aA mq) (fun h=>Is hG mq (by rw[ae];exact bl _ h)) ((IK (q:=(ka3,[])) fo.D.B 3).b oM) (.inl (SlV.nil w')) (fun h=>absurd rfl h) (by decide) (fun k hk=>⟨(fo.D.H k).2,fo.D.pend oM k hk⟩)) (fun v6 D6 JU Gm=> ?_)
 obtain⟨G6,gx,ue⟩:=Gm
 have jf:=jB.came JU
 have hA6:DkA D6 G6 ka4 84:=⟨ue,JQ fo.D.H _,Kr fo.D.B _⟩
 rw[←gx] at jf ⊢
 have hE6b:Ext w [] D6:=⟨fun c hc=>jf.new c (by rw[ae];exact bl _ hc),fun c hc=>by cases hc⟩
 refine ko @iN ?_
 refine ky @iN ?_
 refine Ow.callX (X:=D6) (Y:=(bo, .cells #[vp G6.bd 0,vt,vl,vi (kb3.n:Nat)] 151 (0,0))::K) rfl rfl rfl call50 (fun w' aA aj ad=>yj D6 G6 ka4 84 w' aj ad hA6 oM (q_ hC jf aA (by simp[keys])) (lD hC hE6b.new0) axv_) (fun v7 D7 ox jD=> ?_)
 have km:=jf.came ox
 obtain⟨bo2,rfl,xc⟩:=jD.some ax0_
 have mF:=km.new0
 have hWo: ∀w' L',Hp w L' w'→(∀p,p∈ ((bo,Obj.cells #[vp G6.bd 0,vt,vl,vi (kb3.n:Nat)] 151 (0,0))::K)→p∈L')→BoW w' bo G6.bd kb3:=fun w' L' aA GX=>⟨vt,vl,aA.has _ _ (GX _ aa),jX fo.t fun b o hm=>aA.has b o (GX _ (av _ hm)),jX fo.l fun b o hm=>aA.has b o (GX _ (av _ hm))⟩
 have c0: (((0:Nat):Int)==0)=true:=rfl
 have c1: (((12:Nat):Int)==12)=true:=rfl
 have c2: ((0:Int)==0)=true:=rfl
 have c3: (((1:Nat):Int)==1)=true:=rfl
 refine ko (aN @iN (aN @c0 (aN @c1 @c2))) ?_
 refine ky (aN @iN (aN @c0 (aN @c1 @c2))) ?_
 refine Ow.callC rfl rfl call40 (fun w' aA=>Ls bo2 G6.bd kb3 mainN w' (xc.W fun b o hm=>aA.has b o (bl _ hm)) (by decide) (by decide) sO FZ) (fun B8 v8 D8 JT rJ rM Gn=> ?_)
 subst Gn
 rw[show nD kb3.t kb3.l mainN=(idO 1).l from axj_]
 refine ko (aN @iN (aN @c0 (aN @c1 @c2))) ?_
 refine Ow.build (.agg (a8 (idO 1).l)) rfl F5 ?_
 refine ko (aN @iN (aN @axA_ (aN @c0 (aN @c1 @c2)))) ?_
 refine Ow.callFV rfl call43 (fun w' aA=>M2 bo G6.bd kb3 w' (hWo w' _ aA (fun p hp=>by simp only[List.mem_append];exact .inl (.inr hp)))) ?_
 have c4: (((kb3.n:Nat):Int)==1)=true:=rfl
 refine ko (aN @iN @c4) ?_
 refine ky (aN @iN @c4) ?_
 refine⟨_,(ke @iN),mF.app (rM.mono rJ), ?_⟩
 rfl
end Go.Proofs
end
section
open Go Go.Proofs Go.Sx Go.RefP
namespace Go.Proofs
def oY (x:RefL):List RefL→Bool→List RefL
 | [],dn=>if dn then [] else [x]
 |p::r,dn=>if p.name==x.name then oY x r dn else if !dn&& !(ltB p.name x.name||p.name==x.name) then x::p::oY x r true else p::oY x r dn
def setR (l:List RefL) (x:RefL):List RefL:=oY x l (x.id.l==z32)
theorem Ia (x:RefL): ∀ (l:List RefL) (dn:Bool),prs (oY x l dn)=nL (x.name,x.id.l) (prs l) dn
 | [],dn=>by cases dn<;>rfl
 |p::r,dn=>by
  unfold oY
  have e:prs (p::r)=(p.name,p.id.l)::prs r:=rfl
  rw[e,nL]
  simp only
  split
  ·exact Ia x r dn
  split
  ·show _::_::prs _=_
   rw[Ia x r true]
  show _::prs _=_
  rw[Ia x r dn]
def WV (l:List RefL) (x:RefL):prs (setR l x)=setL z32 (prs l) (x.name,x.id.l):=Ia x l _
def Zn (a b:List UInt8): (Op.bytesLess a b||a==b)= !(ltB b a):=by
 cases h:ltB b a
 ·cases h2: (a==b)
  ·have aU:a≠b:=by simpa using h2
   have:ltB a b=true:=vP h (fun e=>aU e.symm)
   show(ltB a b||false)=true
   rw[this];rfl
  simp
 have h1:ltB a b=false:=Kd h
 have h2: (a==b)=false:=by
  rw[beq_eq_false_iff_ne];exact fun e=>x8 h e.symm
 show(ltB a b||_)=false
 rw[h1,h2];rfl
def g9 (l t:List RefL):Nat→Option (List RefL)
 |0=>some t
 |g+1=>(g9 l t g).bind fun m=>if(cN (l.getD g cD).name&&decide ((setR m (l.getD g cD)).length≤16))=true then some (setR m (l.getD g cD)) else none
def vn (t:List RefL):Bool:=v_ cN z32 (prs t)
def iR (t l:List RefL) (k:Nat):Option (List RefL):=if t.length≤16∧l.length≤100∧vn t=true then g9 l t k else none
theorem EL (l t:List RefL): ∀k,k≤l.length→(g9 l t k).map prs=logL cN z32 (prs l) (prs t) k
 |0,_=>rfl
 |k+1,hk=>by
  have ih:=EL l t k oM
  unfold g9 logL
  rw[←ih]
  cases g9 l t k with
  |none=>rfl
  |some m=>
   simp only[Option.bind_some,Option.map_some]
   rw[qw l k hk,←WV,iD]
   split<;>rfl
def EN (t l:List RefL) (k:Nat) (hk:k≤l.length): (iR t l k).map prs=ofL cN z32 (prs t) (prs l) k:=by
 unfold iR ofL
 rw[iD,iD]
 by_cases h:t.length≤16∧l.length≤100∧vn t=true
 ·rw[if_pos h,if_pos (show _∧_∧v_ cN z32 (prs t)=true from h)];exact EL l t k hk
 rw[if_neg h,if_neg (show¬ (_∧_∧v_ cN z32 (prs t)=true) from h)];rfl
def LU (t l:List RefL): (iR t l l.length).isSome=bV t l:=by
 unfold bV
 rw[V5,RefP.k5,iD,←EN t l l.length (ap _)]
 cases iR t l l.length<;>rfl
def Tw {l t:List RefL} {g:Nat} (h:g9 l t g=none): ∀k,g≤k→g9 l t k=none:=by
 intro k hk
 induction hk with
 |refl=>exact h
 |step _ ih=>unfold g9;rw[ih];rfl
def BX (t:List RefL):vn t=true↔ ∀i,i<t.length→gX cN z32 (prs t) i=true:=by
 unfold vn v_;rw[List.all_eq_true,iD];simp
def ValsS (t l:List RefL) (k:Nat) (v:Value) (D:aB):Prop:=
 match iR t l k with
 |some ls=> ∃x,v= .tuple #[x, .bool true]∧GrI D 149 33 x ls.length (ls.map aH).flatten
 |none=>v= .tuple #[.slice none 0 0, .bool false]
def ValsS.no {t l:List RefL} {k:Nat} {D:aB} (h:iR t l k=none):ValsS t l k (.tuple #[.slice none 0 0, .bool false]) D:=by unfold ValsS;rw[h]
def pH:=aN (aN (aN (aN @bB @iH) (aN @iG (aN @iE @bA))) (aN (aN @rC @rA) (aN @kX (aN @ki @u3)))) (aN (aN (aN @tw @vU) (aN @u4 (aN @lZ @tup2_0))) (aN (aN @tup2_1 (aN @tz @u2)) (aN @u5 (aN @tq @tv))))
def QH_ (x y:Value) (l1 l2:List RefL) (w:World) (h1:gY w x l1) (h2:gY w y l2) (mJ:l1.length<1000000) (fX:l2.length<1000000):
  Rets prog 51 #[x,y] w (fun v D=>v= .bool (lw l1 l2)∧D= []):=by
 obtain⟨b1,o1,a1,E1,f1,r1⟩:=h1.row
 obtain⟨b2,o2,a2,E2,f2,r2⟩:=h2.row
 exact My x y b1 o1 b2 o2 l1 l2 a1 a2 E1 E2 f1 f2 w r1 r2 mJ fX
def DP (vt vl ut ul:Value) (t l t2 l2:List RefL) (w:World) (ht:gY w vt t) (hl:gY w vl l) (mU:gY w ut t2) (fX:gY w ul l2) (h1:t.length<1000000) (h2:l.length<1000000) (h3:t2.length<1000000) (h4:l2.length<1000000):
  Rets prog 38 #[.agg #[vt,vl], .agg #[ut,ul]] w (fun v D=>v= .bool (lw t t2&&lw l l2)∧D= []):=by
 refine Rets.enterV func38 rfl (rs:= [.tmp 4]) results38 ntmps38 ?_
 refine kf ?_
 refine ky @pH ?_
 refine Ow.box rfl rfl fun bx g_ bT=> ?_
 simp only[ck,cV,ce,ag,List.nil_append,List.cons_append]
 refine Ow.go rfl ?_
 simp(disch:=first|exact dD|fail) only[↓Sx.S0,Sx.S1,fx,pH,Nat.reduceAdd,Nat.reducePow,Int.reducePow,Nat.reduceBEq, ↓reduceIte,UInt8.reduceToNat,UInt16.reduceToNat,UInt32.reduceToNat,UInt64.reduceToNat,Int.reduceToNat]
 refine Ow.box rfl rfl fun by_ hby zz=> ?_
 simp only[ck,cV,ce,ag,List.nil_append,List.cons_append]
 refine Ow.go rfl ?_
 simp(disch:=first|exact dD|fail) only[↓Sx.S0,Sx.S1,fx,pH,Nat.reduceAdd,Nat.reducePow,Int.reducePow,Nat.reduceBEq, ↓reduceIte,UInt8.reduceToNat,UInt16.reduceToNat,UInt32.reduceToNat,UInt64.reduceToNat,Int.reduceToNat]
 obtain⟨vJ,-⟩:=hby
 refine ky @pH ?_
 refine Ow.callFV rfl call51 (fun w' aA=>QH_ vt ut t t2 w' (ht.oldN aA ⟨bT,zz,trivial⟩) (mU.oldN aA ⟨bT,zz,trivial⟩) h1 h3) ?_
 cases lw t t2
 ·refine ko @pH ?_
  refine ky @pH ?_
  refine⟨_,(ke @pH),⟨bT,zz,trivial⟩, ?_⟩
  rfl
 refine ko @pH ?_
 refine ky @pH ?_
 refine Ow.callFV rfl call51 (fun w' aA=>QH_ vl ul l l2 w' (hl.oldN aA ⟨bT,zz,trivial⟩) (fX.oldN aA ⟨bT,zz,trivial⟩) h2 h4) ?_
 refine ko @pH ?_
 refine ky @pH ?_
 refine⟨_,(ke @pH),⟨bT,zz,trivial⟩, ?_⟩
 rfl
end Go.Proofs
end
section
open Go Go.Proofs Go.Sx Go.StP Go.RefP
namespace Go.Proofs
structure AtL where
 kind:Int
 n:Int
 name:List UInt8
 id:IdL
 wrong:Bool
 picks:PkL
def atC (r:AtL):List Value:= [vi r.kind]++ ([vi r.n]++ ([vs r.name]++ (r.id.l.map v8++ ([Value.bool r.wrong]++ ([r.picks.v])))))
def at0:AtL:=⟨0,0,[],id0,false,pk0⟩
def Ae (r:AtL): (atC r).length=37:=by simp[atC,r.id.h]
def wQ (r:AtL):Value.cells (.agg (atC r).toArray)=(atC r).toArray:=ag _
def XV (r:AtL): (atC r).all Value.oneCell'=true:=by
 unfold atC
 simp only[List.all_append,List.all_cons,List.all_nil,vr,Bool.and_true,Bool.true_and]
 rw[r.picks.h.1];rfl
def zrAt:au prog 67=some (.agg (atC at0).toArray):=id kR
def ZZ (r:AtL):atC r=([]:List Value)++ (([vi r.kind])++ ([vi r.n]++ ([vs r.name]++ (r.id.l.map v8++ ([Value.bool r.wrong]++ ([r.picks.v])))))):=by
 unfold atC;simp only[List.append_assoc,List.nil_append,List.append_nil]
def wX (r:AtL) (n:Nat) (E:TypeId) (fz:Nat×Nat):aQ (some (false,n)) (some (.cells (atC r).toArray E fz)) 0=some (vi r.kind):=by
 rw[ZZ];exact pR _ _ _ n E fz (by simp)
def Z1 (r:AtL):atC r=(([vi r.kind]))++ (([vi r.n])++ ([vs r.name]++ (r.id.l.map v8++ ([Value.bool r.wrong]++ ([r.picks.v]))))):=by
 unfold atC;simp only[List.append_assoc,List.nil_append,List.append_nil]
def wL (r:AtL) (n:Nat) (E:TypeId) (fz:Nat×Nat):aQ (some (false,n)) (some (.cells (atC r).toArray E fz)) 1=some (vi r.n):=by
 rw[Z1];exact pR _ _ _ n E fz (by simp)
def ZT (r:AtL):atC r=(([vi r.kind])++ ([vi r.n]))++ (([vs r.name])++ (r.id.l.map v8++ ([Value.bool r.wrong]++ ([r.picks.v])))):=by
 unfold atC;simp only[List.append_assoc,List.nil_append,List.append_nil]
def wD (r:AtL) (n:Nat) (E:TypeId) (fz:Nat×Nat):aQ (some (false,n)) (some (.cells (atC r).toArray E fz)) 2=some (vs r.name):=by
 rw[ZT];exact pR _ _ _ n E fz (by simp)
def Yy (r:AtL):atC r=(([vi r.kind])++ ([vi r.n])++ ([vs r.name]))++ ((r.id.l.map v8)++ ([Value.bool r.wrong]++ ([r.picks.v]))):=by
 unfold atC;simp only[List.append_assoc,List.nil_append,List.append_nil]
def wF (r:AtL) (E:TypeId) (fz:Nat×Nat):aQ (some (true,32)) (some (.cells (atC r).toArray E fz)) 3=some (Value.agg (a8 r.id.l)):=by
 rw[Yy,Al _ _ _ E fz (by simp) (by simp[r.id.h])];rfl
def ZU (r:AtL):atC r=(([vi r.kind])++ ([vi r.n])++ ([vs r.name])++ (r.id.l.map v8))++ (([Value.bool r.wrong])++ ([r.picks.v])):=by
 unfold atC;simp only[List.append_assoc,List.nil_append,List.append_nil]
def wK (r:AtL) (n:Nat) (E:TypeId) (fz:Nat×Nat):aQ (some (false,n)) (some (.cells (atC r).toArray E fz)) 35=some (Value.bool r.wrong):=by
 rw[ZU];exact pR _ _ _ n E fz (by simp[r.id.h])
def Zg (r:AtL):atC r=(([vi r.kind])++ ([vi r.n])++ ([vs r.name])++ (r.id.l.map v8)++ ([Value.bool r.wrong]))++ (([r.picks.v])++ (([]:List Value))):=by
 unfold atC;simp only[List.append_assoc,List.nil_append,List.append_nil]
def wJ (r:AtL) (n:Nat) (E:TypeId) (fz:Nat×Nat):aQ (some (false,n)) (some (.cells (atC r).toArray E fz)) 36=some (r.picks.v):=by
 rw[Zg];exact pR _ _ _ n E fz (by simp[r.id.h])
def wy (r:AtL) (E:TypeId) (fz:Nat×Nat):aQ (some (true,37)) (some (.cells (atC r).toArray E fz)) 0=some (.agg (atC r).toArray):=rZ _ E fz 37 (by rw[List.size_toArray,Ae])
def Va (old:Array Value) (r:AtL) (a:Bool) (E:TypeId) (h:old.size=37):aw (some (a,37)) (some (.cells old E (0,0))) 0 (.agg (atC r).toArray)=some (.cells (atC r).toArray E (0,0)):=A2 _ a old E (Ae r) (XV r) h
def Sf (r r':AtL) (a:Bool) (E:TypeId):aw (some (a,37)) (some (.cells (atC r').toArray E (0,0))) 0 (.agg (atC r).toArray)=some (.cells (atC r).toArray E (0,0)):=Va _ r a E (by rw[List.size_toArray,Ae])
def Z4 {w:World} {v:Value} {l:List AtL} {b off:Nat} {arr:Array Value} {E:TypeId} {fz:Nat×Nat} (h:RowS 37 atC at0 w v l b off arr E fz) {k:Nat} (hk:k<l.length):aQ (some (true,37)) (some (.cells arr E fz)) (off+k*37)=some (.agg (atC (l.getD k at0)).toArray):=RowS.load h Ae oM hk
def nQ (a:AtL):Bool:=decide (100<a.name.length) ||decide (100<a.picks.l.length)
def TF {a:AtL} (h:nQ a=false):a.name.length≤100∧a.picks.l.length≤100:=by
 unfold nQ at h
 simp only[Bool.or_eq_false_iff,decide_eq_false_iff_not] at h
 omega
def nP:=aN (aN (aN @bB @bA) (aN @wy (aN @wX @wL))) (aN (aN @wD @wF) (aN @wK (aN @wJ @wQ)))
def OS (a:AtL) (w:World) (ha:PkS w a.picks.v a.picks.l):Rets prog 37 #[.agg (atC a).toArray] w (fun v D=>v= .bool (nQ a)∧D= []):=by
 have lnp:=ha.len
 refine Rets.enterV func37 rfl (rs:= [.tmp 2]) results37 ntmps37 ?_
 refine kf ?_
 refine kz [1] @nP ?_
 refine Ow.box rfl rfl fun b1 aO aP=> ?_
 simp only[ck,cV,ce,ag,List.nil_append,List.cons_append]
 refine Ow.go rfl ?_
 simp(disch:=first|exact dD|fail) only[↓Sx.S0,Sx.S1,fx,nP,Nat.reduceAdd,Nat.reducePow,Int.reducePow,Nat.reduceBEq, ↓reduceIte,UInt8.reduceToNat,UInt16.reduceToNat,UInt32.reduceToNat,UInt64.reduceToNat,Int.reduceToNat]
 unfold nQ
 cases h1:decide ((100:Int)< (a.name.length:Int)) with
 |true=>
  refine ky (aN @nP @h1) ?_
  refine⟨_,(ke @nP),⟨aP,trivial⟩, ?_⟩
  (rw[aW (show 100<a.name.length by have:=of_decide_eq_true h1;omega)];rfl)
 |false=>
  have g1:decide (100<a.name.length)=false:=ah (by have:=of_decide_eq_false h1;omega)
  have g4:decide (100<a.picks.l.length)=decide ((100:Int)< (a.picks.l.length:Int)):=by
   congr 1
   rw[eq_iff_iff];omega
  refine ky (aN @nP (aN @h1 @lnp)) ?_
  refine⟨_,(ke @nP),⟨aP,trivial⟩, ?_⟩
  (rw[g1,g4];rfl)
end Go.Proofs
end
section
open Go Go.Proofs Go.Sx Go.RefP
namespace Go.Proofs
def pb (a b:List UInt8):Int:=if ltB a b=true then -1 else if ltB b a=true then 1 else 0
def Yt (a:List UInt8) (w:World):Calls prog 190 #[vs a] w fun e w'=>e= .returned (.bool false)∧w'=w:=by
 unfold vs
 go_enter func190,ntmps190
 go_wp2
 go_ret
 exact⟨by simp,rfl⟩
def UV (a b:List UInt8) (w:World):Calls prog 122 #[vs a,vs b] w fun e w'=>e= .returned (.int .i64 (pb a b))∧w'=w:=by
 have e7: ∀args w,(callFunc 190 args).run prog w= .ok (.enter 190 args) w:=call190
 unfold vs
 go_enter func122,ntmps122
 go_wp2_with (go_at_call 190;refine(Yt _ _).mono ?_;rintro e w' ⟨rfl,hw⟩;rw[hw])
 ·go_ret
  refine⟨?_,rfl⟩
  unfold pb ltB
  rw[if_pos (by assumption)]
  rfl
 rw[show(binOp .gtr 9 (Value.string {data:=a.toArray}) (Value.string {data:=b.toArray})).run prog w= .ok (.bool (ltB b a)) w by have h:=Dk (P:=prog) (t:=9) w (Ct a b);rw[Zn,Bool.not_not] at h;exact h]
 go_wp2
 ·go_ret
  refine⟨?_,rfl⟩
  rename_i h1 _ _ h2
  unfold pb
  rw[if_neg (by unfold ltB;simp_all),if_pos (by simp_all)]
  rfl
 go_ret
 refine⟨?_,rfl⟩
 unfold pb
 rw[if_neg (by unfold ltB;simp_all),if_neg (by simp_all)]
 rfl
def PL (x y:RefL) (W:World):Calls prog 160 #[.agg (aH x).toArray, .agg (aH y).toArray] W fun e w'=>e= .returned (.int .i64 (pb x.name y.name))∧ ∃q os',w'=Go.Sort.grow (W.drewN q) os':=by
 have nz:=fun W'=>UV x.name y.name W'
 obtain⟨cx,hcx⟩: ∃cx,aH x=vs x.name::cx:=⟨_,rfl⟩
 obtain⟨cy,hcy⟩: ∃cy,aH y=vs y.name::cy:=⟨_,rfl⟩
 rw[hcx,hcy]
 generalize pb x.name y.name=r at nz ⊢
 generalize vs x.name=a at nz ⊢
 generalize vs y.name=b at nz ⊢
 go_enter func160,ntmps160
 go_wp2_with (go_at_call 122;refine(nz _).mono ?_;rintro e w' ⟨rfl,rfl⟩)
 go_ret
 exact⟨rfl,0,_,by rw[Go.Sort.alloc_eq_grow,Go.Sort.alloc_eq_grow,Go.Sort.grow_grow];rfl⟩
end Go.Proofs
end
namespace Go.Sx
open Go Go.Proofs Go.Shelf Go.Sort
section
variable {α:Type} [Inhabited α] {enc:α→List Value} {k:Nat}
theorem wT (hk: ∀x,(enc x).length=k): ∀ (l:List α) (t:Nat),t<l.length*k→(l.map enc).flatten[t]? =some ((enc l[t / k]!)[t%k]!)
 | [],t,h=>by simp at h
 |x::r,t,h=>by
  have k0:0<k:=by
   rcases Nat.eq_zero_or_pos k with h0|h0
   ·subst h0;simp at h
   exact h0
  rw[List.map_cons,List.flatten_cons]
  by_cases ht:t<k
  ·rw[List.getElem?_append_left (by rw[hk];exact ht),Nat.div_eq_of_lt ht,Nat.mod_eq_of_lt ht]
   simp only[List.getElem!_cons_zero]
   rw[getElem!_pos (enc x) t (by rw[hk];exact ht),List.getElem?_eq_getElem]
  obtain⟨u,rfl⟩: ∃u,t=k+u:=⟨t - k,by omega⟩
  have hl: (x::r).length*k=r.length*k+k:=by rw[List.length_cons,Nat.add_mul,Nat.one_mul]
  rw[List.getElem?_append_right (by rw[hk];omega),hk,Nat.add_sub_cancel_left,wT hk r u oM]
  rw[Nat.add_div_left u k0,Nat.add_mod_left]
  simp
def Dj (hk: ∀x,(enc x).length=k) (l:List α):flatK enc k l.toArray=(l.map enc).flatten.toArray:=by
 have hl: (l.map enc).flatten.length=l.length*k:=by
  induction l with
  |nil=>simp
  |cons x r ih=>rw[List.map_cons,List.flatten_cons,List.length_append,ih,hk,List.length_cons,Nat.add_mul,Nat.one_mul];omega
 apply Array.ext
 ·rw[size_flatK,List.size_toArray,List.size_toArray,hl]
 intro t h1 h2
 rw[size_flatK,List.size_toArray] at h1
 have h:=wT hk l t h1
 have h3:=get_flatK enc k l.toArray t (by rw[List.size_toArray];exact h1)
 rw[getElem!_pos _ t (by rw[size_flatK,List.size_toArray];exact h1)] at h3
 rw[h3]
 have h4: (l.map enc).flatten.toArray[t]? =some ((enc l[t / k]!)[t%k]!):=by rw[List.getElem?_toArray];exact h
 rw[Array.getElem?_eq_getElem h2] at h4
 have:=Option.some.inj h4
 rw[this]
 simp
def O7 {F F' rest:List Value} (h:F.length=F'.length):putCells id 0 F'.toArray (F++rest).toArray=(F'++rest).toArray:=by
 unfold putCells
 apply Array.ext
 ·simp[h]
 intro t h1 h2
 simp only[Array.getElem_mapIdx,List.getElem_toArray,List.size_toArray,aq,true_and,Nat.zero_add,Nat.sub_zero,id]
 split
 ·rename_i ht
  rw[getElem!_pos _ t (by simpa using ht),List.getElem_toArray,List.getElem_append_left ht]
 rename_i ht
 rw[List.getElem_append_right oM,List.getElem_append_right oM]
 simp only[h]
def TT {P:Program} {ρ:Ren} (L:SlLaysF0.n6 P ρ) (aE: ∀w,(isAgg (ρ.t 24)).run P w= .ok true w) (zE: ∀w,(Go.sizeOf (ρ.t 24)).run P w= .ok k w) (hk: ∀x,(enc x).length=k) (h1: ∀x,∀v∈enc x,v.oneCell'=true) (cf:α→α→Int) (hO:SWO (ltOf cf)) (g:FuncId)
  (eg: ∀args w,(callFunc g args).run P w= .ok (.enter g args) w) (hcmp: ∀x y W,Calls P g #[.agg (enc x).toArray, .agg (enc y).toArray] W fun e w'=>e= .returned (.int .i64 (cf x y))∧ ∃q os',w'=grow (W.drewN q) os')
  {w:World} {b c:Nat} {E:TypeId} {l:List α} {rest:List Value} (hb:w.heap[b]? =some (.cells ((l.map enc).flatten++rest).toArray E (0,0))) (e_:l.length<4611686018427387904):
  Rets P (ρ.f 6) #[vsl b 0 l.length c, .func (.func g) #[] #[]] w (fun v D=> ∃o,D= [(b,o)]∧v= .tuple #[]∧ ∃l':List α,l'.Perm l∧l'.Pairwise (fun x y=>ltOf cf y x=false)∧o= .cells ((l'.map enc).flatten++rest).toArray E (0,0)):=by
 have fE:=(Array.getElem?_eq_some_iff.1 hb).1
 have hH:HoldsK enc k w b 0 l.toArray:=by
  unfold HoldsK Holds
  intro t ht
  rw[size_flatK,List.size_toArray] at ht
  rw[get_flatK _ _ _ _ (by rw[List.size_toArray];exact ht)]
  have h:=wT hk l t ht
  have aC:=(List.getElem?_eq_some_iff.1 h).1
  refine⟨?_, ?_⟩
  ·simp only[World.cell?,hb,Option.isSome_none,Bool.false_eq_true, ↓reduceIte,Nat.zero_add,List.getElem?_toArray,id]
   rw[List.getElem?_append_left aC,h];simp
  simp only[World.frozen?,hb];simp
 have nz:=AnyQ.slices_SortFunc L k aE zE enc hk h1 cf hO g #[] b 0 c l.toArray w eg (fun m os dk _ x y=>hcmp x y _) hH fE (by rw[List.size_toArray];exact e_)
 refine Calls.mono nz ?_
 rintro e w' ⟨rfl,d',n,os,hp,hs,rfl⟩
 obtain⟨l',rfl⟩: ∃l':List α,d'=l'.toArray:=⟨d'.toList,by simp⟩
 obtain⟨hz,-,hp⟩:=hp
 rw[List.size_toArray,List.size_toArray] at hz
 have dg: ∀m:List α,(m.map enc).flatten.length=m.length*k:=fun m=>by
  have:=congrArg Array.size (Dj (enc:=enc) hk m)
  rw[size_flatK,List.size_toArray,List.size_toArray] at this
  exact this.symm
 have hob: (sortWorldK enc k w b 0 n l'.toArray os).heap[b]? =some (.cells ((l'.map enc).flatten++rest).toArray E (0,0)):=by
  show((w.heap.modify b (onCells (putCells id 0 (flatK enc k l'.toArray))))++os)[b]? =_
  rw[Array.getElem?_append_left (by rw[Array.size_modify];exact fE),Array.getElem?_modify,if_pos rfl,hb,Dj hk,Option.map_some]
  simp only[onCells]
  rw[O7 (by rw[dg,dg,hz])]
 refine⟨.tuple #[],[(b,_)],rfl,⟨?_,by simp[keys], ?_, ?_,rfl,rfl,rfl⟩,_,rfl,rfl,l', ?_, ?_,rfl⟩
 ·intro b' o' hm
  simp only[List.mem_singleton,Prod.mk.injEq] at hm
  rw[hm.1,hm.2];exact hob
 ·intro b' eG hn
  have aU:b≠b':=fun h=>hn (by simp[keys,h])
  show((w.heap.modify b (onCells (putCells id 0 (flatK enc k l'.toArray))))++os)[b']? =_
  rw[Array.getElem?_append_left (by rw[Array.size_modify];exact eG),Array.getElem?_modify,if_neg aU]
 ·show w.heap.size≤ ((w.heap.modify b (onCells (putCells id 0 (flatK enc k l'.toArray))))++os).size
  rw[Array.size_append,Array.size_modify];omega
 ·have h2:List.take l.length l'=l':=List.take_of_length_le oM
  rw[←h2]
  simpa using hp
 rw[List.pairwise_iff_getElem]
 intro i j hi hj o5
 have:=hs i j (aq _) o5 (by rw[List.size_toArray];omega)
 simpa [hi,hj] using this
def Uw {P:Program} {ρ:Ren} (L:SlLaysF0.n6 P ρ) (p:Option Addr) (c:Nat) (fv:Value) (w:World):Rets P (ρ.f 6) #[.slice p 0 c,fv] w (fun v D=>v= .tuple #[]∧D= []):=
 Calls.mono (AnyF.slices_SortFunc_none L p c fv w) fun _ _ ⟨he,hw⟩=>⟨_,[],he,by rw[hw];exact Hp.refl w,rfl,rfl⟩
end
end Go.Sx
section
namespace Go.Proofs
open Go Go.Shelf
def sortRef_ren:Go.Shelf.Ren:=⟨fun|6=>159|15=>212|14=>211|28=>249|29=>250|20=>241|21=>242|22=>243|23=>244|24=>245|25=>246|26=>247|27=>248|46=>281|47=>282|48=>283|49=>284|50=>285|57=>310|n=>n,fun|22=>71|24=>149|25=>274|3=>3|39=>253|0=>0|53=>250|55=>296|4=>4|46=>352|45=>351|50=>356|5=>5|9=>9|66=>382|70=>386|76=>403|77=>404|n=>n,fun|n=>n⟩
def sortRef:Go.Proofs.SlLaysF0.n6 prog sortRef_ren:={
 mixed:=by kernel_rfl
 f6:=⟨Tryz.f159.name,by decide,Tryz.func159.trans (congrArg some kR)⟩
 f14:=⟨Tryz.f211.name,by decide,Tryz.func211.trans (congrArg some kR)⟩
 f15:=Tryz.func212.trans (congrArg some kR)
 f20:=⟨Tryz.f241.name,by decide,Tryz.func241.trans (congrArg some kR)⟩
 f21:=⟨Tryz.f242.name,by decide,Tryz.func242.trans (congrArg some kR)⟩
 f22:=⟨Tryz.f243.name,by decide,Tryz.func243.trans (congrArg some kR)⟩
 f23:=⟨Tryz.f244.name,by decide,Tryz.func244.trans (congrArg some kR)⟩
 f24:=⟨Tryz.f245.name,by decide,Tryz.func245.trans (congrArg some kR)⟩
 f25:=⟨Tryz.f246.name,by decide,Tryz.func246.trans (congrArg some kR)⟩
 f26:=⟨Tryz.f247.name,by decide,Tryz.func247.trans (congrArg some kR)⟩
 f27:=⟨Tryz.f248.name,by decide,Tryz.func248.trans (congrArg some kR)⟩
 f28:=Tryz.func249.trans (congrArg some kR)
 f29:=Tryz.func250.trans (congrArg some kR)
 f46:=⟨Tryz.f281.name,by decide,Tryz.func281.trans (congrArg some kR)⟩
 f47:=Tryz.func282.trans (congrArg some kR)
 f48:=Tryz.func283.trans (congrArg some kR)
 f49:=⟨Tryz.f284.name,by decide,Tryz.func284.trans (congrArg some kR)⟩
 f50:=⟨Tryz.f285.name,by decide,Tryz.func285.trans (congrArg some kR)⟩
 f57:=⟨Tryz.f310.name,by decide,Tryz.func310.trans (congrArg some kR)⟩
 t0:=underlying0
 a0:=isAgg0
 z0:=sizeOf0
 v0:=zeroValue0
 t3:=underlying3
 a3:=isAgg3
 z3:=sizeOf3
 v3:=zeroValue3
 t4:=underlying4
 a4:=isAgg4
 z4:=sizeOf4
 v4:=zeroValue4
 t5:=underlying5
 a5:=isAgg5
 z5:=sizeOf5
 v5:=zeroValue5
 t9:=underlying9
 a9:=isAgg9
 z9:=sizeOf9
 v9:=zeroValue9
 t22:=underlying71
 a22:=isAgg71
 z22:=sizeOf71
 v22:=zeroValue71
 t25:=underlying274
 a25:=isAgg274
 z25:=sizeOf274
 v25:=zeroValue274
 t39:=underlying253
 a39:=isAgg253
 z39:=sizeOf253
 v39:=zeroValue253
 t45:=underlying351
 a45:=isAgg351
 z45:=sizeOf351
 v45:=zeroValue351
 t46:=underlying352
 a46:=isAgg352
 z46:=sizeOf352
 v46:=zeroValue352
 t50:=underlying356
 a50:=isAgg356
 z50:=sizeOf356
 v50:=zeroValue356
 t53:=underlying250
 a53:=isAgg250
 z53:=sizeOf250
 v53:=zeroValue250
 t55:=underlying296
 a55:=isAgg296
 z55:=sizeOf296
 v55:=zeroValue296
 t66:=underlying382
 a66:=isAgg382
 z66:=sizeOf382
 v66:=zeroValue382
 t70:=underlying386
 a70:=isAgg386
 z70:=sizeOf386
 v70:=zeroValue386
 t76:=underlying403
 a76:=isAgg403
 z76:=sizeOf403
 v76:=zeroValue403
 t77:=underlying404
 a77:=isAgg404
 z77:=sizeOf404
 v77:=zeroValue404}
end Go.Proofs
end
section
open Go Go.Proofs Go.Sx Go.RefP Go.Shelf Go.Sort
namespace Go.Proofs
def XA (a b:List UInt8):pb a b<0↔ltB a b=true:=by
 unfold pb
 split
 ·simp[*]
 split<;>simp[*]
def t8 (x y:RefL):ltOf (fun x y:RefL=>pb x.name y.name) x y=ltB x.name y.name:=by
 unfold ltOf
 rw[Bool.eq_iff_iff,decide_eq_true_eq,XA]
def Zk:SWO (ltOf fun x y:RefL=>pb x.name y.name) where
 irrefl x:=by rw[t8];exact AB x.name
 trans x y z h1 h2:=by rw[t8] at*;exact tu h1 h2
 ntrans x y z h1 h2:=by
  rw[t8] at*
  cases h:ltB x.name z.name
  ·rfl
  by_cases vJ:x.name=y.name
  ·rw[vJ,h2] at h;cases h
  rw[tu (vP h1 fun e=>vJ e) h] at h2
  cases h2
def RW (x:RefL): ∀v∈aH x,v.oneCell'=true:=fun v hv=>List.all_eq_true.1 (zI x) v hv
def OF {b c:Nat} {l:List RefL} {rest:List Value} {E:TypeId} (w:World) (hb:w.heap[b]? =some (.cells ((l.map aH).flatten++rest).toArray E (0,0))) (e_:l.length<4611686018427387904):
  Rets prog 159 #[vsl b 0 l.length c, .func (.func 160) #[] #[]] w
   (fun v D=> ∃o,D= [(b,o)]∧v= .tuple #[]∧ ∃l':List RefL,l'.Perm l∧l'.Pairwise (fun x y=>ltB y.name x.name=false)∧o= .cells ((l'.map aH).flatten++rest).toArray E (0,0)):=by
 have h:= @TT RefL ⟨cD⟩ aH 33 prog sortRef_ren sortRef isAgg149 sizeOf149 ef RW (fun x y=>pb x.name y.name) Zk 160 call160 PL w b c E l rest hb e_
 refine Rets.mono h ?_
 rintro v D ⟨o,rfl,rfl,l',hp,hs,rfl⟩
 exact⟨_,rfl,rfl,l',hp,hs.imp fun{x y} h=>(t8 y x).symm.trans h,rfl⟩
def X4_ (p:Option Addr) (c:Nat) (fv:Value) (w:World):Rets prog 159 #[.slice p 0 c,fv] w (fun v D=>v= .tuple #[]∧D= []):=
 @Uw prog sortRef_ren sortRef p c fv w
end Go.Proofs
end
section
open Go Go.Proofs Go.Sx Go.RefP
namespace Go.Proofs
theorem Es: ∀ {a b:List RefL},prs a=prs b→a=b
 | [],[],_=>rfl
 | [],_::_,h=>by cases h
 |_::_,[],h=>by cases h
 | ⟨n,i,hi⟩::a,⟨n2,i2,hi2⟩::b,h=>by
  unfold prs at h
  simp only[List.map_cons,List.cons.injEq,Prod.mk.injEq] at h
  obtain⟨⟨rfl,rfl⟩,h⟩:=h
  rw[Es (show prs a=prs b from h)]
theorem BP: ∀ {a b:aZ},Rising a→Rising b→a.Perm b→a=b
 | [],b,_,_,h=>(List.Perm.nil_eq h)
 |x::a,[],_,_,h=>by have:=h.length_eq;simp at this
 |x::a,y::b,ha,hb,h=>by
  have vJ:x=y:=by
   rcases List.mem_cons.1 (h.mem_iff.1 (aa (a:=x) (l:=a))) with e|e
   ·exact e
   rcases List.mem_cons.1 (h.mem_iff.2 (aa (a:=y) (l:=b))) with e2|e2
   ·exact e2.symm
   have h1:=(List.pairwise_cons.1 ha).1 y e2
   have h2:=(List.pairwise_cons.1 hb).1 x e
   rw[Kd h1] at h2;cases h2
  subst vJ
  rw[BP (List.pairwise_cons.1 ha).2 (List.pairwise_cons.1 hb).2 ((List.perm_cons x).1 h)]
def Qy {o l' ls:List RefL} {m:aZ} (ho: (prs o).Perm m) (hr:Rel m (prs ls)) (hp:l'.Perm o) (hs:l'.Pairwise (fun x y=>ltB y.name x.name=false)):l'=ls:=by
 have h1: (prs l').Perm (prs ls):=((hp.map _).trans ho).trans hr.1
 refine Es (BP ?_ hr.2 h1)
 have ao: ((prs l').map Prod.fst).Nodup:=((h1.map Prod.fst).nodup_iff).2 hr.2.nd
 unfold prs at ao ⊢
 rw[List.map_map] at ao
 unfold Rising
 rw[List.pairwise_map]
 have aU:l'.Pairwise (fun x y=>x.name≠y.name):=List.pairwise_map.1 ao
 refine(hs.and aU).imp ?_
 rintro x y ⟨ha,hb⟩
 exact vP ha fun e=>hb e.symm
def toR (p:List UInt8×List UInt8):RefL:=⟨p.1,mkId p.2⟩
def Y_ {p:List UInt8×List UInt8} (h:p.2.length=32): (toR p).name=p.1∧(toR p).id.l=p.2:=by
 unfold toR;exact⟨rfl,by show(mkId p.2).l=p.2;rw[FF h]⟩
def tp1 (a:Value): (#[a]:Array Value)[0]? =some a:=rfl
def tp3 (a b c:Value): (#[a,b,c]:Array Value)[0]? =some a:=rfl
structure LG where
 v:Value
 o:List RefL
 D:aB
 it:Obj
 lf:aZ
def gf:=aN (aN (aN (aN @bB @iH) (aN @iG @iE)) (aN (aN @bA @rC) (aN @rA (aN @kX @ki)))) (aN (aN (aN @u3 @tw) (aN @vU @u4)) (aN (aN @lZ @tup2_0) (aN @tup2_1 (aN @tp1 @tp3))))
def T' (b:Nat) (om:Obj) (m:aZ) (ls:List RefL) (w:World) (ho:w.heap[b]? =some om) (hm:MapR om m) (hr:Rel m (prs ls)) (aS:ls.length<1000):
  Rets prog 90 #[vm b] w (XS w [] (fun v D=>GrI D 149 33 v ls.length (ls.map aH).flatten)):=by
 have fE:=(Array.getElem?_eq_some_iff.1 ho).1
 have pC:m.length=ls.length:=by rw[hr.1.length_eq,iD]
 have HO: ∀p,p∈m→p.2.length=32:=fun p hp=>by
  have h1:=(hr.1.mem_iff).1 hp
  unfold prs at h1
  obtain⟨r,-,rfl⟩:=List.mem_map.1 h1
  exact r.id.h
 have zrId:au prog 24=some (.agg (a8 (List.replicate 32 0))):=zr24
 rw[show(List.replicate 32 (0:UInt8))=z32 from rfl] at zrId
 refine Rets.enterX func90 rfl (rs:= [.tmp 2]) results90 ntmps90 (fun p hp=>by cases hp) (by simp[keys]) ?_
 refine kf ?_
 refine ky @gf ?_
 refine Ow.rangeMap rfl rfl underlying162 rfl ho hm fun bi oi uh kT hI=> ?_
 refine ko @gf ?_
 refine ky @gf ?_
 refine Cw.loopG (G:=LG) [8,9,10,11,12,5,4,13,14,15,16,17,18,3] (fun g=> [(3,g.v)]) (fun g=>(bi,g.it)::g.D) (fun g=>New (bi+1) g.D∧Gr g.D 149 33 g.v g.o.length (g.o.map aH).flatten∧ItR g.it b om m (prs g.o) g.lf∧g.o.length+g.lf.length=m.length) (fun g=>g.lf.length) ⟨.slice none 0 0,[],[],oi,m⟩ rfl rfl ?_ ?_
 ·exact⟨trivial,Gr.nl,hI,by simp⟩
 intro g j hg
 refine kv ?_
 obtain⟨v,o,D,it,lf⟩:=g
 simp only at hg ⊢
 obtain⟨kr,fq,hI,qg⟩:=hg
 have hDb:b∉keys D:=kr.not oM
 have rdm: ∀x,aT w ((bi,x)::D) b=some om:=fun x=>by
  rw[IM _ _ _ _ _ oM,kY hDb];exact ho
 refine ky @gf ?_
 refine Ow.nextMap rfl rfl rfl (fN _ _ _) (rdm _) hI (fun i8=> ?_) (fun p it' lf' lS iS=> ?_)
 ·subst i8
  have hoo: (prs o).Perm m:=by
   obtain⟨es,clock,ds,-,-,-,-,-,-,jK⟩:=hI
   rw[List.append_nil] at jK;exact jK
  have qh:o.length=ls.length:=by simp at qg;omega
  have vK:o.length=0→o= []∧ls= []:=fun h=>⟨List.length_eq_zero_iff.1 h,List.length_eq_zero_iff.1 oM⟩
  refine ko @gf ?_
  refine ky @gf ?_
  rcases fq with cO| ⟨h0,-,b0,rfl,bz⟩
  ·generalize df: (o.map aH).flatten=cs at cO
   generalize hn:o.length=n at cO
   cases cO with
   |nl=>
    refine Ow.callFV rfl call159 (fun w' aA=>X4_ none 0 _ w') ?_
    refine ko @gf ?_
    refine ky @gf ?_
    refine⟨_,(ke @gf), ?_⟩
    obtain⟨-,rfl⟩:=vK hn
    exact⟨Ext.of_new ⟨kT,kr.mono oM⟩,(Gr.nl (L:= [])).i fun q hq=>by cases hq⟩
   | @at_ b0 _ c _ rest hl h1 h2 h3 h4=>
    subst hn
    subst df
    have rQ:bi+1≤b0:=kr.le _ (cC hl)
    refine Ow.callE rfl rfl call159 (av _ (cC hl)) (fun w' aA=>OF (c:=c) w' (aA.has _ _ (av _ (cu hl))) oM) (fun v1 o1 hS=> ?_)
    obtain⟨rfl,l',hp,hs,rfl⟩:=hS
    obtain rfl:=Qy hoo hr hp hs
    refine kn ?_
    refine ko @gf ?_
    refine ky @gf ?_
    refine⟨_,(ke @gf), ?_⟩
    refine⟨Ext.of_new ⟨kT,New.of_le fun q hq=>by rw[rB] at hq;have:=kr.le q hq;omega⟩, ?_⟩
    refine Gr.i (X:=setB D b0 (.cells ((l'.map aH).flatten++rest).toArray 149 (0,0))) (.inl ?_) fun q hq=>av _ hq
    show Buf _ 149 33 (vsl b0 0 o.length c) l'.length _
    rw[qh]
    refine Buf.at_ (jR hl) ?_ ?_ oM h4
    ·rw[wI ef]
    rw[h2,qh]
  obtain⟨rfl,rfl⟩:=vK h0
  refine Ow.callFV rfl call159 (fun w' aA=>X4_ (some ⟨b0,0,none⟩) 0 _ w') ?_
  refine ko @gf ?_
  refine ky @gf ?_
  refine⟨_,(ke @gf), ?_⟩
  exact⟨Ext.of_new ⟨kT,kr.mono oM⟩,Gr.i (X:=D) (.inr ⟨rfl,rfl,b0,rfl,bz⟩) fun q hq=>av _ hq⟩
 refine kn ?_
 refine ko @gf ?_
 refine ky @gf ?_
 refine Ow.entryMap rfl rfl rfl (oH _ _ _ _) (rdm _) iS ?_
 refine ko @gf ?_
 refine ky @gf ?_
 refine Ow.alloc rfl rfl zrId fun b5 jF gU=> ?_
 simp only[ag,List.nil_append,List.cons_append]
 have hp5:p.2.length=32:=by
  obtain⟨es,clock,ds,-,-,-,-,-,-,jK⟩:=iS
  exact HO p ((jK.mem_iff).1 (by simp))
 obtain⟨mR,hi5⟩:=Y_ hp5
 have hx5:bi<b5:=ak jF (by simp[keys])
 have hD5:b5∉keys D:=fun h=>by have:=ak jF (b:=b5) (by simp[keys] at h ⊢;simp[h]);omega
 have j':prs (o++ [toR p])=prs o++ [p]:=by
  unfold prs
  rw[List.map_append,List.map_cons,List.map_nil]
  show _++ [((toR p).name,(toR p).id.l)]=_
  rw[mR,hi5]
 rw[←mR,←hi5]
 rw[←j'] at iS
 clear j' mR hi5
 refine Ow.permL (M:=(bi,it'):: (b5,Obj.cells (a8 z32) 24 (0,0))::D) pM ?_
 have iw:=(toR p).id.h
 have bL:aw (some (true,32)) (some (.cells (a8 z32) 24 (0,0))) 0 (.agg (a8 (toR p).id.l))=some (.cells (a8 (toR p).id.l) 24 (0,0)):=Be 32 true _ _ _ ⟨iw,by simp[a8,z32]⟩
 have mK:=Rz (toR p).id.l 24 iw
 refine ko (aN @gf @bL) ?_
 refine ky (aN @gf @mK) ?_
 refine Ow.build _ rfl (Kc (toR p).name (toR p).id) ?_
 refine ko @gf ?_
 refine ky @gf ?_
 generalize toR p=r at*
 refine Ow.buildSlice (e:=149) (aH r).toArray rfl rfl (zF r) fun b9 qM hwb9=> ?_
 have hxb9:bi<b9:=ak qM (by simp[keys])
 refine Ow.permL (M:=D++ ((bi,it'):: (b5,Obj.cells (a8 r.id.l) 24 (0,0)):: [(b9,Obj.cells (aH r).toArray 149 (0,0))])) pM ?_
 refine Ow.appendX (e:=149) (k:=1) (new:=aH r) (X:=D) v rfl rfl rfl rfl underlying71 ag149 kR oZ (by rw[kX,List.size_toArray,ef]) underlying71 (by intro k h;cases h) fq (fun w' aA=>AppX.one1 (aA.has b9 (.cells (aH r).toArray 149 (0,0)) (by simp)) (ef r) (zI r)) oM oM (fun B3 v3 D3 fU kI H6 HQ qV HT=> ?_)
 have hxB3:bi<B3:=ak fU (by simp[ae,keys])
 have hND3:New (bi+1) D3:=New.of_le fun q hq=>by
  rcases qV q hq with h|h
  ·exact kr.le q h
  omega
 refine Ow.permL (M:=(bi,it'):: (D3++ [(b5,Obj.cells (a8 r.id.l) 24 (0,0)),(b9,Obj.cells (aH r).toArray 149 (0,0))])) pM ?_
 have hGr3:Gr (D3++ [(b5,Obj.cells (a8 r.id.l) 24 (0,0)),(b9,Obj.cells (aH r).toArray 149 (0,0))]) 149 33 v3 _ _:=Gr.app (.inl H6)
 have hNE3:New (bi+1) (D3++ [(b5,Obj.cells (a8 r.id.l) 24 (0,0)),(b9,Obj.cells (aH r).toArray 149 (0,0))]):=hND3.app ⟨by omega,by omega,trivial⟩
 generalize D3++ [(b5,Obj.cells (a8 r.id.l) 24 (0,0)),(b9,Obj.cells (aH r).toArray 149 (0,0))]=E3 at*
 refine ko @gf ?_
 refine ky @gf ?_
 refine Again.mk (LG.mk v3 (o++ [r]) E3 it' lf') (by show lf'.length<lf.length;omega) ⟨hNE3, ?_,iS,by show(o++ [r]).length+lf'.length=m.length;simp;omega⟩ rfl rfl
 show Gr E3 149 33 v3 (o++ [r]).length ((o++ [r]).map aH).flatten
 simpa using hGr3
def zR {t l:List RefL} {k:Nat} {ls:List RefL} (h:iR t l k=some ls):t.length≤16∧l.length≤100∧vn t=true∧g9 l t k=some ls:=by
 unfold iR at h
 split at h
 ·rename_i hc;exact⟨hc.1,hc.2.1,hc.2.2,h⟩
 cases h
theorem EM {l t:List RefL} (ht:t.length≤16): ∀ (k:Nat) (ls:List RefL),g9 l t k=some ls→ls.length≤16
 |0,ls,h=>by
  unfold g9 at h
  cases h;exact ht
 |k+1,ls,h=>by
  unfold g9 at h
  cases hm:g9 l t k with
  |none=>rw[hm] at h;cases h
  |some m=>
   rw[hm,Option.bind_some] at h
   split at h
   ·rename_i hc
    cases h
    simp only[Bool.and_eq_true,decide_eq_true_eq] at hc
    exact hc.2
   cases h
def wv {t l:List RefL} (h:bV t l=true) {k:Nat} (hk:k≤l.length):
  ∃m ls,ofM cN z32 (prs t) (prs l) k=some m∧iR t l k=some ls∧Rel m (prs ls)∧ls.length≤16∧l.length≤100:=by
 rw[←LU] at h
 cases hv:iR t l l.length with
 |none=>rw[hv] at h;cases h
 |some le=>
  obtain⟨h1,h2,h3,h4⟩:=zR hv
  cases hg:g9 l t k with
  |none=>rw[Tw hg _ hk] at h4;cases h4
  |some ls=>
   have hvk:iR t l k=some ls:=by unfold iR;rw[if_pos ⟨h1,h2,h3⟩];exact hg
   have hp:=EN t l k hk
   rw[hvk] at hp
   rcases Fm cN z32 (prs t) (prs l) (by rw[iD];exact h2) k with⟨-,hn⟩ | ⟨m,d,hm,hd,hr⟩
   ·rw[hn] at hp;cases hp
   rw[hd] at hp
   cases hp
   exact⟨m,ls,hm,hvk,hr,EM h1 k ls hg,h2⟩
def gH (n:Nat) (keep:Int):Nat:=((n:Int) - max 0 (min keep n)).toNat
def I' (n:Nat) (keep:Int):gH n keep≤n:=by unfold gH;omega
def WO (n:Nat) (keep:Int): (n:Int) - max 0 (min keep n)=(gH n keep:Nat):=by unfold gH;omega
def ZB (n keep:Int): (if(if n<keep then n else keep)>0 then(if n<keep then n else keep) else 0)=max 0 (min keep n):=by
 split<;>split<;>omega
def sw (t l:List RefL) (keep:Int) (v:Value) (D:aB):Prop:=
 if bV t l=true then∃vt vl ls,iR t l (gH l.length keep)=some ls∧v= .tuple #[.agg #[vt,vl],vi 0]∧GrI D 149 33 vt ls.length (ls.map aH).flatten∧GrI D 149 33 vl (l.drop (gH l.length keep)).length ((l.drop (gH l.length keep)).map aH).flatten
 else v= .tuple #[.agg #[.slice none 0 0, .slice none 0 0],vi 1]
def gp:=aN (aN (aN (aN @bB @iH) (aN @iG @iE)) (aN (aN @bA @rC) (aN @rA @kX))) (aN (aN (aN @ki @u3) (aN @tw @vU)) (aN (aN @u4 @lZ) (aN @tup2_0 (aN @tup2_1 @Ki))))
def TK (vt vl:Value) (t l:List RefL) (keep:Int) (w:World) (ht:gY w vt t) (hl:gY w vl l) (dE:t.length<1000) (eK:l.length<1000) (dS:ig t) (bI:ig l):
  Rets prog 46 #[.agg #[vt,vl],vi keep] w (XS w [] (sw t l keep)):=by
 refine Rets.enterX func46 rfl (rs:= [.cell 4 73, .tmp 5]) results46 ntmps46 (fun p hp=>by cases hp) (by simp[keys]) ?_
 refine kf ?_
 refine kz [5] @gp ?_
 refine Ow.box rfl rfl fun bx g_ bT=> ?_
 simp only[ck,cV,ce,ag,List.nil_append,List.cons_append]
 refine Ow.go rfl ?_
 simp(disch:=first|exact dD|fail) only[↓Sx.S0,Sx.S1,fx,gp,Nat.reduceAdd,Nat.reducePow,Int.reducePow,Nat.reduceBEq, ↓reduceIte,UInt8.reduceToNat,UInt16.reduceToNat,UInt32.reduceToNat,UInt64.reduceToNat,Int.reduceToNat]
 refine Ow.alloc rfl rfl zrBk fun br gz di=> ?_
 simp only[ag,List.nil_append,List.cons_append]
 obtain⟨hxr,-⟩:=gz
 refine ko @gp ?_
 refine ky @gp ?_
 refine Ow.callFV rfl call88 (fun w' aA=>A5 vt vl t l w' (ht.oldN aA ⟨bT,di,trivial⟩) (hl.oldN aA ⟨bT,di,trivial⟩) oM oM dS bI) ?_
 cases hr:bV t l
 ·refine ko @gp ?_
  refine ky @gp ?_
  refine Ow.build (.agg #[.slice none 0 0, .slice none 0 0]) rfl kR ?_
  refine ko @gp ?_
  refine ky @gp ?_
  refine⟨_,(ke @gp), ?_⟩
  refine⟨Ext.of_new ⟨bT,di,trivial⟩, ?_⟩
  unfold sw
  rw[if_neg (by rw[hr];simp)]
  rfl
 refine ko @gp ?_
 ((try with_reducible refine Cw.go [] ?_);(try simp(disch:=first|exact dD|fail) only[↓Sx.S0,Sx.S1,fx,gp,Nat.reduceAdd,Nat.reducePow,Int.reducePow,Nat.reduceBEq, ↓reduceIte,UInt8.reduceToNat,UInt16.reduceToNat,UInt32.reduceToNat,UInt64.reduceToNat,Int.reduceToNat,hl.len]))
 refine Ow.minI rfl rfl rfl ?_
 refine ko @gp ?_
 refine Ow.maxI (a:=0) rfl rfl rfl ?_
 rw[ZB]
 refine ko @gp ?_
 have hk:=I' l.length keep
 obtain⟨m,ls,hm,hv,b_,yC,uy⟩:=wv hr hk
 rw[WO]
 refine ky (aN @gp @lZ) ?_
 refine Ow.callN rfl rfl call89 (S:=(fun B v D=>OfSRf B t l (gH l.length keep) v D)) (fun w' aA=>wk vt vl t l (gH l.length keep) w' (ht.oldN aA ⟨bT,di,trivial⟩) (hl.oldN aA ⟨bT,di,trivial⟩) oM oM hk dS bI) (fun B v D h=>h.new) (fun B v D hA hB hS=> ?_)
 unfold OfSRf at hS
 rw[hm] at hS
 obtain⟨bm,om,rfl,rfl,jJ,hBm⟩:=hS
 have hxm:bx<bm:=Nat.lt_of_lt_of_le (ak hA (by simp[keys])) hBm
 have te:br<bm:=Nat.lt_of_lt_of_le (ak hA (by simp[keys])) hBm
 generalize uw:gH l.length keep=k at*
 refine ko @gp ?_
 refine ky @gp ?_
 obtain⟨vd,hvd,mK,-⟩:=SlV.dropE hl hk true
 refine Cw.regionS [bx] [0,2,4,3,5,1,6,7,8,9] [8] kR kR kR ?_
 simp only[bF, ↓bE, ↓ay, ↓bD, ↓bC,az]
 refine Ow.goQ ?_
 simp(disch:=first|exact dD|fail) only[↓Sx.S0,Sx.S1,fx,gp,Nat.reduceAdd,Nat.reducePow,Int.reducePow,Nat.reduceBEq, ↓reduceIte,UInt8.reduceToNat,UInt16.reduceToNat,UInt32.reduceToNat,UInt64.reduceToNat,Int.reduceToNat,ix71,hvd]
 refine Ow.soft rfl rfl rfl ?_
 refine Ow.callC rfl rfl call90 (fun w' aA=>T' bm om m ls w' (aA.has _ _ (by simp)) jJ b_ oM) (fun B1 v1 D1 eF dV bX bu=> ?_)
 have iy:bm<B1:=ak eF (by simp[keys])
 have hx1:bx<B1:=ak eF (by simp[keys])
 have lU:br<B1:=ak eF (by simp[keys])
 have lT:New (w.heap.size) D1:=bX.mono oM
 with_reducible refine Ow.nil ?_
 refine⟨by intro b hb;simp only[List.mem_cons,List.not_mem_nil,or_false] at hb;(try subst hb);simp only[List.cons_append,oH], ?_⟩
 refine Ow.goQ ?_
 simp(disch:=first|exact dD|fail) only[↓Sx.S0,Sx.S1,fx,gp,Nat.reduceAdd,Nat.reducePow,Int.reducePow,Nat.reduceBEq, ↓reduceIte,UInt8.reduceToNat,UInt16.reduceToNat,UInt32.reduceToNat,UInt64.reduceToNat,Int.reduceToNat,ix71,hvd]
 refine Ow.soft rfl rfl rfl ?_
 have i4: (l.drop k).length<1000:=by rw[List.length_drop];omega
 refine Ow.callC rfl rfl call81 (fun w' aA=>ti vd (l.drop k) w' (SlV.oldN mK aA ⟨bT,di,by omega,lT⟩) oM) (fun B2 v2 D2 dG cZ cJ bH=> ?_)
 have mw:New (w.heap.size) D2:=cJ.mono oM
 with_reducible refine Ow.nil ?_
 refine⟨by intro b hb;simp only[List.mem_cons,List.not_mem_nil,or_false] at hb;(try subst hb);simp only[List.cons_append,oH], ?_⟩
 refine kq @gp ?_
 have dI:=yh bu
 have dy:=bH.cell
 refine Ow.build (.agg #[v1,v2]) rfl (J4 v1 v2 dI.2 dy.2) ?_
 refine kq @gp ?_
 have bL:=yt (.slice none 0 0) (.slice none 0 0) v1 v2 73 dI.1 dy.1
 refine Ow.store rfl rfl rfl (ke (aN @gp @bL)) ?_
 refine kq @gp ?_
 try with_reducible refine Ow.nil ?_
 refine ky @gp ?_
 refine⟨_,(ke @gp), ?_⟩
 refine⟨Ext.of_new ⟨bT,di,by omega,lT.app mw⟩, ?_⟩
 unfold sw
 rw[if_pos hr,uw]
 refine⟨v1,v2,ls,hv,rfl,bu.mono fun q hq=> ?_,bH.i fun q hq=> ?_⟩
 ·simp[hq]
 simp[hq]
end Go.Proofs
end
section
open Go Go.Proofs Go.Sx Go.StP Go.RefP
namespace Go.Proofs
def ol (t l:List RefL):List UInt8:=if bV t l=true then be t l else []
def pY (S:DiskL) (B:BkL) (keep:Int):Nat×DiskL×BkL:=
 if bV B.t B.l=true then match iR B.t B.l (gH B.l.length keep) with
  |some ls=>if(bN S aJ aL (ol ls (B.l.drop (gH B.l.length keep))) false).1≠0 then((bN S aJ aL (ol ls (B.l.drop (gH B.l.length keep))) false).1,(bN S aJ aL (ol ls (B.l.drop (gH B.l.length keep))) false).2,B)
   else(0,(bN S aJ aL (ol ls (B.l.drop (gH B.l.length keep))) false).2,⟨ls,B.l.drop (gH B.l.length keep),(B.l.drop (gH B.l.length keep)).length⟩)
  |none=>(1,S,B)
 else(1,S,B)
def Pp (vt vl:Value) (t l:List RefL) (w:World) (hC:GlobC w) (ht:gY w vt t) (hl:gY w vl l) (dE:t.length<1000) (eK:l.length<1000) (dS:SmallN t) (bI:SmallN l):
  Rets prog 86 #[.agg #[vt,vl]] w (fun v D=>v= .tuple #[vs (ol t l),vi (if bV t l=true then 0 else 1)]∧D= []):=by
 refine Calls.mono (Bm vt vl t l w hC ht hl dE eK dS bI) ?_
 rintro e w' ⟨v,D,he,hp,hv,hD⟩
 refine⟨v,D,he,hp, ?_,hD⟩
 rw[hv]
 unfold ol
 by_cases h:bV t l=true
 ·rw[if_pos h,if_pos h,if_pos h]
 rw[if_neg h,if_neg h,if_neg h]
def Au {l:List RefL} (h: ∀r,r∈l→r.name.length<1000):SmallN l:=fun _g hg=>h _ (StP.getD_mem hg)
def SmallN.mem {l:List RefL} (h:SmallN l) {r:RefL} (hr:r∈l):r.name.length<1000:=by
 obtain⟨k,hk,rfl⟩:=StP.mem_getD (z:=cD) hr
 exact h k hk
theorem IX {x r:RefL}: ∀ {l:List RefL} {dn:Bool},r∈oY x l dn→r=x∨r∈l
 | [],dn,h=>by
  unfold oY at h
  cases dn
  ·exact .inl (List.mem_singleton.1 h)
  cases h
 |p::l,dn,h=>by
  unfold oY at h
  split at h
  ·exact(IX h).imp id (av _)
  split at h
  ·rcases List.mem_cons.1 h with h|h
   ·exact .inl h
   rcases List.mem_cons.1 h with h|h
   ·exact .inr (h▸aa)
   exact(IX h).imp id (av _)
  rcases List.mem_cons.1 h with h|h
  ·exact .inr (h▸aa)
  exact(IX h).imp id (av _)
theorem Df {l t:List RefL}: ∀ {k:Nat} {ls:List RefL},k≤l.length→g9 l t k=some ls→ ∀r,r∈ls→r∈t∨r∈l
 |0,ls,_,h,r,hr=>by
  unfold g9 at h
  cases h;exact .inl hr
 |k+1,ls,hk,h,r,hr=>by
  unfold g9 at h
  cases hm:g9 l t k with
  |none=>rw[hm] at h;cases h
  |some m=>
   rw[hm,Option.bind_some] at h
   split at h
   ·cases h
    rcases IX hr with h|h
    ·exact .inr (h▸StP.getD_mem oM)
    exact Df oM hm r h
   cases h
def Lj {t l:List RefL} {k:Nat} {ls:List RefL} (hk:k≤l.length) (h:iR t l k=some ls) (ht:SmallN t) (hl:SmallN l):SmallN ls∧ls.length≤16:=by
 obtain⟨h1,h2,h3,h4⟩:=zR h
 exact⟨Au fun r hr=>(Df hk h4 r hr).elim ht.mem hl.mem,EM h1 k ls h4⟩
def WN_ (l:List UInt8): (eQ l).length≤l.length+100:=by
 have h3:=ij ((gZ l).length:Int)
 have h4:=As l
 simp only[eQ,dz,List.length_append]
 omega
def IR {t l:List RefL} (ht:t.length≤16) (hl:l.length≤100) (dS:SmallN t) (bI:SmallN l): (be t l).length≤150000:=by
 have h1:=J8 dS t.length (ap _)
 have h2:=wS bI l.length (ap _)
 rw[List.take_length] at h1 h2
 have h3:=WN_ (pN t)
 have h4:=ij (t.length:Int)
 have h5: (pN t).length=1+ (eY (d_ t.length)).length+ (tabB t).length:=by
  unfold pN;simp only[List.length_append,List.length_cons,List.length_nil]
 unfold be
 rw[List.length_append]
 omega
def RA {t l:List RefL} (ht:t.length≤16) (hl:l.length≤100) (dS:SmallN t) (bI:SmallN l): (ol t l).length≤150000:=by
 unfold ol
 split
 ·exact IR ht hl dS bI
 exact aq _
def iX:=aN (aN (aN @bB (aN @bA @Sx.tup2_0)) (aN (aN @Sx.tup2_1 @tup3_0) (aN @tup3_1 @tup3_2))) (aN (aN (aN @sj @s_) (aN @sg @sm)) (aN (aN @sy @qA) (aN @A3 @nX)))
def Pa (bo bd:Nat) (S:DiskL) (N:Nat) (B:BkL) (keep:Int) (X:aB) (w:World) (hX: ∀p,p∈X→w.heap[p.1]? =some p.2) (hn: (keys X).Nodup) (hP:BoP bo bd S N B X) (hN:N<600000) (hC:GlobC w) (ur: (4:Nat)∉keys X)
  (dE:B.t.length<1000) (eK:B.l.length<1000) (dS:SmallN B.t) (bI:SmallN B.l):
  Rets prog 44 #[vp bo 0,vi keep] w (XS w X (fun v D=>v=vi ((pY S B keep).1:Nat)∧BoP bo bd (pY S B keep).2.1 (N+42) (pY S B keep).2.2 D)):=by
 obtain⟨G,vt,vl,D,K,rfl,hA⟩:=hP
 have fp:Ext w X ((bo,Obj.cells #[vp G.bd 0,vt,vl,vi (B.n:Nat)] 151 (0,0)):: (D++K)):=(Ext.refl w X).perm hA.perm.symm
 refine Rets.enterX func44 rfl (rs:= [.tmp 4]) results44 ntmps44 hX hn ?_
 refine kf ?_
 refine Cw.permL hA.perm.symm ?_
 refine ky @iX ?_
 refine Ow.callC rfl rfl call46 (fun w' aA=>TK vt vl B.t B.l keep w' (jX hA.t fun b o hm=>aA.has b o (av _ (db _ hm))) (jX hA.l fun b o hm=>aA.has b o (av _ (db _ hm))) dE eK dS.short bI.short) (fun B1 v1 D1 eF dV bX bu=> ?_)
 have dL:=bX.mono dV
 have bq:=mW fp dL
 unfold sw at bu
 unfold pY
 by_cases hr:bV B.t B.l=true
 ·rw[if_pos hr] at bu ⊢
  obtain⟨va,vb,ls,cR,rfl,rP,mv⟩:=bu
  rw[cR]
  simp only
  have e0: ((0:Int) !=0)=false:=rfl
  have qX:=I' B.l.length keep
  obtain⟨cb,hl16⟩:=Lj qX cR dS bI
  have hsd:SmallN (B.l.drop (gH B.l.length keep)):=Au fun r hr=>bI.mem (List.mem_of_mem_drop hr)
  have uy:=(zR cR).2.1
  have i4: (B.l.drop (gH B.l.length keep)).length≤100:=by rw[List.length_drop];omega
  have fE:=RA hl16 i4 cb hsd
  generalize B.l.drop (gH B.l.length keep)=dl at*
  have stz:=yn (.slice none 0 0) (.slice none 0 0) va vb 73 (uS rP).1 (uS mv).1
  refine ko @iX ?_
  refine Ow.alloc rfl rfl m7 fun b5 jF gU=> ?_
  simp only[ag,List.nil_append,List.cons_append]
  have hb5o:bo<b5:=ak jF (by simp[keys])
  refine Ow.permL (M:=(b5, .cells #[.slice none 0 0, .slice none 0 0] 73 (0,0)):: (bo, .cells #[vp G.bd 0,vt,vl,vi (B.n:Nat)] 151 (0,0)):: (D++ (K++D1))) pM ?_
  have jB:Ext w X ((b5, .cells #[va,vb] 73 (0,0)):: (bo, .cells #[vp G.bd 0,vt,vl,vi (B.n:Nat)] 151 (0,0)):: (D++ (K++D1))):=(mW bq (E:= [(b5,Obj.cells #[va,vb] 73 (0,0))]) ⟨gU,trivial⟩).perm pM
  refine ko (aN @iX @stz) ?_
  refine ky (aN @iX (aN @e0 @stz)) ?_
  refine Ow.callFV rfl call86 (fun w' aA=>Pp va vb ls dl w' (q_ hC jB aA ur) (jX rP fun b o hm=>aA.has b o (by simp[hm])) (jX mv fun b o hm=>aA.has b o (by simp[hm])) oM oM cb hsd) ?_
  refine ko @iX ?_
  refine ky @iX ?_
  have rU: ((b5,Obj.cells #[va,vb] 73 (0,0)):: (bo, .cells #[vp G.bd 0,vt,vl,vi (B.n:Nat)] 151 (0,0)):: (D++ (K++D1))).Perm (D++ ((bo, .cells #[vp G.bd 0,vt,vl,vi (B.n:Nat)] 151 (0,0)):: (b5, .cells #[va,vb] 73 (0,0)):: (K++D1))):=pM
  refine Ow.permL rU.symm ?_
  refine Ow.callX (X:=D) (Y:=(bo, .cells #[vp G.bd 0,vt,vl,vi (B.n:Nat)] 151 (0,0)):: (b5, .cells #[va,vb] 73 (0,0)):: (K++D1)) rfl rfl rfl call87 (fun w' aA aj ad=>Lm D G S N aJ aL (ol ls dl) w' aj ad hA.D oM (by decide) oM) (fun v7 D7 ox jD=> ?_)
  have km:=(jB.perm rU.symm).came ox
  have pD: (D7++ ((bo,Obj.cells #[vp G.bd 0,vt,vl,vi (B.n:Nat)] 151 (0,0)):: (b5, .cells #[va,vb] 73 (0,0)):: (K++D1))).Perm ((bo, .cells #[vp G.bd 0,vt,vl,vi (B.n:Nat)] 151 (0,0)):: (b5, .cells #[va,vb] 73 (0,0)):: (D7++ (K++D1))):=pM
  have mD:=km.perm pD.symm
  generalize bN S aJ aL (ol ls dl) false=q at*
  obtain⟨qe,qs⟩:=q
  obtain⟨rfl,G7,gy,mB⟩:=jD
  rw[←gy] at mD pD ⊢
  have kP:=nj qe
  refine Ow.permL (pD.symm) ?_
  simp only at mB ⊢
  by_cases h0:qe=0
  ·rw[if_neg (show¬qe≠0 by simpa using h0)]
   rw[ah (by simpa using h0)] at kP
   have lnb:=FU mv
   have sb1:=G5 (vp G7.bd 0) vt vl (vi (B.n:Nat)) va vb 151 (uS rP).1 (uS mv).1
   have sb2:=qA (vp G7.bd 0) va vb (vi (B.n:Nat)) (dl.length:Nat) 151
   refine ko (aN @iX @kP) ?_
   refine ky (aN @iX @kP) ?_
   refine Cw.regionG [b5] [11] 12 kR rfl ?_
   simp only[List.replicate_succ,List.replicate_zero]
   refine OwG.run [0,1,2,3,4,5,6,7] [true,true,true,true,true,true,true,true,false,false,false,false] 4 rfl kR kR fun k hk=> ?_
   simp only[bF, ↓bE, ↓ay, ↓bD, ↓bC,az]
   simp(disch:=first|exact dD|fail) only[↓Sx.S0,Sx.S1,fx,iX,Nat.reduceAdd,Nat.reducePow,Int.reducePow,Nat.reduceBEq, ↓reduceIte,UInt8.reduceToNat,UInt16.reduceToNat,UInt32.reduceToNat,UInt64.reduceToNat,Int.reduceToNat,Md.next_sofnil,lnb,A3,u4]
   (with_reducible refine hk _ _ _ ?_);clear hk k
   refine OwG.one 8 _ kR rfl ?_
   refine ko (aN @iX @sb1) ?_
   have r5: ∀o,aT w ((bo,o):: (b5, .cells #[va,vb] 73 (0,0)):: (D7++ (K++D1))) b5=some (.cells #[va,vb] 73 (0,0)):=fun o=>by rw[IM _ _ _ _ _ oM];exact oH _ _ _ _
   refine⟨fun r hr=>by rw[List.mem_singleton.1 hr];exact(r5 _).trans (r5 _).symm, ?_⟩
   simp only[List.set_cons_zero,List.set_cons_succ]
   refine OwG.rest [9,10,11] rfl kR kR ?_
   simp only[bF, ↓bE, ↓ay, ↓bD, ↓bC,az]
   refine kq @iX ?_
   refine Ow.store rfl rfl rfl (ke (aN @iX @sb2)) ?_
   refine ko @iX ?_
   refine ky @iX ?_
   refine⟨_,(ke @iX), ?_⟩
   have mp:Ext w X ((bo, .cells #[vp G7.bd 0,va,vb,vi (dl.length:Nat)] 151 (0,0)):: (b5, .cells #[va,vb] 73 (0,0)):: (D7++ (K++D1))):=mD.keys rfl
   exact⟨mp,rfl,G7,va,vb,D7,(b5, .cells #[va,vb] 73 (0,0)):: (K++D1),rfl,⟨pM,mB,rP.mono fun p hp=>av _ (db _ hp),mv.mono fun p hp=>av _ (db _ hp)⟩⟩
  rw[if_pos h0]
  rw[aW h0] at kP
  refine ko (aN @iX @kP) ?_
  refine ky (aN @iX @kP) ?_
  refine⟨_,(ke @iX), ?_⟩
  exact⟨mD,rfl,G7,vt,vl,D7,(b5, .cells #[va,vb] 73 (0,0)):: (K++D1),rfl,⟨pM,mB,hA.t.mono fun p hp=>av _ (bl _ hp),hA.l.mono fun p hp=>av _ (bl _ hp)⟩⟩
 rw[if_neg hr] at bu ⊢
 subst bu
 have e1: ((1:Int) !=0)=true:=rfl
 have stz:=yn (.slice none 0 0) (.slice none 0 0) (.slice none 0 0) (.slice none 0 0) 73 rfl rfl
 refine ko @iX ?_
 refine Ow.alloc rfl rfl m7 fun b5 jF gU=> ?_
 simp only[ag,List.nil_append,List.cons_append]
 have hb5o:bo<b5:=ak jF (by simp[keys])
 refine Ow.permL (M:=(b5, .cells #[.slice none 0 0, .slice none 0 0] 73 (0,0)):: (bo, .cells #[vp G.bd 0,vt,vl,vi (B.n:Nat)] 151 (0,0)):: (D++ (K++D1))) pM ?_
 have jB:Ext w X ((b5, .cells #[.slice none 0 0, .slice none 0 0] 73 (0,0)):: (bo, .cells #[vp G.bd 0,vt,vl,vi (B.n:Nat)] 151 (0,0)):: (D++ (K++D1))):=(mW bq (E:= [(b5,Obj.cells #[.slice none 0 0, .slice none 0 0] 73 (0,0))]) ⟨gU,trivial⟩).perm pM
 refine ko (aN @iX @stz) ?_
 refine ky (aN @iX (aN @e1 @stz)) ?_
 refine⟨_,(ke @iX), ?_⟩
 exact⟨jB,rfl,G,vt,vl,D,(b5, .cells #[.slice none 0 0, .slice none 0 0] 73 (0,0)):: (K++D1),rfl,⟨pM,hA.D.le oM,hA.t.mono fun p hp=>av _ (bl _ hp),hA.l.mono fun p hp=>av _ (bl _ hp)⟩⟩
theorem BI (most:Int): ∀ (l:List UInt8) (k a:Nat) {n q:Nat},bO most l k a= .ok (n,q)→ ∀m,q≤k+m→bO most (l.take m) k a= .ok (n,q)
 | [],k,a,n,q,h,m,hm=>by
  unfold bO at h;cases h
 |x::l,k,a,n,q,h,m,hm=>by
  have aC:=(AV most (x::l) k a n q h).1
  obtain⟨m,rfl⟩: ∃m',m=m'+1:=⟨m - 1,by omega⟩
  rw[List.take_succ_cons]
  unfold bO at h ⊢
  by_cases h1:128≤x.toNat
  ·rw[if_pos h1] at h ⊢
   by_cases h2:k+1=6
   ·rw[if_pos h2] at h;cases h
   rw[if_neg h2] at h ⊢
   exact BI most l (k+1) _ h m oM
  rw[if_neg h1] at h ⊢
  exact h
theorem Cj (most:Int): ∀ (l:List UInt8) (k a:Nat) {x:Nat},bO most l k a= .error x→0<x
 | [],k,a,x,h=>by
  unfold bO at h;cases h;decide
 |c::l,k,a,x,h=>by
  unfold bO at h
  split at h
  ·split at h
   ·cases h;decide
   exact Cj most l _ _ h
  split at h
  ·cases h;decide
  split at h
  ·cases h
  cases h;decide
def Tp {s:List UInt8} {a:Nat} {most:Int} (h: (aG s a 0 most).2.2=0):a< (aG s a 0 most).2.1∧(aG s a 0 most).2.1≤s.length∧ ∀m,(aG s a 0 most).2.1≤m→aG (s.take m) a 0 most=aG s a 0 most:=by
 cases hg:bO most (s.drop a) 0 0 with
 |error x=>
  rw[oU rfl hg] at h
  have hx: (x:Int)=0:=h
  exfalso
  have:=Cj most (s.drop a) 0 0 hg
  omega
 |ok p=>
  obtain⟨n,k⟩:=p
  rw[zO rfl hg]
  obtain⟨h1,h2⟩:=AV most _ _ _ _ _ hg
  rw[List.length_drop] at h2
  refine⟨by show a<a+k;omega,by show a+k≤s.length;omega,fun m hm=> ?_⟩
  have hm:a+k≤m:=hm
  refine zO rfl ?_
  rw[List.drop_take]
  exact BI most _ 0 0 hg (m - a) oM
def Ub {s:List UInt8} {a:Nat} {n:Int} (h: (ax s a 0 n).2.2=0):a≤ (ax s a 0 n).2.1∧(a≤s.length→(ax s a 0 n).2.1≤s.length)∧ ∀m,(ax s a 0 n).2.1≤m→ax (s.take m) a 0 n=ax s a 0 n:=by
 unfold ax at h ⊢
 simp only[ne_eq,not_true_eq_false, ↓reduceIte] at h ⊢
 by_cases h1:n<0
 ·rw[if_pos h1] at h;cases h
 rw[if_neg h1] at h ⊢
 by_cases h2: (s.length:Int) - a<n
 ·rw[if_pos h2] at h;cases h
 rw[if_neg h2]
 refine⟨by show a≤a+n.toNat;omega,fun ha=>by show a+n.toNat≤s.length;omega,fun m hm=> ?_⟩
 have hm:a+n.toNat≤m:=hm
 rw[if_neg h1,if_neg (by rw[List.length_take];omega)]
 simp only[Prod.mk.injEq,and_true]
 rw[List.drop_take,List.take_take,Nat.min_eq_left oM]
def Rf {s:List UInt8} {a:Nat} {most:Int} (h: (aY s a 0 most).2.2=0):a< (aY s a 0 most).2.1∧(aY s a 0 most).2.1≤s.length∧ ∀m,(aY s a 0 most).2.1≤m→aY (s.take m) a 0 most=aY s a 0 most:=by
 unfold aY at h ⊢
 simp only at h ⊢
 by_cases hq: (ax s (aG s a 0 most).2.1 (aG s a 0 most).2.2 (aG s a 0 most).1).2.2≠0
 ·rw[if_pos hq] at h;exact absurd h hq
 rw[if_neg hq]
 have vB: (ax s (aG s a 0 most).2.1 (aG s a 0 most).2.2 (aG s a 0 most).1).2.2=0:=Classical.not_not.1 hq
 have he: (aG s a 0 most).2.2=0:=by
  by_cases he: (aG s a 0 most).2.2=0
  ·exact he
  unfold ax at vB
  rw[if_pos he] at vB
  exact absurd vB he
 obtain⟨n1,n2,n3⟩:=Tp he
 rw[he] at vB ⊢
 obtain⟨r1,r2,r3⟩:=Ub vB
 refine⟨by omega,r2 n2,fun m hm=> ?_⟩
 have e1:=n3 m oM
 have e2:=r3 m hm
 rw[e1,he,e2,if_neg (by rw[vB];simp)]
def CZ {s:List UInt8} {a:Nat} {p c:List UInt8} {to:Nat} {e:Int} (h:cm s a 0 p=(some c,to,e)):a<to∧to≤s.length∧e=0∧ ∀m,to≤m→cm (s.take m) a 0 p=cm s a 0 p:=by
 have h0:=h
 unfold cm at h
 simp only[Prod.mk.injEq] at h
 obtain⟨h1,h2⟩:=h
 split at h1
 ·rename_i hc
  obtain⟨t1,t2,t3⟩:=Rf hc.2.2
  have ht: (aY s a 0 65536).2.1=to:=by rw[h2]
  have rW: (aY s a 0 65536).2.2=e:=by rw[h2]
  rw[ht] at t1 t2 t3
  refine⟨t1,t2,rW.symm.trans hc.2.2,fun m hm=> ?_⟩
  unfold cm
  rw[t3 m hm]
 cases h1
def Tk {s:List UInt8} {t:List RefL} {a:Nat} (h:pK s=some (t,a)):0<a∧a≤s.length∧bV t []=true∧ ∀m,a≤m→pK (s.take m)=some (t,a):=by
 have h0:=h
 unfold pK at h
 cases hr:cm s 0 0 [72] with
 |mk o q=>
  obtain⟨to,e⟩:=q
  rw[hr] at h
  cases o with
  |none=>cases h
  |some c=>
   simp only at h
   split at h
   ·rename_i hc
    cases h
    obtain⟨r1,r2,-,r4⟩:=CZ hr
    refine⟨r1,r2,hc.2,fun m hm=> ?_⟩
    unfold pK
    rw[r4 m hm,hr]
    simp only
    rw[if_pos hc]
   cases h
def DD {s:List UInt8} {tb log l2:List RefL} {a a2:Nat} (h:lN s tb log a=some (l2,a2)):a<a2∧a2≤s.length∧bV tb l2=true∧ ∀m,a2≤m→lN (s.take m) tb log a=some (l2,a2):=by
 unfold lN at h
 cases hr:cm s a 0 [69] with
 |mk o q=>
  obtain⟨to,e⟩:=q
  rw[hr] at h
  cases o with
  |none=>cases h
  |some c=>
   simp only at h
   split at h
   ·rename_i hc
    cases h
    obtain⟨r1,r2,-,r4⟩:=CZ hr
    refine⟨r1,r2,hc.2,fun m hm=> ?_⟩
    unfold lN
    rw[r4 m hm,hr]
    simp only
    rw[if_pos hc]
   cases h
def Uo {s:List UInt8} {tb log:List RefL} {a:Nat} (h:s.length≤a):lN s tb log a=none:=by
 cases hn:lN s tb log a with
 |none=>rfl
 |some p=>
  obtain⟨l2,a2⟩:=p
  obtain⟨h1,h2,-⟩:=DD hn
  omega
theorem CW {s:List UInt8} {tb:List RefL}: ∀ (n:Nat) {log l2:List RefL} {a a2:Nat},kc s tb n log a=(l2,a2)→a≤s.length→bV tb log=true→a≤a2∧a2≤s.length∧bV tb l2=true∧kc (s.take a2) tb n log a=(l2,a2)
 |0,log,l2,a,a2,h,ha,hr=>by
  unfold kc at h ⊢
  cases h
  exact⟨ap _,ha,hr,rfl⟩
 |n+1,log,l2,a,a2,h,ha,hr=>by
  unfold kc at h
  cases hn:lN s tb log a with
  |none=>
   rw[hn] at h
   cases h
   refine⟨ap _,ha,hr, ?_⟩
   unfold kc
   rw[Uo (by rw[List.length_take];omega)]
  |some p=>
   obtain⟨l3,a3⟩:=p
   rw[hn] at h
   obtain⟨h1,h2,h3,h4⟩:=DD hn
   obtain⟨g1,g2,g3,g4⟩:=CW n h h2 h3
   refine⟨by omega,g2,g3, ?_⟩
   unfold kc
   rw[h4 a2 g1]
   exact g4
def CR {s:List UInt8} {t l:List RefL} {a:Nat} (h:iY s=some (t,l,a)):a≤s.length∧bV t l=true∧iY (s.take a)=some (t,l,a):=by
 unfold iY at h
 cases hh:pK s with
 |none=>rw[hh] at h;cases h
 |some q=>
  obtain⟨t1,a1⟩:=q
  rw[hh] at h
  simp only[Option.map_some,Option.some.injEq,Prod.mk.injEq] at h
  obtain⟨rfl,h⟩:=h
  obtain⟨k1,k2,k3,k4⟩:=Tk hh
  obtain⟨g1,g2,g3,g4⟩:=CW 101 h k2 k3
  refine⟨g2,g3, ?_⟩
  unfold iY
  rw[k4 a g1]
  simp only[Option.map_some]
  rw[g4]
end Go.Proofs
end
section
open Go Go.Proofs Go.Sx Go.StP
namespace Go.Proofs
def NL {l:NmL} {s:List UInt8} (h: ∀p,p∈l→p.1≠s):aR l s=none:=by
 cases hf:aR l s with
 |none=>rfl
 |some n=>exact absurd rfl (h _ (j1 hf))
def QG_ (l:NmL) (s:List UInt8):aR (fC l s) s=none:=NL fun _ hp=>(mem_wipe.1 hp).2
def IA {l:NmL} (h:SrtN l) (x:List UInt8×Nat):aR (gK l x) x.1=some x.2:=zK (Aa x h).nodup (mem_put.2 (.inl rfl))
def pJ {S:DiskL} (hc:dK S) {dir:List UInt8} {k:Nat} (hk:bG dir=some k) (names:List (List UInt8)):cr S dir names=if names.all cS=false then 1 else 0:=by
 unfold cr
 rw[hk,hc.1]
 cases names.all cS<;>simp
def yo {S:DiskL} {k:Nat} {x d:List UInt8} (h:am S k x=some d): ∃n,aR (S.dir k).seen x=some n∧(aI S n).data=d:=by
 unfold am at h
 cases hf:aR (S.dir k).seen x with
 |none=>rw[hf] at h;cases h
 |some n=>rw[hf] at h;exact⟨n,rfl,Option.some.inj h⟩
def To {S:DiskL} {k:Nat} {x:List UInt8} (h:am S k x=none):aR (S.dir k).seen x=none:=by
 unfold am at h
 cases hf:aR (S.dir k).seen x with
 |none=>rfl
 |some n=>rw[hf] at h;cases h
def lx {S:DiskL} {dir:List UInt8} {k:Nat} (hk:bG dir=some k) (x:List UInt8):atD S dir x=aR (S.dir k).seen x:=by
 unfold atD
 rw[hk];rfl
def uF {S:DiskL} (hc:dK S) {dir:List UInt8} {k:Nat} (hk:bG dir=some k) {x:List UInt8} (hf:cS x=true):ci S dir x=match am S k x with|none=>([],6) |some d=>(d,0):=by
 have h0:cr S dir [x]=0:=by rw[pJ hc hk,if_neg (by simp[hf])]
 unfold ci
 rw[if_neg (by rw[h0];simp)]
 have h1: ((bG dir).bind fun k=>aR (S.dir k).seen x)=aR (S.dir k).seen x:=by rw[hk];rfl
 rw[h1]
 unfold am
 cases aR (S.dir k).seen x<;>rfl
def Av {S:DiskL} {dir x:List UInt8} (h:bG dir=none∨cS x=false):ci S dir x=([],1):=by
 have h0:cr S dir [x]=1:=by
  unfold cr
  rw[if_pos]
  rcases h with h|h
  ·exact .inl h
  right;simp[h]
 unfold ci
 rw[if_pos (by rw[h0];simp),h0]
section
variable {S:DiskL} {dir x:List UInt8} {k:Nat}
def WG_ (hg:GoodS S) (hc:dK S) (hk:bG dir=some k) (hf:cS x=true) (hv:am S k x=none): (cv S dir x).2=0∧am (cv S dir x).1 k x=some []:=by
 have h0:cr S dir [x]=0:=by rw[pJ hc hk,if_neg (by simp[hf])]
 have an:=(dY hk).1
 unfold cv
 rw[if_neg (by rw[h0];simp),lx hk,To hv]
 simp only
 rw[r9 hc,if_neg (by simp),hk]
 refine⟨rfl, ?_⟩
 show(aR ((cz (fK S cL) k ⟨0,x,[],S.files.length⟩).dir k).seen x).map _=_
 rw[vS,if_pos rfl]
 show(aR (gK (S.dir k).seen (x,S.files.length)) x).map _=_
 rw[IA (hg.srt k an) (x,S.files.length)]
 show some (aI (fK S cL) S.files.length).data=_
 rw[IV];rfl
def KD (hc:dK S) (hk:bG dir=some k) (hf:cS x=true) {d:List UInt8} (hv:am S k x=some d): (fj S dir x).2=0∧am (fj S dir x).1 k x=none:=by
 have h0:cr S dir [x]=0:=by rw[pJ hc hk,if_neg (by simp[hf])]
 obtain⟨n,hn,-⟩:=yo hv
 unfold fj
 rw[if_neg (by rw[h0];simp),lx hk,hn]
 simp only
 rw[r9 hc,if_neg (by simp),hk]
 refine⟨rfl, ?_⟩
 show(aR ((cz S k ⟨2,x,[],0⟩).dir k).seen x).map _=_
 rw[vS,if_pos rfl]
 show(aR (fC (S.dir k).seen x) x).map _=_
 rw[QG_];rfl
def VV_ (hg:GoodS S) (hc:dK S) (hk:bG dir=some k) (hf:cS x=true) {d:List UInt8} (hv:am S k x=some d) (s:List UInt8): ((bW S dir x s).2=8∧(bW S dir x s).1=S)∨((bW S dir x s).2=0∧am (bW S dir x s).1 k x=some (d++s)):=by
 have h0:cr S dir [x]=0:=by rw[pJ hc hk,if_neg (by simp[hf])]
 obtain⟨n,hn,hd⟩:=yo hv
 have bI:=hg.lt k (dY hk).1 _ (j1 hn)
 unfold bW
 rw[if_neg (by rw[h0];simp),lx hk,hn]
 simp only
 by_cases dg:kF S n s=true
 ·rw[if_pos dg];exact .inl ⟨rfl,rfl⟩
 rw[if_neg dg,r9 hc,if_neg (by simp)]
 refine .inr ⟨rfl, ?_⟩
 show(aR (S.dir k).seen x).map (fun m=>(aI (gm S n _) m).data)=_
 rw[hn]
 show some (aI (gm S n _) n).data=_
 rw[rD _ _ bI,if_pos rfl,←hd]
def Kk (hg:GoodS S) (hc:dK S) (hk:bG dir=some k) (hf:cS x=true) {d:List UInt8} (hv:am S k x=some d): (bU S dir x).2=0∧am (bU S dir x).1 k x=some d:=by
 have h0:cr S dir [x]=0:=by rw[pJ hc hk,if_neg (by simp[hf])]
 obtain⟨n,hn,hd⟩:=yo hv
 have bI:=hg.lt k (dY hk).1 _ (j1 hn)
 unfold bU
 rw[if_neg (by rw[h0];simp),lx hk,hn]
 simp only
 rw[r9 hc,if_neg (by simp)]
 refine⟨rfl, ?_⟩
 show(aR (S.dir k).seen x).map (fun m=>(aI (gm S n _) m).data)=_
 rw[hn]
 show some (aI (gm S n _) n).data=_
 rw[rD _ _ bI,if_pos rfl,←hd]
def Kp_ (hc:dK S) (hk:bG dir=some k): (fT S dir).2=0∧ ∀j y,am (fT S dir).1 j y=am S j y:=by
 have h0:cr S dir []=0:=by rw[pJ hc hk,if_neg (by simp)]
 unfold fT
 rw[if_neg (by rw[h0];simp),r9 hc,if_neg (by simp),hk]
 refine⟨rfl,fun j y=> ?_⟩
 unfold am
 show(aR ((kU S k).dir j).seen y).map _=_
 rw[A1];rfl
def VB_ (hg:GoodS S) (hc:dK S) (hk:bG dir=some k) (hf:cS x=true) {y:List UInt8} (hy:cS y=true) (aU:x≠y) {d:List UInt8} (hv:am S k x=some d): (dU S dir x y).2=0∧am (dU S dir x y).1 k y=some d∧am (dU S dir x y).1 k x=none:=by
 have h0:cr S dir [x,y]=0:=by rw[pJ hc hk,if_neg (by simp[hf,hy])]
 obtain⟨n,hn,hd⟩:=yo hv
 have an:=(dY hk).1
 unfold dU
 rw[if_neg (by rw[h0];simp),lx hk,hn]
 simp only
 rw[if_neg aU,r9 hc,if_neg (by simp),hk]
 have hs: ((cz S k ⟨1,x,y,0⟩).dir k).seen=gK (fC (S.dir k).seen x) (y,n):=by
  rw[vS,if_pos rfl]
  show gK (fC (S.dir k).seen x) (y,(aR (S.dir k).seen x).getD 0)=_
  rw[hn];rfl
 refine⟨rfl, ?_, ?_⟩
 ·show(aR ((cz S k ⟨1,x,y,0⟩).dir k).seen y).map _=_
  rw[hs,IA (Ax _ (hg.srt k an)) (y,n)]
  exact congrArg some hd
 show(aR ((cz S k ⟨1,x,y,0⟩).dir k).seen x).map _=_
 rw[hs,wU (x:=(y,n)) (Ne.symm aU),QG_];rfl
def QT (hc:dK S) (hk:bG dir=some k) {y:List UInt8} (hy:cS y=false):dU S dir x y=(S,1):=by
 have h0:cr S dir [x,y]=1:=by rw[pJ hc hk,if_pos (by simp[hy])]
 unfold dU
 rw[if_pos (by rw[h0];simp),h0]
def Qm (h:bG dir=none∨cS x=false):cv S dir x=(S,1):=by
 have h0:cr S dir [x]=1:=by
  unfold cr
  rw[if_pos]
  rcases h with h|h
  ·exact .inl h
  right;simp[h]
 unfold cv
 rw[if_pos (by rw[h0];simp),h0]
end
def XF (k:Nat) (t:TkL) (S:DiskL): ∃kind s e,StepD S kind t.dir (aF t.name) s (phT k t S).S e∧(kind=4→s=t.name):=by
 unfold phT
 split
 ·unfold me
  split
  ·exact⟨0,[],1, .same 1 (.inl (by decide)),fun h=>by cases h⟩
  exact⟨5,[],_,qv S _ _ _,fun h=>by cases h⟩
 ·exact⟨0,[],_,ID S _ _ _,fun h=>by cases h⟩
 ·exact⟨1,t.data,_,A0 S _ _ _,fun h=>by cases h⟩
 ·unfold m9
  split
  ·exact⟨0,[],1, .same 1 (.inl (by decide)),fun h=>by cases h⟩
  exact⟨2,[],_,vQ S _ _ _,fun h=>by cases h⟩
 ·exact⟨4,t.name,_,IF S _ _ _,fun _=>rfl⟩
 unfold vg
 split
 ·exact⟨0,[],1, .same 1 (.inl (by decide)),fun h=>by cases h⟩
 exact⟨3,[],_,X5_ S _ (aF t.name) [],fun h=>by cases h⟩
def RC (r:PhR): ∃e,StepD r.S 5 r.t.dir (aF r.t.name) [] (dm r).S e:=by
 unfold dm
 split
 ·exact⟨_,qv r.S _ _ _⟩
 exact⟨1, .same 1 (.inl (by decide))⟩
theorem ph (Q:DiskL→Prop) (dir nm:List UInt8) (hQ: ∀ (S S':DiskL) (kind:Int) (s:List UInt8) (e:Nat),Q S→StepD S kind dir (aF nm) s S' e→(kind=4→s=nm)→Q S'):
  ∀ (f:Nat) (t:TkL) (S:DiskL),t.dir=dir→t.name=nm→Q S→Q (phG f t S).2
 |0,_,_,_,_,h=>h
 |f+1,t,S,hd,hn,h=>by
  obtain⟨kind,s,e,h1,h2⟩:=XF t.next t S
  rw[hd,hn] at h1
  rw[hn] at h2
  have h3:=hQ _ _ _ _ _ h h1 h2
  obtain⟨d1,d2,-⟩:=pw t.next t S
  unfold phG
  split
  ·obtain⟨e',h4⟩:=RC (phT t.next t S)
   rw[d1,d2,hd,hn] at h4
   exact hQ _ _ _ _ _ h3 h4 fun h=>by cases h
  split
  ·exact h3
  obtain⟨f1,f2,-⟩:=ry t.next t S
  exact ph Q dir nm hQ f _ _ (f1.trans hd) (f2.trans hn) h3
structure OthS (S S':DiskL) (dir nm:List UInt8):Prop where
 good:GoodS S'
 view: ∀j,j<3→ ∀x,OthN dir nm j x→am S' j x=am S j x
def wo {S:DiskL} (hg:GoodS S) (dir nm data:List UInt8) (light:Bool):OthS S (bN S dir nm data light).2 dir nm:=
 ph (fun S'=>OthS S S' dir nm) dir nm (fun A B kind s e hA bL h4=>⟨lG hA.good bL,fun j hj x hx=>(AF hA.good bL hj fun hd=>⟨(hx hd).2,fun h=>by rw[h4 h];exact(hx hd).1⟩).trans (hA.view j hj x hx)⟩) 6 (tk0 dir nm data light) S rfl rfl ⟨hg,fun _ _ _ _=>rfl⟩
def AW {S:DiskL} (hc:dK S) (dir nm data:List UInt8) (light:Bool):dK (bN S dir nm data light).2:=
 ph dK dir nm (fun _ _ _ _ _ hA bL _=>mX hA bL) 6 (tk0 dir nm data light) S rfl rfl hc
def i' {f:Nat} {t t':TkL} {S:DiskL} {r:PhR} (hr:phT t.next t S=r) (he:r.e=0) (hn:endT (nxT r)=false) (ht:gn r=t'):phG (f+1) t S=phG f t' r.S:=by
 conv=>lhs;unfold phG
 rw[hr,if_neg (by rw[he];simp),if_neg (by rw[hn];simp),ht]
def oI {f:Nat} {t:TkL} {S:DiskL} {r:PhR} (hr:phT t.next t S=r) (he:r.e≠0):phG (f+1) t S=((dm r).e,(dm r).S):=by
 unfold phG
 rw[hr,if_pos he]
def s7 {f:Nat} {t:TkL} {S:DiskL} {r:PhR} (hr:phT t.next t S=r) (he:r.e=0) (hn:endT (nxT r)=true):phG (f+1) t S=(0,r.S):=by
 unfold phG
 rw[hr,if_neg (by rw[he];simp),if_pos hn]
def tkN (dir nm data:List UInt8) (light:Bool) (n:Nat) (made:Bool):TkL:=⟨dir,nm,data,light,n,made,false⟩
def Y6 {S:DiskL} {dir nm:List UInt8} (data:List UInt8) (light:Bool) (h:bG dir=none∨cS (aF nm)=false):bN S dir nm data light=(1,S):=by
 have h0:phT 0 (tk0 dir nm data light) S=⟨false,0,tk0 dir nm data light,S⟩:=by
  show me _ S=_
  unfold me
  have hr:=Av (S:=S) (dir:=dir) (x:=aF nm) h
  rw[if_pos (by show(ci S dir (aF nm)).2≠0;rw[hr];simp)]
 have h1:phT 1 (tkN dir nm data light 1 false) S=⟨true,1,tkN dir nm data light 1 false,S⟩:=by
  show Ad _ S=_
  have hr:=Qm (S:=S) (dir:=dir) (x:=aF nm) h
  unfold Ad
  show PhR.mk true (cv S dir (aF nm)).2 {tkN dir nm data light 1 false with made:=(cv S dir (aF nm)).2==0} (cv S dir (aF nm)).1=_
  rw[hr];rfl
 unfold bN
 rw[i' (t':=tkN dir nm data light 1 false) h0 rfl (by cases light<;>rfl) (by cases light<;>rfl),oI h1 (by simp)]
 rfl
def Vt {S:DiskL} (hg:GoodS S) (hc:dK S) {dir nm:List UInt8} {k:Nat} (hk:bG dir=some k) (hf:cS (aF nm)=true) (data:List UInt8) (light:Bool):
  (∃S',bN S dir nm data light=(8,S')∧ ∀x,x≠aF nm→am S' k x=am S k x)∨
  (∃S',bN S dir nm data light=phG 2 (tkN dir nm data light 4 true) S'∧GoodS S'∧dK S'∧am S' k (aF nm)=some data∧ ∀x,x≠aF nm→am S' k x=am S k x):=by
 have hd:d7 k=dir:=(dY hk).2.symm
 have an:=(dY hk).1
 have other: ∀ {A B:DiskL} {kind:Int} {s:List UInt8} {e:Nat},GoodS A→StepD A kind dir (aF nm) s B e→kind≠4→ ∀x,x≠aF nm→am B k x=am A k x:=fun hA bL h4 x hx=>AF hA bL an fun _=>⟨hx,fun h=>absurd h h4⟩
 obtain⟨S1,h0,g1,c1,v1,o1⟩: ∃S1,(∃b,phT 0 (tk0 dir nm data light) S=⟨b,0,tk0 dir nm data light,S1⟩)∧GoodS S1∧dK S1∧am S1 k (aF nm)=none∧ ∀x,x≠aF nm→am S1 k x=am S k x:=by
  have hr:=uF hc hk hf
  show∃S1,(∃b,me (tk0 dir nm data light) S=_)∧_
  unfold me
  cases hv:am S k (aF nm) with
  |none=>
   rw[hv] at hr
   exact⟨S,⟨false,by rw[if_pos (by show(ci S dir (aF nm)).2≠0;rw[hr];simp)]⟩,hg,hc,hv,fun _ _=>rfl⟩
  |some d=>
   rw[hv] at hr
   obtain⟨r1,r2⟩:=KD hc hk hf hv
   have st:=qv S dir (aF nm) []
   refine⟨(fj S dir (aF nm)).1,⟨true, ?_⟩,lG hg st,mX hc st,r2,other hg st (by decide)⟩
   rw[if_neg (by show¬ (ci S dir (aF nm)).2≠0;rw[hr];simp)]
   show PhR.mk true (fj S dir (aF nm)).2 _ _=_
   rw[r1];rfl
 obtain⟨b0,h0⟩:=h0
 obtain⟨r1,r2⟩:=WG_ g1 c1 hk hf v1
 have st2:=ID S1 dir (aF nm) []
 have g2:=lG g1 st2
 have c2:=mX c1 st2
 have o2:=other g1 st2 (by decide)
 have h1:phT 1 (tkN dir nm data light 1 false) S1=⟨true,0,tkN dir nm data light 1 true,(cv S1 dir (aF nm)).1⟩:=by
  show PhR.mk true (cv S1 dir (aF nm)).2 {tkN dir nm data light 1 false with made:=(cv S1 dir (aF nm)).2==0} _=_
  rw[r1];rfl
 generalize (cv S1 dir (aF nm)).1=S2 at*
 have st3:=A0 S2 dir (aF nm) data
 have g3:=lG g2 st3
 have c3:=mX c2 st3
 have o3:=other g2 st3 (by decide)
 have h2:phT 2 (tkN dir nm data light 2 true) S2=⟨true,(bW S2 dir (aF nm) data).2,tkN dir nm data light 2 true,(bW S2 dir (aF nm) data).1⟩:=rfl
 have hp:bN S dir nm data light=phG 4 (tkN dir nm data light 2 true) S2:=by
  unfold bN
  rw[i' (t':=tkN dir nm data light 1 false) h0 rfl (by cases light<;>rfl) (by cases light<;>rfl),i' (t':=tkN dir nm data light 2 true) h1 rfl (by cases light<;>rfl) (by cases light<;>rfl)]
 rcases VV_ g2 c2 hk hf r2 data with⟨a1,a2⟩ | ⟨a1,a2⟩
 ·left
  have st4:=qv S2 dir (aF nm) []
  refine⟨(fj S2 dir (aF nm)).1, ?_,fun x hx=>(other g2 st4 (by decide) x hx).trans ((o2 x hx).trans (o1 x hx))⟩
  rw[hp,oI h2 (by show(bW S2 dir (aF nm) data).2≠0;rw[a1];simp)]
  unfold dm
  rw[if_pos ⟨rfl,by show(bW S2 dir (aF nm) data).2≠9;rw[a1];simp⟩]
  show((bW S2 dir (aF nm) data).2,(fj (bW S2 dir (aF nm) data).1 dir (aF nm)).1)=_
  rw[a1,a2]
 right
 rw[List.nil_append] at a2
 rw[hp,i' (t':=tkN dir nm data light 3 true) h2 a1 (by cases light<;>rfl) (by cases light<;>rfl)]
 show∃S',phG 3 _ (bW S2 dir (aF nm) data).1=_∧_
 generalize (bW S2 dir (aF nm) data).1=S3 at*
 have o3': ∀x,x≠aF nm→am S3 k x=am S k x:=fun x hx=>(o3 x hx).trans ((o2 x hx).trans (o1 x hx))
 cases light with
 |true=>
  have h3:phT 3 (tkN dir nm data true 3 true) S3=⟨false,0,tkN dir nm data true 3 true,S3⟩:=rfl
  exact⟨S3,by rw[i' (t':=tkN dir nm data true 4 true) h3 rfl rfl rfl],g3,c3,a2,o3'⟩
 |false=>
  obtain⟨s1,s2⟩:=Kk g3 c3 hk hf a2
  have st5:=vQ S3 dir (aF nm) []
  have h3:phT 3 (tkN dir nm data false 3 true) S3=⟨true,0,tkN dir nm data false 3 true,(bU S3 dir (aF nm)).1⟩:=by
   show PhR.mk true (bU S3 dir (aF nm)).2 _ _=_
   rw[s1];rfl
  exact⟨_,by rw[i' (t':=tkN dir nm data false 4 true) h3 rfl rfl rfl],lG g3 st5,mX c3 st5,s2,fun x hx=>(other g3 st5 (by decide) x hx).trans (o3' x hx)⟩
def Ky {S:DiskL} (hg:GoodS S) (hc:dK S) (dir nm data:List UInt8):
  ((bN S dir nm data false).1≠0→ci (bN S dir nm data false).2 dir nm=ci S dir nm)∧
  ((bN S dir nm data false).1=0→ci (bN S dir nm data false).2 dir nm=(data,0)∧(ci (bN S dir nm data false).2 dir (aF nm)).2≠0):=by
 have uk:=AW hc dir nm data false
 by_cases h:bG dir=none∨cS (aF nm)=false
 ·rw[Y6 data false h]
  exact⟨fun _=>rfl,fun h=>by cases h⟩
 obtain⟨k,hk⟩: ∃k,bG dir=some k:=by
  cases hk:bG dir with
  |none=>exact absurd (.inl hk) h
  |some k=>exact⟨k,rfl⟩
 have hf:cS (aF nm)=true:=by
  cases hf:cS (aF nm) with
  |true=>rfl
  |false=>exact absurd (.inr hf) h
 have same: ∀S':DiskL,dK S'→am S' k nm=am S k nm→ci S' dir nm=ci S dir nm:=fun S' fF hv=>by
  cases dh:cS nm with
  |true=>rw[uF fF hk dh,uF hc hk dh,hv]
  |false=>rw[Av (.inr dh),Av (.inr dh)]
 rcases Vt hg hc hk hf data false with⟨S',h1,h2⟩ | ⟨S',h1,g4,c4,v4,o4⟩
 ·rw[h1] at uk ⊢
  exact⟨fun _=>same S' uk (h2 nm (Ne.symm (uL nm))),fun h=>by cases h⟩
 have aU:=uL nm
 cases dh:cS nm with
 |false=>
  have rb:=QT (x:=aF nm) c4 hk dh
  have h4:phT 4 (tkN dir nm data false 4 true) S'=⟨true,1,tkN dir nm data false 4 true,S'⟩:=by
   show PhR.mk true (dU S' dir (aF nm) nm).2 {tkN dir nm data false 4 true with made:=true&& (dU S' dir (aF nm) nm).2 !=0} (dU S' dir (aF nm) nm).1=_
   rw[rb];rfl
  have hr:bN S dir nm data false=(1,(fj S' dir (aF nm)).1):=by
   rw[h1,oI h4 (by simp)];rfl
  rw[hr] at uk ⊢
  exact⟨fun _=>by rw[Av (.inr dh),Av (.inr dh)],fun h=>by cases h⟩
 |true=>
  obtain⟨n1,n2,n3⟩:=VB_ g4 c4 hk hf dh aU v4
  have st:=IF S' dir (aF nm) nm
  have c5:=mX c4 st
  have h4:phT 4 (tkN dir nm data false 4 true) S'=⟨true,0,tkN dir nm data false 4 false,(dU S' dir (aF nm) nm).1⟩:=by
   show PhR.mk true (dU S' dir (aF nm) nm).2 {tkN dir nm data false 4 true with made:=true&& (dU S' dir (aF nm) nm).2 !=0} _=_
   rw[n1];rfl
  generalize (dU S' dir (aF nm) nm).1=S5 at*
  obtain⟨d1,d2⟩:=Kp_ c5 hk
  have h5:phT 5 (tkN dir nm data false 5 false) S5=⟨true,0,tkN dir nm data false 5 false,(fT S5 dir).1⟩:=by
   show PhR.mk true (fT S5 dir).2 _ _=_
   rw[d1];rfl
  have hr:bN S dir nm data false=(0,(fT S5 dir).1):=by
   rw[h1,i' (t':=tkN dir nm data false 5 false) h4 rfl rfl rfl,s7 h5 rfl rfl]
  rw[hr] at uk ⊢
  refine⟨fun h=>absurd rfl h,fun _=>⟨?_, ?_⟩⟩
  ·rw[uF uk hk dh]
   show(match am (fT S5 dir).1 k nm with|none=>([],6) |some d=>(d,0))=_
   rw[d2,n2]
  rw[uF uk hk hf]
  show(match am (fT S5 dir).1 k (aF nm) with|none=>(([],6):List UInt8×Nat) |some d=>(d,0)).2≠0
  rw[d2,n3];simp
end Go.Proofs
end
