/-
  Part 3 of the walk: contracts of the functions that the law reaches, and the calculus they stand on.
  No conditions.
-/
import Derived.Test.YtfdphhalimbpbaaGreatDoorC2
import Derived.Shelf.SlIter.Nil
import Derived.Shelf.SortM.Plain
import Derived.Shelf.SortM.SortNone
import Derived.Ground.GgzProg
import Derived.Ground.SlgmProg
set_option maxRecDepth 100000
set_option maxHeartbeats 4000000
set_option linter.unusedSimpArgs false
set_option linter.defProp false
open Go.Proofs.Tryz
section
open Go Go.Proofs Go.Sx Go.StP
namespace Go.Proofs
def cv (S:DiskL) (dir name:List UInt8):DiskL×Nat:=
 if cr S dir [name]≠0 then(S,cr S dir [name]) else match atD S dir name with
  |some _=>(S,7)
  |none=>if(aM S).2≠0 then aM S else(cz (fK (aM S).1 cL) ((bG dir).getD 0) ⟨0,name,[],S.files.length⟩,0)
def fj (S:DiskL) (dir name:List UInt8):DiskL×Nat:=
 if cr S dir [name]≠0 then(S,cr S dir [name]) else match atD S dir name with
  |none=>(S,6)
  |some _=>if(aM S).2≠0 then aM S else(cz (aM S).1 ((bG dir).getD 0) ⟨2,name,[],0⟩,0)
def dU (S:DiskL) (dir name to:List UInt8):DiskL×Nat:=
 if cr S dir [name,to]≠0 then(S,cr S dir [name,to]) else match atD S dir name with
  |none=>(S,6)
  |some _=>if name=to then aM S else if(aM S).2≠0 then aM S else(cz (aM S).1 ((bG dir).getD 0) ⟨1,name,to,0⟩,0)
def Ri (S:DiskL) (f:FileL):aM (fK S f)=(fK (aM S).1 f,(aM S).2):=by
 unfold aM
 by_cases h1:S.fused=true∧S.fuse=0
 ·rw[if_pos h1,if_pos (by exact h1)];rfl
 rw[if_neg h1,if_neg (by exact h1)]
 by_cases h2:S.fused=true
 ·rw[if_pos h2,if_pos (by exact h2)];rfl
 rw[if_neg h2,if_neg (by exact h2)]
def Z5 (b o:Nat):ab prog .neq 178 (vp b o) (.pointer none)=some (.bool true):=by
 simp[ab,eqX,eN,eA,underlying178,vp]
def ZL:ab prog .neq 178 (.pointer none) (.pointer none)=some (.bool false):=by
 simp[ab,eqX,eN,eA,underlying178]
def IP {L D:aB} {B:Nat} (hA:eP L B) (hN:New B D) {b:Nat} {o:Obj} (h:Sx.look D b=some o):Sx.look (L++D) b=some o:=by
 rw[g8 (fun hm=>by have:=ak hA hm;have:=hN.le b (cC h);omega)];exact h
def DkP.fb_key {X:aB} {G:DkG} {S:DiskL} (h:DkP X G S) {b:Nat} (hb:b∈G.fb):b∈keys X:=by
 obtain⟨n,hn,rfl⟩:=List.getElem_of_mem hb
 have:=h.file n (by rw[←h.len];exact hn)
 rw[List.getD_eq_getElem?_getD,List.getElem?_eq_getElem hn] at this
 exact cC this
def cB:=aN (aN (aN (aN @bB @bA) (aN @mY @AH)) (aN (aN @oJ @oE) (aN @oG (aN @yl @yp)))) (aN (aN (aN @Ci @nY) (aN @nU @qD)) (aN (aN @pq @Z5) (aN @ZL (aN @Sx.tup2_0 @Sx.tup2_1))))
def Ni (X:aB) (G:DkG) (S:DiskL) (dir name:List UInt8) (w:World) (hX: ∀p,p∈X→w.heap[p.1]? =some p.2) (hn: (keys X).Nodup) (hP:DkP X G S) (ec:name.length<1099511627776) (fy: ∀k,k<3→(S.dir k).pend.length<1000000):
  Rets prog 306 #[vp G.bd 0,vs dir,vs name] w (XS w X (fun v D=>v=vi ((cv S dir name).2:Nat)∧ ∃G',G'.bd=G.bd∧DkP D G' (cv S dir name).1)):=by
 refine Rets.enterX func306 rfl (rs:= [.tmp 6]) results306 ntmps306 hX hn ?_
 refine kf ?_
 refine ky @cB ?_
 refine Ow.buildSlice (e:=9) #[vs name] rfl rfl kR fun b1 aO aP=> ?_
 have ai:=hP.mono (X':=X++ [(b1,Obj.cells #[vs name] 9 (0,0))]) fun b o h=>bZ h
 have bq:=(Ext.refl w X).app (o:=Obj.cells #[vs name] 9 (0,0)) aP
 have ey: (b1,Obj.cells #[vs name] 9 (0,0))∈X++ [(b1,Obj.cells #[vs name] 9 (0,0))]:=by simp
 generalize X++ [(b1,Obj.cells #[vs name] 9 (0,0))]=L1 at*
 refine ko @cB ?_
 refine Ow.callC rfl rfl call151 (fun w' aA=>Rets.toX (vW w' G S dir (vsl b1 0 1 1) [name] (ai.world aA) (pr (aA.has _ _ ey)) (by simp) (by simpa using ec))) (fun B2 v2 D2 dG cZ cJ bH=> ?_)
 obtain⟨rfl,bH⟩:=bH
 rw[List.append_nil]
 clear ey dG cJ
 unfold cv atD
 rcases bH with⟨he,rfl⟩ | ⟨he,k,hk,rfl⟩
 ·have e1:=oO he
  refine ko @cB ?_
  refine ky (aN @cB @e1) ?_
  refine⟨_,(ke @cB), ?_⟩
  rw[if_pos he]
  exact⟨bq,rfl,G,rfl,ai⟩
 have pA: ¬ (cr S dir [name]≠0):=by rw[he];simp
 have an:=(dY hk).1
 have iT:=ac (w0:=w) (ai.dir k an)
 obtain⟨os,ms,gR,fY,i9⟩:=ai.seen k an
 have lV:=ac (w0:=w) gR
 have e1: ((0:Int) !=0)=false:=rfl
 refine ko @cB ?_
 refine ky (aN @cB (aN @e1 @iT)) ?_
 refine Ow.mapGetG (encK:=vs) (encV:=ar) (k:=name) (z:=none) rfl rfl underlying173 j7 zrPf rfl rfl lV fY ?_
 rw[i9.get (hP.ok.seen k an).nodup]
 show Ow _ _ _ _ _ _ _ _
 have hq: (bG dir).bind (fun k=>aR (S.dir k).seen name)=aR (S.dir k).seen name:=by rw[hk];rfl
 cases hf:aR (S.dir k).seen name with
 |some n=>
  have hp: ∀q:Nat,ar (some q)=vp q 0:=fun _=>rfl
  refine ko (aN @cB @hp) ?_
  refine ky @cB ?_
  refine⟨_,(ke @cB), ?_⟩
  rw[if_neg pA,hq,hf]
  exact⟨bq,rfl,G,rfl,ai⟩
 |none=>
  have fP:ar none= .pointer none:=rfl
  refine ko (aN @cB @fP) ?_
  refine ky @cB ?_
  refine Ow.callC rfl rfl call319 (fun w' aA=>Me name w') (fun B3 v3 D3 fU kI gL jl=> ?_)
  obtain⟨bp,bn,bf,rfl,JY,gB,JX⟩:=jl
  have dA:=ai.mono (X':=L1++D3) fun b o h=>bZ h
  have hbp2:=IP fU gL JY
  have xo:=IP fU gL gB
  have hbf2:=IP fU gL JX
  have hnf:bf∉G.fb:=fun hm=>by
   have h1:=ak fU (ai.fb_key hm)
   have h2:=gL.le bf (cC JX)
   omega
  have o_:=dA.addFile hbf2 hnf (f:=cL) ⟨by decide,by decide⟩
  have bw:Ext w X (L1++D3):=⟨fun c hc=>by
   rw[ae] at hc
   rcases List.mem_append.1 hc with hc|hc
   ·exact bq.new c hc
   exact .inr (Nat.le_trans kI (gL.le c hc)),fun c hc=>by rw[ae];exact bl _ (bq.all c hc)⟩
  generalize L1++D3=L3 at*
  refine ko @cB ?_
  refine Ow.callX (X:=L3) (Y:= []) (List.append_nil _).symm rfl rfl call279 (fun w' aA aj ad=>KW L3 (addF G bf) (fK S cL) k ⟨0,name,[],S.files.length⟩ _ w' aj ad o_ an ⟨bp,bn,rfl,by show Sx.look L3 bp=some (ptrO ((G.fb++ [bf]).getD S.files.length 0));rw[vh _ _ hP.len];exact hbp2,xo⟩ (fun h=>by cases h) (fun _=>by show S.files.length< (S.files++ [cL]).length;simp) (fy k an)) (fun v4 D4 dc bQ=> ?_)
  rw[Ri] at bQ
  obtain⟨rfl,bQ⟩:=bQ
  simp only at bQ
  have jA:=bw.came0 dc
  rw[List.append_nil]
  refine ko @cB ?_
  refine ky @cB ?_
  refine⟨_,(ke @cB), ?_⟩
  rw[if_neg pA,hq,hf]
  simp only
  by_cases eH: (aM S).2=0
  ·rw[if_neg (by rw[eH];simp)] at bQ
   rw[if_neg (by rw[eH];simp)]
   obtain⟨v5,lQ⟩:=bQ
   rw[hk]
   exact⟨jA,by rw[eH];rfl,setP (addF G bf) k v5,rfl,lQ⟩
  rw[if_pos eH] at bQ
  rw[if_pos eH]
  subst bQ
  obtain⟨aO,al,gA⟩:=fM S
  exact⟨jA,rfl,G,rfl,dA.setDisk (aM S).1 aO al (qz hP.ok)⟩
def Kl_ (X:aB) (G:DkG) (S:DiskL) (dir name:List UInt8) (w:World) (hX: ∀p,p∈X→w.heap[p.1]? =some p.2) (hn: (keys X).Nodup) (hP:DkP X G S) (ec:name.length<1099511627776) (fy: ∀k,k<3→(S.dir k).pend.length<1000000):
  Rets prog 240 #[vp G.bd 0,vs dir,vs name] w (XS w X (fun v D=>v=vi ((fj S dir name).2:Nat)∧ ∃G',G'.bd=G.bd∧DkP D G' (fj S dir name).1)):=by
 refine Rets.enterX func240 rfl (rs:= [.tmp 6]) results240 ntmps240 hX hn ?_
 refine kf ?_
 refine ky @cB ?_
 refine Ow.buildSlice (e:=9) #[vs name] rfl rfl kR fun b1 aO aP=> ?_
 have ai:=hP.mono (X':=X++ [(b1,Obj.cells #[vs name] 9 (0,0))]) fun b o h=>bZ h
 have bq:=(Ext.refl w X).app (o:=Obj.cells #[vs name] 9 (0,0)) aP
 have ey: (b1,Obj.cells #[vs name] 9 (0,0))∈X++ [(b1,Obj.cells #[vs name] 9 (0,0))]:=by simp
 generalize X++ [(b1,Obj.cells #[vs name] 9 (0,0))]=L1 at*
 refine ko @cB ?_
 refine Ow.callC rfl rfl call151 (fun w' aA=>Rets.toX (vW w' G S dir (vsl b1 0 1 1) [name] (ai.world aA) (pr (aA.has _ _ ey)) (by simp) (by simpa using ec))) (fun B2 v2 D2 dG cZ cJ bH=> ?_)
 obtain⟨rfl,bH⟩:=bH
 rw[List.append_nil]
 clear ey dG cJ
 unfold fj atD
 rcases bH with⟨he,rfl⟩ | ⟨he,k,hk,rfl⟩
 ·have e1:=oO he
  refine ko @cB ?_
  refine ky (aN @cB @e1) ?_
  refine⟨_,(ke @cB), ?_⟩
  rw[if_pos he]
  exact⟨bq,rfl,G,rfl,ai⟩
 have pA: ¬ (cr S dir [name]≠0):=by rw[he];simp
 have an:=(dY hk).1
 have iT:=ac (w0:=w) (ai.dir k an)
 obtain⟨os,ms,gR,fY,i9⟩:=ai.seen k an
 have lV:=ac (w0:=w) gR
 have e1: ((0:Int) !=0)=false:=rfl
 refine ko @cB ?_
 refine ky (aN @cB (aN @e1 @iT)) ?_
 refine Ow.mapGetG (encK:=vs) (encV:=ar) (k:=name) (z:=none) rfl rfl underlying173 j7 zrPf rfl rfl lV fY ?_
 rw[i9.get (hP.ok.seen k an).nodup]
 show Ow _ _ _ _ _ _ _ _
 have hq: (bG dir).bind (fun k=>aR (S.dir k).seen name)=aR (S.dir k).seen name:=by rw[hk];rfl
 cases hf:aR (S.dir k).seen name with
 |none=>
  have fP:ar none= .pointer none:=rfl
  refine ko (aN @cB @fP) ?_
  refine ky @cB ?_
  refine⟨_,(ke @cB), ?_⟩
  rw[if_neg pA,hq,hf]
  exact⟨bq,rfl,G,rfl,ai⟩
 |some n=>
  have hp: ∀q:Nat,ar (some q)=vp q 0:=fun _=>rfl
  refine ko (aN @cB @hp) ?_
  refine ky @cB ?_
  refine Ow.callC rfl rfl call280 (fun w' aA=>MK name w') (fun B3 v3 D3 fU kI gL jl=> ?_)
  obtain⟨bn,rfl,gB⟩:=jl
  have dA:=ai.mono (X':=L1++D3) fun b o h=>bZ h
  have xo:=IP fU gL gB
  have bw:Ext w X (L1++D3):=⟨fun c hc=>by
   rw[ae] at hc
   rcases List.mem_append.1 hc with hc|hc
   ·exact bq.new c hc
   exact .inr (Nat.le_trans kI (gL.le c hc)),fun c hc=>by rw[ae];exact bl _ (bq.all c hc)⟩
  generalize L1++D3=L3 at*
  refine ko @cB ?_
  refine Ow.callX (X:=L3) (Y:= []) (List.append_nil _).symm rfl rfl call279 (fun w' aA aj ad=>KW L3 G S k ⟨2,name,[],0⟩ _ w' aj ad dA an ⟨bn,rfl,xo⟩ (fun h=>by cases h) (fun h=>by cases h) (fy k an)) (fun v4 D4 dc bQ=> ?_)
  obtain⟨rfl,bQ⟩:=bQ
  have jA:=bw.came0 dc
  rw[List.append_nil]
  refine ko @cB ?_
  refine ky @cB ?_
  refine⟨_,(ke @cB), ?_⟩
  rw[if_neg pA,hq,hf]
  simp only
  by_cases eH: (aM S).2=0
  ·rw[if_neg (by rw[eH];simp)] at bQ
   rw[if_neg (by rw[eH];simp)]
   obtain⟨v5,lQ⟩:=bQ
   rw[hk]
   exact⟨jA,by rw[eH];rfl,setP G k v5,rfl,lQ⟩
  rw[if_pos eH] at bQ
  rw[if_pos eH]
  subst bQ
  obtain⟨aO,al,gA⟩:=fM S
  exact⟨jA,rfl,G,rfl,dA.setDisk (aM S).1 aO al (qz hP.ok)⟩
def O2 (X:aB) (G:DkG) (S:DiskL) (dir name to:List UInt8) (w:World) (hX: ∀p,p∈X→w.heap[p.1]? =some p.2) (hn: (keys X).Nodup) (hP:DkP X G S) (ec:name.length<1099511627776) (Jx:to.length<1099511627776) (fy: ∀k,k<3→(S.dir k).pend.length<1000000):
  Rets prog 307 #[vp G.bd 0,vs dir,vs name,vs to] w (XS w X (fun v D=>v=vi ((dU S dir name to).2:Nat)∧ ∃G',G'.bd=G.bd∧DkP D G' (dU S dir name to).1)):=by
 refine Rets.enterX func307 rfl (rs:= [.tmp 8]) results307 ntmps307 hX hn ?_
 refine kf ?_
 refine ky @cB ?_
 refine Ow.box rfl rfl fun b6 gx gF=> ?_
 simp only[ck,cV,ce]
 refine ko @cB ?_
 refine Ow.box rfl rfl fun b7 gy fZ=> ?_
 simp only[ck,cV,ce]
 refine Ow.permL (M:=X++ [(b6,dX name)]++ [(b7,dX to)]) (List.Perm.refl _) ?_
 have lP:=hP.mono (X':=X++ [(b6,dX name)]++ [(b7,dX to)]) fun b o h=>bZ (bZ h)
 have fp:=((Ext.refl w X).app (o:=dX name) gF).app (o:=dX to) fZ
 have HR:Sx.look (X++ [(b6,dX name)]++ [(b7,dX to)]) b6=some (dX name):=bZ (jQ gx)
 have qY:Sx.look (X++ [(b6,dX name)]++ [(b7,dX to)]) b7=some (dX to):=jQ gy
 generalize X++ [(b6,dX name)]++ [(b7,dX to)]=L0 at*
 have rV:=ac (w0:=w) HR
 have l9:=ac (w0:=w) qY
 refine ko @cB ?_
 refine ky (aN @cB (aN @rV @l9)) ?_
 refine Ow.buildSlice (e:=9) #[vs name,vs to] rfl rfl kR fun b1 aO aP=> ?_
 have ai:=lP.mono (X':=L0++ [(b1,Obj.cells #[vs name,vs to] 9 (0,0))]) fun b o h=>bZ h
 have bq:=fp.app (o:=Obj.cells #[vs name,vs to] 9 (0,0)) aP
 have ey: (b1,Obj.cells #[vs name,vs to] 9 (0,0))∈L0++ [(b1,Obj.cells #[vs name,vs to] 9 (0,0))]:=by simp
 have HR:=bZ (M:= [(b1,Obj.cells #[vs name,vs to] 9 (0,0))]) HR
 have qY:=bZ (M:= [(b1,Obj.cells #[vs name,vs to] 9 (0,0))]) qY
 generalize L0++ [(b1,Obj.cells #[vs name,vs to] 9 (0,0))]=L1 at*
 have rV:=ac (w0:=w) HR
 have l9:=ac (w0:=w) qY
 have Hg: ∀s,s∈ [name,to]→s.length<1099511627776:=by
  intro s hs
  simp only[List.mem_cons,List.not_mem_nil,or_false] at hs
  rcases hs with rfl|rfl
  ·exact ec
  exact Jx
 refine ko @cB ?_
 refine Ow.callC rfl rfl call151 (fun w' aA=>Rets.toX (vW w' G S dir (vsl b1 0 2 2) [name,to] (ai.world aA) (h_ (aA.has _ _ ey)) (by simp) Hg)) (fun B2 v2 D2 dG cZ cJ bH=> ?_)
 obtain⟨rfl,bH⟩:=bH
 rw[List.append_nil]
 clear ey dG cJ Hg
 unfold dU atD
 rcases bH with⟨he,rfl⟩ | ⟨he,k,hk,rfl⟩
 ·have e1:=oO he
  refine ko @cB ?_
  refine ky (aN @cB @e1) ?_
  refine⟨_,(ke @cB), ?_⟩
  rw[if_pos he]
  exact⟨bq,rfl,G,rfl,ai⟩
 have pA: ¬ (cr S dir [name,to]≠0):=by rw[he];simp
 have an:=(dY hk).1
 have iT:=ac (w0:=w) (ai.dir k an)
 obtain⟨os,ms,gR,fY,i9⟩:=ai.seen k an
 have lV:=ac (w0:=w) gR
 have e1: ((0:Int) !=0)=false:=rfl
 have hq: (bG dir).bind (fun k=>aR (S.dir k).seen name)=aR (S.dir k).seen name:=by rw[hk];rfl
 refine ko @cB ?_
 refine ky (aN @cB @e1) ?_
 refine Cw.regionS [G.d k,b6] [0,1,2,3,4,5,6,7] [] kR kR kR ?_
 simp only[bF, ↓bE, ↓ay, ↓bD, ↓bC,az]
 refine kq (aN @cB (aN @iT @rV)) ?_
 refine Ow.soft rfl rfl rfl ?_
 refine Ow.mapGetG (encK:=vs) (encV:=ar) (k:=name) (z:=none) rfl rfl underlying173 j7 zrPf rfl rfl lV fY ?_
 with_reducible refine Ow.nil ?_
 refine⟨by intro b hb;simp only[List.mem_cons,List.not_mem_nil,or_false] at hb;(try subst hb);rfl, ?_⟩
 rw[i9.get (hP.ok.seen k an).nodup]
 show Ow _ _ _ _ _ _ _ _
 cases hf:aR (S.dir k).seen name with
 |none=>
  have fP:ar none= .pointer none:=rfl
  refine kq (aN @cB @fP) ?_
  try with_reducible refine Ow.nil ?_
  refine ky @cB ?_
  refine⟨_,(ke @cB), ?_⟩
  rw[if_neg pA,hq,hf]
  exact⟨bq,rfl,G,rfl,ai⟩
 |some n=>
  have hp: ∀q:Nat,ar (some q)=vp q 0:=fun _=>rfl
  have dH:G.bd∈keys L1:=cC ai.disk
  obtain⟨aO,al,gA⟩:=fM S
  refine kq (aN @cB @hp) ?_
  try with_reducible refine Ow.nil ?_
  cases dS: (name==to) with
  |true=>
   have tU:name=to:=eq_of_beq dS
   refine ky (aN @cB (aN @rV (aN @l9 @dS))) ?_
   refine Ow.callM rfl rfl call153 dH (fun w' aA=>IL G.bd G.bm S w' hP.ok.fuse (aA.has _ _ (cu ai.disk))) ?_
   have dA:=ai.setDisk (aM S).1 aO al (qz hP.ok)
   have bw:=bq.setB (b:=G.bd) (o:=bM G.bm (aM S).1)
   generalize setB L1 G.bd (bM G.bm (aM S).1)=L2 at*
   refine ko @cB ?_
   refine ky @cB ?_
   refine⟨_,(ke @cB), ?_⟩
   rw[if_neg pA,hq,hf]
   simp only
   rw[if_pos tU]
   exact⟨bw,rfl,G,rfl,dA⟩
  |false=>
   have tU:name≠to:=fun e=>by rw[e] at dS;simp at dS
   refine ky (aN @cB (aN @rV (aN @l9 @dS))) ?_
   simp only[List.map_toArray,List.map_cons,List.map_nil,ck,cV,ce]
   refine Ow.callX (X:=L1) (Y:= []) (List.append_nil _).symm rfl rfl call279 (fun w' aA aj ad=>KW L1 G S k ⟨1,name,to,0⟩ (.func (.func 320) #[] #[vp b6 0,vp b7 0]) w' aj ad ai an ⟨b6,b7,rfl,HR,qY⟩ (fun _=>⟨by rw[hf];simp,tU⟩) (fun h=>by cases h) (fy k an)) (fun v4 D4 dc bQ=> ?_)
   obtain⟨rfl,bQ⟩:=bQ
   have jA:=bq.came0 dc
   rw[List.append_nil]
   refine ko @cB ?_
   refine ky @cB ?_
   refine⟨_,(ke @cB), ?_⟩
   rw[if_neg pA,hq,hf]
   simp only
   rw[if_neg tU]
   by_cases eH: (aM S).2=0
   ·rw[if_neg (by rw[eH];simp)] at bQ
    rw[if_neg (by rw[eH];simp)]
    obtain⟨v5,lQ⟩:=bQ
    rw[hk]
    exact⟨jA,by rw[eH];rfl,setP G k v5,rfl,lQ⟩
   rw[if_pos eH] at bQ
   rw[if_pos eH]
   subst bQ
   exact⟨jA,rfl,G,rfl,ai.setDisk (aM S).1 aO al (qz hP.ok)⟩
structure CpG where
 L:aB
 it:Obj
 o:Obj
 dn:List (List UInt8×Option Nat)
 lf:List (List UInt8×Option Nat)
theorem Kl {α β:Type} [BEq α] [LawfulBEq α] {k:α} {v:β}: ∀ {m:List (α×β)},(∀p,p∈m→p.1≠k)→updG k v m=m++ [(k,v)]
 | [],_=>rfl
 |p::r,h=>by
  have h1: (k==p.1)=false:=beq_eq_false_iff_ne.2 fun e=>h p aa e.symm
  unfold updG
  rw[if_neg (by rw[h1];simp),Kl fun q hq=>h q (av _ hq)];rfl
def oT:=aN (aN (aN @bB @bA) (aN @Sx.tup2_0 @Sx.tup2_1)) (aN (aN @uH @Sx.tup3_0) (aN @Sx.tup3_1 @Sx.tup3_2))
def Sn (X:aB) (bt bs:Nat) (ot os:Obj) (m:List (List UInt8×Option Nat)) (w:World) (hX: ∀p,p∈X→w.heap[p.1]? =some p.2) (hn: (keys X).Nodup)
  (ht:Sx.look X bt=some ot) (l7:eZ vs ar ot ([]:List (List UInt8×Option Nat))) (hs:Sx.look X bs=some os) (fY:eZ vs ar os m) (aU:bt≠bs) (ao: (m.map Prod.fst).Nodup):
  Rets prog 172 #[vm bt,vm bs] w (XS w X (fun v D=>v=bv []∧(∀b o,b≠bt→Sx.look X b=some o→Sx.look D b=some o)∧ ∃o' m',Sx.look D bt=some o'∧eZ vs ar o' m'∧m'.Perm m)):=by
 refine Rets.enterX func172 rfl (rs:= []) results172 ntmps172 hX hn ?_
 refine kf ?_
 refine ky @oT ?_
 refine Ow.rangeMapG (encK:=vs) (encV:=ar) rfl rfl underlying173 rfl (ac hs) fY fun bi oi uh kT hI=> ?_
 have xm: ∀b o,Sx.look X b=some o→b≠bi:=fun b o hb e=>by
  have:=ak uh (cC hb)
  omega
 refine ko @oT ?_
 refine ky @oT ?_
 refine Cw.loopG (G:=CpG) [8,9,10,11,12,4,5,13,14,15] (fun g=> []) (fun g=>g.L) (fun g=>Sx.look g.L bi=some g.it∧Sx.look g.L bt=some g.o∧eZ vs ar g.o g.dn∧(∀b o,b≠bt→Sx.look X b=some o→Sx.look g.L b=some o)∧Ext w X g.L∧ItG vs ar g.it bs os m g.dn g.lf) (fun g=>g.lf.length) ⟨X++ [(bi,oi)],oi,ot,[],m⟩ rfl rfl ?_ ?_
 ·exact⟨jQ uh,bZ ht,l7,fun b o _ hb=>bZ hb,(Ext.refl w X).app kT,hI⟩
 intro g j hg
 refine kv ?_
 clear hI
 obtain⟨L,it,o,dn,lf⟩:=g
 simp only at hg ⊢
 obtain⟨hli,aC,l6,gE,hE,hI⟩:=hg
 have yC:=gE bs os (Ne.symm aU) hs
 have dN:bt≠bi:=xm _ _ ht
 have hsi:bs≠bi:=xm _ _ hs
 refine ky @oT ?_
 refine Ow.nextMapG rfl rfl rfl hli (ac yC) hI (fun i8=> ?_) (fun p it' lf' lS iS=> ?_)
 ·subst i8
  have hp:=vT hI
  rw[List.append_nil] at hp
  refine ko @oT ?_
  refine ky @oT ?_
  refine⟨_,(ke @oT), ?_⟩
  exact⟨hE,rfl,gE,o,dn,aC,l6,hp⟩
 have h1:Sx.look (setB L bi it') bi=some it':=jR hli
 have h2:Sx.look (setB L bi it') bt=some o:=by rw[eh (Ne.symm dN)];exact aC
 have h3:Sx.look (setB L bi it') bs=some os:=by rw[eh (Ne.symm hsi)];exact yC
 have h4: ∀b o,b≠bt→Sx.look X b=some o→Sx.look (setB L bi it') b=some o:=fun b o hb hx=>by rw[eh (Ne.symm (xm _ _ hx))];exact gE b o hb hx
 have bq:=hE.setB (b:=bi) (o:=it')
 generalize setB L bi it'=L1 at*
 refine ko @oT ?_
 refine ky @oT ?_
 refine Ow.entryMapG (encK:=vs) (encV:=ar) rfl rfl rfl (ac h1) (ac h3) iS ?_
 obtain⟨s,q⟩:=p
 have hp:=vT iS
 have Jf: ∀p,p∈dn→p.1≠s:=by
  have h5:=((hp.map Prod.fst).nodup_iff).2 ao
  rw[List.map_append,List.map_append,List.nodup_append] at h5
  have h6:=h5.1
  rw[List.nodup_append] at h6
  intro p qj e
  exact h6.2.2 p.1 (List.mem_map_of_mem qj) s (by simp) e
 refine ko @oT ?_
 refine ky @oT ?_
 refine Ow.mapUpdateG (encK:=vs) (encV:=ar) (k:=s) (v:=q) rfl rfl underlying173 j7 rfl rfl rfl h2 l6 (fun o2 gj=> ?_)
 rw[Kl Jf] at gj
 refine ko @oT ?_
 refine ky @oT ?_
 exact Again.mk ⟨setB L1 bt o2,it',o2,dn++ [(s,q)],lf'⟩ (by show lf'.length<lf.length;omega) ⟨by show Sx.look (setB L1 bt o2) bi=_;rw[eh dN];exact h1,jR h2,gj,fun b o hb hx=>by show Sx.look (setB L1 bt o2) b=_;rw[eh (Ne.symm hb)];exact h4 b o hb hx,bq.setB,iS⟩ rfl rfl
def p_ (G:DkG) (k s':Nat):DkG:={G with s:=fun j=>if j=k then s' else G.s j,p:=fun j=>if j=k then .slice none 0 0 else G.p j}
def DkP.calm {X L:aB} {G:DkG} {S:DiskL} (h:DkP X G S) {k:Nat} (hk:k<3) {s':Nat} (d:DirL) (um:d.pend= [])
  (keep: ∀b o,Sx.look X b=some o→b≠G.t k→b≠G.d k→Sx.look L b=some o) (hs:NmM L G.fb s' d.seen) (ht:NmM L G.fb (G.t k) d.stl)
  (hd:Sx.look L (G.d k)=some (cU s' (G.t k) (.slice none 0 0))) (mT:s'=G.s k∨s'∉keys X) (h1:SrtN d.seen) (h2:SrtN d.stl) (h3: ∀p,p∈d.seen→p.2<S.files.length) (h4: ∀p,p∈d.stl→p.2<S.files.length):
  DkP L (p_ G k s') (eB S k d):=by
 obtain⟨otk,mtk,hotk,hmtk,-⟩:=h.stl k hk
 have dS: ∀b o,Sx.look X b=some o→tyO o≠none→b≠G.t k:=by
  rintro b o hb ht rfl
  rw[hotk] at hb;cases hb;exact ht (jP hmtk)
 have ao: ∀b o,Sx.look X b=some o→tyO o≠some 175→b≠G.d k:=by
  rintro b o hb ht rfl
  rw[h.dir k hk] at hb;cases hb;exact ht rfl
 have K: ∀b o,Sx.look X b=some o→tyO o≠none→tyO o≠some 175→Sx.look L b=some o:=fun b o hb h1 h2=>keep b o hb (dS b o hb h1) (ao b o hb h2)
 have KM: ∀b o,Sx.look X b=some o→tyO o=none→b≠G.t k→Sx.look L b=some o:=fun b o hb h1 h2=>keep b o hb h2 (ao b o hb (by rw[h1];intro e;cases e))
 have KF: ∀ {w c},FnP X G.fb w c→FnP L G.fb w c:=fun hw=>hw.keep fun b o hb hx=>K b o hb (by rcases hx with⟨s,rfl⟩ | ⟨a,rfl⟩<;>simp[tyO,dX,ptrO]) (by rcases hx with⟨s,rfl⟩ | ⟨a,rfl⟩<;>simp[tyO,dX,ptrO])
 have qp: ∀j,j<3→j≠k→s'≠G.s j:=fun j hj zj=>by
  rcases mT with e|e
  ·rw[e];exact(pX h.nodm hk hj).1 (Ne.symm zj)
  obtain⟨o,m,ho,-⟩:=h.seen j hj
  rintro rfl;exact e (cC ho)
 have eL: ∀j,j<3→s'≠G.t j:=fun j hj=>by
  rcases mT with e|e
  ·rw[e];exact(pX h.nodm hk hj).2.2
  obtain⟨o,m,ho,-⟩:=h.stl j hj
  rintro rfl;exact e (cC ho)
 have hs3:G.bm≠s':=by
  rcases mT with e|e
  ·rw[e];exact(h.nodb k hk).1
  obtain⟨o,ho,-⟩:=h.dirs
  rintro rfl;exact e (cC ho)
 refine⟨?_, ?_, ?_, ?_, ?_, ?_, ?_,h.len,h.nodf, ?_,h.nodd, ?_, ?_, ?_⟩
 ·exact K _ _ h.disk (by simp[tyO,bM]) (by simp[tyO,bM])
 ·obtain⟨o,h1,h2⟩:=h.dirs
  exact⟨o,KM _ _ h1 (jP h2) (h.nodb k hk).2,h2⟩
 ·intro j hj
  show Sx.look L (G.d j)=some (cU (if j=k then s' else G.s j) (G.t j) (if j=k then .slice none 0 0 else G.p j))
  by_cases e:j=k
  ·subst e;rw[if_pos rfl,if_pos rfl];exact hd
  rw[if_neg e,if_neg e]
  exact keep _ _ (h.dir j hj) (dS _ _ (h.dir j hj) (by simp[tyO,cU])) (Ft h.nodd hj hk e)
 ·intro j hj
  show NmM L G.fb (if j=k then s' else G.s j) (if j=k then d else S.dir j).seen
  by_cases e:j=k
  ·subst e;rw[if_pos rfl,if_pos rfl];exact hs
  rw[if_neg e,if_neg e]
  obtain⟨o,m,h1,h2,h3⟩:=h.seen j hj
  exact⟨o,m,KM _ _ h1 (jP h2) (pX h.nodm hj hk).2.2,h2,h3⟩
 ·intro j hj
  show NmM L G.fb (G.t j) (if j=k then d else S.dir j).stl
  by_cases e:j=k
  ·subst e;rw[if_pos rfl];exact ht
  rw[if_neg e]
  obtain⟨o,m,h1,h2,h3⟩:=h.stl j hj
  exact⟨o,m,KM _ _ h1 (jP h2) ((pX h.nodm hj hk).2.1 e),h2,h3⟩
 ·intro j hj
  by_cases e:j=k
  ·subst e
   refine⟨[], ?_, ?_,fun i hi=>absurd hi (Nat.not_lt_zero _)⟩
   ·show 0=(if j=j then d else S.dir j:DirL).pend.length
    rw[if_pos rfl,um];rfl
   show Gr L _ 1 (if j=j then .slice none 0 0 else G.p j) 0 []
   rw[if_pos rfl];exact Gr.nl
  obtain⟨vj,h1,h2,h3⟩:=h.pend j hj
  refine⟨vj, ?_, ?_, ?_⟩
  ·show vj.length=(if j=k then _ else S.dir j:DirL).pend.length
   rw[if_neg e];exact h1
  ·show Gr L _ 1 (if j=k then .slice none 0 0 else G.p j) vj.length vj
   rw[if_neg e]
   refine h2.keep fun b o hb ho=> ?_
   obtain⟨arr,ha⟩:=nM h2 hb
   rw[ho] at ha;cases ha
   exact K _ _ ho (by simp[tyO]) (by simp[tyO])
  intro i hi
  show FnP L G.fb (vj.getD i undef) ((if j=k then _ else S.dir j:DirL).pend.getD i jV)
  rw[if_neg e]
  exact KF (h3 i hi)
 ·intro n hn
  exact K _ _ (h.file n hn) (by simp[tyO,cg]) (by simp[tyO,cg])
 ·have hn:=h.nodm
  have cQ:k=0∨k=1∨k=2:=by omega
  rcases cQ with rfl|rfl|rfl
  ·show [s',G.s 1,G.s 2,G.t 0,G.t 1,G.t 2].Nodup
   exact List.nodup_cons.2 ⟨by simp only[List.mem_cons,List.not_mem_nil,or_false,not_or];exact⟨qp 1 oM oM,qp 2 oM oM,eL 0 oM,eL 1 oM,eL 2 oM⟩,(List.nodup_cons.1 hn).2⟩
  ·show [G.s 0,s',G.s 2,G.t 0,G.t 1,G.t 2].Nodup
   refine(List.Perm.swap (G.s 0) s' _).nodup_iff.1 ?_
   exact List.nodup_cons.2 ⟨by simp only[List.mem_cons,List.not_mem_nil,or_false,not_or];exact⟨qp 0 oM oM,qp 2 oM oM,eL 0 oM,eL 1 oM,eL 2 oM⟩,(List.nodup_cons.1 ((List.Perm.swap (G.s 0) (G.s 1) _).nodup_iff.2 hn)).2⟩
  show [G.s 0,G.s 1,s',G.t 0,G.t 1,G.t 2].Nodup
  have hp: ∀x:Nat,(x:: [G.s 0,G.s 1,G.t 0,G.t 1,G.t 2]).Perm [G.s 0,G.s 1,x,G.t 0,G.t 1,G.t 2]:=fun x=>((List.perm_middle (l₁:= [G.s 0,G.s 1]) (a:=x) (l₂:= [G.t 0,G.t 1,G.t 2]))).symm
  refine(hp s').nodup_iff.1 ?_
  exact List.nodup_cons.2 ⟨by simp only[List.mem_cons,List.not_mem_nil,or_false,not_or];exact⟨qp 0 oM oM,qp 1 oM oM,eL 0 oM,eL 1 oM,eL 2 oM⟩,(List.nodup_cons.1 ((hp (G.s 2)).nodup_iff.2 hn)).2⟩
 ·intro j hj
  show G.bm≠ (if j=k then s' else G.s j)∧G.bm≠G.t j
  by_cases e:j=k
  ·rw[if_pos e];exact⟨hs3,(h.nodb j hj).2⟩
  rw[if_neg e];exact h.nodb j hj
 ·intro i j hi hj o5 b hb
  show slB (if j=k then .slice none 0 0 else G.p j)≠some b
  have eG:slB (if i=k then .slice none 0 0 else G.p i)=some b:=hb
  by_cases ei:i=k
  ·rw[if_pos ei] at eG;cases eG
  rw[if_neg ei] at eG
  by_cases ej:j=k
  ·rw[if_pos ej];intro e;cases e
  rw[if_neg ej];exact h.nodp i j hi hj o5 b eG
 exact AC h.ok _ h1 h2 h3 h4 (fun c hc=>by rw[um] at hc;cases hc)
def l_:=aN (aN (aN @bB @bA) (aN @mY @oJ)) (aN (aN @oE @oG) (aN @Sx.tup2_0 @Sx.tup2_1))
def kU (S:DiskL) (k:Nat):DiskL:=eB S k ⟨(S.dir k).seen,(S.dir k).seen,[]⟩
def Vx_ (X:aB) (G:DkG) (S:DiskL) (k:Nat) (w:World) (hX: ∀p,p∈X→w.heap[p.1]? =some p.2) (hn: (keys X).Nodup) (hP:DkP X G S) (hk:k<3):
  Rets prog 98 #[vp (G.d k) 0] w (XS w X (fun v D=>v=bv []∧DkP D (p_ G k (G.s k)) (kU S k)∧ ∀b o,Sx.look X b=some o→b≠G.t k→b≠G.d k→Sx.look D b=some o)):=by
 obtain⟨ot,mt,rT,l7,dS⟩:=hP.stl k hk
 obtain⟨os,ms,gR,fY,dJ⟩:=hP.seen k hk
 have i4:=hP.dir k hk
 have bL:G.s k≠G.t k:=(pX hP.nodm hk hk).2.2
 have ec: ∀ {b:Nat} {o:Obj} {m:List (List UInt8×Option Nat)},Sx.look X b=some o→eZ vs ar o m→G.d k≠b:=by
  rintro b o m hb hm rfl
  rw[i4] at hb;cases hb
  obtain⟨es,cl,h,-⟩:=hm;cases h
 have HE:=ec rT l7
 refine Rets.enterX func98 rfl (rs:= []) results98 ntmps98 hX hn ?_
 refine kf ?_
 ((try with_reducible refine Cw.go [] ?_);(try simp(disch:=first|exact dD|fail) only[↓Sx.S0,Sx.S1,fx,l_,Nat.reduceAdd,Nat.reducePow,Int.reducePow,Nat.reduceBEq, ↓reduceIte,UInt8.reduceToNat,UInt16.reduceToNat,UInt32.reduceToNat,UInt64.reduceToNat,Int.reduceToNat,(ac (w0:=w) i4)]))
 refine Ow.mapClearG (encK:=vs) (encV:=ar) rfl rfl underlying173 rfl rT l7 (fun o1 ey=> ?_)
 have hO:Only X (setB X (G.t k) o1) (G.t k) o1:=Only.set rT
 have bq:=(Ext.refl w X).setB (b:=G.t k) (o:=o1)
 generalize setB X (G.t k) o1=L1 at*
 have HD:Sx.look L1 (G.d k)=some (cU (G.s k) (G.t k) (G.p k)):=(hO.rest _ HE).trans i4
 have Hl:Sx.look L1 (G.s k)=some os:=(hO.rest _ bL).trans gR
 have lU:=ac (w0:=w) HD
 refine ko @l_ ?_
 refine ky @l_ ?_
 refine Cw.regionS [G.d k] [0,1,2,4,5,6,3,7,8] [] kR kR kR ?_
 simp only[bF, ↓bE, ↓ay, ↓bD, ↓bC,az]
 refine kq (aN @l_ @lU) ?_
 refine Ow.soft rfl rfl rfl ?_
 refine Ow.callX (X:=L1) (Y:= []) (List.append_nil _).symm rfl rfl call172 (fun w' aA aj ad=>Sn L1 (G.t k) (G.s k) o1 os ms w' aj ad hO.at_ ey Hl fY (Ne.symm bL) (dJ.keys (hP.ok.seen k hk).nodup)) (fun v4 D4 dc bQ=> ?_)
 obtain⟨rfl,ux,o2,m2,fX,gj,gS⟩:=bQ
 have bw:=bq.came0 dc
 rw[List.append_nil]
 have iv:=ux _ _ HE HD
 have jL:=ac (w0:=w) iv
 with_reducible refine Ow.nil ?_
 refine⟨fun b hb=>by rw[List.mem_singleton] at hb;subst hb;rw[lU,jL], ?_⟩
 refine kq @l_ ?_
 try with_reducible refine Ow.nil ?_
 have st:=fun x=>LV (G.s k) (G.t k) (G.p k) (.slice none 0 0) x ⟨rfl,rfl⟩
 refine ky (aN @l_ (aN @iv @st)) ?_
 refine⟨_,(ke @l_), ?_⟩
 have gE: ∀b o,Sx.look X b=some o→b≠G.t k→b≠G.d k→Sx.look (setB D4 (G.d k) (cU (G.s k) (G.t k) (.slice none 0 0))) b=some o:=fun b o hb h1 h2=>by
  rw[eh (Ne.symm h2)]
  exact ux _ _ h1 ((hO.rest _ h1).trans hb)
 refine⟨bw.setB,rfl, ?_,gE⟩
 have tY:=ux _ _ bL Hl
 refine hP.calm hk ⟨(S.dir k).seen,(S.dir k).seen,[]⟩ rfl gE ⟨os,ms, ?_,fY,dJ⟩ ⟨o2,m2, ?_,gj,gS.trans dJ⟩ (jR iv) (.inl rfl) (hP.ok.seen k hk) (hP.ok.seen k hk) (hP.ok.seenN k hk) (hP.ok.seenN k hk)
 ·rw[eh (ec gR fY)];exact tY
 rw[eh HE];exact fX
def fT (S:DiskL) (dir:List UInt8):DiskL×Nat:=
 if cr S dir []≠0 then(S,cr S dir []) else if(aM S).2≠0 then aM S else(kU (aM S).1 ((bG dir).getD 0),0)
def nK:=aN (aN (aN @bB @bA) (aN @mY @oJ)) (aN (aN @oE @oG) (aN @Sx.tup2_0 @Sx.tup2_1))
def M_ (X:aB) (G:DkG) (S:DiskL) (dir:List UInt8) (w:World) (hX: ∀p,p∈X→w.heap[p.1]? =some p.2) (hn: (keys X).Nodup) (hP:DkP X G S):
  Rets prog 308 #[vp G.bd 0,vs dir] w (XS w X (fun v D=>v=vi ((fT S dir).2:Nat)∧ ∃G',G'.bd=G.bd∧DkP D G' (fT S dir).1)):=by
 refine Rets.enterX func308 rfl (rs:= [.tmp 4]) results308 ntmps308 hX hn ?_
 refine kf ?_
 refine ky @nK ?_
 refine Ow.callC rfl rfl call151 (fun w' aA=>Rets.toX (vW w' G S dir (.slice none 0 0) [] (hP.world aA) (SlV.nil w') (by simp) (fun s hs=>by cases hs))) (fun B2 v2 D2 dG cZ cJ bH=> ?_)
 obtain⟨rfl,bH⟩:=bH
 rw[List.append_nil]
 unfold fT
 rcases bH with⟨he,rfl⟩ | ⟨he,k,hk,rfl⟩
 ·have e1:=oO he
  refine ko @nK ?_
  refine ky (aN @nK @e1) ?_
  refine⟨_,(ke @nK), ?_⟩
  rw[if_pos he]
  exact⟨Ext.refl w X,rfl,G,rfl,hP⟩
 have pA: ¬ (cr S dir []≠0):=by rw[he];simp
 have an:=(dY hk).1
 have e1: ((0:Int) !=0)=false:=rfl
 obtain⟨aO,al,gA⟩:=fM S
 refine ko @nK ?_
 refine ky (aN @nK @e1) ?_
 refine Ow.callM rfl rfl call153 (cC hP.disk) (fun w' aA=>IL G.bd G.bm S w' hP.ok.fuse (aA.has _ _ (cu hP.disk))) ?_
 have dA:=hP.setDisk (aM S).1 aO al (qz hP.ok)
 have bw:=(Ext.refl w X).setB (b:=G.bd) (o:=bM G.bm (aM S).1)
 generalize setB X G.bd (bM G.bm (aM S).1)=L2 at*
 by_cases gB: (aM S).2=0
 ·have e2: (((aM S).2:Int) !=0)=false:=by rw[gB];rfl
  refine ko (aN @nK @e2) ?_
  refine ky @nK ?_
  refine Ow.callX (X:=L2) (Y:= []) (List.append_nil _).symm rfl rfl call98 (fun w' aA aj ad=>Vx_ L2 G (aM S).1 k w' aj ad dA an) (fun v4 D4 dc bQ=> ?_)
  obtain⟨rfl,bQ,-⟩:=bQ
  have jA:=bw.came0 dc
  rw[List.append_nil]
  refine ko @nK ?_
  refine ky @nK ?_
  refine⟨_,(ke @nK), ?_⟩
  rw[if_neg pA,if_neg (by rw[gB];simp),hk]
  exact⟨jA,rfl,p_ G k (G.s k),rfl,bQ⟩
 have e2:=oO gB
 refine ko (aN @nK @e2) ?_
 refine ky @nK ?_
 refine⟨_,(ke @nK), ?_⟩
 rw[if_neg pA,if_pos gB]
 exact⟨bw,rfl,G,rfl,dA⟩
def oX (w:World):Prop:= ∃e fz,w.heap[0]? =some (.cells #[vs mc,vs lu,vs aJ] e fz)
def cT (quota:Int):DiskL:=⟨fun _=>⟨[],[],[]⟩,[],quota,0,false,false⟩
def UC (b:Nat) (q:Int):fI (d8 prog 168) (au prog 168) [(0,vm b),(1,vi q)]=some (.agg #[vm b,vi q,vi 0, .bool false, .bool false]):=by
 rw[show d8 prog 168=some [(0,1),(1,1),(2,1),(3,1),(4,1)] from id kR,show au prog 168=some (.agg #[.map none,vi 0,vi 0, .bool false, .bool false]) from id kR];rfl
def UZ (a b:Nat):fI (d8 prog 175) (au prog 175) [(0,vm a),(1,vm b)]=some (.agg #[vm a,vm b, .slice none 0 0]):=by
 rw[show d8 prog 175=some [(0,1),(1,1),(2,1)] from id kR,show au prog 175=some (.agg #[.map none, .map none, .slice none 0 0]) from id kR];rfl
def K9 (e:TypeId) (fz:Nat×Nat):aQ (some (true,3)) (some (.cells #[vs mc,vs lu,vs aJ] e fz)) 0=some (.agg #[vs mc,vs lu,vs aJ]):=rZ _ e fz 3 rfl
def IU {k:Nat} (hk:k<3):pd (.arr 3 (false,1)) (.agg #[vs mc,vs lu,vs aJ]) (some (k:Int))=some (vs (d7 k)):=by
 have:k=0∨k=1∨k=2:=by omega
 rcases this with rfl|rfl|rfl<;>rfl
def uP (d:Nat→Nat):Nat→List (List UInt8×Option Nat)
 |0=> []
 |k+1=>uP d k++ [(d7 k,some (d k))]
theorem V4_ {d d':Nat→Nat}: ∀ {k:Nat},(∀j,j<k→d' j=d j)→uP d' k=uP d k
 |0,_=>rfl
 |k+1,h=>by
  unfold uP
  rw[V4_ fun j hj=>h j oM,h k oM]
theorem DY {d:Nat→Nat} {j:Nat} (hj:j<3): ∀ {k:Nat},k≤j→ ∀p,p∈uP d k→p.1≠d7 j
 |0,_,_,hp=>by cases hp
 |k+1,hk,p,hp=>by
  rcases List.mem_append.1 hp with hp|hp
  ·exact DY hj oM p hp
  rw[List.mem_singleton.1 hp]
  intro e
  have h1:=oF (k:=k) oM
  have h2:=oF hj
  have e':d7 k=d7 j:=e
  rw[e',h2] at h1
  cases h1;omega
structure NwG where
 L:aB
 o:Obj
 k:Nat
 d:Nat→Nat
 s:Nat→Nat
 t:Nat→Nat
def mtM (L:aB) (b:Nat):Prop:= ∃o,Sx.look L b=some o∧eZ vs ar o ([]:List (List UInt8×Option Nat))
def nH:=aN (aN @bB (aN @bA @mY)) (aN @oJ (aN @oE @oG))
def Ku (quota:Int) (w:World) (hq: -9223372036854775808≤quota∧quota<9223372036854775808) (hG:oX w):
  Rets prog 80 #[vi quota] w (XS w [] (fun v D=> ∃G,v=vp G.bd 0∧DkP D G (cT quota))):=by
 obtain⟨e,fz,hg⟩:=hG
 refine Rets.enterX func80 rfl (rs:= [.tmp 2]) results80 ntmps80 (fun p hp=>by cases hp) (by simp[keys]) ?_
 refine kf ?_
 refine ky @nH ?_
 refine Ow.makeMapG (encK:=vs) (encV:=ar) rfl rfl (fun bm om tM n4 hM=> ?_)
 rw[List.nil_append]
 refine ko @nH ?_
 refine Ow.build (.agg #[vm bm,vi quota,vi 0, .bool false, .bool false]) rfl (UC bm quota) ?_
 refine ko @nH ?_
 refine Ow.box rfl rfl fun bd dw zy=> ?_
 simp only[ck,cV,ce,ag]
 have qd:bm<bd:=ak dw (by simp[keys])
 refine Ow.permL (M:= [(bm,om)]++ [(bd,bM bm (cT quota))]) (List.Perm.refl _) ?_
 have h0:Sx.look ([(bm,om)]++ [(bd,bM bm (cT quota))]) bm=some om:=by simp[Sx.look]
 have h1:Sx.look ([(bm,om)]++ [(bd,bM bm (cT quota))]) bd=some (bM bm (cT quota)):=jQ dw
 have hN:New w.heap.size ([(bm,om)]++ [(bd,bM bm (cT quota))]):=⟨n4,zy,trivial⟩
 generalize [(bm,om)]++ [(bd,bM bm (cT quota))]=L0 at*
 have HJ:=(Array.getElem?_eq_some_iff.1 hg).1
 have hrg:aT w L0 0=some (.cells #[vs mc,vs lu,vs aJ] e fz):=by rw[kY (hN.not HJ)];exact hg
 refine ko @nH ?_
 refine ky (aN @nH (aN @hrg @K9)) ?_
 refine Cw.loopG (G:=NwG) [12,13,5,14,15,16,17,18,19,20,21,22,23,11] (fun g=> [(11,vi g.k)]) (fun g=>g.L) (fun g=>g.k≤3∧Sx.look g.L bm=some g.o∧eZ vs ar g.o (uP g.d g.k)∧Sx.look g.L bd=some (bM bm (cT quota))∧New w.heap.size g.L∧ ∀j,j<g.k→Sx.look g.L (g.d j)=some (cU (g.s j) (g.t j) (.slice none 0 0))∧mtM g.L (g.s j)∧mtM g.L (g.t j)∧g.s j<g.t j∧g.t j<g.d j∧bd<g.s j∧ ∀i,i<j→g.d i<g.s j) (fun g=>3 - g.k) ⟨L0,om,0,fun _=>0,fun _=>0,fun _=>0⟩ rfl rfl ?_ ?_
 ·exact⟨aq _,h0,hM,h1,hN,fun j hj=>absurd hj (Nat.not_lt_zero _)⟩
 intro g j hg
 refine kv ?_
 clear h0 hM h1 hN hrg
 obtain⟨L,o,k,d,s,t⟩:=g
 simp only at hg ⊢
 obtain⟨hk,mO,hM,mK,hN,dr⟩:=hg
 by_cases aC:k<3
 ·have d1:decide ((k:Int)<3)=true:=aW oM
  have ixk:=IU aC
  have rdd:=ac (w0:=w) mK
  refine ky (aN @nH (aN @d1 (aN @ixk @rdd))) ?_
  refine Ow.makeMapG (encK:=vs) (encV:=ar) rfl rfl (fun bs os ui hws hMs=> ?_)
  refine ko @nH ?_
  refine Ow.makeMapG (encK:=vs) (encV:=ar) rfl rfl (fun bt ot hbt hwt hMt=> ?_)
  refine ko @nH ?_
  refine Ow.build (.agg #[vm bs,vm bt, .slice none 0 0]) rfl (UZ bs bt) ?_
  refine ko @nH ?_
  refine Ow.box rfl rfl fun br gz di=> ?_
  simp only[ck,cV,ce,ag]
  refine Ow.permL (M:=L++ [(bs,os)]++ [(bt,ot)]++ [(br,cU bs bt (.slice none 0 0))]) (List.Perm.refl _) ?_
  have up: ∀b x,Sx.look L b=some x→Sx.look (L++ [(bs,os)]++ [(bt,ot)]++ [(br,cU bs bt (.slice none 0 0))]) b=some x:=fun b x h=>bZ (bZ (bZ h))
  have ls:Sx.look (L++ [(bs,os)]++ [(bt,ot)]++ [(br,cU bs bt (.slice none 0 0))]) bs=some os:=bZ (bZ (jQ ui))
  have lt:Sx.look (L++ [(bs,os)]++ [(bt,ot)]++ [(br,cU bs bt (.slice none 0 0))]) bt=some ot:=bZ (jQ hbt)
  have lr:Sx.look (L++ [(bs,os)]++ [(bt,ot)]++ [(br,cU bs bt (.slice none 0 0))]) br=some (cU bs bt (.slice none 0 0)):=jQ gz
  have bX:New w.heap.size (L++ [(bs,os)]++ [(bt,ot)]++ [(br,cU bs bt (.slice none 0 0))]):=((hN.app (show New w.heap.size [(bs,os)] from⟨hws,trivial⟩)).app (show New w.heap.size [(bt,ot)] from⟨hwt,trivial⟩)).app (show New w.heap.size [(br,cU bs bt (.slice none 0 0))] from⟨di,trivial⟩)
  have c1:bs<bt:=ak hbt (by rw[ae];simp[keys])
  have c2:bt<br:=ak gz (by rw[ae];simp[keys])
  have c3:bd<bs:=ak ui (cC mK)
  have c4: ∀j,j<k→d j<bs:=fun j hj=>ak ui (cC (dr j hj).1)
  have c5:bm<bs:=ak ui (cC mO)
  generalize L++ [(bs,os)]++ [(bt,ot)]++ [(br,cU bs bt (.slice none 0 0))]=L1 at*
  refine ko @nH ?_
  refine Ow.mapUpdateG (encK:=vs) (encV:=ar) (k:=d7 k) (v:=some br) rfl rfl underlying166 j7 rfl rfl rfl (up _ _ mO) hM (fun o2 gj=> ?_)
  rw[Kl (DY aC (ap _))] at gj
  have ne: ∀b x,b≠bm→Sx.look L1 b=some x→Sx.look (setB L1 bm o2) b=some x:=fun b x h1 h2=>by rw[eh (Ne.symm h1)];exact h2
  refine ko @nH ?_
  refine ky @nH ?_
  refine Again.mk ⟨setB L1 bm o2,o2,k+1,fun j=>if j=k then br else d j,fun j=>if j=k then bs else s j,fun j=>if j=k then bt else t j⟩ (by show 3 - (k+1)<3 - k;omega) ⟨aC,jR (up _ _ mO), ?_,ne _ _ oM (up _ _ mK),New.of_le fun q hq=>bX.le q (by rwa [rB] at hq),fun j hj=> ?_⟩ rfl rfl
  ·show eZ vs ar o2 (uP (fun j=>if j=k then br else d j) (k+1))
   unfold uP
   rw[V4_ (d:=d) fun j hj=>if_neg oM,if_pos rfl]
   exact gj
  show Sx.look (setB L1 bm o2) (if j=k then br else d j)=some (cU (if j=k then bs else s j) (if j=k then bt else t j) (.slice none 0 0))∧mtM (setB L1 bm o2) (if j=k then bs else s j)∧mtM (setB L1 bm o2) (if j=k then bt else t j)∧(if j=k then bs else s j)< (if j=k then bt else t j)∧(if j=k then bt else t j)< (if j=k then br else d j)∧bd< (if j=k then bs else s j)∧ ∀i,i<j→(if i=k then br else d i)< (if j=k then bs else s j)
  by_cases e:j=k
  ·subst e
   simp only[if_pos]
   refine⟨ne _ _ oM lr,⟨os,ne _ _ oM ls,hMs⟩,⟨ot,ne _ _ oM lt,hMt⟩,c1,c2,c3,fun i hi=> ?_⟩
   rw[if_neg oM];exact c4 i hi
  simp only[if_neg e]
  have gD:j<k:=by have:j<k+1:=hj;omega
  obtain⟨q1,⟨oo,q2,q3⟩,⟨oo2,q4,q5⟩,q6,q7,q8,q9⟩:=dr j gD
  refine⟨ne _ _ oM (up _ _ q1),⟨oo,ne _ _ oM (up _ _ q2),q3⟩,⟨oo2,ne _ _ oM (up _ _ q4),q5⟩,q6,q7,q8,fun i hi=> ?_⟩
  rw[if_neg oM];exact q9 i hi
 obtain rfl:k=3:=by omega
 have d1:decide (((3:Nat):Int)<3)=false:=rfl
 refine ky (aN @nH @d1) ?_
 refine⟨_,(ke @nH), ?_⟩
 obtain⟨a1,a2,a3,a4,a5,a6,a7⟩:=dr 0 oM
 obtain⟨b1,b2,b3,b4,b5,b6,b7⟩:=dr 1 oM
 obtain⟨c1,c2,c3,c4,c5,c6,c7⟩:=dr 2 oM
 have b8:=b7 0 oM
 have c8:=c7 1 oM
 refine⟨Ext.of_new hN,⟨bd,bm,d,s,t,fun _=> .slice none 0 0,[]⟩,rfl,mK,⟨o,mO,hM⟩,fun k hk=>(dr k hk).1,fun k hk=> ?_,fun k hk=> ?_,fun k hk=>⟨[],rfl,Gr.nl,fun i hi=>absurd hi (Nat.not_lt_zero _)⟩,fun n hn=>absurd hn (Nat.not_lt_zero _),rfl,List.nodup_nil, ?_, ?_,fun k hk=> ?_,fun i j hi hj o5 b hb=>(by cases hb), ?_⟩
 ·obtain⟨x,y,z⟩:=(dr k hk).2.1
  exact⟨x,[],y,z,List.Perm.nil⟩
 ·obtain⟨x,y,z⟩:=(dr k hk).2.2.1
  exact⟨x,[],y,z,List.Perm.nil⟩
 ·show [s 0,s 1,s 2,t 0,t 1,t 2].Nodup
  simp only[List.nodup_cons,List.mem_cons,List.not_mem_nil,not_or,or_false,List.nodup_nil,and_true,not_false_eq_true]
  refine⟨⟨?_, ?_, ?_, ?_, ?_⟩,⟨?_, ?_, ?_, ?_⟩,⟨?_, ?_, ?_⟩,⟨?_, ?_⟩, ?_⟩<;>omega
 ·show [d 0,d 1,d 2].Nodup
  simp only[List.nodup_cons,List.mem_cons,List.not_mem_nil,not_or,or_false,List.nodup_nil,and_true,not_false_eq_true]
  refine⟨⟨?_, ?_⟩, ?_⟩<;>omega
 ·have:=(dr k hk).2.2.2
  show bm≠s k∧bm≠t k
  omega
 exact⟨fun _ _=>List.Pairwise.nil,fun _ _=>List.Pairwise.nil,fun _ _ p hp=>(by cases hp),fun _ _ p hp=>(by cases hp),fun _ _ c hc=>(by cases hc),fun f hf=>(by cases hf),⟨show(-9223372036854775808:Int)≤0 by decide,show(0:Int)<9223372036854775808 by decide,fun _=>show(0:Int)≤0 by decide⟩,hq⟩
structure FiL where
 dir:List UInt8
 name:List UInt8
 data:List UInt8
def fiC (r:FiL):List Value:= [vs r.dir]++ ([vs r.name]++ ([vs r.data]))
def fi0:FiL:=⟨[],[],[]⟩
def oK (r:FiL): (fiC r).length=3:=by simp[fiC]
def wE (r:FiL):Value.cells (.agg (fiC r).toArray)=(fiC r).toArray:=ag _
def E_ (r:FiL): (fiC r).all Value.oneCell'=true:=by
 unfold fiC
 simp only[List.all_append,List.all_cons,List.all_nil,vr,Bool.and_true,Bool.true_and]
 rfl
def zrFi:au prog 187=some (.agg (fiC fi0).toArray):=id kR
def GA:aK prog 187=some (true,3):=id kR
def Fg (r:FiL):fiC r=([]:List Value)++ (([vs r.dir])++ ([vs r.name]++ ([vs r.data]))):=by
 unfold fiC;simp only[List.append_assoc,List.nil_append,List.append_nil]
def axL_ (r:FiL):Sx.partV (false,1) (fiC r).toArray 0=some (vs r.dir):=by
 rw[Fg];exact wa _ _ _ (by simp)
def Vx (r:FiL) (n:Nat) (E:TypeId) (fz:Nat×Nat):aQ (some (false,n)) (some (.cells (fiC r).toArray E fz)) 0=some (vs r.dir):=by
 rw[Fg];exact pR _ _ _ n E fz (by simp)
def x9 (r:FiL):fiC r=(([vs r.dir]))++ (([vs r.name])++ ([vs r.data])):=by
 unfold fiC;simp only[List.append_assoc,List.nil_append,List.append_nil]
def axW_ (r:FiL):Sx.partV (false,1) (fiC r).toArray 1=some (vs r.name):=by
 rw[x9];exact wa _ _ _ (by simp)
def Wd (r:FiL) (n:Nat) (E:TypeId) (fz:Nat×Nat):aQ (some (false,n)) (some (.cells (fiC r).toArray E fz)) 1=some (vs r.name):=by
 rw[x9];exact pR _ _ _ n E fz (by simp)
def Xn {w:World} {v:Value} {l:List FiL} {b off:Nat} {arr:Array Value} {E:TypeId} {fz:Nat×Nat} (h:RowS 3 fiC fi0 w v l b off arr E fz) {k:Nat} (hk:k<l.length) (n:Nat):aQ (some (false,n)) (some (.cells arr E fz)) (off+k*3+1)=some (vs (l.getD k fi0).name):=by
 rw[RowS.cell h hk oM];generalize l.getD k fi0=r;rw[x9];exact J1 _ _ _ (by simp)
def xH (r:FiL):fiC r=(([vs r.dir])++ ([vs r.name]))++ (([vs r.data])++ (([]:List Value))):=by
 unfold fiC;simp only[List.append_assoc,List.nil_append,List.append_nil]
def axp_ (r:FiL):Sx.partV (false,1) (fiC r).toArray 2=some (vs r.data):=by
 rw[xH];exact wa _ _ _ (by simp)
def Wk (r:FiL) (n:Nat) (E:TypeId) (fz:Nat×Nat):aQ (some (false,n)) (some (.cells (fiC r).toArray E fz)) 2=some (vs r.data):=by
 rw[xH];exact pR _ _ _ n E fz (by simp)
def Eh {w:World} {v:Value} {l:List FiL} {b off:Nat} {arr:Array Value} {E:TypeId} {fz:Nat×Nat} (h:RowS 3 fiC fi0 w v l b off arr E fz) {k:Nat} (hk:k<l.length) (n:Nat):aQ (some (false,n)) (some (.cells arr E fz)) (off+k*3+2)=some (vs (l.getD k fi0).data):=by
 rw[RowS.cell h hk oM];generalize l.getD k fi0=r;rw[xH];exact J1 _ _ _ (by simp)
def Et (r:FiL) (E:TypeId) (fz:Nat×Nat):aQ (some (true,3)) (some (.cells (fiC r).toArray E fz)) 0=some (.agg (fiC r).toArray):=rZ _ E fz 3 (by rw[List.size_toArray,oK])
def We (old:Array Value) (r:FiL) (a:Bool) (E:TypeId) (h:old.size=3):aw (some (a,3)) (some (.cells old E (0,0))) 0 (.agg (fiC r).toArray)=some (.cells (fiC r).toArray E (0,0)):=A2 _ a old E (oK r) (E_ r) h
def Tm (r r':FiL) (a:Bool) (E:TypeId):aw (some (a,3)) (some (.cells (fiC r').toArray E (0,0))) 0 (.agg (fiC r).toArray)=some (.cells (fiC r).toArray E (0,0)):=We _ r a E (by rw[List.size_toArray,oK])
def FQ {w:World} {v:Value} {l:List FiL} {b off:Nat} {arr:Array Value} {E:TypeId} {fz:Nat×Nat} (h:RowS 3 fiC fi0 w v l b off arr E fz) {k:Nat} (hk:k<l.length):aQ (some (true,3)) (some (.cells arr E fz)) (off+k*3)=some (.agg (fiC (l.getD k fi0)).toArray):=RowS.load h oK oM hk
def Yh:Tryz.prog.stoodInHeld 187=false:=by kernel_rfl
def Yg:Tryz.prog.eqGuardType Tryz.prog.depth 187=false:=by kernel_rfl
def ax2_ (r r':FiL):eqD prog 8 187 (.agg (fiC r).toArray) (.agg (fiC r').toArray)=some ((r.dir==r'.dir)&& (r.name==r'.name)&& (r.data==r'.data)):=by
 have hs: ∀ (a b:List UInt8),eqD prog 7 9 (vs a) (vs b)=some (a==b):=by
  intro a b;unfold eqD;rw[underlying9];simp only[vs,vx]
 have ags:aK prog 9=some (false,1):=id kR
 unfold eqD
 rw[underlying187]
 simp only
 rw[Yh]
 simp only[Bool.false_eq_true, ↓reduceIte,yk,rg,ags,axL_,axW_,axp_,hs]
 cases(r.dir==r'.dir)<;>cases(r.name==r'.name)<;>cases(r.data==r'.data)<;>simp
def neFi (r r':FiL):ab prog .neq 187 (.agg (fiC r).toArray) (.agg (fiC r').toArray)=some (.bool (!((r.dir==r'.dir)&& (r.name==r'.name)&& (r.data==r'.data)))):=by
 unfold ab eqX;rw[Yg];simp[eN,ax2_]
def Vw (r:FiL):fI (d8 prog 187) (au prog 187) [(0,vs r.dir),(1,vs r.name),(2,vs r.data)]=some (.agg (fiC r).toArray):=by
 have hp:d8 prog 187=some [(0,1),(1,1),(2,1)]:=id kR
 rw[hp,zrFi]
 have e0: (fiC fi0).toArray=(([]:List Value)++ (([vs fi0.dir])++ ([vs fi0.name]++ ([vs fi0.data])))).toArray:=by congr 1<;>simp only[fiC,List.append_assoc,List.nil_append,List.append_nil]
 have q0:dZ (([]:List Value)++ (([vs fi0.dir])++ ([vs fi0.name]++ ([vs fi0.data])))).toArray 0 ([vs r.dir])=(([]:List Value)++ (([vs r.dir])++ ([vs fi0.name]++ ([vs fi0.data])))).toArray:=wi _ _ _ _ (by simp) (rfl)
 have s0: (([]:List Value)++ (([vs fi0.dir])++ ([vs fi0.name]++ ([vs fi0.data])))).toArray.size=3:=by simp
 have z0: (Value.cells (vs r.dir)).toList= [vs r.dir]:=by rfl
 have y0: (Value.cells (vs r.dir)).size=1:=by rw[←Array.length_toList,z0];simp
 have e1: (([]:List Value)++ (([vs r.dir])++ ([vs fi0.name]++ ([vs fi0.data])))).toArray=((([vs r.dir]))++ (([vs fi0.name])++ ([vs fi0.data]))).toArray:=by congr 1<;>simp only[fiC,List.append_assoc,List.nil_append,List.append_nil]
 have q1:dZ ((([vs r.dir]))++ (([vs fi0.name])++ ([vs fi0.data]))).toArray 1 ([vs r.name])=((([vs r.dir]))++ (([vs r.name])++ ([vs fi0.data]))).toArray:=wi _ _ _ _ (by simp) (rfl)
 have s1: ((([vs r.dir]))++ (([vs fi0.name])++ ([vs fi0.data]))).toArray.size=3:=by simp
 have z1: (Value.cells (vs r.name)).toList= [vs r.name]:=by rfl
 have y1: (Value.cells (vs r.name)).size=1:=by rw[←Array.length_toList,z1];simp
 have e2: ((([vs r.dir]))++ (([vs r.name])++ ([vs fi0.data]))).toArray=((([vs r.dir])++ ([vs r.name]))++ (([vs fi0.data])++ (([]:List Value)))).toArray:=by congr 1<;>simp only[fiC,List.append_assoc,List.nil_append,List.append_nil]
 have q2:dZ ((([vs r.dir])++ ([vs r.name]))++ (([vs fi0.data])++ (([]:List Value)))).toArray 2 ([vs r.data])=((([vs r.dir])++ ([vs r.name]))++ (([vs r.data])++ (([]:List Value)))).toArray:=wi _ _ _ _ (by simp) (rfl)
 have s2: ((([vs r.dir])++ ([vs r.name]))++ (([vs fi0.data])++ (([]:List Value)))).toArray.size=3:=by simp
 have z2: (Value.cells (vs r.data)).toList= [vs r.data]:=by rfl
 have y2: (Value.cells (vs r.data)).size=1:=by rw[←Array.length_toList,z2];simp
 have e3: ((([vs r.dir])++ ([vs r.name]))++ (([vs r.data])++ (([]:List Value)))).toArray=(fiC r).toArray:=by congr 1<;>simp only[fiC,List.append_assoc,List.nil_append,List.append_nil]
 simp only[fI]
 rw[e0]
 unfold Sx.fillV
 simp only[List.getElem?_cons_zero,List.getElem?_cons_succ,z0,y0]
 rw[if_pos ⟨trivial,by rw[s0];decide⟩,q0]
 rw[e1]
 unfold Sx.fillV
 simp only[List.getElem?_cons_zero,List.getElem?_cons_succ,z1,y1]
 rw[if_pos ⟨trivial,by rw[s1];decide⟩,q1]
 rw[e2]
 unfold Sx.fillV
 simp only[List.getElem?_cons_zero,List.getElem?_cons_succ,z2,y2]
 rw[if_pos ⟨trivial,by rw[s2];decide⟩,q2]
 rw[e3];rfl
abbrev FiSl (w:World) (v:Value) (l:List FiL):Prop:=SlV 3 fiC fi0 w v l
def DkP.seen1 {X L:aB} {G:DkG} {S:DiskL} (h:DkP X G S) {k:Nat} (hk:k<3) {l':NmL} (keep: ∀b o,Sx.look X b=some o→b≠G.s k→Sx.look L b=some o) (hs:NmM L G.fb (G.s k) l') (h1:SrtN l') (h3: ∀p,p∈l'→p.2<S.files.length):
  DkP L G (eB S k ⟨l',(S.dir k).stl,(S.dir k).pend⟩):=by
 obtain⟨osk,msk,qi,qf,-⟩:=h.seen k hk
 have dJ: ∀b o,Sx.look X b=some o→tyO o≠none→b≠G.s k:=by
  rintro b o hb ht rfl
  rw[qi] at hb;cases hb;exact ht (jP qf)
 have K: ∀b o,Sx.look X b=some o→tyO o≠none→Sx.look L b=some o:=fun b o hb h1=>keep b o hb (dJ b o hb h1)
 have es: ∀j,(eB S k ⟨l',(S.dir k).stl,(S.dir k).pend⟩).dir j=if j=k then⟨l',(S.dir k).stl,(S.dir k).pend⟩ else S.dir j:=fun _=>rfl
 have e2: ∀j,((eB S k ⟨l',(S.dir k).stl,(S.dir k).pend⟩).dir j).stl=(S.dir j).stl:=fun j=>by
  rw[es];by_cases e:j=k
  ·subst e;rw[if_pos rfl]
  rw[if_neg e]
 have e3: ∀j,((eB S k ⟨l',(S.dir k).stl,(S.dir k).pend⟩).dir j).pend=(S.dir j).pend:=fun j=>by
  rw[es];by_cases e:j=k
  ·subst e;rw[if_pos rfl]
  rw[if_neg e]
 refine⟨K _ _ h.disk (by simp[tyO,bM]), ?_,fun j hj=>K _ _ (h.dir j hj) (by simp[tyO,cU]),fun j hj=> ?_,fun j hj=> ?_,fun j hj=> ?_,fun n hn=>K _ _ (h.file n hn) (by simp[tyO,cg]),h.len,h.nodf,h.nodm,h.nodd,h.nodb,h.nodp,AC h.ok _ h1 (h.ok.stl k hk) h3 (h.ok.stlN k hk) (h.ok.pendN k hk)⟩
 ·obtain⟨o,h1,h2⟩:=h.dirs
  exact⟨o,keep _ _ h1 (h.nodb k hk).1,h2⟩
 ·rw[es]
  by_cases e:j=k
  ·subst e;rw[if_pos rfl];exact hs
  rw[if_neg e]
  obtain⟨o,m,h1,h2,h3⟩:=h.seen j hj
  exact⟨o,m,keep _ _ h1 ((pX h.nodm hj hk).1 e),h2,h3⟩
 ·rw[e2]
  obtain⟨o,m,h1,h2,h3⟩:=h.stl j hj
  exact⟨o,m,keep _ _ h1 (Ne.symm (pX h.nodm hk hj).2.2),h2,h3⟩
 rw[e3]
 obtain⟨vals,h1,h2,h3⟩:=h.pend j hj
 refine⟨vals,h1,h2.keep fun b o hb ho=> ?_,fun i hi=>(h3 i hi).keep fun b o ho hx=>K b o ho ?_⟩
 ·obtain⟨arr,ha⟩:=nM h2 hb
  rw[ho] at ha;cases ha
  exact K _ _ ho (by simp[tyO])
 rcases hx with⟨s,rfl⟩ | ⟨a,rfl⟩<;>simp[tyO,dX,ptrO]
def eX (S:DiskL) (f:FiL):DiskL:=match bG f.dir with
 |some k=>if cS f.name=true∧f.data.length≤1048576 then eB (fK S ⟨f.data,f.data.length⟩) k ⟨gK (S.dir k).seen (f.name,S.files.length),(S.dir k).stl,(S.dir k).pend⟩ else S
 |none=>S
def setV (S:DiskL) (vis:List Nat):DiskL:={S with dir:=fun k=>if k∈vis then⟨(S.dir k).seen,(S.dir k).seen,[]⟩ else S.dir k}
def Vd (S:DiskL):setV S []=S:=by
 unfold setV
 simp
def QD (S:DiskL) (vis:List Nat) (k:Nat):kU (setV S vis) k=setV S (vis++ [k]):=by
 unfold kU eB setV
 simp only
 congr 1
 funext j
 by_cases e:j=k
 ·subst e
  rw[if_pos rfl,if_pos (db _ (List.mem_singleton.2 rfl))]
  by_cases h:j∈vis
  ·rw[if_pos h]
  rw[if_neg h]
 rw[if_neg e]
 by_cases h:j∈vis
 ·rw[if_pos h,if_pos (bl _ h)]
 rw[if_neg h,if_neg (fun hm=>by
  rcases List.mem_append.1 hm with hm|hm
  ·exact h hm
  exact e (List.mem_singleton.1 hm))]
def RK (S:DiskL) {a b:List Nat} (h: ∀k,k∈a↔k∈b):setV S a=setV S b:=by
 unfold setV
 congr 1
 funext j
 by_cases e:j∈a
 ·rw[if_pos e,if_pos ((h j).1 e)]
 rw[if_neg e,if_neg (fun e2=>e ((h j).2 e2))]
def ofD (quota:Int) (l:List FiL):DiskL:=setV (l.foldl eX (cT quota)) [0,1,2]
def Ze (b o:Nat):ab prog .neq 171 (vp b o) (.pointer none)=some (.bool true):=by
 simp[ab,eqX,eN,eA,underlying171,vp]
def XI:ab prog .neq 171 (.pointer none) (.pointer none)=some (.bool false):=by
 simp[ab,eqX,eN,eA,underlying171]
def RS (s:List UInt8) (n:Nat):fI (d8 prog 182) (au prog 182) [(0,vs s),(1,vi (n:Int))]=some (.agg #[vs s,vi (n:Int)]):=by
 rw[show d8 prog 182=some [(0,1),(1,1)] from id kR,show au prog 182=some (.agg #[vs [],vi 0]) from id kR];rfl
def Sw {X:aB} {c:Nat} {x:Obj} (h:eP X c) {b:Nat} {o:Obj} (hb:Sx.look X b=some o):Sx.look ((c,x)::X) b=some o:=by
 have:=ak h (cC hb)
 simp only[Sx.look]
 rw[if_neg oM];exact hb
structure OfKG where
 i:Nat
 G:DkG
 X:aB
structure OvKG where
 vis:List Nat
 dn:List (List UInt8×Option Nat)
 lf:List (List UInt8×Option Nat)
 it:Obj
 G:DkG
 X:aB
def FiB (l:List FiL):Prop:= ∀f,f∈l→f.name.length<1099511627776∧f.data.length<1099511627776
def eO:=aN (aN (aN (aN @bB @bA) (aN @mY (aN @oJ @oE))) (aN (aN @oG @Ze) (aN @XI (aN @Sx.tup2_0 @Sx.tup2_1)))) (aN (aN (aN @wE @Et) (aN @Vx (aN @Wd @Wk))) (aN (aN @Tm @uH) (aN @Sx.tup3_0 (aN @Sx.tup3_1 @Sx.tup3_2))))
def VX (quota:Int) (v:Value) (l:List FiL) (w:World) (hq: -9223372036854775808≤quota∧quota<9223372036854775808) (hG:oX w) (hv:FiSl w v l) (hl:l.length<1000000) (hb:FiB l):
  Rets prog 53 #[vi quota,v] w (XS w [] (fun v D=> ∃G,v=vp G.bd 0∧DkP D G (ofD quota l))):=by
 have ln:=hv.len
 obtain⟨rb,off,arr,E,fz,hr⟩:=hv.row
 refine Rets.enterX func53 rfl (rs:= [.tmp 4]) results53 ntmps53 (fun p hp=>by cases hp) (by simp[keys]) ?_
 refine kf ?_
 refine ky @eO ?_
 refine Ow.callC rfl rfl call80 (fun w' aA=>Ku quota w' hq (by obtain⟨e,f,hg⟩:=hG;exact⟨e,f,by rw[aA.old _ (Array.getElem?_eq_some_iff.1 hg).1 (by simp[keys])];exact hg⟩)) (fun B2 v2 D2 dG cZ cJ bH=> ?_)
 obtain⟨G0,rfl,lP⟩:=bH
 rw[List.nil_append]
 have lO:New w.heap.size D2:=cJ.mono cZ
 refine ko @eO ?_
 refine ky (aN @eO @ln) ?_
 refine Cw.loopG (G:=OfKG) [16,17,18,7,19,20,21,22,23,24,25,8,26,27,28,29,30,31,32,33,34,35,36,37,38,39,40,41,42,43,44,45,46,47,48,49,50,51,52,15] (fun g=> [(15,vi g.i)]) (fun g=>g.X) (fun g=>g.i≤l.length∧DkP g.X g.G ((l.take g.i).foldl eX (cT quota))∧g.G.bd=G0.bd∧New w.heap.size g.X) (fun g=>l.length - g.i) ⟨0,G0,D2⟩ rfl rfl ?_ ?_
 ·exact⟨aq _,lP,rfl,lO⟩
 intro g j hg
 refine kv ?_
 clear lP lO
 obtain⟨i,G,X⟩:=g
 simp only at hg ⊢
 obtain⟨hi,hP,dw,hN⟩:=hg
 rw[←dw]
 by_cases aC:i<l.length
 ·have d1:decide ((i:Int)< (l.length:Int))=true:=aW oM
  have oA:=hr.lt oM
  have ixl:=hr.idx true i aC
  have ldl:=hr.load oK oM aC
  have rdl:aT w X rb=some (.cells arr E fz):=by rw[kY (hN.not oA)];exact hr.has oM
  have lW: (l.take (i+1)).foldl eX (cT quota)=eX ((l.take i).foldl eX (cT quota)) (l.getD i fi0):=by
   rw[StP.take_snoc (z:=fi0) aC,List.foldl_append];rfl
  have Jh:=hb (l.getD i fi0) (by rw[List.getD_eq_getElem?_getD,List.getElem?_eq_getElem aC];exact List.getElem_mem _)
  generalize l.getD i fi0=r at*
  generalize (l.take i).foldl eX (cT quota)=S at*
  refine ky (aN @eO (aN @d1 (aN @ixl (aN @rdl @ldl)))) ?_
  refine Ow.alloc rfl rfl zrFi fun b7 gy fZ=> ?_
  simp only[ag,List.nil_append,List.cons_append]
  refine Ow.permL (M:=(b7, .cells (fiC fi0).toArray 187 (0,0))::X) pM ?_
  refine ko @eO ?_
  have ai:DkP ((b7, .cells (fiC r).toArray 187 (0,0))::X) G S:=hP.mono fun b o h=>Sw gy h
  have qY:Sx.look ((b7,Obj.cells (fiC r).toArray 187 (0,0))::X) b7=some (.cells (fiC r).toArray 187 (0,0)):=by simp[Sx.look]
  have bX:New w.heap.size ((b7,Obj.cells (fiC r).toArray 187 (0,0))::X):=⟨fZ,hN⟩
  generalize (b7,Obj.cells (fiC r).toArray 187 (0,0))::X=L1 at*
  have l9:=ac (w0:=w) qY
  have lA:=ac (w0:=w) ai.disk
  obtain⟨om,jJ,hM⟩:=ai.dirs
  refine ky @eO ?_
  refine Cw.regionS [G.bd,b7] [0,1,2,4,3,5,6,7] [] kR kR kR ?_
  simp only[bF, ↓bE, ↓ay, ↓bD, ↓bC,az]
  refine kq (aN @eO (aN @lA @l9)) ?_
  refine Ow.soft rfl rfl rfl ?_
  refine Ow.mapGetG (encK:=vs) (encV:=ar) (k:=r.dir) (z:=none) rfl rfl underlying166 j7 zrPd rfl rfl (ac jJ) hM ?_
  with_reducible refine Ow.nil ?_
  refine⟨by intro b hb;simp only[List.mem_cons,List.not_mem_nil,or_false] at hb;(try subst hb);rfl, ?_⟩
  rw[AS]
  cases zy:bG r.dir with
  |none=>
   have fP:ar none= .pointer none:=rfl
   refine kq (aN @eO @fP) ?_
   try with_reducible refine Ow.nil ?_
   refine ky @eO ?_
   exact Again.mk ⟨i+1,G,L1⟩ (by show l.length - (i+1)<l.length - i;omega) ⟨aC,by show DkP L1 G ((l.take (i+1)).foldl eX (cT quota));rw[lW];unfold eX;rw[zy];exact ai,rfl,bX⟩ rfl rfl
  |some k=>
   have hp: ∀q:Nat,ar (some q)=vp q 0:=fun _=>rfl
   have an:=(dY zy).1
   refine kq (aN @eO @hp) ?_
   try with_reducible refine Ow.nil ?_
   refine ky (aN @eO @l9) ?_
   refine Ow.callFV rfl call97 (fun w' aA=>Ko_ r.name w' Jh.1) ?_
   have kQ: ¬ (cS r.name=true∧r.data.length≤1048576)→eX S r=S:=fun h=>by unfold eX;rw[zy];simp only;rw[if_neg h]
   cases dh:cS r.name with
   |false=>
    refine ko @eO ?_
    refine ky @eO ?_
    exact Again.mk ⟨i+1,G,L1⟩ (by show l.length - (i+1)<l.length - i;omega) ⟨aC,by show DkP L1 G ((l.take (i+1)).foldl eX (cT quota));rw[lW,kQ (fun h=>by rw[dh] at h;cases h.1)];exact ai,rfl,bX⟩ rfl rfl
   |true=>
    by_cases i4:r.data.length≤1048576
    ·have d2:decide ((r.data.length:Int)≤1048576)=true:=aW oM
     have cW:=ac (w0:=w) (ai.dir k an)
     obtain⟨os,ms,gR,fY,i9⟩:=ai.seen k an
     refine ko (aN @eO (aN @l9 @d2)) ?_
     refine ky @eO ?_
     refine Cw.regionS [G.d k,b7] [0,1,2,4,6,8,3,5,7,9,10,11,12,13] [13] kR kR kR ?_
     simp only[bF, ↓bE, ↓ay, ↓bD, ↓bC,az]
     refine kq (aN @eO (aN @cW @l9)) ?_
     refine Ow.build (.agg #[vs r.data,vi (r.data.length:Int)]) rfl (RS r.data r.data.length) ?_
     refine kq @eO ?_
     refine Ow.soft rfl rfl rfl ?_
     refine Ow.box rfl rfl fun b8 iu m_=> ?_
     simp only[ck,cV,ce,ag]
     have dA:=(ai.mono (X':=L1++ [(b8,cg ⟨r.data,r.data.length⟩)]) fun b o h=>bZ h).addFile (jQ iu) (fun hm=>by have:=ak iu (ai.fb_key hm);omega) ⟨i4,ap _⟩
     have cJ:New w.heap.size (L1++ [(b8,cg ⟨r.data,r.data.length⟩)]):=bX.app (show New w.heap.size [(b8,cg ⟨r.data,r.data.length⟩)] from⟨m_,trivial⟩)
     refine Ow.permL (M:=L1++ [(b8,cg ⟨r.data,r.data.length⟩)]) (List.Perm.refl _) ?_
     have hu1:=ac (w0:=w) (bZ (M:= [(b8,cg ⟨r.data,r.data.length⟩)]) (ai.dir k an))
     have hu2:=ac (w0:=w) (bZ (M:= [(b8,cg ⟨r.data,r.data.length⟩)]) qY)
     generalize L1++ [(b8,cg ⟨r.data,r.data.length⟩)]=L2 at*
     with_reducible refine Ow.nil ?_
     refine⟨fun b hb=>by
      simp only[List.mem_cons,List.not_mem_nil,or_false] at hb
      rcases hb with rfl|rfl
      ·rw[hu1,cW]
      rw[hu2,l9], ?_⟩
     obtain⟨os2,ms2,tY,hms2,hnp2⟩:=dA.seen k an
     refine kq @eO ?_
     refine Ow.mapUpdateG (encK:=vs) (encV:=ar) (k:=r.name) (v:=some b8) rfl rfl underlying173 j7 rfl rfl rfl tY hms2 (fun o3 zm=> ?_)
     have Hj:=hnp2.put (dA.ok.seen k an).nodup r.name S.files.length
     have iV: (addF G b8).fb.getD S.files.length 0=b8:=vh _ _ hP.len
     rw[iV] at Hj
     have o_:=dA.seen1 (L:=setB L2 (G.s k) o3) an (l':=gK (S.dir k).seen (r.name,S.files.length)) (fun b o hb h1=>(eh (Ne.symm h1)).trans hb) ⟨o3,_,jR tY,zm,Hj⟩ (Aa _ (dA.ok.seen k an)) (J5 (c:=⟨0,r.name,[],S.files.length⟩) (dA.ok.seenN k an) (fun h=>by cases h) (fun _=>by show S.files.length< (S.files++ [_]).length;simp))
     have gL:New w.heap.size (setB L2 (G.s k) o3):=New.of_le fun q hq=>cJ.le q (by rwa [rB] at hq)
     refine ko @eO ?_
     refine ky @eO ?_
     exact Again.mk ⟨i+1,addF G b8,setB L2 (G.s k) o3⟩ (by show l.length - (i+1)<l.length - i;omega) ⟨aC,by show DkP (setB L2 (G.s k) o3) (addF G b8) ((l.take (i+1)).foldl eX (cT quota));rw[lW];unfold eX;rw[zy];simp only;rw[if_pos ⟨dh,i4⟩];exact o_,rfl,gL⟩ rfl rfl
    have d2:decide ((r.data.length:Int)≤1048576)=false:=ah oM
    refine ko (aN @eO (aN @l9 @d2)) ?_
    refine ky @eO ?_
    exact Again.mk ⟨i+1,G,L1⟩ (by show l.length - (i+1)<l.length - i;omega) ⟨aC,by show DkP L1 G ((l.take (i+1)).foldl eX (cT quota));rw[lW,kQ (fun h=>i4 h.2)];exact ai,rfl,bX⟩ rfl rfl
 obtain rfl:i=l.length:=by omega
 have d1:decide ((l.length:Int)< (l.length:Int))=false:=ah oM
 rw[List.take_length] at hP
 unfold ofD
 generalize l.foldl eX (cT quota)=S at*
 have lA:=ac (w0:=w) hP.disk
 obtain⟨om,jJ,hM⟩:=hP.dirs
 refine ky (aN @eO (aN @d1 @lA)) ?_
 refine Ow.rangeMapG (encK:=vs) (encV:=ar) rfl rfl underlying166 rfl (ac jJ) hM fun bi oi uh kT hI=> ?_
 refine Ow.permL (M:=(bi,oi)::X) pM ?_
 have Gz:bi∉keys X:=fun hm=>by have:=ak uh hm;omega
 refine ko @eO ?_
 refine ky @eO ?_
 refine Cw.loopG (G:=OvKG) [58,59,60,61,10,62,63] (fun g=> []) (fun g=>(bi,g.it)::g.X) (fun g=>ItG vs ar g.it G.bm om (ob G) g.dn g.lf∧DkP g.X g.G (setV S g.vis)∧g.dn.map Prod.fst=g.vis.map d7∧(∀k,k∈g.vis→k<3)∧bi∉keys g.X∧g.G.d=G.d∧g.G.bm=G.bm∧g.G.bd=G.bd∧Sx.look g.X G.bm=some om∧New w.heap.size g.X) (fun g=>g.lf.length) ⟨[],[],ob G,oi,G,X⟩ rfl rfl ?_ ?_
 ·exact⟨hI,by rw[Vd];exact hP,rfl,fun k hk=>(by cases hk),Gz,rfl,rfl,rfl,jJ,hN⟩
 intro g j hg
 refine kv ?_
 clear hI hP hN Gz lA
 obtain⟨vis,dn,lf,it,G1,X1⟩:=g
 simp only at hg ⊢
 obtain⟨hI,hP,hvs,hv3,Gz,tP,o0,mv,tX,hN⟩:=hg
 have hoX: ∀x b o,Sx.look X1 b=some o→Sx.look ((bi,x)::X1) b=some o:=fun x b o hb=>by
  simp only[Sx.look]
  rw[if_neg (fun e=>Gz (by have e':b=bi:=oM;rw[←e'];exact cC hb))]
  exact hb
 refine ky @eO ?_
 refine Ow.nextMapG rfl rfl rfl (fN _ _ _) (ac (hoX _ _ _ tX)) hI (fun i8=> ?_) (fun p it' lf' lS iS=> ?_)
 ·subst i8
  have hp:=vT hI
  rw[List.append_nil] at hp
  refine ko @eO ?_
  refine ky @eO ?_
  refine⟨_,(ke @eO), ?_⟩
  refine⟨Ext.of_new ⟨kT,hN⟩,G1,by rw[mv];rfl, ?_⟩
  rw[show setV S [0,1,2]=setV S vis from RK S fun k=>⟨fun hk=> ?_,fun hk=> ?_⟩]
  ·exact hP.mono fun b o hb=>hoX _ _ _ hb
  ·have an:k<3:=by simp only[List.mem_cons,List.not_mem_nil,or_false] at hk;omega
   have hm:d7 k∈dn.map Prod.fst:=by
    refine List.mem_map.2 ⟨(d7 k,some (G.d k)),hp.mem_iff.2 ?_,rfl⟩
    have:k=0∨k=1∨k=2:=by omega
    rcases this with rfl|rfl|rfl<;>simp[ob,d7]
   rw[hvs] at hm
   obtain⟨j,hj,e⟩:=List.mem_map.1 hm
   have h1:=oF (hv3 j hj)
   rw[e,oF an] at h1
   cases h1;exact hj
  have:=hv3 k hk
  simp only[List.mem_cons,List.not_mem_nil,or_false];omega
 refine kn ?_
 refine ko @eO ?_
 refine ky @eO ?_
 refine Ow.entryMapG (encK:=vs) (encV:=ar) rfl rfl rfl (oH _ _ _ _) (ac (hoX _ _ _ tX)) iS ?_
 have hp:=vT iS
 obtain⟨k,an,rfl⟩:=C6 (hp.mem_iff.1 (bl _ (db _ aa)))
 have hpp: ∀q:Nat,ar (some q)=vp q 0:=fun _=>rfl
 refine ko (aN @eO @hpp) ?_
 refine ky @eO ?_
 refine Ow.permL (M:=X1++ [(bi,it')]) pM ?_
 refine Ow.callX (X:=X1) (Y:= [(bi,it')]) rfl rfl rfl call98 (fun w' aA aj ad=>by rw[show vp (G.d k) 0=vp (G1.d k) 0 by rw[tP]];exact Vx_ X1 G1 (setV S vis) k w' aj ad hP an) (fun v4 D4 dc bQ=> ?_)
 obtain⟨rfl,hP4,gE⟩:=bQ
 rw[QD] at hP4
 have hbm2:=hP.dirs
 have hom4:Sx.look D4 G.bm=some om:=gE _ _ tX (by rw[←o0];exact(hP.nodb k an).2) (fun e=>by
  have h1:=hP.dir k an
  rw[←e,tX] at h1
  cases h1
  obtain⟨es,cl,h,-⟩:=hM;cases h)
 have hbD:bi∉keys D4:=fun hm=>by
  rcases dc.new bi hm with h| ⟨h,-⟩
  ·exact Gz h
  have:=ak h (b:=bi) (by rw[ae];simp[keys]);omega
 have gM:New w.heap.size D4:=vR dc hN
 refine Ow.permL (M:=(bi,it')::D4) pM ?_
 refine ko @eO ?_
 refine ky @eO ?_
 exact Again.mk ⟨vis++ [k],dn++ [(d7 k,some (G.d k))],lf',it',p_ G1 k (G1.s k),D4⟩ (by show lf'.length<lf.length;omega) ⟨iS,hP4,by show(dn++ [_]).map Prod.fst=(vis++ [k]).map d7;rw[List.map_append,List.map_append,hvs];rfl,fun j hj=>by
  rcases List.mem_append.1 hj with hj|hj
  ·exact hv3 j hj
  rw[List.mem_singleton.1 hj];exact an,hbD,tP,o0,mv,hom4,gM⟩ rfl rfl
end Go.Proofs
end
section
namespace Go.Proofs
open Go Go.Sx Go.StP Go.Shelf
def keysL_ren:Go.Shelf.Ren:=⟨fun|7=>163|10=>215|n=>n,fun|23=>173|26=>9|3=>178|28=>278|0=>0|27=>277|33=>188|4=>4|n=>n,fun|n=>n⟩
def keysL:Go.Proofs.SlLaysZ.n7 prog keysL_ren:={
 mixed:=by kernel_rfl
 f7:=⟨Tryz.f163.name,by decide,Tryz.func163.trans (congrArg some kR)⟩
 f10:=⟨Tryz.f215.name,by decide,Tryz.func215.trans (congrArg some kR)⟩
 t0:=underlying0
 a0:=isAgg0
 z0:=sizeOf0
 v0:=zeroValue0
 t4:=underlying4
 a4:=isAgg4
 z4:=sizeOf4
 v4:=zeroValue4
 t23:=underlying173
 a23:=isAgg173
 z23:=sizeOf173
 v23:=zeroValue173
 t26:=underlying9
 a26:=isAgg9
 z26:=sizeOf9
 v26:=zeroValue9
 t27:=underlying277
 a27:=isAgg277
 z27:=sizeOf277
 v27:=zeroValue277
 t28:=underlying278
 a28:=isAgg278
 z28:=sizeOf278
 v28:=zeroValue278
 t33:=underlying188
 a33:=isAgg188
 z33:=sizeOf188
 v33:=zeroValue188}
def sortedL_ren:Go.Shelf.Ren:=⟨fun|6=>162|8=>213|9=>214|11=>251|13=>212|12=>252|23=>249|24=>250|14=>286|15=>287|16=>288|17=>289|18=>290|19=>291|20=>292|21=>293|22=>294|25=>311|26=>282|27=>283|28=>312|29=>313|30=>190|31=>321|n=>n,fun|26=>9|28=>278|24=>179|0=>0|3=>3|37=>253|48=>250|50=>296|4=>4|40=>352|39=>351|45=>356|5=>5|9=>9|51=>382|55=>386|57=>403|58=>404|33=>188|n=>n,fun|n=>n⟩
def sortedL:Go.Proofs.SlLaysZ.n6 prog sortedL_ren:={
 mixed:=by kernel_rfl
 f6:=⟨Tryz.f162.name,by decide,Tryz.func162.trans (congrArg some kR)⟩
 f8:=⟨Tryz.f213.name,by decide,Tryz.func213.trans (congrArg some kR)⟩
 f11:=⟨Tryz.f251.name,by decide,Tryz.func251.trans (congrArg some kR)⟩
 t0:=underlying0
 a0:=isAgg0
 z0:=sizeOf0
 v0:=zeroValue0
 t24:=underlying179
 a24:=isAgg179
 z24:=sizeOf179
 v24:=zeroValue179
 t26:=underlying9
 a26:=isAgg9
 z26:=sizeOf9
 v26:=zeroValue9
 t28:=underlying278
 a28:=isAgg278
 z28:=sizeOf278
 v28:=zeroValue278
 i26:=by kernel_rfl}
def sortL_ren:Go.Shelf.Ren:=⟨fun|6=>214|8=>212|9=>252|19=>249|20=>250|21=>286|22=>287|23=>288|24=>289|25=>290|26=>291|27=>292|28=>293|29=>294|36=>311|31=>282|32=>283|37=>312|38=>313|39=>190|41=>321|n=>n,fun|27=>179|29=>9|3=>3|32=>253|26=>179|0=>0|44=>250|46=>296|4=>4|36=>352|35=>351|41=>356|5=>5|9=>9|53=>382|57=>386|63=>403|64=>404|n=>n,fun|n=>n⟩
def sortL:Go.Proofs.SlLaysM.n6 prog sortL_ren:={
 mixed:=by kernel_rfl
 f6:=⟨Tryz.f214.name,by decide,Tryz.func214.trans (congrArg some kR)⟩
 f8:=Tryz.func212.trans (congrArg some kR)
 f9:=⟨Tryz.f252.name,by decide,Tryz.func252.trans (congrArg some kR)⟩
 f19:=Tryz.func249.trans (congrArg some kR)
 f20:=Tryz.func250.trans (congrArg some kR)
 f21:=⟨Tryz.f286.name,by decide,Tryz.func286.trans (congrArg some kR)⟩
 f22:=⟨Tryz.f287.name,by decide,Tryz.func287.trans (congrArg some kR)⟩
 f23:=⟨Tryz.f288.name,by decide,Tryz.func288.trans (congrArg some kR)⟩
 f24:=⟨Tryz.f289.name,by decide,Tryz.func289.trans (congrArg some kR)⟩
 f25:=⟨Tryz.f290.name,by decide,Tryz.func290.trans (congrArg some kR)⟩
 f26:=⟨Tryz.f291.name,by decide,Tryz.func291.trans (congrArg some kR)⟩
 f27:=⟨Tryz.f292.name,by decide,Tryz.func292.trans (congrArg some kR)⟩
 f28:=⟨Tryz.f293.name,by decide,Tryz.func293.trans (congrArg some kR)⟩
 f29:=⟨Tryz.f294.name,by decide,Tryz.func294.trans (congrArg some kR)⟩
 f31:=Tryz.func282.trans (congrArg some kR)
 f32:=Tryz.func283.trans (congrArg some kR)
 f36:=⟨Tryz.f311.name,by decide,Tryz.func311.trans (congrArg some kR)⟩
 f37:=⟨Tryz.f312.name,by decide,Tryz.func312.trans (congrArg some kR)⟩
 f38:=⟨Tryz.f313.name,by decide,Tryz.func313.trans (congrArg some kR)⟩
 f39:=⟨Tryz.f190.name,by decide,Tryz.func190.trans (congrArg some kR)⟩
 f41:=⟨Tryz.f321.name,by decide,Tryz.func321.trans (congrArg some kR)⟩
 t0:=underlying0
 a0:=isAgg0
 z0:=sizeOf0
 v0:=zeroValue0
 t3:=underlying3
 a3:=isAgg3
 z3:=sizeOf3
 v3:=zeroValue3
 t4:=underlying4
 a4:=isAgg4
 z4:=sizeOf4
 v4:=zeroValue4
 t5:=underlying5
 a5:=isAgg5
 z5:=sizeOf5
 v5:=zeroValue5
 t9:=underlying9
 a9:=isAgg9
 z9:=sizeOf9
 v9:=zeroValue9
 t26:=underlying179
 a26:=isAgg179
 z26:=sizeOf179
 v26:=zeroValue179
 t27:=underlying179
 a27:=isAgg179
 z27:=sizeOf179
 v27:=zeroValue179
 t29:=underlying9
 a29:=isAgg9
 z29:=sizeOf9
 v29:=zeroValue9
 t32:=underlying253
 a32:=isAgg253
 z32:=sizeOf253
 v32:=zeroValue253
 t35:=underlying351
 a35:=isAgg351
 z35:=sizeOf351
 v35:=zeroValue351
 t36:=underlying352
 a36:=isAgg352
 z36:=sizeOf352
 v36:=zeroValue352
 t41:=underlying356
 a41:=isAgg356
 z41:=sizeOf356
 v41:=zeroValue356
 t44:=underlying250
 a44:=isAgg250
 z44:=sizeOf250
 v44:=zeroValue250
 t46:=underlying296
 a46:=isAgg296
 z46:=sizeOf296
 v46:=zeroValue296
 t53:=underlying382
 a53:=isAgg382
 z53:=sizeOf382
 v53:=zeroValue382
 t57:=underlying386
 a57:=isAgg386
 z57:=sizeOf386
 v57:=zeroValue386
 t63:=underlying403
 a63:=isAgg403
 z63:=sizeOf403
 v63:=zeroValue403
 t64:=underlying404
 a64:=isAgg404
 z64:=sizeOf404
 v64:=zeroValue404}
open Go.RowKit Go.Maps Go.Sort
def Zu (m:Nat):AnyZ.SortsIn prog sortedL_ren Fence.wide m:=
 ⟨fun blk off cap ss W hH hblk e_=>callsIn_wide.2 (AnyM.slices_Sort_string sortL blk off cap ss W hH hblk e_),
 fun p cap W=>callsIn_wide.2 (AnyM.slices_Sort_string_none sortL p cap W)⟩
def Rn {a b:List UInt8} (h:ltB a b=true):leB a b=true:=by
 rw[nS,decide_eq_true_eq] at h
 simp only[leB,decide_eq_true_eq]
 exact List.le_of_lt h
def Ty {l:NmL} (h:SrtN l) {ss:List (List UInt8)} (hp:ss.Perm (l.map Prod.fst)):ss.mergeSort (fun x y=>decide (x≤y))=l.map Prod.fst:=by
 show ss.mergeSort leB=_
 rw[mergeSort_of_perm hp]
 refine List.mergeSort_of_pairwise ?_
 exact List.pairwise_map.2 (h.imp fun h=>Rn h)
def Za {W:World} {base n:Nat} {T:TypeId} {v:Value} {xs:List Value} (h:W.ownsRow base T 1 v n xs): ∃D:aB,(∀p,p∈D→W.heap[p.1]? =some p.2∧base≤p.1)∧(keys D).Nodup∧Gr D T 1 v n xs:=by
 obtain⟨hl,h⟩:=h
 rcases h with⟨rfl,rfl⟩ | ⟨g,cap,cur,rfl,hb,hg,hc,hm,hs,ht⟩
 ·obtain rfl:xs= []:=List.eq_nil_of_length_eq_zero (by simpa using hl)
  exact⟨[],fun p hp=>(by cases hp),List.nodup_nil,Gr.nl⟩
 refine⟨[(g, .cells cur T (0,0))], ?_,by simp[keys], ?_⟩
 ·intro p hp
  simp only[List.mem_singleton] at hp
  subst hp
  exact⟨hg,hb⟩
 by_cases h0:0<cap
 ·refine .inl (Buf.at_ (rest:=cur.toList.drop (n*1)) ?_ hl ?_ hc h0)
  ·rw[←ht,List.take_append_drop]
   simp[Sx.look]
  rw[List.length_drop,Array.length_toList,hs];omega
 obtain rfl:cap=0:=by omega
 obtain rfl:n=0:=by omega
 refine .inr ⟨rfl,List.eq_nil_of_length_eq_zero (by simpa using hl),g,rfl, ?_⟩
 have:cur= #[]:=Array.eq_empty_of_size_eq_zero (by simpa using hs)
 simp[Sx.look,this]
def RN (_:Value):Option (DataW Unit×List MemPlace):=some (.nil,[])
def Xu {w:World} {b:Nat} {o:Obj} {m:List (List UInt8×Option Nat)} (ho:w.heap[b]? =some o) (hM:eZ vs ar o m) (hn: (m.map Prod.fst).Nodup) (hk: ∀p,p∈m→p.1.length≤1000000) (hs:m.length≤1000000):
  ∃D0:DataW Unit,w.ownsMap prog 9 RN b m.length D0∧Maps.size D0≤1000000∧(strKeys D0).Perm (m.map Prod.fst):=by
 obtain⟨es,clock,rfl,he,hb⟩:=hM
 have aS:es.size=m.length:=by have:=congrArg List.length he;simpa using this
 have y5:es.toList.map (·.key)=m.map fun p=>vs p.1:=by
  have:=congrArg (List.map Prod.fst) he
  simpa [iJ,Function.comp_def] using this
 have cW: ∀x,x∈es.toList→ ∃s:List UInt8,x.key=vs s∧s.length≤1000000:=by
  intro x hx
  have:x.key∈m.map fun p=>vs p.1:=by rw[←y5];exact List.mem_map.2 ⟨x,hx,rfl⟩
  obtain⟨p,hp,e⟩:=List.mem_map.1 this
  exact⟨p.1,e.symm,hk p hp⟩
 have o9: ∀x,x∈es.toList→ ∀s:List UInt8,x.key=vs s→s.length≤1000000→WideElems.rd prog 9 RN x=some (.string s, .nil):=by
  intro x hx s hs hl
  have hL:s.length≤maxLen:=Nat.le_trans hl (by decide)
  have hL2: (ByteArray.mk s.toArray).size≤maxLen:=hL
  simp[WideElems.rd,keyOf,underlying9,mapKey,hs,RN,vs,hL2]
 have fW:=List.pairwise_append.1 hb
 refine⟨_,⟨es,clock,ho,⟨?_,⟨?_, ?_, ?_⟩, ?_⟩,by omega,rfl⟩, ?_, ?_⟩
 ·rw[aS];exact Nat.le_trans hs (by decide)
 ·intro x hx
  exact fW.2.2 x.born (List.mem_map.2 ⟨x,hx,rfl⟩) clock (by simp)
 ·exact fW.1.imp fun h=>Nat.ne_of_lt h
 ·rw[y5]
  have: (m.map Prod.fst).map vs=m.map fun p=>vs p.1:=by simp[Function.comp_def]
  rw[←this]
  refine List.pairwise_map.2 (hn.imp fun h e=>h ?_)
  simpa [vs] using e
 ·intro x hx
  obtain⟨s,e,hl⟩:=cW x hx
  exact⟨_,o9 x hx s e hl⟩
 ·rw[Maps.size_eq,(WideShapes.sorted_perm _).length_eq,List.length_map,Array.length_toList,aS];exact hs
 show(List.map (fun p:Lit×DataW Unit=>strOf p.1) _).Perm _
 refine((WideShapes.sorted_perm _).map _).trans (List.Perm.of_eq ?_)
 rw[List.map_map]
 refine List.map_congr_left ?_|>.trans (?_:es.toList.map (fun x=>match x.key with| .string s=>s.data.toList|_=> [])=_)
 ·intro x hx
  obtain⟨s,e,hl⟩:=cW x hx
  simp only[Function.comp]
  rw[WideElems.rg_of (o9 x hx s e hl),e]
  rfl
 have:es.toList.map (fun x=>match x.key with| .string s=>s.data.toList|_=> [])=(es.toList.map (·.key)).map (fun k=>match k with| .string s=>s.data.toList|_=> []):=by rw[List.map_map];rfl
 rw[this,y5,List.map_map]
 rfl
def Na (X:aB) (G:DkG) (S:DiskL) (k c:Nat) (w:World) (hP:DkP X G S) (hX: ∀b o,Sx.look X b=some o→w.heap[b]? =some o) (hk:k<3) (hs: (S.dir k).seen.length≤1000000) (hl: ∀p,p∈ (S.dir k).seen→p.1.length≤1000000)
  (hc:w.heap[c]? =some (.cells #[vm (G.s k)] 173 (0,0))):
  Rets prog 162 #[.func (.func 215) #[] #[vp c 0]] w (XS w [] (fun v D=>GrI D 9 1 v (S.dir k).seen.length ((S.dir k).seen.map fun p=>vs p.1))):=by
 obtain⟨o,m,h1,h2,h3⟩:=hP.seen k hk
 have ho:=hX _ _ h1
 have aS:m.length=(S.dir k).seen.length:=by have:=h3.length_eq;simpa using this
 have hmk: ∀p,p∈m→p.1.length≤1000000:=by
  intro p hp
  have:=h3.mem_iff.1 hp
  obtain⟨q,hq,e⟩:=List.mem_map.1 this
  rw[←e];exact hl q hq
 obtain⟨D0,hown,e_,jK⟩:=Xu ho h2 (h3.keys (hP.ok.seen k hk).nodup) hmk oM
 have k_:=(Array.getElem?_eq_some_iff.1 hc).1
 have hseq:SeqGives Fence.wide 2 prog 215 #[.pointer (some ⟨c,0,none⟩)] encStr (fun ss=>ss.Perm (strKeys D0)) (Maps.size D0) w:=
  AnyZ.keys_gives (ρ:=keysL_ren) {keysL with} Fence.wide _ trivial rfl oM c (G.s k) m.length D0 _ k_ (by simp[World.cell?,hc,vm]) hown
 have h:=AnyZ.sorted_in sortedL Fence.wide 5 trivial trivial trivial trivial rfl oM (Zu _) (enters_of func214 kR rfl) 215 #[.pointer (some ⟨c,0,none⟩)] trivial (enters_of func215 kR rfl) _ (Maps.size D0) (Nat.le_trans e_ (by decide)) oM w hseq
 refine Calls.mono (callsIn_wide.1 h) ?_
 rintro e w' ⟨v,ss,rfl,hS,hrow,-,hb⟩
 obtain⟨D,hD,hDn,hG⟩:=Za hrow
 have hss:ss.mergeSort (fun x y=>decide (x≤y))=(S.dir k).seen.map Prod.fst:=by
  refine Ty (hP.ok.seen k hk) ((hS.trans jK).trans ?_)
  have:=h3.map Prod.fst
  refine this.trans (List.Perm.of_eq ?_)
  rw[List.map_map];rfl
 have cb:ss.length=(S.dir k).seen.length:=by
  have:=congrArg List.length hss
  simpa using this
 refine⟨v,D,rfl,⟨fun b o hm=>(hD _ hm).1,hDn,fun b eG _=>hb.block b eG,hb.size,hb.tape,hb.os,hb.output⟩,⟨fun b eG=> ?_,fun b eG=>(by cases eG)⟩,⟨D,fun _ h=>h, ?_⟩⟩
 ·obtain⟨p,hp,rfl⟩:=List.mem_map.1 eG
  exact .inr (hD p hp).2
 rw[hss,cb] at hG
 have: ((S.dir k).seen.map Prod.fst).map encStr=(S.dir k).seen.map fun p=>vs p.1:=by rw[List.map_map];rfl
 rw[this] at hG
 exact hG
end Go.Proofs
end
section
open Go Go.Proofs Go.Sx Go.StP
namespace Go.Proofs
def Qb (b:Nat) (w:World):
  Rets prog 163 #[vm b] w (XS w [] (fun v' D=> ∃b1,v'= .func (.func 215) #[] #[vp b1 0]∧D= [(b1, .cells #[vm b] 173 (0,0))])):=by
 refine Rets.enter func163 rfl (rs:= [.tmp 2]) results163 ntmps163 ?_
 refine kf ?_
 refine ky @Nat.add_zero ?_
 refine Ow.box rfl rfl fun b1 aO aP=> ?_
 simp only[ck,cV,vm,List.nil_append]
 refine ko @Nat.add_zero ?_
 refine⟨_,(ke @Nat.add_zero), ?_⟩
 exact⟨⟨fun c hc=>(by simp only[keys,List.map_cons,List.map_nil,List.mem_singleton] at hc;exact .inr (hc▸aP)),fun c hc=>(by cases hc)⟩,b1,by simp[bv,ev,eT],rfl⟩
def DkB (S:DiskL):Prop:= ∀k,k<3→(S.dir k).seen.length≤1000000∧ ∀p,p∈ (S.dir k).seen→p.1.length≤1000000
def px (S:DiskL) (dir:List UInt8):List (List UInt8):=if cr S dir []≠0 then [] else(S.dir ((bG dir).getD 0)).seen.map Prod.fst
def rx:=aN (aN (aN @bB @bA) (aN @mY @oJ)) (aN (aN @oE @oG) (aN @Sx.tup2_0 (aN @Sx.tup2_1 @uH)))
def BS (w:World) (G:DkG) (S:DiskL) (dir:List UInt8) (hD:DkW w G S) (hB:DkB S):
  Rets prog 93 #[vp G.bd 0,vs dir] w (XS w [] (fun v D=>GrI D 9 1 v (px S dir).length ((px S dir).map vs))):=by
 have GT:=hD
 obtain⟨X,hX,hP⟩:=hD
 refine Rets.enter func93 rfl (rs:= [.tmp 4]) results93 ntmps93 ?_
 refine kf ?_
 refine ky @rx ?_
 have bX:New w.heap.size ([]:aB):=trivial
 refine Ow.callC rfl rfl call151 (fun w' aA=>Rets.toX (vW w' G S dir (.slice none 0 0) [] (GT.old aA bX) (SlV.nil w') (by simp) (fun s hs=>by cases hs))) (fun B2 v2 D2 dG cZ cJ bH=> ?_)
 obtain⟨rfl,bH⟩:=bH
 rw[List.append_nil]
 unfold px
 rcases bH with⟨he,rfl⟩ | ⟨he,k,hk,rfl⟩
 ·rw[if_pos he]
  have e1:=oO he
  refine ko @rx ?_
  refine ky (aN @rx @e1) ?_
  refine⟨_,(ke @rx), ?_⟩
  exact⟨Ext.refl w [],Gr.nl.i fun _ h=>h⟩
 rw[if_neg (by rw[he];simp),hk]
 have an:=(dY hk).1
 have iT:=hX _ _ (hP.dir k an)
 have e1: ((0:Int) !=0)=false:=rfl
 refine ko @rx ?_
 refine ky (aN @rx (aN @e1 @iT)) ?_
 refine Ow.callC rfl rfl call163 (fun w' aA=>Qb (G.s k) w') (fun B3 v3 D3 fU kI gL jl=> ?_)
 obtain⟨b1,rfl,rfl⟩:=jl
 rw[List.nil_append]
 have mE:=gL.mono kI
 refine ko @rx ?_
 refine Ow.callC rfl rfl call162 (fun w' aA=>Na X G S k b1 w' hP (fun b o h=>(aA.old b (Array.getElem?_eq_some_iff.1 (hX b o h)).1 (mE.not (Array.getElem?_eq_some_iff.1 (hX b o h)).1)).trans (hX b o h)) an (hB k an).1 (hB k an).2 (aA.has _ _ aa)) (fun B4 v4 D4 fo mn gM bQ=> ?_)
 refine ko @rx ?_
 refine⟨_,(ke @rx), ?_⟩
 refine⟨Ext.of_new (mE.app (gM.mono mn)), ?_⟩
 rw[List.length_map,List.map_map]
 exact bQ.mono fun p hp=>av _ hp
def j0 (S:DiskL) (k:Nat):List FiL:=(if S.off=true then [] else(S.dir k).seen).map fun p=>⟨d7 k,p.1,(S.files.getD p.2 cL).data⟩
def lb (S:DiskL):Nat→List FiL
 |0=> []
 |k+1=>lb S k++j0 S k
def j8 (S:DiskL):List FiL:=lb S 3
def Cd {S:DiskL} {k:Nat} (hk:k<3):px S (d7 k)=(if S.off=true then [] else(S.dir k).seen).map Prod.fst:=by
 unfold px cr
 rw[oF hk]
 cases S.off<;>simp
def CI (l:List (List UInt8)): (l.map strC).flatten=l.map vs:=by
 induction l with
 |nil=>rfl
 |cons x l ih=>simp[strC,ih]
def Kh_ {S:DiskL} (hB:DkB S) {k:Nat} (hk:k<3): (j0 S k).length≤1000000:=by
 unfold j0
 rw[List.length_map]
 split
 ·simp
 exact(hB k hk).1
theorem JH {S:DiskL} (hB:DkB S): ∀k,k≤3→(lb S k).length≤k*1000000
 |0,_=>aq _
 |k+1,hk=>by
  have h1:=JH hB k oM
  have h2:=Kh_ hB (k:=k) oM
  show(lb S k++j0 S k).length≤_
  rw[List.length_append];omega
structure FlG where
 k:Nat
 v:Value
 D1:aB
 DG:aB
structure FjG where
 j:Nat
 v:Value
 D1:aB
 DG:aB
def nJ:=aN (aN (aN @bB (aN @bA @mY)) (aN @oJ (aN @oE @oG))) (aN (aN @yl (aN @yp @Sx.tup2_0)) (aN @Sx.tup2_1 (aN @uH @wE)))
def KC (w:World) (G:DkG) (S:DiskL) (hD:DkW w G S) (hGl:oX w) (hB:DkB S):
  Rets prog 63 #[vp G.bd 0] w (XS w [] (fun v D=>GrI D 187 3 v (j8 S).length ((j8 S).map fiC).flatten)):=by
 have GT:=hD
 obtain⟨X,hX,hP⟩:=hD
 obtain⟨eg,fzg,iW⟩:=hGl
 have hd:=hX _ _ hP.disk
 obtain⟨om,jJ,hM⟩:=hP.dirs
 have tM:=hX _ _ jJ
 have old: ∀b o,w.heap[b]? =some o→ ∀Y,New w.heap.size Y→aT w Y b=some o:=fun b o hb Y hY=>by
  rw[kY (hY.not (Array.getElem?_eq_some_iff.1 hb).1)];exact hb
 refine Rets.enterX func63 rfl (rs:= [.tmp 2]) results63 ntmps63 (fun p hp=>by cases hp) (by simp[keys]) ?_
 refine kf ?_
 refine ky (aN @nJ (aN @iW @K9)) ?_
 refine Cw.permL (M:= []++ []) (List.Perm.refl _) ?_
 refine Cw.loopG (G:=FlG) [10,11,5,12,13,14,15,16,17,18,19,7,20,21,22,23,24,25,26,27,28,29,30,31,32,33,34,35,36,37,38,39,3,40,41,9] (fun g=> [(3,g.v),(9,vi g.k)]) (fun g=>g.D1++g.DG) (fun g=>g.k≤3∧New w.heap.size g.D1∧New w.heap.size g.DG∧Gr g.D1 187 3 g.v (lb S g.k).length ((lb S g.k).map fiC).flatten) (fun g=>3 - g.k) ⟨0, .slice none 0 0,[],[]⟩ rfl rfl ?_ ?_
 ·exact⟨aq _,trivial,trivial,Gr.nl⟩
 intro g j hg
 refine kv ?_
 obtain⟨k,v,D1,DG⟩:=g
 simp only at hg ⊢
 obtain⟨hk,bX,cJ,fq⟩:=hg
 by_cases aC:k<3
 ·have d1:decide ((k:Int)<3)=true:=aW oM
  have ixk:=IU aC
  have dg:=JH hB k hk
  have i4:=Kh_ hB aC
  refine kz [10] (aN @nJ (aN @d1 @ixk)) ?_
  refine Ow.callC rfl rfl call93 (fun w' aA=>BS w' G S (d7 k) (GT.old aA (bX.app cJ)) hB) (fun B3 v3 D3 fU kI gL jl=> ?_)
  rw[Cd aC,←CI] at jl
  obtain⟨sn,mT⟩: ∃sn,(if S.off=true then [] else(S.dir k).seen)=sn:=⟨_,rfl⟩
  have hdf:j0 S k=sn.map fun p=>⟨d7 k,p.1,(S.files.getD p.2 cL).data⟩:=by unfold j0;rw[mT]
  have hsm: ∀p,p∈sn→p∈ (S.dir k).seen:=by
   intro p hp
   rw[←mT] at hp
   split at hp
   ·cases hp
   exact hp
  rw[mT] at jl
  rw[hdf,List.length_map] at i4
  have mE:New w.heap.size D3:=gL.mono kI
  have ln3:=uR jl
  rw[List.length_map] at ln3
  refine ko (aN @nJ @ln3) ?_
  refine Cw.world fun w1 aP=> ?_
  obtain⟨rb,off,arr,E,fz,o8,bz⟩:=jl.rowL (z:= []) (by rw[List.length_map]) ((aP.perm (M:=D3++ (D1++DG)) List.perm_append_comm).part) E0
  have hlk': ∀ (G:aB),0<sn.length→aT w (D3++G) rb=some (.cells arr E fz):=by
   intro G h0
   exact ac (bZ (bz (by rw[List.length_map];exact h0)))
  clear aP bz
  refine Cw.permL (M:=D3++ (D1++DG)) List.perm_append_comm ?_
  refine Cw.loopG (G:=FjG) [17,18,19,7,20,21,22,23,24,25,26,27,28,29,30,31,32,33,34,35,36,37,38,39,3,40,16] (fun g=> [(3,g.v),(16,vi g.j)]) (fun g=>D3++ (g.D1++g.DG)) (fun g=>g.j≤sn.length∧New w.heap.size g.D1∧New w.heap.size g.DG∧Gr g.D1 187 3 g.v ((lb S k).length+g.j) ((lb S k++ (j0 S k).take g.j).map fiC).flatten) (fun g=>sn.length - g.j) ⟨0,v,D1,DG⟩ rfl rfl ?_ ?_
  ·exact⟨aq _,bX,cJ,by simpa using fq⟩
  intro g j hg
  refine kv ?_
  clear fq bX cJ
  obtain⟨j,v,D1,DG⟩:=g
  simp only at hg ⊢
  obtain⟨hj,bX,cJ,fq⟩:=hg
  by_cases hjt:j<sn.length
  ·have d2:decide ((j:Int)< (sn.length:Int))=true:=aW oM
   have uv:j< (sn.map Prod.fst).length:=by rw[List.length_map];exact hjt
   have ix3:=o8.idx false j uv
   have ld3:=fun n=>we o8 uv n
   have rd3:=hlk' (D1++DG) oM
   have hp:sn[j]'hjt∈ (S.dir k).seen:=hsm _ (List.getElem_mem _)
   have Hy: (sn.map Prod.fst).getD j []=(sn[j]'hjt).1:=by simp[List.getD_eq_getElem?_getD,hjt]
   have lW: (j0 S k).take (j+1)=(j0 S k).take j++ [⟨d7 k,(sn[j]'hjt).1,(S.files.getD (sn[j]'hjt).2 cL).data⟩]:=by
    rw[hdf,List.take_add_one]
    simp[hjt]
   rw[Hy] at ld3
   generalize sn[j]'hjt=p at*
   obtain⟨x,n⟩:=p
   simp only at hp lW ld3
   have dh:aR (S.dir k).seen x=some n:=zK (hP.ok.seen k aC).nodup hp
   have bI:n<S.files.length:=hP.ok.seenN k aC _ hp
   have Gi:New w.heap.size (D3++ (D1++DG)):=mE.app (bX.app cJ)
   have rdd:=old _ _ hd _ Gi
   have rdm:=old _ _ tM _ Gi
   have rdr:=old _ _ (hX _ _ (hP.dir k aC)) _ Gi
   obtain⟨os,ms,gR,fY,i9⟩:=hP.seen k aC
   have rds:=old _ _ (hX _ _ gR) _ Gi
   have rdf:=old _ _ (hX _ _ (hP.file n bI)) _ Gi
   refine ky (aN @nJ (aN @d2 (aN @ix3 (aN @ld3 (aN @rd3 @rdd))))) ?_
   refine kq (aN @nJ @rdd) ?_
   refine Ow.mapGetG (encK:=vs) (encV:=ar) (k:=d7 k) (z:=none) rfl rfl underlying166 j7 zrPd rfl rfl rdm hM ?_
   rw[AS,oF aC]
   show Ow _ _ _ _ _ _ _ _
   have l8:ar (some (G.d k))=vp (G.d k) 0:=rfl
   refine ko (aN @nJ (aN @l8 @rdr)) ?_
   refine Ow.mapGetG (encK:=vs) (encV:=ar) (k:=x) (z:=none) rfl rfl underlying173 j7 zrPf rfl rfl rds fY ?_
   rw[i9.get (hP.ok.seen k aC).nodup,dh]
   show Ow _ _ _ _ _ _ _ _
   have ta:ar (some (G.fb.getD n 0))=vp (G.fb.getD n 0) 0:=rfl
   refine ko (aN @nJ (aN @ta @rdf)) ?_
   refine Ow.build (.agg (fiC ⟨d7 k,x,(S.files.getD n cL).data⟩).toArray) rfl (Vw ⟨d7 k,x,(S.files.getD n cL).data⟩) ?_
   refine ko @nJ ?_
   refine Ow.buildSlice (e:=187) (fiC ⟨d7 k,x,(S.files.getD n cL).data⟩).toArray rfl rfl (rk underlying94 GA zrFi (by decide) (oK _)) fun ba hba yc=> ?_
   refine Ow.permL (M:=D1++ (D3++ (DG++ [(ba, .cells (fiC ⟨d7 k,x,(S.files.getD n cL).data⟩).toArray 187 (0,0))]))) pM ?_
   refine Ow.appendXG (e:=187) (k:=1) (new:=fiC ⟨d7 k,x,(S.files.getD n cL).data⟩) (X:=D1) v rfl rfl rfl rfl underlying94 GA kR zrFi (by rw[wE,List.size_toArray,oK]) underlying94 (by intro k h;cases h) fq (fun w' aA=>AppX.one1 (aA.has ba (.cells (fiC ⟨d7 k,x,(S.files.getD n cL).data⟩).toArray 187 (0,0)) (by simp)) (oK _) (E_ _)) oM (fun B4 v4 D4 fo mn ua hk41 y4 hlk4=> ?_)
   have gM:New w.heap.size D4:=New.of_le fun q hq=>by
    rcases y4 q hq with h|h
    ·exact bX.le q h
    omega
   refine Ow.permL (M:=D3++ (D4++ (DG++ [(ba, .cells (fiC ⟨d7 k,x,(S.files.getD n cL).data⟩).toArray 187 (0,0))]))) pM ?_
   refine ko @nJ ?_
   refine ky @nJ ?_
   refine Again.mk ⟨j+1,v4,D4,DG++ [(ba, .cells (fiC ⟨d7 k,x,(S.files.getD n cL).data⟩).toArray 187 (0,0))]⟩ (by show sn.length - (j+1)<sn.length - j;omega) ⟨hjt,gM,cJ.app ⟨yc,trivial⟩, ?_⟩ rfl rfl
   show Gr D4 187 3 v4 ((lb S k).length+j+1) ((lb S k++ (j0 S k).take (j+1)).map fiC).flatten
   rw[lW]
   simpa only[List.map_append,List.map_cons,List.map_nil,List.flatten_append,List.flatten_cons,List.flatten_nil,List.append_nil,List.append_assoc] using ua
  obtain rfl:j=sn.length:=by omega
  have d2:decide ((sn.length:Int)< (sn.length:Int))=false:=ah oM
  have iv: (j0 S k).length=sn.length:=by rw[hdf,List.length_map]
  rw[←iv,List.take_length] at fq
  refine kz [10] (aN @nJ @d2) ?_
  refine Cw.permL (M:=D1++ (D3++DG)) pM ?_
  refine ky @nJ ?_
  refine Again.mk ⟨k+1,v,D1,D3++DG⟩ (by show 3 - (k+1)<3 - k;omega) ⟨aC,bX,mE.app cJ, ?_⟩ rfl rfl
  show Gr D1 187 3 v (lb S k++j0 S k).length ((lb S k++j0 S k).map fiC).flatten
  rw[List.length_append];exact fq
 obtain rfl:k=3:=by omega
 have d1:decide (((3:Nat):Int)<3)=false:=rfl
 refine ky (aN @nJ @d1) ?_
 refine⟨_,(ke @nJ), ?_⟩
 exact⟨Ext.of_new (bX.app cJ),fq.i fun p hp=>bl _ hp⟩
def axV_ (b:Nat):ab prog .eql 173 (vm b) (.map none)=some (.bool false):=by
 simp[ab,eqX,eN,eA,underlying173,vm]
def QI (b:Nat) (o:Obj) (m:List (List UInt8×Option Nat)) (w:World) (ho:w.heap[b]? =some o) (hm:eZ vs ar o m):
  Rets prog 92 #[vm b] w (XS w [] (fun v D=> ∃c o',v=vm c∧D= [(c,o')]∧eZ vs ar o' m)):=by
 refine Rets.enterX func92 rfl (rs:= [.tmp 2]) results92 ntmps92 (fun p hp=>by cases hp) (by simp[keys]) ?_
 refine kf ?_
 have e1:=axV_ b
 refine ky @e1 ?_
 refine Ow.ifaceMap rfl underlying173 rfl ?_
 refine Ow.cloneMap (encK:=vs) (encV:=ar) rfl rfl (fun a w=>run_callFunc_extern func161 kR kR kR (e:=Extern.MapsClone.clone) kR #[a] w) rfl (by rw[kY (by simp[keys])];exact ho) hm fun c o' hc th fG=> ?_
 refine Ow.assertMap rfl underlying173 rfl ?_
 refine ko @Nat.add_zero ?_
 refine⟨_,(ke @Nat.add_zero), ?_⟩
 exact⟨(Ext.refl w []).app th,c,o',rfl,rfl,fG⟩
def u16C (x:UInt16):List Value:= [v16 x]
def W5 (x:UInt16): (u16C x).length=1:=rfl
abbrev xP (w:World) (v:Value) (l:List UInt16):Prop:=SlV 1 u16C 0 w v l
def PkS (w:World) (v:Value) (l:List UInt16):Prop:=xP w v l∨(l= []∧ ∃a c,v= .slice (some a) 0 c)
theorem PkS.len {w:World} {v:Value} {l:List UInt16} (h:PkS w v l) (x:Bool×Nat):eb (.sl x) v=some (vi l.length):=by
 rcases h with h| ⟨rfl,a,c,rfl⟩
 ·exact SlV.len h x
 rfl
def PkS.cell {w:World} {v:Value} {l:List UInt16} (h:PkS w v l):Value.oneCell' v=true∧v.cells= #[v]:=by
 rcases h with⟨b,off,c,arr,E,fz,hr,hc,⟨rfl,-,-⟩ | ⟨rfl,-,-⟩⟩ | ⟨rfl,a,c,rfl⟩
 ·exact⟨rfl,rfl⟩
 ·exact⟨rfl,rfl⟩
 exact⟨rfl,rfl⟩
theorem PkS.old {w w':World} {L:aB} {v:Value} {l:List UInt16} (h:PkS w v l) (hw:Hp w L w') (hb:l≠ []→ ∀b,slB v=some b→b∉keys L):PkS w' v l:=by
 by_cases hl:l= []
 ·subst hl
  rcases h with⟨b,off,c,arr,E,fz,hr,hc,⟨rfl,-,-⟩ | ⟨rfl,-,-⟩⟩ |h
  ·exact .inl (SlV.nil w')
  ·exact .inr ⟨rfl,_,_,rfl⟩
  exact .inr h
 exact .inl ((h.resolve_right fun e=>hl e.1).old hw fun b h1 _=>hb hl b h1)
def PkB (w:World) (X:aB) (l:List UInt16) (v:Value):Prop:=l≠ []→ ∀b,slB v=some b→b<w.heap.size∧b∉keys X
def XH {w:World} {v:Value} {l:List UInt16} {b off:Nat} {arr:Array Value} {E:TypeId} {fz:Nat×Nat} (h:RowS 1 u16C 0 w v l b off arr E fz) {k:Nat} (hk:k<l.length) (n:Nat):
  aQ (some (false,n)) (some (.cells arr E fz)) (off+k)=some (v16 (l.getD k 0)):=by
 have:=h.cell (j:=0) (n:=n) hk oM
 rwa [Nat.mul_one,Nat.add_zero] at this
def jW (l:List UInt16) (n:Nat):Nat:=match l with
 | []=>0
 |x::_=>x.toNat% (n+1)
def d9 (v:Value):Obj:= .cells #[v] 65 (0,0)
def Du (v:Value) (n:Nat):aQ (some (false,n)) (some (d9 v)) 0=some v:=(rfl)
def Uc (v x:Value) (a:Bool) (hx:Value.oneCell' x=true∧x.cells= #[x]):aw (some (a,1)) (some (d9 v)) 0 x=some (d9 x):=
 k9 [] [v] [x] [] a _ 65 rfl rfl hx.2 rfl (by simp[hx.1])
def YF {m:Nat} {α:Type} {enc:α→List Value} {z:α} {w:World} {v:Value} {l:List α} (h:SlV m enc z w v l):Value.oneCell' v=true∧v.cells= #[v]:=by
 obtain⟨b,off,c,arr,E,fz,hr,hc,⟨rfl,-,-⟩ | ⟨rfl,-,-⟩⟩:=h
 ·exact⟨rfl,rfl⟩
 exact⟨rfl,rfl⟩
def se:=aN @bB (aN @bA @Du)
def BO (n:Nat) (b:Nat) (v:Value) (l:List UInt16) (w:World) (hn:n<4611686018427387904) (hv:PkS w v l) (hl:l.length<1000000) (zn:l≠ []→slB v≠some b) (ho:w.heap[b]? =some (d9 v)):
  Rets prog 91 #[vi n,vp b 0] w (fun r D=> ∃o,D= [(b,o)]∧r=vi (jW l n:Nat)∧ ∃v',o=d9 v'∧(l= []→v'=v)∧(l≠ []→ii (.sl (false,1)) v (some (some 1)) none=some v')):=by
 refine Rets.enterM func91 rfl (rs:= [.tmp 3]) results91 ntmps91 ho ?_
 refine kf ?_
 have ln:=hv.len
 cases l with
 |nil=>
  refine ky (aN @se @ln) ?_
  refine⟨_,_,_,(ke @se),rfl,trivial, ?_⟩
  exact⟨rfl,v,rfl,fun _=>rfl,fun h=>absurd rfl h⟩
 |cons x l=>
  have hv:xP w v (x::l):=hv.resolve_right fun e=>by cases e.1
  obtain⟨v1,h1,h2,-⟩:=hv.dropE (k:=1) (by simp) false
  have dI:=YF h2
  have st:=fun a=>Uc v v1 a dI
  obtain⟨rb,off,c,arr,E,fz,hr,hc,⟨q1,q2,q3⟩ | ⟨rfl,hb,-⟩⟩:=hv
  ·exact absurd q2 (by simp)
  have aU:rb≠b:=fun e=>zn (by simp) (by rw[e];rfl)
  have ix:=hr.idx false 0 (by simp)
  have ld:=fun n=>XH hr (k:=0) (by simp) n
  have e0: ((((x::l).length:Nat):Int)==0)=false:=beq_eq_false_iff_ne.2 (by simp;omega)
  have rd:aT w [(b,d9 (vsl rb off (x::l).length c))] rb=some (.cells arr E fz):=by rw[kY (by simpa [keys] using aU)];exact hb
  rw[Nat.zero_mul,Nat.add_zero] at ix
  rw[show((1:Nat):Int)=1 from rfl] at h1
  simp only[Nat.add_zero] at ld
  refine ky (aN @se (aN @ln (aN @e0 (aN @ix (aN @ld (aN @rd (aN @h1 @st))))))) ?_
  refine⟨_,_,_,(ke @se),rfl,trivial, ?_⟩
  refine⟨?_,v1,rfl,fun h=>absurd h (by simp),fun _=>h1⟩
  show vi _=vi _
  congr 1
def DkP.stl1 {X L:aB} {G:DkG} {S:DiskL} (h:DkP X G S) {k:Nat} (hk:k<3) {l':NmL} (keep: ∀b o,Sx.look X b=some o→b≠G.t k→Sx.look L b=some o) (hs:NmM L G.fb (G.t k) l') (h1:SrtN l') (h3: ∀p,p∈l'→p.2<S.files.length):
  DkP L G (eB S k ⟨(S.dir k).seen,l',(S.dir k).pend⟩):=by
 obtain⟨osk,msk,qi,qf,-⟩:=h.stl k hk
 have dJ: ∀b o,Sx.look X b=some o→tyO o≠none→b≠G.t k:=by
  rintro b o hb ht rfl
  rw[qi] at hb;cases hb;exact ht (jP qf)
 have K: ∀b o,Sx.look X b=some o→tyO o≠none→Sx.look L b=some o:=fun b o hb h1=>keep b o hb (dJ b o hb h1)
 have es: ∀j,(eB S k ⟨(S.dir k).seen,l',(S.dir k).pend⟩).dir j=if j=k then⟨(S.dir k).seen,l',(S.dir k).pend⟩ else S.dir j:=fun _=>rfl
 have e2: ∀j,((eB S k ⟨(S.dir k).seen,l',(S.dir k).pend⟩).dir j).seen=(S.dir j).seen:=fun j=>by
  rw[es];by_cases e:j=k
  ·subst e;rw[if_pos rfl]
  rw[if_neg e]
 have e3: ∀j,((eB S k ⟨(S.dir k).seen,l',(S.dir k).pend⟩).dir j).pend=(S.dir j).pend:=fun j=>by
  rw[es];by_cases e:j=k
  ·subst e;rw[if_pos rfl]
  rw[if_neg e]
 refine⟨K _ _ h.disk (by simp[tyO,bM]), ?_,fun j hj=>K _ _ (h.dir j hj) (by simp[tyO,cU]),fun j hj=> ?_,fun j hj=> ?_,fun j hj=> ?_,fun n hn=>K _ _ (h.file n hn) (by simp[tyO,cg]),h.len,h.nodf,h.nodm,h.nodd,h.nodb,h.nodp,AC h.ok _ (h.ok.seen k hk) h1 (h.ok.seenN k hk) h3 (h.ok.pendN k hk)⟩
 ·obtain⟨o,h1,h2⟩:=h.dirs
  exact⟨o,keep _ _ h1 (h.nodb k hk).2,h2⟩
 ·rw[e2]
  obtain⟨o,m,h1,h2,h3⟩:=h.seen j hj
  exact⟨o,m,keep _ _ h1 (pX h.nodm hj hk).2.2,h2,h3⟩
 ·rw[es]
  by_cases e:j=k
  ·subst e;rw[if_pos rfl];exact hs
  rw[if_neg e]
  obtain⟨o,m,h1,h2,h3⟩:=h.stl j hj
  exact⟨o,m,keep _ _ h1 ((pX h.nodm hj hk).2.1 e),h2,h3⟩
 rw[e3]
 obtain⟨vals,h1,h2,h3⟩:=h.pend j hj
 refine⟨vals,h1,h2.keep fun b o hb ho=> ?_,fun i hi=>(h3 i hi).keep fun b o ho hx=>K b o ho ?_⟩
 ·obtain⟨arr,ha⟩:=nM h2 hb
  rw[ho] at ha;cases ha
  exact K _ _ ho (by simp[tyO])
 rcases hx with⟨s,rfl⟩ | ⟨a,rfl⟩<;>simp[tyO,dX,ptrO]
def ka (S:DiskL) (k:Nat) (d:DirL): (eB S k d).dir k=d:=by
 unfold eB;simp
def lI (S:DiskL) {k j:Nat} (d:DirL) (h:j≠k): (eB S k d).dir j=S.dir j:=by
 unfold eB;simp[h]
def Bg (S:DiskL) (k:Nat) (d d':DirL):eB (eB S k d) k d'=eB S k d':=by
 unfold eB
 simp only
 congr 1
 funext j
 by_cases e:j=k
 ·rw[if_pos e,if_pos e]
 rw[if_neg e,if_neg e,if_neg e]
def xO (d:DirL):Prop:= ∀i,i<d.pend.length→okC ((d.pend.take i).foldl cw d.stl) (d.pend.getD i jV)
def dP (S:DiskL) (k i:Nat):NmL:=((S.dir k).pend.take i).foldl cw (S.dir k).stl
def sP (q:DiskL×List UInt16) (k:Nat):DiskL×List UInt16:=
 (eB q.1 k ⟨dP q.1 k (jW q.2 (q.1.dir k).pend.length),dP q.1 k (jW q.2 (q.1.dir k).pend.length),[]⟩,q.2.drop 1)
def dj (q:DiskL×List UInt16):Nat→DiskL×List UInt16
 |0=>q
 |k+1=>sP (dj q k) k
def w8 (l:List UInt16) (n:Nat):jW l n≤n:=by
 unfold jW
 split
 ·exact aq _
 have:=Nat.mod_lt ‹UInt16›.toNat (show 0<n+1 by omega)
 omega
def Qs {S:DiskL} {k i:Nat} (h:i< (S.dir k).pend.length):dP S k (i+1)=cw (dP S k i) ((S.dir k).pend.getD i jV):=by
 unfold dP
 rw[StP.take_snoc (z:=jV) h,List.foldl_append];rfl
def DkP.away {X:aB} {G:DkG} {S:DiskL} (h:DkP X G S) {b:Nat} {v:Value} (hb:Sx.look X b=some (d9 v)) (x:Obj):DkP (setB X b x) G S where
 disk:=gc hb h.disk (by simp[tyO,bM,d9])
 dirs:=by obtain⟨o,h1,h2⟩:=h.dirs;exact⟨o,gc hb h1 (by rw[jP h2];intro e;cases e),h2⟩
 dir k cQ:=gc hb (h.dir k cQ) (by simp[tyO,cU,d9])
 seen k cQ:=by
  obtain⟨o,m,h1,h2,h3⟩:=h.seen k cQ
  exact⟨o,m,gc hb h1 (by rw[jP h2];intro e;cases e),h2,h3⟩
 stl k cQ:=by
  obtain⟨o,m,h1,h2,h3⟩:=h.stl k cQ
  exact⟨o,m,gc hb h1 (by rw[jP h2];intro e;cases e),h2,h3⟩
 pend k cQ:=by
  obtain⟨vals,h1,h2,h3⟩:=h.pend k cQ
  refine⟨vals,h1,h2.keep fun b o eG ho=> ?_,fun i hi=>(h3 i hi).keep fun b o ho hx=>gc hb ho ?_⟩
  ·obtain⟨arr,ha⟩:=nM h2 eG
   rw[ho] at ha;cases ha
   exact gc hb ho (by simp[tyO,d9])
  rcases hx with⟨s,rfl⟩ | ⟨a,rfl⟩<;>simp[tyO,d9,dX,ptrO]
 file n hn:=gc hb (h.file n hn) (by simp[tyO,cg,d9])
 len:=h.len
 nodf:=h.nodf
 nodm:=h.nodm
 nodd:=h.nodd
 nodb:=h.nodb
 nodp:=h.nodp
 ok:=h.ok
def DB {w:World} {v v':Value} {q:List UInt16} (hv:PkS w v q) (h1:q= []→v'=v) (h2:q≠ []→ii (.sl (false,1)) v (some (some 1)) none=some v'):PkS w v' (q.drop 1)∧ ∀ {X:aB},PkB w X q v→PkB w X (q.drop 1) v':=by
 cases q with
 |nil=>rw[h1 rfl];exact⟨hv,fun h=>h⟩
 |cons x l=>
  have hv:xP w v (x::l):=hv.resolve_right fun e=>by cases e.1
  obtain⟨v2,e1,e2,e3⟩:=hv.dropE (k:=1) (by simp) false
  have:=h2 (by simp)
  rw[show((1:Nat):Int)=1 from rfl,this] at e1
  cases e1
  exact⟨.inl e2,fun h _ b hb=>h (by simp) b (e3 b hb)⟩
def Ya {w w1:World} {L:aB} {T:TypeId} {v:Value} {vals:List Value} (h:Gr L T 1 v vals.length vals) (hw:Hp w L w1) {n:Nat} (hn:n≤vals.length):
  ∃vc rb off arr E fz,ii (.sl (false,1)) v none (some (some (n:Int)))=some vc∧RowS 1 (fun v:Value=> [v]) undef w1 vc (vals.take n) rb off arr E fz∧(0<n→Sx.look L rb=some (.cells arr E fz)):=by
 have dg:vals=(vals.map fun v:Value=> [v]).flatten:=by
  clear h hn
  induction vals with
  |nil=>rfl
  |cons x l ih=>simp[←ih]
 have cb:SlV 1 (fun v:Value=> [v]) undef w1 v vals:=h.slV hw rfl dg (fun _=>rfl)
 obtain⟨vc,h1,h2,h3⟩:=cb.take hn false
 obtain⟨b,off,c,arr,E,fz,hr,hc,⟨q1,q2,q3⟩ | ⟨q1,hb,hs⟩⟩:=h2
 ·refine⟨vc,b,off,arr,E,fz,h1,hr,fun h0=> ?_⟩
  have:=congrArg List.length q2
  rw[List.length_take,List.length_nil,Nat.min_eq_left hn] at this
  omega
 refine⟨vc,b,off,arr,E,fz,h1,hr,fun h0=> ?_⟩
 have hk:=h.key (h3 b (by rw[q1];rfl))
 obtain⟨o,ho⟩:=Iq hk
 have:=hw.has _ _ (cu ho)
 rw[hb] at this
 rw[ho,this]
def XJ {w:World} {v:Value} {l:List Value} {b off:Nat} {arr:Array Value} {E:TypeId} {fz:Nat×Nat} (h:RowS 1 (fun v:Value=> [v]) undef w v l b off arr E fz) {k:Nat} (hk:k<l.length) (n:Nat):
  aQ (some (false,n)) (some (.cells arr E fz)) (off+k)=some (l.getD k undef):=by
 have:=h.cell (j:=0) (n:=n) hk oM
 rwa [Nat.mul_one,Nat.add_zero] at this
def Sv (a b y:Nat) (v:Value) (x:Bool):aw (some (x,1)) (some (cU a b v)) 0 (vm y)=some (cU y b v):=k9 [] [vm a] [vm y] [vm b,v] x _ 175 rfl rfl rfl rfl rfl
def Pf (S:DiskL) (k:Nat):eB S k (S.dir k)=S:=by
 unfold eB
 cases S
 simp only
 congr 1
 funext j
 by_cases e:j=k
 ·subst e;simp
 simp[e]
def g6 (q:DiskL×List UInt16) (p:List UInt8×Nat):DiskL×List UInt16:=
 (gm q.1 p.2 ⟨(aI q.1 p.2).data.take ((aI q.1 p.2).stl+jW q.2 ((aI q.1 p.2).data.length - (aI q.1 p.2).stl)),((aI q.1 p.2).data.take ((aI q.1 p.2).stl+jW q.2 ((aI q.1 p.2).data.length - (aI q.1 p.2).stl))).length⟩,q.2.drop 1)
def fH (q:DiskL×List UInt16):Nat→DiskL×List UInt16
 |0=>q
 |k+1=>(q.1.dir k).seen.foldl g6 (fH q k)
def mh (S:DiskL):DiskL:={S with off:=false,fused:=false}
def gl (S:DiskL) (pl:List UInt16):DiskL:=(fH (mh (dj (S,pl) 3).1,(dj (S,pl) 3).2) 3).1
def Bo (q:DiskL×List UInt16) (l:NmL): (l.foldl g6 q).1.dir=q.1.dir:=by
 induction l generalizing q with
 |nil=>rfl
 |cons p l ih=>rw[List.foldl_cons,ih];rfl
theorem A8 (q:DiskL×List UInt16): ∀k,(fH q k).1.dir=q.1.dir
 |0=>rfl
 |k+1=>by
  show(List.foldl g6 (fH q k) _).1.dir=_
  rw[Bo,A8 q k]
def RR (q:DiskL×List UInt16) (l:NmL): (l.foldl g6 q).1.off=q.1.off:=by
 induction l generalizing q with
 |nil=>rfl
 |cons p l ih=>rw[List.foldl_cons,ih];rfl
theorem Lh (q:DiskL×List UInt16): ∀k,(fH q k).1.off=q.1.off
 |0=>rfl
 |k+1=>by
  show(List.foldl g6 (fH q k) _).1.off=_
  rw[RR,Lh q k]
structure C3G where
 k:Nat
 L:aB
 v:Value
structure C4G where
 j:Nat
 L:aB
 v:Value
structure C1G where
 k:Nat
 G:DkG
 L:aB
 v:Value
structure C2G where
 j:Nat
 L:aB
theorem Lg (q:DiskL×List UInt16): ∀ {k j:Nat},k≤j→(dj q k).1.dir j=q.1.dir j
 |0,_,_=>rfl
 |k+1,j,h=>by
  show(eB _ k _).dir j=_
  rw[lI _ _ oM]
  exact Lg q oM
def fB:=aN (aN (aN @bB @bA) (aN @mY (aN @oJ @oE))) (aN (aN @oG @yl) (aN @yp (aN @Du @tA)))
def KR (X:aB) (G0:DkG) (S:DiskL) (v0:Value) (pl:List UInt16) (w:World) (hX: ∀p,p∈X→w.heap[p.1]? =some p.2) (hn: (keys X).Nodup) (lP:DkP X G0 S) (hGl:oX w) (ur:0∉keys X) (hB:DkB (dj (S,pl) 3).1)
  (hv0:PkS w v0 pl) (zq:PkB w X pl v0) (fy:pl.length<1000000) (zo: ∀k,k<3→xO (S.dir k)∧(S.dir k).pend.length<1000000):
  Rets prog 49 #[vp G0.bd 0,v0] w (XS w X (fun _v D=> ∃G',G'.bd=G0.bd∧DkP D G' (gl S pl))):=by
 obtain⟨eg,fzg,iW⟩:=hGl
 refine Rets.enterX func49 rfl (rs:= []) results49 ntmps49 hX hn ?_
 refine kf ?_
 refine kz [3] @fB ?_
 refine Ow.box rfl rfl fun bk dH hwk=> ?_
 simp only[ck,cV,ce,hv0.cell.2]
 refine Ow.permL (M:=X++ [(bk,d9 v0)]) (List.Perm.refl _) ?_
 refine ko @fB ?_
 refine kz [3] @fB ?_
 simp only[List.map_toArray,List.map_cons,List.map_nil,ck,cV,ce]
 have rdg: ∀L,Ext w X L→aT w L 0=some (.cells #[vs mc,vs lu,vs aJ] eg fzg):=fun L hE=>hE.old iW ur
 have fp:Ext w X (X++ [(bk,d9 v0)]):=(Ext.refl w X).app hwk
 have my:=rdg _ fp
 have tS:Sx.look (X++ [(bk,d9 v0)]) bk=some (d9 v0):=jQ dH
 have ai:DkP (X++ [(bk,d9 v0)]) G0 S:=lP.mono fun b o h=>bZ h
 generalize X++ [(bk,d9 v0)]=L0 at*
 refine kz [5,8,12,16] (aN @fB (aN @my @K9)) ?_
 refine Cw.loopG (G:=C1G) [20,21,6,22,23,24,25,26,27,7,28,29,30,31,32,33,34,35,36,37,38,39,40,41,42,43,44,9,45,46,47,48,49,50,51,52,53,54,55,56,57,58,59,60,61,62,63,19] (fun g=> [(19,vi g.k)]) (fun g=>g.L) (fun g=>g.k≤3∧DkP g.L g.G (dj (S,pl) g.k).1∧g.G.bd=G0.bd∧Sx.look g.L bk=some (d9 g.v)∧PkS w g.v (dj (S,pl) g.k).2∧PkB w X (dj (S,pl) g.k).2 g.v∧Ext w X g.L∧(dj (S,pl) g.k).2.length<1000000) (fun g=>3 - g.k) ⟨0,G0,L0,v0⟩ rfl rfl ?_ ?_
 ·exact⟨aq _,ai,rfl,tS,hv0,zq,fp,fy⟩
 intro g j hg
 refine kv ?_
 clear my tS ai fp
 obtain⟨k,G,L,v⟩:=g
 simp only at hg ⊢
 obtain⟨hk,hP,dw,bz,hv,I5,hE,Hq⟩:=hg
 rw[←dw]
 by_cases aC:k<3
 ·have d1:decide ((k:Int)<3)=true:=aW oM
  have ixk:=IU aC
  obtain⟨om,jJ,hM⟩:=hP.dirs
  have cW:=ac (w0:=w) hP.disk
  have Ju:=ac (w0:=w) (hP.dir k aC)
  have l8:ar (some (G.d k))=vp (G.d k) 0:=rfl
  have xu:=Lg (S,pl) (ap k)
  simp only at xu
  obtain⟨vals,vH,fq,hF⟩:=hP.pend k aC
  rw[xu] at vH hF
  have hpn1:=(zo k aC).2
  have lnp:=fq.len (false,1)
  refine ky (aN @fB (aN @d1 (aN @ixk @cW))) ?_
  refine Ow.mapGetG (encK:=vs) (encV:=ar) (k:=d7 k) (z:=none) rfl rfl underlying166 j7 zrPd rfl rfl (ac jJ) hM ?_
  rw[AS,oF aC]
  show Ow _ _ _ _ _ _ _ _
  refine ko (aN @fB @l8) ?_
  refine ky @fB ?_
  refine Cw.regionS [G.d k] [0,1,2,4,5,6,7,13,3,8,9,10,11,12] [] kR kR kR ?_
  simp only[bF, ↓bE, ↓ay, ↓bD, ↓bC,az]
  refine kq (aN @fB (aN @Ju @lnp)) ?_
  refine Ow.soft rfl rfl rfl ?_
  refine Ow.callFnXC (b:=vi vals.length) (ars:= #[vi vals.length,vp bk 0]) rfl (X:=L) (Y:= []) (List.append_nil _).symm rfl rfl rfl rfl call91 (fun w' aA aj ad=>Rets.chunk aj ad (cC bz) (BO vals.length bk v (dj (S,pl) k).2 w' oM (hv.old aA fun hq b hb=>hE.not (I5 hq b hb).1 (I5 hq b hb).2) Hq (fun hq e=>by have:=(I5 hq bk e).1;omega) (aj _ (cu bz)))) (fun r D hC hS=> ?_)
  obtain⟨o,rfl,rfl,v',rfl,zx,hv2⟩:=hS
  rw[List.append_nil]
  obtain⟨hvn,ya⟩:=DB hv zx hv2
  have ai:=hP.away bz (d9 v')
  have bq:=hE.came0 hC
  have iy: ∀b o,Sx.look L b=some o→tyO o≠some 65→Sx.look (setB L bk (d9 v')) b=some o:=fun b o hb ht=>gc bz hb ht
  have yA:Sx.look (setB L bk (d9 v')) bk=some (d9 v'):=jR bz
  have hrr1:=ac (w0:=w) (ai.dir k aC)
  have hGr1:Gr (setB L bk (d9 v')) 176 1 (G.p k) vals.length vals:=fq.keep fun b o hb ho=>by
   obtain⟨arr,ha⟩:=nM fq hb
   rw[ho] at ha;cases ha
   exact iy _ _ ho (by simp[tyO])
  have hF1: ∀i,i<vals.length→FnP (setB L bk (d9 v')) G.fb (vals.getD i undef) ((S.dir k).pend.getD i jV):=fun i hi=>(hF i hi).keep fun b o ho hx=>iy _ _ ho (by rcases hx with⟨s,rfl⟩ | ⟨a,rfl⟩<;>simp[tyO,dX,ptrO])
  have yN:=w8 (dj (S,pl) k).2 vals.length
  have zf:dj (S,pl) (k+1)=sP (dj (S,pl) k) k:=rfl
  unfold sP at zf
  rw[xu,←vH] at zf
  generalize jW (dj (S,pl) k).2 vals.length=n at*
  have xn:bk≠G.d k:=fun e=>by
   have xr:=ai.dir k aC
   rw[←e,yA] at xr
   simp[cU,d9] at xr
  generalize setB L bk (d9 v')=L1 at*
  refine Ow.world fun w1 aP=> ?_
  obtain⟨vc,rb,off,arr,E,fz,cb,hrw,hlr⟩:=Ya hGr1 aP yN
  clear aP
  have lnc:=hrw.len (false,1)
  rw[List.length_take,Nat.min_eq_left yN] at lnc
  with_reducible refine Ow.nil ?_
  refine⟨fun b hb=>by rw[List.mem_singleton] at hb;subst hb;rw[Ju,hrr1], ?_⟩
  refine kq (aN @fB (aN @cb @lnc)) ?_
  have Hz:eB (dj (S,pl) k).1 k ⟨((dj (S,pl) k).1.dir k).seen,dP (dj (S,pl) k).1 k 0,((dj (S,pl) k).1.dir k).pend⟩=(dj (S,pl) k).1:=Pf _ _
  have iV: ∀j,dP (dj (S,pl) k).1 k j=dP S k j:=fun j=>by unfold dP;rw[xu]
  have hq2: (dj (S,pl) (k+1)).2=(dj (S,pl) k).2.drop 1:=rfl
  generalize dj (S,pl) k=q at*
  obtain⟨Sk,pk⟩:=q
  simp only at*
  refine Cw.loopG (G:=C2G) [42,43,44,9,45,46,47,48,49,50,51,41] (fun g=> [(41,vi g.j)]) (fun g=>g.L) (fun g=>g.j≤n∧DkP g.L G (eB Sk k ⟨(Sk.dir k).seen,dP Sk k g.j,(Sk.dir k).pend⟩)∧Sx.look g.L bk=some (d9 v')∧Ext w X g.L∧(∀b o,Sx.look L1 b=some o→b≠G.t k→Sx.look g.L b=some o)) (fun g=>n - g.j) ⟨0,L1⟩ rfl rfl ?_ ?_
  ·exact⟨aq _,by rw[Hz];exact ai,yA,bq,fun _ _ h _=>h⟩
  intro g j hg
  refine kv ?_
  obtain⟨j,L2⟩:=g
  simp only at hg ⊢
  obtain⟨hj,dA,qc,bw,ux⟩:=hg
  by_cases hjt:j<n
  ·have d2:decide ((j:Int)< (n:Int))=true:=aW oM
   have uv:j< (vals.take n).length:=by rw[List.length_take,Nat.min_eq_left yN];exact hjt
   have ix3:=hrw.idx false j uv
   rw[Nat.mul_one] at ix3
   have ld3:=fun n=>XJ hrw uv n
   have hvj: (vals.take n).getD j undef=vals.getD j undef:=by
    rw[List.getD_eq_getElem?_getD,List.getD_eq_getElem?_getD,List.getElem?_take_of_lt hjt]
   rw[hvj] at ld3
   have hpj:j< (S.dir k).pend.length:=by omega
   have htm: ∀ {b:Nat} {o:Obj},Sx.look L1 b=some o→tyO o≠none→b≠G.t k:=by
    intro b o hb ht e
    obtain⟨ot,mt,rT,l7,-⟩:=ai.stl k aC
    rw[e,rT] at hb;cases hb
    exact ht (jP l7)
   have hFj:FnP L2 G.fb (vals.getD j undef) ((S.dir k).pend.getD j jV):=(hF1 j oM).keep fun b o ho hx=>ux b o ho (htm ho (by rcases hx with⟨s,rfl⟩ | ⟨a,rfl⟩<;>simp[tyO,dX,ptrO]))
   have cJ:=dA.stl k aC
   have eL:=dA.ok.stl k aC
   have fX:=dA.ok.stlN k aC
   have gS:=dA.ok.pendN k aC
   rw[ka] at cJ eL fX gS
   have cG:okC (dP Sk k j) ((S.dir k).pend.getD j jV):=by rw[iV];exact(zo k aC).1 j hpj
   obtain⟨fk,cap,hvf,eI,jG⟩:=Kq hFj cJ eL cG
   rw[hvf] at ld3
   have hlr2:=ux rb _ (hlr oM) (htm (hlr oM) (by simp[tyO]))
   have rd3:=ac (w0:=w) hlr2
   have yU:=ac (w0:=w) (dA.dir k aC)
   have hbk2:=htm yA (by simp[tyO,d9])
   refine ky (aN @fB (aN @d2 (aN @ix3 (aN @ld3 (aN @rd3 @yU))))) ?_
   refine Ow.callFnXC (b:=vm (G.t k)) (cap:=cap) (ars:= #[vm (G.t k)]++cap) rfl (X:=L2) (Y:= []) (List.append_nil _).symm rfl rfl rfl rfl eI (fun w' aA aj ad=>jG w' aj ad) (fun r D hC hS=> ?_)
   rw[List.append_nil]
   obtain⟨rfl,o',hO,gL⟩:=hS
   have nu:=bw.came0 hC
   have o_:=dA.stl1 aC (l':=cw (dP Sk k j) ((S.dir k).pend.getD j jV)) (fun b o hb aU=>(hO.rest b aU).trans hb) gL (J9 _ eL) (J5 fX cG fun h0=>gS _ (by show _∈ (Sk.dir k).pend;rw[xu,List.getD_eq_getElem?_getD,List.getElem?_eq_getElem hpj];exact List.getElem_mem _) h0)
   rw[ka,Bg] at o_
   have dO:dP Sk k (j+1)=cw (dP Sk k j) ((S.dir k).pend.getD j jV):=by rw[Qs (by rw[xu];exact hpj),xu]
   refine ko @fB ?_
   refine ky @fB ?_
   exact Again.mk ⟨j+1,D⟩ (by show n - (j+1)<n - j;omega) ⟨hjt,by rw[dO];exact o_,(hO.rest bk hbk2).trans qc,nu,fun b o hb aU=>(hO.rest b aU).trans (ux b o hb aU)⟩ rfl rfl
  obtain rfl:j=n:=by omega
  have d2:decide ((j:Int)< (j:Int))=false:=ah oM
  have cJ:=dA.stl k aC
  have eL:=dA.ok.stl k aC
  have fX:=dA.ok.stlN k aC
  rw[ka] at cJ eL fX
  obtain⟨ot,mt,rT,l7,i9⟩:=cJ
  have iv:=dA.dir k aC
  have yU:=ac (w0:=w) iv
  refine kz [13] (aN @fB (aN @d2 @yU)) ?_
  refine Ow.callC rfl rfl call92 (fun w' aA=>QI (G.t k) ot mt w' (aA.has _ _ (cu rT)) l7) (fun B4 v4 D4 fo mn gM bQ=> ?_)
  obtain⟨c,o4,rfl,rfl,Ha⟩:=bQ
  have zd:eP L2 c:=iF fun b hb=>by
   have h1:=ak fo hb
   have h2:=gM.le c (by simp[keys])
   omega
  have uj:c∉keys L2:=fun hm=>by have:=ak zd hm;omega
  have rR:Sx.look (L2++ [(c,o4)]) (G.d k)=some (cU (G.s k) (G.t k) (G.p k)):=bZ iv
  have hlc3:Sx.look (L2++ [(c,o4)]) c=some o4:=jQ zd
  have hkp3: ∀b o,Sx.look L2 b=some o→Sx.look (L2++ [(c,o4)]) b=some o:=fun b o h=>bZ h
  have nu:=bw.app (o:=o4) (b:=c) (by have:=gM.le c (by simp[keys]);omega)
  generalize L2++ [(c,o4)]=L3 at*
  have o8:=ac (w0:=w) rR
  have st0:=fun x=>Sv (G.s k) (G.t k) c (G.p k) x
  have Ja:c≠G.d k:=fun e=>uj (by rw[e];exact cC iv)
  have tT:Sx.look (setB L3 (G.d k) (cU c (G.t k) (G.p k))) (G.d k)=some (cU c (G.t k) (G.p k)):=jR rR
  have hlc4:Sx.look (setB L3 (G.d k) (cU c (G.t k) (G.p k))) c=some o4:=by rw[eh (Ne.symm Ja)];exact hlc3
  have y6: ∀b o,Sx.look L2 b=some o→b≠G.d k→Sx.look (setB L3 (G.d k) (cU c (G.t k) (G.p k))) b=some o:=fun b o h aU=>by rw[eh (Ne.symm aU)];exact hkp3 b o h
  have jA:=nu.setB (b:=G.d k) (o:=cU c (G.t k) (G.p k))
  refine ko (aN @fB (aN @rR (aN @st0 @n8))) ?_
  generalize setB L3 (G.d k) (cU c (G.t k) (G.p k))=L4 at*
  have yQ:=ac (w0:=w) tT
  have st2:=fun x=>LV c (G.t k) (G.p k) (.slice none 0 0) x ⟨rfl,rfl⟩
  refine ky (aN @fB (aN @tT (aN @yQ (aN @st2 @n8)))) ?_
  have hkp5: ∀b o,Sx.look L2 b=some o→b≠G.t k→b≠G.d k→Sx.look (setB L4 (G.d k) (cU c (G.t k) (.slice none 0 0))) b=some o:=fun b o h _ aU=>by rw[eh (Ne.symm aU)];exact y6 b o h aU
  have qd: ∀ {b:Nat} {o:Obj} {m:List (List UInt8×Option Nat)},Sx.look L2 b=some o→eZ vs ar o m→b≠G.d k:=by
   intro b o m hb hm e
   rw[e,iv] at hb;cases hb
   obtain⟨es,cl,h,-⟩:=hm;cases h
  have lQ:=dA.calm aC (s':=c) ⟨dP Sk k j,dP Sk k j,[]⟩ rfl hkp5 ⟨o4,mt,by rw[eh (Ne.symm Ja)];exact hlc4,Ha,i9⟩ ⟨ot,mt,by rw[eh (Ne.symm (qd rT l7))];exact y6 _ _ rT (qd rT l7),l7,i9⟩ (jR tT) (.inr uj) eL eL fX fX
  rw[Bg] at lQ
  have hbkd2:bk≠G.d k:=fun e=>xn e
  exact Again.mk ⟨k+1,p_ G k c,setB L4 (G.d k) (cU c (G.t k) (.slice none 0 0)),v'⟩ (by show 3 - (k+1)<3 - k;omega) ⟨aC,by rw[zf];exact lQ,rfl,by rw[eh (Ne.symm xn)];exact y6 _ _ qc xn,by rw[zf];exact hvn,by rw[zf];exact ya I5,jA.setB,by rw[zf];show(pk.drop 1).length<1000000;rw[List.length_drop];omega⟩ rfl rfl
 obtain rfl:k=3:=by omega
 have d1:decide (((3:Nat):Int)<3)=false:=rfl
 unfold gl
 generalize dj (S,pl) 3=q at*
 obtain⟨S3,p3⟩:=q
 simp only at*
 have tW:DkOk {S3 with off:=false}:=⟨hP.ok.seen,hP.ok.stl,hP.ok.seenN,hP.ok.stlN,hP.ok.pendN,hP.ok.file,hP.ok.fuse,hP.ok.max⟩
 have ai:=hP.setDisk {S3 with off:=false} rfl rfl tW
 have hok2:DkOk (mh S3):=⟨hP.ok.seen,hP.ok.stl,hP.ok.seenN,hP.ok.stlN,hP.ok.pendN,hP.ok.file,⟨hP.ok.fuse.1,hP.ok.fuse.2.1,fun h=>by cases h⟩,hP.ok.max⟩
 have dA:=ai.setDisk (mh S3) rfl rfl hok2
 have my:=ac (w0:=w) hP.disk
 have mJ:=hP.disk
 have fX:=ai.disk
 have st4:=fun x=>BT G.bm S3 false x
 have st3:=fun x=>Bz G.bm {S3 with off:=false} false x
 have hrg:=rdg
 have H3:bk≠G.bd:=fun e=>by
  have xr:=hP.disk
  rw[←e,bz] at xr
  simp[bM,d9] at xr
 have qc:Sx.look (setB (setB L G.bd (bM G.bm {S3 with off:=false})) G.bd (bM G.bm (mh S3))) bk=some (d9 v):=by
  rw[eh (Ne.symm H3),eh (Ne.symm H3)];exact bz
 have bw:=(hE.setB (b:=G.bd) (o:=bM G.bm {S3 with off:=false})).setB (b:=G.bd) (o:=bM G.bm (mh S3))
 have jL:=rdg _ bw
 have yR:aT w (setB (setB L G.bd (bM G.bm {S3 with off:=false})) G.bd (bM G.bm {S3 with off:=false,fused:=false})) 0=_:=jL
 have jz:Sx.look (setB (setB L G.bd (bM G.bm {S3 with off:=false})) G.bd (bM G.bm {S3 with off:=false,fused:=false})) bk=some (d9 v):=qc
 have jB:Ext w X (setB (setB L G.bd (bM G.bm {S3 with off:=false})) G.bd (bM G.bm {S3 with off:=false,fused:=false})):=bw
 have lQ:DkP (setB (setB L G.bd (bM G.bm {S3 with off:=false})) G.bd (bM G.bm {S3 with off:=false,fused:=false})) G (mh S3):=dA
 clear jL qc bw dA
 refine kz [17] (aN @fB (aN @d1 (aN @mJ (aN @fX (aN @st4 (aN @st3 (aN @n8 (aN @yR @K9)))))))) ?_
 generalize hL5:setB (setB L G.bd (bM G.bm {S3 with off:=false})) G.bd (bM G.bm {S3 with off:=false,fused:=false})=L5 at*
 have hdw: (mh S3).dir=S3.dir:=rfl
 have how: (mh S3).off=false:=rfl
 generalize mh S3=S5 at*
 refine Cw.loopG (G:=C3G) [72,73,11,74,75,76,77,78,79,80,81,13,82,83,84,85,86,87,88,89,90,91,92,14,93,94,95,96,97,98,99,100,101,102,103,104,105,106,107,108,109,110,111,112,113,114,115,116,117,118,119,120,121,122,123,124,125,126,127,71] (fun g=> [(71,vi g.k)]) (fun g=>g.L) (fun g=>g.k≤3∧DkP g.L G (fH (S5,p3) g.k).1∧Sx.look g.L bk=some (d9 g.v)∧PkS w g.v (fH (S5,p3) g.k).2∧PkB w X (fH (S5,p3) g.k).2 g.v∧Ext w X g.L∧(fH (S5,p3) g.k).2.length<1000000) (fun g=>3 - g.k) ⟨0,L5,v⟩ rfl rfl ?_ ?_
 ·exact⟨aq _,lQ,jz,hv,I5,jB,Hq⟩
 intro g j hg
 refine kv ?_
 obtain⟨k,L6,v6⟩:=g
 simp only at hg ⊢
 obtain⟨hk6,ue,HU,hv6,hvb6,jf,hpl6⟩:=hg
 by_cases j_:k<3
 ·have d6:decide ((k:Int)<3)=true:=aW oM
  have ixk:=IU j_
  have Je:=A8 (S5,p3) k
  have ho6:=Lh (S5,p3) k
  simp only at Je ho6
  have tF:DkB (fH (S5,p3) k).1:=by
   intro i hi
   rw[Je,hdw];exact hB i hi
  have tN:fH (S5,p3) (k+1)=((S5.dir k).seen).foldl g6 (fH (S5,p3) k):=rfl
  refine kz [26] (aN @fB (aN @d6 @ixk)) ?_
  refine Ow.callC rfl rfl call93 (fun w' aA=>BS w' G (fH (S5,p3) k).1 (d7 k) (ue.world aA) tF) (fun B7 v7 D7 mB GO mF jD=> ?_)
  rw[Cd j_,Je,ho6,how,if_neg (by simp),←CI] at jD
  obtain⟨sn,mT⟩: ∃sn,(S5.dir k).seen=sn:=⟨_,rfl⟩
  rw[mT] at tN jD
  have ln7:=uR jD
  rw[List.length_map] at ln7
  refine ko (aN @fB @ln7) ?_
  refine Cw.world fun w1 aP=> ?_
  obtain⟨rb,off,arr,E,fz,l9,yB⟩:=jD.rowL (z:= []) (by rw[List.length_map]) ((aP.perm (M:=D7++L6) List.perm_append_comm).part) E0
  clear aP
  have Jq:=ue.ok.seen k j_
  have hsl6:=(tF k j_).1
  rw[Je,mT] at Jq hsl6
  have vC: ∀c,c∈keys L6→0<sn.length→rb≠c:=fun c hc h0 e=>by
   have h1:=ak mB hc
   have h2:=mF.le rb (cC (yB (by rw[List.length_map];exact h0)))
   omega
  have hlr7:0<sn.length→Sx.look (L6++D7) rb=some (.cells arr E fz):=fun h0=>by
   rw[g8 (fun hm=>vC rb hm h0 rfl)]
   exact yB (by rw[List.length_map];exact h0)
  have xc:DkP (L6++D7) G (fH (S5,p3) k).1:=ue.mono fun b o h=>bZ h
  have HV:Sx.look (L6++D7) bk=some (d9 v6):=bZ HU
  have km:Ext w X (L6++D7):=⟨fun c hc=>by
   rw[ae] at hc
   rcases List.mem_append.1 hc with h|h
   ·exact jf.new c h
   exact .inr (Nat.le_trans GO (mF.le c h)),fun c hc=>by rw[ae];exact bl _ (jf.all c hc)⟩
  have eI: ∀n,n< (fH (S5,p3) k).1.files.length→G.fb.getD n 0∈keys L6:=fun n hn=>cC (ue.file n hn)
  have hbk6:=cC HU
  clear yB jD
  generalize L6++D7=L7 at*
  refine Cw.loopG (G:=C4G) [79,80,81,13,82,83,84,85,86,87,88,89,90,91,92,14,93,94,95,96,97,98,99,100,101,102,103,104,105,106,107,108,109,110,111,112,113,114,115,116,117,118,119,120,121,122,123,124,125,126,78] (fun g=> [(78,vi g.j)]) (fun g=>g.L) (fun g=>g.j≤sn.length∧DkP g.L G ((sn.take g.j).foldl g6 (fH (S5,p3) k)).1∧Sx.look g.L bk=some (d9 g.v)∧PkS w g.v ((sn.take g.j).foldl g6 (fH (S5,p3) k)).2∧PkB w X ((sn.take g.j).foldl g6 (fH (S5,p3) k)).2 g.v∧Ext w X g.L∧((sn.take g.j).foldl g6 (fH (S5,p3) k)).2.length<1000000∧(0<sn.length→Sx.look g.L rb=some (.cells arr E fz))) (fun g=>sn.length - g.j) ⟨0,L7,v6⟩ rfl rfl ?_ ?_
  ·exact⟨aq _,xc,HV,hv6,hvb6,km,hpl6,hlr7⟩
  intro g j hg
  refine kv ?_
  obtain⟨j,L8,v8⟩:=g
  simp only at hg ⊢
  obtain⟨hj,ku,mM,I3,oC,mD,tc,hlr8⟩:=hg
  by_cases hjt:j<sn.length
  ·have d2:decide ((j:Int)< (sn.length:Int))=true:=aW oM
   have uv:j< (sn.map Prod.fst).length:=by rw[List.length_map];exact hjt
   have ix3:=l9.idx false j uv
   rw[Nat.mul_one] at ix3
   have ld3:=fun n=>we l9 uv n
   have HZ:=hlr8 oM
   have rd3:=ac (w0:=w) HZ
   have hp:sn[j]'hjt∈sn:=List.getElem_mem _
   have Hy: (sn.map Prod.fst).getD j []=(sn[j]'hjt).1:=by simp[List.getD_eq_getElem?_getD,hjt]
   have lW:sn.take (j+1)=sn.take j++ [sn[j]'hjt]:=by
    rw[List.take_add_one];simp[hjt]
   rw[Hy] at ld3
   generalize sn[j]'hjt=p at*
   obtain⟨x,n⟩:=p
   have hd8: ((sn.take j).foldl g6 (fH (S5,p3) k)).1.dir=S5.dir:=by rw[Bo,A8]
   have qT: ((sn.take (j+1)).foldl g6 (fH (S5,p3) k))=g6 ((sn.take j).foldl g6 (fH (S5,p3) k)) (x,n):=by rw[lW,List.foldl_append];rfl
   generalize (sn.take j).foldl g6 (fH (S5,p3) k)=q8 at*
   obtain⟨S8,p8⟩:=q8
   simp only at ku I3 tc hd8 ld3
   have pF: (S8.dir k).seen=sn:=by rw[hd8];exact mT
   obtain⟨om,jJ,hM⟩:=ku.dirs
   obtain⟨os,ms,gR,fY,i9⟩:=ku.seen k j_
   rw[pF] at i9
   have dh:aR sn x=some n:=zK Jq.nodup hp
   have bI:n<S8.files.length:=ku.ok.seenN k j_ _ (by rw[pF];exact hp)
   have rdd:=ac (w0:=w) ku.disk
   have rdr:=ac (w0:=w) (ku.dir k j_)
   have i8:=ku.file n bI
   have rdf:=ac (w0:=w) i8
   have l8:ar (some (G.d k))=vp (G.d k) 0:=rfl
   have ta:ar (some (G.fb.getD n 0))=vp (G.fb.getD n 0) 0:=rfl
   refine ky (aN @fB (aN @d2 (aN @ix3 (aN @ld3 (aN @rd3 @rdd))))) ?_
   refine kq (aN @fB @rdd) ?_
   refine Ow.mapGetG (encK:=vs) (encV:=ar) (k:=d7 k) (z:=none) rfl rfl underlying166 j7 zrPd rfl rfl (ac jJ) hM ?_
   rw[AS,oF j_]
   show Ow _ _ _ _ _ _ _ _
   refine ko (aN @fB (aN @l8 @rdr)) ?_
   refine Ow.mapGetG (encK:=vs) (encV:=ar) (k:=x) (z:=none) rfl rfl underlying173 j7 zrPf rfl rfl (ac gR) fY ?_
   rw[i9.get Jq.nodup,dh]
   show Ow _ _ _ _ _ _ _ _
   refine ko (aN @fB @ta) ?_
   have kO:=zN ku.ok bI
   have Hu:aT w L8 (G.fb.getD n 0)=some (cg (aI S8 n)):=rdf
   have zg:S8.files.getD n cL=aI S8 n:=rfl
   rw[zg] at i8
   clear rdf
   have hcf:g6 (S8,p8) (x,n)=(gm S8 n ⟨(aI S8 n).data.take ((aI S8 n).stl+jW p8 ((aI S8 n).data.length - (aI S8 n).stl)),((aI S8 n).data.take ((aI S8 n).stl+jW p8 ((aI S8 n).data.length - (aI S8 n).stl))).length⟩,p8.drop 1):=rfl
   rw[hcf] at qT
   have hple8:=w8 p8 ((aI S8 n).data.length - (aI S8 n).stl)
   generalize aI S8 n=f at*
   have hsub: (f.data.length:Int) - (f.stl:Int)=((f.data.length - f.stl:Nat):Int):=by omega
   refine Cw.regionG [G.fb.getD n 0] [25] 26 kR rfl ?_
   simp only[List.replicate_succ,List.replicate_zero]
   refine OwG.run [0,1,2,3,4,5,6,7,8,9,10,11,12,13,14,15,16,17,18,19] [true,true,true,true,true,true,true,true,true,true,true,true,true,true,true,true,true,true,true,true,false,false,false,false,false,false] 6 rfl kR kR fun k hk=> ?_
   simp only[bF, ↓bE, ↓ay, ↓bD, ↓bC,az]
   simp(disch:=first|exact dD|fail) only[↓Sx.S0,Sx.S1,fx,fB,Nat.reduceAdd,Nat.reducePow,Int.reducePow,Nat.reduceBEq, ↓reduceIte,UInt8.reduceToNat,UInt16.reduceToNat,UInt32.reduceToNat,UInt64.reduceToNat,Int.reduceToNat,Md.next_sofnil,Hu,hsub]
   (with_reducible refine hk _ _ _ ?_);clear hk k
   refine OwG.one 20 _ kR rfl ?_
   refine Ow.callFnXC (b:=vi ((f.data.length - f.stl:Nat):Int)) (ars:= #[vi ((f.data.length - f.stl:Nat):Int),vp bk 0]) rfl (X:=L8) (Y:= []) (List.append_nil _).symm rfl rfl rfl rfl call91 (fun w' aA aj ad=>Rets.chunk aj ad (cC mM) (BO (f.data.length - f.stl) bk v8 p8 w' oM (I3.old aA fun hq b hb=>mD.not (oC hq b hb).1 (oC hq b hb).2) tc (fun hq e=>by have:=(oC hq bk e).1;omega) (aj _ (cu mM)))) (fun r D hC hS=> ?_)
   rw[List.append_nil]
   obtain⟨o,rfl,rfl,v9,rfl,zx,hv2⟩:=hS
   obtain⟨hvn,ya⟩:=DB I3 zx hv2
   have mp:=mD.came0 hC
   have xd:=ku.away mM (d9 v9)
   have qW: ∀b o,Sx.look L8 b=some o→tyO o≠some 65→Sx.look (setB L8 bk (d9 v9)) b=some o:=fun b o hb ht=>gc mM hb ht
   have qa:Sx.look (setB L8 bk (d9 v9)) (G.fb.getD n 0)=some (cg f):=qW _ _ i8 (by simp[tyO,cg])
   have HW:Sx.look (setB L8 bk (d9 v9)) bk=some (d9 v9):=jR mM
   have hrbA:Sx.look (setB L8 bk (d9 v9)) rb=some (.cells arr E fz):=by rw[eh (fun e=>vC bk hbk6 oM e.symm)];exact HZ
   have hrf9:=ac (w0:=w) qa
   generalize jW p8 (f.data.length - f.stl)=m at*
   have hadd: (f.stl:Int)+ (m:Int)=((f.stl+m:Nat):Int):=by omega
   have H4:bk≠G.fb.getD n 0:=fun e=>by
    rw[←e,HW] at qa
    simp[cg,d9] at qa
   generalize setB L8 bk (d9 v9)=L9 at*
   have st0:=fun x=>Lc f (f.data.take (f.stl+m)) x
   with_reducible refine Ow.nil ?_
   refine⟨(fun b hb=>by rw[List.mem_singleton] at hb;subst hb;rw[Hu,hrf9]), ?_⟩
   simp only[List.set_cons_zero,List.set_cons_succ,k7,iP,iQ]
   refine OwG.rest [21,22,23,24,25] rfl kR kR ?_
   simp only[bF, ↓bE, ↓ay, ↓bD, ↓bC,az]
   refine kq (aN @fB @hadd) ?_
   refine Ow.store rfl rfl rfl (ke (aN @fB (aN @qa @st0))) ?_
   have dE: (f.data.take (f.stl+m)).length≤f.data.length:=by rw[List.length_take];omega
   have htl2:f.stl≤ (f.data.take (f.stl+m)).length:=by rw[List.length_take];omega
   have hlB:Sx.look (setB L9 (G.fb.getD n 0) (cg ⟨f.data.take (f.stl+m),f.stl⟩)) (G.fb.getD n 0)=some (cg ⟨f.data.take (f.stl+m),f.stl⟩):=jR qa
   have hrB:=ac (w0:=w) hlB
   have st1:=fun x=>LX ⟨f.data.take (f.stl+m),f.stl⟩ (f.data.take (f.stl+m)).length x
   have Hk:=zD (n:=n) (f:=⟨f.data.take (f.stl+m),f.stl⟩) ku.ok ⟨Nat.le_trans dE kO.1,htl2⟩
   have hPA:=xd.setFile bI ⟨f.data.take (f.stl+m),f.stl⟩ Hk
   have hokB:=zD (n:=n) (f:=⟨f.data.take (f.stl+m),(f.data.take (f.stl+m)).length⟩) Hk ⟨Nat.le_trans dE kO.1,ap _⟩
   have hPB:=hPA.setFile (by rw[List.length_set];exact bI) ⟨f.data.take (f.stl+m),(f.data.take (f.stl+m)).length⟩ hokB
   simp only[List.set_set] at hPB
   have hEB:=(mp.setB (b:=G.fb.getD n 0) (o:=cg ⟨f.data.take (f.stl+m),f.stl⟩)).setB (b:=G.fb.getD n 0) (o:=cg ⟨f.data.take (f.stl+m),(f.data.take (f.stl+m)).length⟩)
   have Js:rb≠G.fb.getD n 0:=vC _ (eI n (by have:=ue.len;have:=ku.len;omega)) oM
   have hlkB:Sx.look (setB (setB L9 (G.fb.getD n 0) (cg ⟨f.data.take (f.stl+m),f.stl⟩)) (G.fb.getD n 0) (cg ⟨f.data.take (f.stl+m),(f.data.take (f.stl+m)).length⟩)) bk=some (d9 v9):=by
    rw[eh (Ne.symm H4),eh (Ne.symm H4)];exact HW
   have hrbB:Sx.look (setB (setB L9 (G.fb.getD n 0) (cg ⟨f.data.take (f.stl+m),f.stl⟩)) (G.fb.getD n 0) (cg ⟨f.data.take (f.stl+m),(f.data.take (f.stl+m)).length⟩)) rb=some (.cells arr E fz):=by
    rw[eh (Ne.symm Js),eh (Ne.symm Js)];exact hrbA
   refine ko (aN @fB (aN @n8 (aN @hrB (aN @hlB @st1)))) ?_
   refine ky @fB ?_
   exact Again.mk ⟨j+1,setB (setB L9 (G.fb.getD n 0) (cg ⟨f.data.take (f.stl+m),f.stl⟩)) (G.fb.getD n 0) (cg ⟨f.data.take (f.stl+m),(f.data.take (f.stl+m)).length⟩),v9⟩ (by show sn.length - (j+1)<sn.length - j;omega) ⟨hjt,by rw[qT];exact hPB,hlkB,by rw[qT];exact hvn,by rw[qT];exact ya oC,hEB,by rw[qT];show(p8.drop 1).length<1000000;rw[List.length_drop];omega,fun _=>hrbB⟩ rfl rfl
  obtain rfl:j=sn.length:=by omega
  have d2:decide ((sn.length:Int)< (sn.length:Int))=false:=ah oM
  rw[List.take_length] at ku I3 oC tc
  refine ky (aN @fB @d2) ?_
  refine ky @fB ?_
  exact Again.mk ⟨k+1,L8,v8⟩ (by show 3 - (k+1)<3 - k;omega) ⟨j_,by rw[tN];exact ku,mM,by rw[tN];exact I3,by rw[tN];exact oC,mD,by rw[tN];exact tc⟩ rfl rfl
 obtain rfl:k=3:=by omega
 have d6:decide (((3:Nat):Int)<3)=false:=rfl
 refine ky (aN @fB @d6) ?_
 refine⟨_,(ke @fB), ?_⟩
 exact⟨jf,G,rfl,ue⟩
def ni (d:DirL):Prop:=d.pend.foldl cw d.stl=d.seen∧xO d
def fe (S:DiskL):Prop:= ∀k,ni (S.dir k)
def A' (l:NmL):ni ⟨l,l,[]⟩:=⟨rfl,fun i hi=>absurd hi (Nat.not_lt_zero i)⟩
def Sc {d:DirL} {c:CallL} (h:ni d) (cG:okC d.seen c):ni ⟨cw d.seen c,d.stl,d.pend++ [c]⟩:=by
 refine⟨by show(d.pend++ [c]).foldl cw d.stl=_;rw[List.foldl_append,h.1];rfl,fun i hi=> ?_⟩
 have xz:i< (d.pend++ [c]).length:=hi
 show okC (((d.pend++ [c]).take i).foldl cw d.stl) ((d.pend++ [c]).getD i jV)
 by_cases e:i<d.pend.length
 ·rw[List.take_append_of_le_length oM,List.getD_eq_getElem?_getD,List.getElem?_append_left e,←List.getD_eq_getElem?_getD]
  exact h.2 i e
 rw[List.length_append,List.length_singleton] at xz
 obtain rfl:i=d.pend.length:=by omega
 rw[List.take_append_of_le_length (ap _),List.take_length,h.1,List.getD_eq_getElem?_getD,List.getElem?_append_right (ap _),Nat.sub_self]
 exact cG
def pT {S S':DiskL} (h:fe S) (e:S'.dir=S.dir):fe S':=fun k=>by rw[e];exact h k
def KH {S:DiskL} (h:fe S) {k:Nat} {d:DirL} (hd:ni d):fe (eB S k d):=fun j=>by
 by_cases e:j=k
 ·subst e;rw[ka];exact hd
 rw[lI _ _ e];exact h j
def Lp {S:DiskL} (h:fe S) {k:Nat} {c:CallL} (cG:okC (S.dir k).seen c):fe (cz S k c):=KH h (Sc (h k) cG)
def A_ {S:DiskL} (h:fe S):fe (aM S).1:=pT h (fM S).1
def EZ (q:Int):fe (cT q):=fun _=>A' []
def OY {S:DiskL} (h:fe S) (dir name s:List UInt8):fe (bW S dir name s).1:=by
 unfold bW
 split
 ·exact h
 split
 ·exact h
 split
 ·exact h
 split
 ·exact A_ h
 exact pT (A_ h) rfl
def TV {S:DiskL} (h:fe S) (dir name:List UInt8):fe (bU S dir name).1:=by
 unfold bU
 split
 ·exact h
 split
 ·exact h
 split
 ·exact A_ h
 exact pT (A_ h) rfl
theorem Wj_ {q:DiskL×List UInt16} (h:fe q.1): ∀k,fe (dj q k).1
 |0=>h
 |k+1=>KH (Wj_ h k) (A' _)
def JQ {S:DiskL} (h:fe S) (pl:List UInt16):fe (gl S pl):=by
 unfold gl
 refine pT (S:=mh (dj (S,pl) 3).1) ?_ (A8 _ 3)
 exact pT (Wj_ (q:=(S,pl)) h 3) rfl
def NmB (l:NmL):Prop:= ∀p,p∈l→p.1.length≤1000000
def qC (c:CallL):Prop:=c.a.length≤1000000∧c.b.length≤1000000
structure DirB (N:Nat) (d:DirL):Prop where
 seen:d.seen.length≤N
 stl:d.stl.length+d.pend.length≤N
 seenB:NmB d.seen
 stlB:NmB d.stl
 pendB: ∀c,c∈d.pend→qC c
def DkN (N:Nat) (S:DiskL):Prop:= ∀k,DirB N (S.dir k)
def DkN.b {N:Nat} {S:DiskL} (h:DkN N S) (hN:N≤1000000):DkB S:=fun k _=>⟨Nat.le_trans (h k).seen hN,(h k).seenB⟩
def DirB.mono {N M:Nat} {d:DirL} (h:DirB N d) (hm:N≤M):DirB M d:=⟨Nat.le_trans h.seen hm,Nat.le_trans h.stl hm,h.seenB,h.stlB,h.pendB⟩
theorem DkN.mono {N M:Nat} {S:DiskL} (h:DkN N S) (hm:N≤M):DkN M S:=fun k=>(h k).mono hm
def LN (l:NmL) (s:List UInt8): (fC l s).length≤l.length:=List.length_filter_le _ _
def wb (l:NmL) (x:List UInt8×Nat): (gK l x).length≤l.length+1:=by
 have h1:=(uC x (fC l x.1)).length_eq
 have h2:=LN l x.1
 rw[List.length_cons] at h1
 show(insN (fC l x.1) x).length≤_
 omega
def DO (l:NmL) (c:CallL): (cw l c).length≤l.length+1:=by
 unfold cw
 split
 ·exact wb l _
 ·have h1:=wb (fC l c.a) (c.b,(aR l c.a).getD 0)
  have h2:=LN l c.a
  omega
 exact Nat.le_succ_of_le (LN l _)
def wu {l:NmL} (h:NmB l) (s:List UInt8):NmB (fC l s):=fun p hp=>h p (List.mem_filter.1 hp).1
def xK {l:NmL} (h:NmB l) {x:List UInt8×Nat} (hx:x.1.length≤1000000):NmB (gK l x):=fun p hp=>by
 have:=(uC x (fC l x.1)).mem_iff.1 hp
 rcases List.mem_cons.1 this with rfl|h1
 ·exact hx
 exact wu h _ p h1
def FK {l:NmL} (h:NmB l) {c:CallL} (hc:qC c):NmB (cw l c):=by
 unfold cw
 split
 ·exact xK h hc.1
 ·exact xK (wu h _) hc.2
 exact wu h _
theorem F6: ∀ (cs:List CallL) {l:NmL},NmB l→(∀c,c∈cs→qC c)→NmB (cs.foldl cw l)∧(cs.foldl cw l).length≤l.length+cs.length
 | [],l,h,_=>⟨h,ap _⟩
 |c::cs,l,h,hc=>by
  have h1:=F6 cs (FK h (hc c aa)) (fun c' h'=>hc c' (av _ h'))
  have h2:=DO l c
  refine⟨h1.1, ?_⟩
  have h3:=h1.2
  rw[List.length_cons]
  show(List.foldl cw (cw l c) cs).length≤_
  omega
def Ug {N:Nat} {d:DirL} {c:CallL} (h:DirB N d) (hc:qC c):DirB (N+1) ⟨cw d.seen c,d.stl,d.pend++ [c]⟩ where
 seen:=by have:=DO d.seen c;have:=h.seen;show(cw d.seen c).length≤_;omega
 stl:=by have:=h.stl;show d.stl.length+ (d.pend++ [c]).length≤_;rw[List.length_append,List.length_singleton];omega
 seenB:=FK h.seenB hc
 stlB:=h.stlB
 pendB:=fun c' h'=>by
  rcases List.mem_append.1 h' with h'|h'
  ·exact h.pendB c' h'
  rw[List.mem_singleton.1 h'];exact hc
def IZ {N:Nat} {l:NmL} (h:l.length≤N) (hb:NmB l):DirB N ⟨l,l,[]⟩:=⟨h,h,hb,hb,fun c hc=>by cases hc⟩
def JE {N:Nat} {S:DiskL} (h:DkN N S) {k:Nat} {d:DirL} (hd:DirB N d):DkN N (eB S k d):=fun j=>by
 by_cases e:j=k
 ·subst e;rw[ka];exact hd
 rw[lI _ _ e];exact h j
def ri {N:Nat} {S S':DiskL} (h:DkN N S) (e:S'.dir=S.dir):DkN N S':=fun k=>by rw[e];exact h k
def LA {N:Nat} {S:DiskL} (h:DkN N S) {k:Nat} {c:CallL} (hc:qC c):DkN (N+1) (cz S k c):=JE (h.mono (Nat.le_succ N)) (Ug (h k) hc)
theorem IK {N:Nat} {q:DiskL×List UInt16} (h:DkN N q.1): ∀k,DkN N (dj q k).1
 |0=>h
 |k+1=>by
  have h1:=IK h k
  have hd:=h1 k
  show DkN N (sP (dj q k) k).1
  generalize dj q k=r at*
  refine JE h1 ?_
  have h2:=F6 ((r.1.dir k).pend.take (jW r.2 (r.1.dir k).pend.length)) hd.stlB (fun c hc=>hd.pendB c (List.mem_of_mem_take hc))
  refine IZ ?_ h2.1
  have h3:=h2.2
  rw[List.length_take] at h3
  have h4:=hd.stl
  show(List.foldl cw _ _).length≤N
  omega
def Kr {N:Nat} {S:DiskL} (h:DkN N S) (pl:List UInt16):DkN N (gl S pl):=by
 unfold gl
 refine ri (S:=mh (dj (S,pl) 3).1) ?_ (A8 _ 3)
 exact ri (IK (q:=(S,pl)) h 3) rfl
def wj (q:Int):DkN 0 (cT q):=fun _=>IZ (ap 0) fun _ h=>by cases h
def R4 (X:aB) (G:DkG) (S:DiskL) (n:Int) (w:World) (hX: ∀p,p∈X→w.heap[p.1]? =some p.2) (ao: (keys X).Nodup) (hP:DkP X G S) (hn: -9223372036854775808≤n∧n<9223372036854775808):
  Rets prog 47 #[vp G.bd 0,vi n] w (XS w X (fun v D=>v=bv []∧ ∃G',G'.bd=G.bd∧DkP D G' {S with fuse:=n,fused:=decide (0≤n)})):=by
 refine Rets.mono (Rets.chunk hX ao (cC hP.disk) (Qd G.bd G.bm S n w (hX _ (cu hP.disk)))) ?_
 rintro v D ⟨hE,o,rfl,rfl,rfl⟩
 exact⟨hE,rfl,G,rfl,hP.setDisk {S with fuse:=n,fused:=decide (0≤n)} rfl rfl ⟨hP.ok.seen,hP.ok.stl,hP.ok.seenN,hP.ok.stlN,hP.ok.pendN,hP.ok.file,⟨hn.1,hn.2,fun h=>by simpa using h⟩,hP.ok.max⟩⟩
def Pd (S:DiskL) (f:FiL) (h: ∀k,(S.dir k).pend= []∧(S.dir k).stl= []): ∀k,((eX S f).dir k).pend= []∧((eX S f).dir k).stl= []:=by
 intro k
 unfold eX
 split
 ·rename_i j hj
  split
  ·by_cases e:k=j
   ·subst e;rw[ka];exact⟨(h k).1,(h k).2⟩
   rw[lI _ _ e];exact h k
  exact h k
 exact h k
def QE (l:List FiL): ∀ (S:DiskL),(∀k,(S.dir k).pend= []∧(S.dir k).stl= [])→ ∀k,((l.foldl eX S).dir k).pend= []∧((l.foldl eX S).dir k).stl= []:=by
 induction l with
 |nil=>exact fun _ h=>h
 |cons f l ih=>exact fun S h=>ih _ (Pd S f h)
def Wt {N:Nat} {S:DiskL} (h:DkN N S) (f:FiL) (hf:f.name.length≤1000000):DkN (N+1) (eX S f):=by
 unfold eX
 split
 ·split
  ·rename_i k hk hc
   refine JE (ri (h.mono (Nat.le_succ N)) rfl) ⟨?_,Nat.le_succ_of_le (h k).stl,xK (h k).seenB hf,(h k).stlB,(h k).pendB⟩
   have h1:=wb (S.dir k).seen (f.name,S.files.length)
   have h2:=(h k).seen
   show(gK (S.dir k).seen (f.name,S.files.length)).length≤N+1
   omega
  exact h.mono (Nat.le_succ N)
 exact h.mono (Nat.le_succ N)
theorem Dh: ∀ (l:List FiL) {N:Nat} {S:DiskL},DkN N S→(∀f,f∈l→f.name.length≤1000000)→DkN (N+l.length) (l.foldl eX S)
 | [],_,_,h,_=>h
 |f::l,N,S,h,hf=>by
  have h1:=Dh l (Wt h f (hf f aa)) (fun g hg=>hf g (av _ hg))
  rw[List.length_cons,show N+ (l.length+1)=N+1+l.length by omega]
  exact h1
def Qr (S:DiskL) (f:FiL) (h: ∀k,3≤k→(S.dir k).seen= []): ∀k,3≤k→((eX S f).dir k).seen= []:=by
 intro k hk
 unfold eX
 split
 ·rename_i j hj
  split
  ·have h3:=(dY hj).1
   rw[lI _ _ oM];exact h k hk
  exact h k hk
 exact h k hk
def Sr (l:List FiL): ∀ (S:DiskL),(∀k,3≤k→(S.dir k).seen= [])→ ∀k,3≤k→((l.foldl eX S).dir k).seen= []:=by
 induction l with
 |nil=>exact fun _ h=>h
 |cons f l ih=>exact fun S h=>ih _ (Qr S f h)
def I_ (S:DiskL) (k:Nat): (setV S [0,1,2]).dir k=if k∈ [0,1,2] then⟨(S.dir k).seen,(S.dir k).seen,[]⟩ else S.dir k:=rfl
def El (q:Int) (l:List FiL):fe (ofD q l):=fun k=>by
 have h1:=QE l (cT q) (fun _=>⟨rfl,rfl⟩) k
 have h2:=Sr l (cT q) (fun _ _=>rfl) k
 unfold ofD
 rw[I_]
 generalize l.foldl eX (cT q)=S at*
 split
 ·exact A' _
 rename_i hk
 have h3:3≤k:=by
  simp only[List.mem_cons,List.not_mem_nil,or_false,not_or] at hk
  omega
 have h4:=h2 h3
 generalize S.dir k=d at*
 obtain⟨a,b,c⟩:=d
 simp only at h1 h4
 obtain⟨rfl,rfl⟩:=h1
 subst h4
 exact A' []
def ZY (q:Int) (l:List FiL) (hf: ∀f,f∈l→f.name.length≤1000000):DkN l.length (ofD q l):=fun k=>by
 have h1:=Dh l (wj q) hf k
 rw[Nat.zero_add] at h1
 unfold ofD
 rw[I_]
 split
 ·exact IZ h1.seen h1.seenB
 exact h1
def Ac {N:Nat} {S:DiskL} (h:DkN N S):DkN N (aM S).1:=ri h (fM S).1
def pf {N:Nat} {S:DiskL} (h:DkN N S):DkN (N+1) S:=h.mono (Nat.le_succ N)
def QR {N:Nat} {S:DiskL} (h:DkN N S) (dir name s:List UInt8):DkN N (bW S dir name s).1:=by
 unfold bW
 split
 ·exact h
 split
 ·exact h
 split
 ·exact h
 split
 ·exact Ac h
 exact ri (Ac h) rfl
def VL {N:Nat} {S:DiskL} (h:DkN N S) (dir name:List UInt8):DkN N (bU S dir name).1:=by
 unfold bU
 split
 ·exact h
 split
 ·exact h
 split
 ·exact Ac h
 exact ri (Ac h) rfl
theorem Iv {S:DiskL} (ok:DkOk S): ∀ (l:NmL),(∀p,p∈l→p.2<S.files.length)→iZ S l≤l.length*1048576
 | [],_=>aq _
 |p::l,h=>by
  have h1:=Iv ok l fun q hq=>h q (av _ hq)
  have h2:=(zN ok (h p aa)).1
  unfold iZ aI at*
  rw[List.map_cons,List.sum_cons,List.length_cons]
  omega
def XB {N:Nat} {S:DiskL} (ok:DkOk S) (h:DkN N S):j5 S≤3* (N*1048576):=by
 have h0:=Iv ok _ (ok.seenN 0 oM)
 have h1:=Iv ok _ (ok.seenN 1 oM)
 have h2:=Iv ok _ (ok.seenN 2 oM)
 have g0:=Nat.mul_le_mul_right 1048576 (h 0).seen
 have g1:=Nat.mul_le_mul_right 1048576 (h 1).seen
 have g2:=Nat.mul_le_mul_right 1048576 (h 2).seen
 unfold j5
 omega
def mem_wipe {l:NmL} {s:List UInt8} {p:List UInt8×Nat}:p∈fC l s↔p∈l∧p.1≠s:=by
 unfold fC
 rw[List.mem_filter]
 constructor
 ·rintro⟨h1,h2⟩
  exact⟨h1,fun e=>by rw[e] at h2;simp at h2⟩
 rintro⟨h1,h2⟩
 exact⟨h1,by simpa using Ne.symm h2⟩
def mem_put {l:NmL} {x p:List UInt8×Nat}:p∈gK l x↔p=x∨(p∈l∧p.1≠x.1):=by
 unfold gK
 rw[(uC x _).mem_iff,List.mem_cons,mem_wipe]
def ET {l:NmL} {c:CallL} {p:List UInt8×Nat} (cG:okC l c) (h:p∈cw l c): (c.kind=0∧p=(c.a,c.n))∨(c.kind=1∧ ∃m,aR l c.a=some m∧p=(c.b,m))∨(p∈l∧p.1≠c.a∧(c.kind=1→p.1≠c.b)):=by
 unfold cw at h
 split at h
 ·rename_i hk
  rcases mem_put.1 h with rfl| ⟨h1,h2⟩
  ·exact .inl ⟨hk,rfl⟩
  exact .inr (.inr ⟨h1,h2,fun e=>by rw[hk] at e;cases e⟩)
 ·rename_i hk
  cases hm:aR l c.a with
  |none=>exact absurd hm (cG hk).1
  |some m=>
   rw[hm] at h
   rcases mem_put.1 h with rfl| ⟨h1,h2⟩
   ·exact .inr (.inl ⟨hk,m,rfl,rfl⟩)
   have h3:=mem_wipe.1 h1
   exact .inr (.inr ⟨h3.1,h3.2,fun _=>h2⟩)
 rename_i h0 h1
 have h3:=mem_wipe.1 h
 exact .inr (.inr ⟨h3.1,h3.2,fun e=>absurd e h1⟩)
def kH (S:DiskL):Prop:= ∀j k,j<3→k<3→ ∀p,p∈ (S.dir j).seen→ ∀q,q∈ (S.dir k).seen→p.2=q.2→j=k∧p=q
def rj {S S':DiskL} (h:kH S) (e: ∀k,k<3→(S'.dir k).seen=(S.dir k).seen):kH S':=fun j k hj hk p hp q hq=>by
 rw[e j hj] at hp
 rw[e k hk] at hq
 exact h j k hj hk p hp q hq
def vS (S:DiskL) (k j:Nat) (c:CallL): ((cz S k c).dir j).seen=if j=k then cw (S.dir k).seen c else(S.dir j).seen:=by
 unfold cz
 by_cases e:j=k
 ·subst e;rw[ka,if_pos rfl]
 rw[lI _ _ e,if_neg e]
def AQ {S:DiskL} {k j:Nat} {c:CallL} {p:List UInt8×Nat} (cG:okC (S.dir k).seen c) (h:p∈ ((cz S k c).dir j).seen):
  (p∈ (S.dir j).seen∧(j=k→p.1≠c.a∧(c.kind=1→p.1≠c.b)))∨(j=k∧c.kind=0∧p=(c.a,c.n))∨(j=k∧c.kind=1∧ ∃m,aR (S.dir k).seen c.a=some m∧p=(c.b,m)):=by
 rw[vS] at h
 by_cases e:j=k
 ·rw[if_pos e] at h
  subst e
  rcases ET cG h with⟨h1,h2⟩ | ⟨h1,h2⟩ | ⟨h1,h2⟩
  ·exact .inr (.inl ⟨rfl,h1,h2⟩)
  ·exact .inr (.inr ⟨rfl,h1,h2⟩)
  exact .inl ⟨h1,fun _=>h2⟩
 rw[if_neg e] at h
 exact .inl ⟨h,fun e'=>absurd e' e⟩
def JC {S:DiskL} (h:kH S) {k:Nat} {c:CallL} (hk:k<3) (cG:okC (S.dir k).seen c) (hn:c.kind=0→ ∀j,j<3→ ∀q,q∈ (S.dir j).seen→q.2≠c.n):kH (cz S k c):=by
 intro i j hi hj p hp q hq e
 rcases AQ cG hp with⟨p1,p2⟩ | ⟨rfl,p1,rfl⟩ | ⟨rfl,p1,m,pm,rfl⟩
 ·rcases AQ cG hq with⟨q1,q2⟩ | ⟨rfl,q1,rfl⟩ | ⟨rfl,q1,m,qm,rfl⟩
  ·exact h i j hi hj p p1 q q1 e
  ·exact absurd e (hn q1 i hi p p1)
  have h1:=h i j hi hj p p1 _ (j1 qm) e
  exact absurd (by rw[h1.2]) (p2 h1.1).1
 ·rcases AQ cG hq with⟨q1,q2⟩ | ⟨rfl,q1,rfl⟩ | ⟨rfl,q1,m,qm,rfl⟩
  ·exact absurd e.symm (hn p1 j hj q q1)
  ·exact⟨rfl,rfl⟩
  rw[p1] at q1;cases q1
 rcases AQ cG hq with⟨q1,q2⟩ | ⟨rfl,q1,rfl⟩ | ⟨rfl,q1,m',qm,rfl⟩
 ·have h1:=h j i hj hi q q1 _ (j1 pm) e.symm
  exact absurd (by rw[h1.2]) (q2 h1.1).1
 ·rw[p1] at q1;cases q1
 rw[pm] at qm;cases qm;exact⟨rfl,rfl⟩
def LtS (S:DiskL):Prop:= ∀k,k<3→ ∀p,p∈ (S.dir k).seen→p.2<S.files.length
def Vl {S:DiskL} (h:kH S) (hl:LtS S) {k:Nat} (hk:k<3) (s:List UInt8) (f:FileL) {d:DirL} (hd:d.seen=gK (S.dir k).seen (s,S.files.length)):kH (eB (fK S f) k d)∧LtS (eB (fK S f) k d):=by
 have hm: ∀j p,p∈ ((eB (fK S f) k d).dir j).seen→p∈ (S.dir j).seen∨(j=k∧p=(s,S.files.length)):=fun j p hp=>by
  by_cases e:j=k
  ·subst e
   rw[ka,hd] at hp
   rcases mem_put.1 hp with rfl|h1
   ·exact .inr ⟨rfl,rfl⟩
   exact .inl h1.1
  rw[lI _ _ e] at hp
  exact .inl hp
 constructor
 ·intro i j hi hj p hp q hq e
  rcases hm i p hp with p1| ⟨rfl,rfl⟩
  ·rcases hm j q hq with q1| ⟨rfl,rfl⟩
   ·exact h i j hi hj p p1 q q1 e
   have:=hl i hi p p1
   simp only at e
   omega
  rcases hm j q hq with q1| ⟨rfl,rfl⟩
  ·have:=hl j hj q q1
   simp only at e
   omega
  exact⟨rfl,rfl⟩
 intro j hj p hp
 show p.2< (S.files++ [f]).length
 rw[List.length_append,List.length_singleton]
 rcases hm j p hp with p1| ⟨-,rfl⟩
 ·have:=hl j hj p p1
  omega
 simp
def PK {S:DiskL} (h:kH S∧LtS S) (f:FiL):kH (eX S f)∧LtS (eX S f):=by
 unfold eX
 split
 ·rename_i k hk
  split
  ·exact Vl h.1 h.2 (dY hk).1 _ _ rfl
  exact h
 exact h
def QG (l:List FiL): ∀ {S:DiskL},kH S∧LtS S→kH (l.foldl eX S)∧LtS (l.foldl eX S):=by
 induction l with
 |nil=>exact fun h=>h
 |cons f l ih=>exact fun h=>ih (PK h f)
def T9 (S:DiskL) (k:Nat): ((setV S [0,1,2]).dir k).seen=(S.dir k).seen:=by
 rw[I_]
 split
 ·rfl
 rfl
def wt (q:Int) (l:List FiL):kH (ofD q l):=
 rj (QG l (S:=cT q) ⟨fun _ _ _ _ p hp=>(by cases hp),fun _ _ p hp=>(by cases hp)⟩).1 fun k _=>T9 _ k
inductive StepD (S:DiskL) (kind:Int) (dir name s:List UInt8):DiskL→Nat→Prop
 |same (e:Nat) (h:e≠0∨(kind≠2∧kind≠3)):StepD S kind dir name s S e
 |burn (h:kind≠2∧kind≠3∨(aM S).2≠0):StepD S kind dir name s (aM S).1 (aM S).2
 |create (k:Nat) (hk:bG dir=some k) (hf:cS name=true) (hn:aR (S.dir k).seen name=none) (hb: (aM S).2=0):StepD S kind dir name s (cz (fK (aM S).1 cL) k ⟨0,name,[],S.files.length⟩) 0
 |append (k m:Nat) (hk:bG dir=some k) (hm:aR (S.dir k).seen name=some m) (hf:kF S m s=false) (hb: (aM S).2=0):StepD S kind dir name s (gm (aM S).1 m ⟨(aI S m).data++s,(aI S m).stl⟩) 0
 |sync (k m:Nat) (hk:bG dir=some k) (hm:aR (S.dir k).seen name=some m) (hb: (aM S).2=0):StepD S kind dir name s (gm (aM S).1 m ⟨(aI S m).data,(aI S m).data.length⟩) 0
 |syncDir (k:Nat) (hk:bG dir=some k) (hb: (aM S).2=0):StepD S kind dir name s (kU (aM S).1 k) 0
 |rename (k m:Nat) (h4:kind=4) (hk:bG dir=some k) (hm:aR (S.dir k).seen name=some m) (hf:cS s=true) (aU:name≠s) (hb: (aM S).2=0):StepD S kind dir name s (cz (aM S).1 k ⟨1,name,s,0⟩) 0
 |remove (k m:Nat) (hk:bG dir=some k) (hm:aR (S.dir k).seen name=some m) (hb: (aM S).2=0):StepD S kind dir name s (cz (aM S).1 k ⟨2,name,[],0⟩) 0
def sE {S:DiskL} {dir name:List UInt8} {m:Nat} (h:atD S dir name=some m): ∃k,bG dir=some k∧aR (S.dir k).seen name=some m:=by
 unfold atD at h
 cases hk:bG dir with
 |none=>rw[hk] at h;cases h
 |some k=>rw[hk] at h;exact⟨k,rfl,h⟩
def Xs {S:DiskL} {dir name:List UInt8} {k:Nat} (hk:bG dir=some k) (h:atD S dir name=none):aR (S.dir k).seen name=none:=by
 unfold atD at h
 rw[hk] at h;exact h
def IT {S:DiskL} {dir:List UInt8} {names:List (List UInt8)} (h:cr S dir names=0): ∃k,bG dir=some k∧names.all cS=true:=by
 obtain⟨h1,h2,-⟩:=Qt h
 cases hk:bG dir with
 |none=>exact absurd hk h1
 |some k=>exact⟨k,rfl,h2⟩
def ID (S:DiskL) (dir name s:List UInt8):StepD S 0 dir name s (cv S dir name).1 (cv S dir name).2:=by
 unfold cv
 split
 ·exact .same _ (.inr ⟨by decide,by decide⟩)
 rename_i hf
 split
 ·exact .same _ (.inr ⟨by decide,by decide⟩)
 rename_i ha
 split
 ·exact .burn (.inl ⟨by decide,by decide⟩)
 rename_i hb
 obtain⟨k,hk,hn⟩:=IT (S:=S) (dir:=dir) (names:= [name]) (by simpa using hf)
 rw[hk]
 exact .create k hk (by simpa using hn) (Xs hk ha) (by simpa using hb)
def qv (S:DiskL) (dir name s:List UInt8):StepD S 5 dir name s (fj S dir name).1 (fj S dir name).2:=by
 unfold fj
 split
 ·exact .same _ (.inr ⟨by decide,by decide⟩)
 split
 ·exact .same _ (.inr ⟨by decide,by decide⟩)
 rename_i m ha
 split
 ·exact .burn (.inl ⟨by decide,by decide⟩)
 rename_i hb
 obtain⟨k,hk,hm⟩:=sE ha
 rw[hk]
 exact .remove k m hk hm (by simpa using hb)
def IF (S:DiskL) (dir name s:List UInt8):StepD S 4 dir name s (dU S dir name s).1 (dU S dir name s).2:=by
 unfold dU
 split
 ·exact .same _ (.inr ⟨by decide,by decide⟩)
 rename_i hf
 split
 ·exact .same _ (.inr ⟨by decide,by decide⟩)
 rename_i m ha
 split
 ·exact .burn (.inl ⟨by decide,by decide⟩)
 rename_i aU
 split
 ·exact .burn (.inl ⟨by decide,by decide⟩)
 rename_i hb
 obtain⟨k,hk,hm⟩:=sE ha
 obtain⟨-,-,hn⟩:=IT (S:=S) (dir:=dir) (names:= [name,s]) (by simpa using hf)
 simp only[List.all_cons,List.all_nil,Bool.and_true,Bool.and_eq_true] at hn
 rw[hk]
 exact .rename k m rfl hk hm hn.2 aU (by simpa using hb)
def A0 (S:DiskL) (dir name s:List UInt8):StepD S 1 dir name s (bW S dir name s).1 (bW S dir name s).2:=by
 unfold bW
 split
 ·exact .same _ (.inr ⟨by decide,by decide⟩)
 split
 ·exact .same _ (.inr ⟨by decide,by decide⟩)
 rename_i m ha
 split
 ·exact .same _ (.inr ⟨by decide,by decide⟩)
 rename_i dg
 split
 ·exact .burn (.inl ⟨by decide,by decide⟩)
 rename_i hb
 obtain⟨k,hk,hm⟩:=sE ha
 exact .append k m hk hm (by simpa using dg) (by simpa using hb)
def vQ (S:DiskL) (dir name s:List UInt8):StepD S 2 dir name s (bU S dir name).1 (bU S dir name).2:=by
 unfold bU
 split
 ·rename_i hf
  exact .same _ (.inl hf)
 split
 ·exact .same _ (.inl (Nat.succ_ne_zero 5))
 rename_i m ha
 split
 ·rename_i hb
  exact .burn (.inr hb)
 rename_i hb
 obtain⟨k,hk,hm⟩:=sE ha
 exact .sync k m hk hm (by simpa using hb)
def X5_ (S:DiskL) (dir name s:List UInt8):StepD S 3 dir name s (fT S dir).1 (fT S dir).2:=by
 unfold fT
 split
 ·rename_i hf
  exact .same _ (.inl hf)
 rename_i hf
 split
 ·rename_i hb
  exact .burn (.inr hb)
 rename_i hb
 obtain⟨k,hk,-⟩:=IT (S:=S) (dir:=dir) (names:= []) (by simpa using hf)
 rw[hk]
 exact .syncDir k hk (by simpa using hb)
def sI {l:NmL} {a b:List UInt8} {m:Nat} (h:aR l a=some m) (aU:a≠b):okC l ⟨1,a,b,0⟩:=fun _=>⟨by rw[h];simp,aU⟩
section
variable {S S':DiskL} {kind:Int} {dir name s:List UInt8} {e:Nat}
def J0 (h:StepD S kind dir name s S' e):S'.max=S.max:=by
 have hb:=(fM S).2.2
 cases h<;>first|rfl|exact hb
def A1 (S:DiskL) (k j:Nat): ((kU S k).dir j).seen=(S.dir j).seen:=by
 unfold kU
 by_cases e:j=k
 ·subst e;rw[ka]
 rw[lI _ _ e]
def U3 (ok:DkOk S) (hu:kH S) (h:StepD S kind dir name s S' e):kH S':=by
 obtain⟨aO,al,-⟩:=fM S
 have gN:kH (aM S).1:=rj hu fun k _=>by rw[aO]
 cases h with
 |same=>exact hu
 |burn=>exact gN
 |create k hk hf hn hb=>
  refine JC (rj gN fun _ _=>rfl) (dY hk).1 (fun e=>by cases e) (fun _ j hj q hq=> ?_)
  have vB:q∈ (S.dir j).seen:=by rw[←aO];exact hq
  have:=ok.seenN j hj q vB
  show q.2≠S.files.length
  omega
 |append k m hk hm hf hb=>exact rj gN fun _ _=>rfl
 |sync k m hk hm hb=>exact rj gN fun _ _=>rfl
 |syncDir k hk hb=>exact rj gN fun j _=>A1 _ _ _
 |rename k m h4 hk hm hf aU hb=>exact JC gN (dY hk).1 (by rw[aO];exact sI hm aU) (fun e=>by cases e)
 |remove k m hk hm hb=>exact JC gN (dY hk).1 (fun e=>by cases e) (fun e=>by cases e)
def ym (hu:fe S) (h:StepD S kind dir name s S' e):fe S':=by
 obtain⟨aO,al,-⟩:=fM S
 have gN:=A_ hu
 cases h with
 |same=>exact hu
 |burn=>exact gN
 |create k hk hf hn hb=>exact Lp (pT gN rfl) (fun e=>by cases e)
 |append k m hk hm hf hb=>exact pT gN rfl
 |sync k m hk hm hb=>exact pT gN rfl
 |syncDir k hk hb=>exact KH gN (A' _)
 |rename k m h4 hk hm hf aU hb=>exact Lp gN (by rw[aO];exact sI hm aU)
 |remove k m hk hm hb=>exact Lp gN (fun e=>by cases e)
def Vp {N:Nat} (hu:DkN N S) (hn:name.length≤1000000) (hs:s.length≤1000000) (h:StepD S kind dir name s S' e):DkN (N+1) S':=by
 have gN:=Ac hu
 cases h with
 |same=>exact pf hu
 |burn=>exact pf gN
 |create k hk hf ad hb=>exact LA (ri gN rfl) ⟨hn,aq _⟩
 |append k m hk hm hf hb=>exact pf (ri gN rfl)
 |sync k m hk hm hb=>exact pf (ri gN rfl)
 |syncDir k hk hb=>exact pf (JE gN (IZ (gN k).seen (gN k).seenB))
 |rename k m h4 hk hm hf aU hb=>exact LA gN ⟨hn,hs⟩
 |remove k m hk hm hb=>exact LA gN ⟨hn,aq _⟩
end
def LL (S:DiskL) (p:List UInt8×Nat) (l:NmL):iZ S (p::l)=(aI S p.2).data.length+iZ S l:=by
 unfold iZ aI
 rw[List.map_cons,List.sum_cons]
def rD (S:DiskL) {m:Nat} (f:FileL) (hm:m<S.files.length) (n:Nat):aI (gm S m f) n=if n=m then f else aI S n:=by
 unfold aI gm
 simp only
 rw[List.getD_eq_getElem?_getD,List.getD_eq_getElem?_getD]
 by_cases e:n=m
 ·subst e;rw[if_pos rfl,List.getElem?_set_self hm];rfl
 rw[if_neg e,List.getElem?_set_ne (Ne.symm e)]
def Kz (S:DiskL) (f:FileL) {n:Nat} (hn:n<S.files.length):aI (fK S f) n=aI S n:=by
 unfold aI fK
 exact zP _ _ hn
def IV (S:DiskL) (f:FileL):aI (fK S f) S.files.length=f:=by
 unfold aI fK
 exact vh _ _ rfl
def mZ (S:DiskL) (n:Nat):aI (aM S).1 n=aI S n:=by
 unfold aI
 rw[(fM S).2.1]
section
variable {S S':DiskL} {kind:Int} {dir name s:List UInt8} {e:Nat}
end
theorem X7_ (q:DiskL×List UInt16): ∀k,(dj q k).1.files=q.1.files
 |0=>rfl
 |k+1=>X7_ q k
theorem C_ (q:DiskL×List UInt16) {j:Nat}: ∀ {k:Nat},j<k→ ∃i,i≤ (q.1.dir j).pend.length∧(dj q k).1.dir j=⟨dP q.1 j i,dP q.1 j i,[]⟩
 |k+1,h=>by
  show∃i,i≤_∧(eB (dj q k).1 k _).dir j=_
  by_cases e:j=k
  ·subst e
   rw[ka]
   have hd:=Lg q (ap j)
   refine⟨jW (dj q j).2 ((dj q j).1.dir j).pend.length, ?_, ?_⟩
   ·rw[hd];exact w8 _ _
   unfold dP
   rw[hd]
  rw[lI _ _ e]
  exact C_ q oM
def IS (S:DiskL) (pl:List UInt16) {k:Nat} (hk:k<3): ∃i,i≤ (S.dir k).pend.length∧(gl S pl).dir k=⟨dP S k i,dP S k i,[]⟩:=by
 obtain⟨i,h1,h2⟩:=C_ (S,pl) hk
 exact⟨i,h1,by unfold gl;rw[A8];exact h2⟩
def TH (S:DiskL) (pl:List UInt16): (gl S pl).off=false:=by
 unfold gl
 rw[Lh];rfl
def BegF (f g:FileL):Prop:=(∃t,g.data=f.data.take t)∧(f.stl=f.data.length→g.data=f.data∧g.stl=g.data.length)
def BegF.refl (f:FileL):BegF f f:=⟨⟨f.data.length,(List.take_length).symm⟩,fun h=>⟨rfl,h⟩⟩
theorem BegF.trans {f g h:FileL} (h1:BegF f g) (h2:BegF g h):BegF f h:=by
 obtain⟨⟨t,ht⟩,a⟩:=h1
 obtain⟨⟨u,hu⟩,b⟩:=h2
 refine⟨⟨min u t,by rw[hu,ht,List.take_take]⟩,fun e=> ?_⟩
 obtain⟨a1,a2⟩:=a e
 obtain⟨b1,b2⟩:=b a2
 exact⟨b1.trans a1,b2⟩
def CQ (S:DiskL) {n:Nat} (h:S.files.length≤n):aI S n=cL:=by
 unfold aI
 rw[List.getD_eq_getElem?_getD,List.getElem?_eq_none h];rfl
def Kb (S:DiskL) {m:Nat} (h:S.files.length≤m) (f:FileL):gm S m f=S:=by
 unfold gm
 rw[List.set_eq_of_length_le h]
def R5 (q:DiskL×List UInt16) (p:List UInt8×Nat) (n:Nat):BegF (aI q.1 n) (aI (g6 q p).1 n):=by
 unfold g6
 simp only
 by_cases hm:p.2<q.1.files.length
 ·rw[rD _ _ hm]
  by_cases e:n=p.2
  ·subst e
   rw[if_pos rfl]
   refine⟨⟨_,rfl⟩,fun h=> ?_⟩
   have h1: (aI q.1 p.2).data.take ((aI q.1 p.2).stl+jW q.2 ((aI q.1 p.2).data.length - (aI q.1 p.2).stl))=(aI q.1 p.2).data:=List.take_of_length_le (by rw[←h];omega)
   exact⟨h1,rfl⟩
  rw[if_neg e];exact BegF.refl _
 rw[Kb _ oM];exact BegF.refl _
def Bh (q:DiskL×List UInt16) (p:List UInt8×Nat) (n:Nat) (h:n=p.2∨(aI q.1 n).stl=(aI q.1 n).data.length): (aI (g6 q p).1 n).stl=(aI (g6 q p).1 n).data.length:=by
 unfold g6
 simp only
 by_cases hm:p.2<q.1.files.length
 ·rw[rD _ _ hm]
  by_cases e:n=p.2
  ·rw[if_pos e]
  rw[if_neg e];exact h.resolve_left e
 rw[Kb _ oM]
 rcases h with h|h
 ·rw[CQ _ oM];rfl
 exact h
theorem Bj (n:Nat): ∀ (l:NmL) (q:DiskL×List UInt16),BegF (aI q.1 n) (aI (l.foldl g6 q).1 n)∧(n∈l.map Prod.snd∨(aI q.1 n).stl=(aI q.1 n).data.length→(aI (l.foldl g6 q).1 n).stl=(aI (l.foldl g6 q).1 n).data.length)
 | [],q=>⟨BegF.refl _,fun h=>h.resolve_left (by simp)⟩
 |p::l,q=>by
  obtain⟨h1,h2⟩:=Bj n l (g6 q p)
  refine⟨(R5 q p n).trans h1,fun h=>h2 ?_⟩
  rcases h with h|h
  ·rw[List.map_cons] at h
   rcases List.mem_cons.1 h with h|h
   ·exact .inr (Bh q p n (.inl h))
   exact .inl h
  exact .inr (Bh q p n (.inr h))
theorem Bq (n:Nat) (q:DiskL×List UInt16): ∀k,BegF (aI q.1 n) (aI (fH q k).1 n)∧((∃j,j<k∧n∈ (q.1.dir j).seen.map Prod.snd)∨(aI q.1 n).stl=(aI q.1 n).data.length→(aI (fH q k).1 n).stl=(aI (fH q k).1 n).data.length)
 |0=>⟨BegF.refl _,fun h=>h.resolve_left (by rintro⟨j,hj,-⟩;omega)⟩
 |k+1=>by
  obtain⟨h1,h2⟩:=Bq n q k
  obtain⟨g1,g2⟩:=Bj n (q.1.dir k).seen (fH q k)
  refine⟨h1.trans g1,fun h=>g2 ?_⟩
  rcases h with⟨j,hj,hm⟩ |h
  ·by_cases e:j=k
   ·subst e;exact .inl hm
   exact .inr (h2 (.inl ⟨j,by omega,hm⟩))
  exact .inr (h2 (.inr h))
def UF (S:DiskL) (pl:List UInt16) (n:Nat):BegF (aI S n) (aI (gl S pl) n):=by
 have h:=(Bq n (mh (dj (S,pl) 3).1,(dj (S,pl) 3).2) 3).1
 have e:aI (mh (dj (S,pl) 3).1) n=aI S n:=by
  unfold aI mh
  rw[X7_]
 rw[←e];exact h
def NumD (d:DirL) (n:Nat):Prop:=(∃p,p∈d.stl∧p.2=n)∨ ∃c,c∈d.pend∧c.kind=0∧c.n=n
theorem AO {d:DirL} (h:xO d): ∀i,i≤d.pend.length→ ∀p,p∈ (d.pend.take i).foldl cw d.stl→NumD d p.2
 |0,_,p,hp=> .inl ⟨p,hp,rfl⟩
 |i+1,hi,p,hp=>by
  have cG:=h i oM
  rw[StP.take_snoc (z:=jV) oM,List.foldl_append] at hp
  have tN:d.pend.getD i jV∈d.pend:=getD_mem oM
  rcases ET cG hp with⟨h1,rfl⟩ | ⟨h1,m,hm,rfl⟩ | ⟨h1,-⟩
  ·exact .inr ⟨_,tN,h1,rfl⟩
  ·exact AO h i oM ((d.pend.getD i jV).a,m) (j1 hm)
  exact AO h i oM p h1
def V6 {d:DirL} (h:ni d) {p:List UInt8×Nat} (hp:p∈d.seen):NumD d p.2:=by
 refine AO h.2 d.pend.length (ap _) p ?_
 rw[List.take_length,h.1];exact hp
def xQ (S:DiskL):Prop:= ∀j k,j<3→k<3→ ∀n,NumD (S.dir j) n→NumD (S.dir k) n→j=k
def Fq {S:DiskL} (ok:DkOk S) {k n:Nat} (hk:k<3) (h:NumD (S.dir k) n):n<S.files.length:=by
 rcases h with⟨p,hp,rfl⟩ | ⟨c,hc,h0,rfl⟩
 ·exact ok.stlN k hk p hp
 exact ok.pendN k hk c hc h0
def Iw {S:DiskL} {k j n:Nat} {c:CallL} (h:NumD ((cz S k c).dir j) n):NumD (S.dir j) n∨(j=k∧c.kind=0∧c.n=n):=by
 by_cases e:j=k
 ·subst e
  unfold cz at h
  rw[ka] at h
  rcases h with h| ⟨d,hd,h0,h1⟩
  ·exact .inl (.inl h)
  rcases List.mem_append.1 hd with hd|hd
  ·exact .inl (.inr ⟨d,hd,h0,h1⟩)
  rw[List.mem_singleton.1 hd] at h0 h1
  exact .inr ⟨rfl,h0,h1⟩
 unfold cz at h
 rw[lI _ _ e] at h
 exact .inl h
def dK (S:DiskL):Prop:=S.off=false∧S.fused=false
def r9 {S:DiskL} (h:dK S):aM S=(S,0):=by
 unfold aM
 rw[if_neg (by rw[h.2];simp),if_neg (by rw[h.2];simp)]
section
variable {S S':DiskL} {kind:Int} {dir name s:List UInt8} {e:Nat}
def mX (hc:dK S) (h:StepD S kind dir name s S' e):dK S':=by
 have hb:=r9 hc
 have eG:dK (aM S).1:=by rw[hb];exact hc
 cases h<;>first|exact hc|exact eG
end
def Fh (q:Int) (l:List FiL) {k:Nat} (hk:k<3): ((ofD q l).dir k).stl=((ofD q l).dir k).seen∧((ofD q l).dir k).pend= []:=by
 unfold ofD
 rw[I_,if_pos (by simp;omega)]
 exact⟨rfl,rfl⟩
def FT {q:Int} {l:List FiL} {k:Nat} (hk:k<3) {n:Nat} (h:NumD ((ofD q l).dir k) n): ∃p,p∈ ((ofD q l).dir k).seen∧p.2=n:=by
 obtain⟨h1,h2⟩:=Fh q l hk
 rcases h with h| ⟨c,hc,-⟩
 ·rw[h1] at h;exact h
 rw[h2] at hc;cases hc
def ZO (q:Int) (l:List FiL):xQ (ofD q l):=fun j k hj hk n a b=>by
 obtain⟨p,hp,rfl⟩:=FT hj a
 obtain⟨p',qj,e⟩:=FT hk b
 exact(wt q l j k hj hk p hp p' qj e.symm).1
structure KeepS (S:DiskL) (k:Nat) (nm:List UInt8) (n:Nat) (data:List UInt8):Prop where
 lt:n<S.files.length
 data: (aI S n).data=data
 stl: (aI S n).stl=(aI S n).data.length
 at_:aR (S.dir k).stl nm=some n
 pend: ∀c,c∈ (S.dir k).pend→c.a≠nm∧(c.kind=1→c.b≠nm)
theorem CH {x:List UInt8×Nat} {s:List UInt8} (hx:x.1≠s): ∀l:NmL,aR (insN l x) s=aR l s
 | []=>by
  have: (s==x.1)=false:=beq_eq_false_iff_ne.2 (Ne.symm hx)
  unfold insN aR
  rw[List.find?_cons,this]
 |p::l=>by
  have e: (s==x.1)=false:=beq_eq_false_iff_ne.2 (Ne.symm hx)
  have ih:=CH hx l
  unfold insN
  split
  ·unfold aR
   rw[List.find?_cons,e]
  unfold aR at ih ⊢
  rw[List.find?_cons,List.find?_cons]
  split
  ·rfl
  exact ih
theorem Ie {a s:List UInt8} (ha:a≠s): ∀l:NmL,aR (fC l a) s=aR l s
 | []=>rfl
 |p::l=>by
  have ih:=Ie ha l
  unfold fC at ih ⊢
  rw[List.filter_cons]
  by_cases e:a=p.1
  ·have e1: (s==p.1)=false:=beq_eq_false_iff_ne.2 (fun h=>ha (by rw[e,h]))
   rw[if_neg (by rw[e];simp),ih]
   unfold aR
   rw[List.find?_cons,e1]
  rw[if_pos (by simpa using e)]
  unfold aR at ih ⊢
  rw[List.find?_cons,List.find?_cons]
  split
  ·rfl
  exact ih
def wU {x:List UInt8×Nat} {s:List UInt8} (hx:x.1≠s) (l:NmL):aR (gK l x) s=aR l s:=by
 unfold gK
 rw[CH hx,Ie hx]
def CB {l:NmL} {c:CallL} {s:List UInt8} (h:c.a≠s∧(c.kind=1→c.b≠s)):aR (cw l c) s=aR l s:=by
 unfold cw
 split
 ·exact wU h.1 l
 ·rename_i hk
  rw[wU (h.2 hk),Ie h.1]
 exact Ie h.1 l
theorem Kf {s:List UInt8}: ∀ (cs:List CallL) (l:NmL),(∀c,c∈cs→c.a≠s∧(c.kind=1→c.b≠s))→aR (cs.foldl cw l) s=aR l s
 | [],_,_=>rfl
 |c::cs,l,h=>by
  rw[List.foldl_cons,Kf cs _ fun d hd=>h d (av _ hd),CB (h c aa)]
section
variable {S S':DiskL} {kind:Int} {dir name s:List UInt8} {e k n:Nat} {nm data:List UInt8}
theorem KeepS.seen (h:KeepS S k nm n data) (hh:fe S):aR (S.dir k).seen nm=some n:=by
 rw[← (hh k).1,Kf _ _ h.pend,h.at_]
end
structure PkL where
 v:Value
 l:List UInt16
 h:Value.oneCell' v=true∧v.cells= #[v]
def pk0:PkL:=⟨.slice none 0 0,[],rfl,rfl⟩
structure ActL where
 kind:Int
 n:Int
 dir:List UInt8
 name:List UInt8
 s:List UInt8
 picks:PkL
structure ActOk (w:World) (a:ActL):Prop where
 pk:PkS w a.picks.v a.picks.l
 n: -9223372036854775808≤a.n∧a.n<9223372036854775808
def PkS.blk {w:World} {v:Value} {l:List UInt16} (h:PkS w v l) (hl:l≠ []) {b:Nat} (hb:slB v=some b):b<w.heap.size:=by
 obtain⟨b',off,c,arr,E,fz,hr,hc,⟨rfl,rfl,rfl⟩ | ⟨rfl,hh,-⟩⟩:=h.resolve_right fun e=>hl e.1
 ·exact absurd rfl hl
 cases hb
 exact(Array.getElem?_eq_some_iff.1 hh).1
structure DkA (X:aB) (G:DkG) (S:DiskL) (N:Nat):Prop where
 P:DkP X G S
 H:fe S
 B:DkN N S
theorem DkA.pend {X:aB} {G:DkG} {S:DiskL} {N:Nat} (h:DkA X G S N) (hN:N<1000000): ∀k,k<3→(S.dir k).pend.length<1000000:=fun k _=>by
 have:=(h.B k).stl
 omega
def DkA.used {X:aB} {G:DkG} {S:DiskL} {N:Nat} (h:DkA X G S N) (hN:N<1000000):j5 S<4611686018427387904:=by
 have:=XB h.P.ok h.B
 omega
theorem DkA.mono {X X':aB} {G:DkG} {S:DiskL} {N:Nat} (h:DkA X G S N) (hk: ∀b o,Sx.look X b=some o→Sx.look X' b=some o):DkA X' G S N:=⟨h.P.mono hk,h.H,h.B⟩
theorem DkA.b {X:aB} {G:DkG} {S:DiskL} {N:Nat} (h:DkA X G S N) (hN:N<1000000):DkB S:=h.B.b oM
def Is {w:World} {L:aB} (hg:oX w) (hn:New w.heap.size L):0∉keys L:=by
 obtain⟨e,fz,iW⟩:=hg
 exact hn.not (Array.getElem?_eq_some_iff.1 iW).1
def li {w w':World} {L:aB} (hg:oX w) (h:Hp w L w') (hn:New w.heap.size L):oX w':=by
 have kQ:=Is hg hn
 obtain⟨e,fz,iW⟩:=hg
 exact⟨e,fz,(h.old _ (Array.getElem?_eq_some_iff.1 iW).1 kQ).trans iW⟩
def am (S:DiskL) (j:Nat) (x:List UInt8):Option (List UInt8):=(aR (S.dir j).seen x).map fun n=>(aI S n).data
structure GoodS (S:DiskL):Prop where
 srt: ∀k,k<3→SrtN (S.dir k).seen
 lt:LtS S
 uniq:kH S
def DkOk.good {S:DiskL} (ok:DkOk S) (hu:kH S):GoodS S:=⟨ok.seen,ok.seenN,hu⟩
def y' {p:List UInt8×Nat} {l:NmL} {s:List UInt8} (h:s≠p.1):aR (p::l) s=aR l s:=by
 unfold aR
 rw[List.find?_cons,beq_eq_false_iff_ne.2 h]
def oP (p:List UInt8×Nat) (l:NmL):aR (p::l) p.1=some p.2:=by
 unfold aR
 rw[List.find?_cons,beq_self_eq_true];rfl
def r_ {l:NmL} {s:List UInt8} (h: ∀p,p∈l→ltB s p.1=true):aR l s=none:=by
 cases hf:aR l s with
 |none=>rfl
 |some n=>
  have:=h _ (j1 hf)
  rw[AB] at this;cases this
theorem Ep {α:Type} {g g':Nat→α}: ∀ {l l':NmL},SrtN l→SrtN l'→(∀s,(aR l s).map g=(aR l' s).map g')→l.map (fun p=>(p.1,g p.2))=l'.map (fun p=>(p.1,g' p.2))
 | [],[],_,_,_=>rfl
 | [],p::l',_,_,h=>by
  have:=h p.1
  rw[oP] at this;cases this
 |p::l,[],_,_,h=>by
  have:=h p.1
  rw[oP] at this;cases this
 |p::l,p'::l',hs,kS,h=>by
  unfold SrtN at hs kS
  rw[List.pairwise_cons] at hs kS
  have e:p.1=p'.1:=by
   by_cases e:p.1=p'.1
   ·exact e
   cases hl:ltB p.1 p'.1 with
   |true=>
    have h1:=h p.1
    rw[oP,y' e,r_ fun q hq=>tu hl (kS.1 q hq)] at h1
    cases h1
   |false=>
    have lS:ltB p'.1 p.1=true:=vP hl e
    have h1:=h p'.1
    rw[oP,y' (Ne.symm e),r_ fun q hq=>tu lS (hs.1 q hq)] at h1
    cases h1
  have h1:=h p.1
  rw[oP] at h1
  rw[e,oP] at h1
  rw[List.map_cons,List.map_cons,Ep hs.2 kS.2 fun s=> ?_,e,Option.some.inj h1]
  by_cases es:s=p.1
  ·rw[es,r_ hs.1,e,r_ kS.1];rfl
  have:=h s
  rw[y' es,y' (by rw[←e];exact es)] at this
  exact this
def aF (s:List UInt8):List UInt8:=s++ [46,116,109,112]
def uL (s:List UInt8):aF s≠s:=fun h=>by
 have:=congrArg List.length h
 unfold aF at this
 simp at this
def OthN (dir nm:List UInt8) (j:Nat) (x:List UInt8):Prop:=d7 j=dir→x≠nm∧x≠aF nm
section
variable {S S':DiskL} {kind:Int} {dir name s:List UInt8} {e:Nat}
def lG (hg:GoodS S) (h:StepD S kind dir name s S' e):GoodS S':=by
 obtain⟨aO,al,-⟩:=fM S
 have kM:GoodS (aM S).1:=⟨fun k hk=>by rw[aO];exact hg.srt k hk,fun k hk p hp=>by rw[aO] at hp;rw[al];exact hg.lt k hk p hp,rj hg.uniq fun k _=>by rw[aO]⟩
 have turn: ∀ {T:DiskL} {k:Nat} {c:CallL},GoodS T→k<3→okC (T.dir k).seen c→(c.kind=0→c.n<T.files.length∧ ∀j,j<3→ ∀q,q∈ (T.dir j).seen→q.2≠c.n)→GoodS (cz T k c):=fun{T k c} hT hk cG hn=>
  ⟨fun j hj=>by
   rw[vS]
   split
   ·exact J9 c (hT.srt k hk)
   ·exact hT.srt j hj,fun j hj p hp=>by
   show p.2<T.files.length
   rcases AQ cG hp with⟨p1,-⟩ | ⟨rfl,p1,rfl⟩ | ⟨rfl,p1,m,pm,rfl⟩
   ·exact hT.lt j hj p p1
   ·exact(hn p1).1
   exact hT.lt j hk (c.a,m) (j1 pm),JC hT.uniq hk cG fun h0=>(hn h0).2⟩
 have set: ∀ {T:DiskL} (m:Nat) (f:FileL),GoodS T→GoodS (gm T m f):=fun{T} m f hT=>⟨hT.srt,fun k hk p hp=>by show p.2< (T.files.set m f).length;rw[List.length_set];exact hT.lt k hk p hp,rj hT.uniq fun _ _=>rfl⟩
 cases h with
 |same=>exact hg
 |burn=>exact kM
 |create k hk hf hn hb=>
  refine turn (T:=fK (aM S).1 cL) ⟨kM.srt,fun j hj p hp=> ?_,rj kM.uniq fun _ _=>rfl⟩ (dY hk).1 (fun e=>by cases e) fun _=>⟨?_,fun j hj q hq=> ?_⟩
  ·have:=kM.lt j hj p hp
   show p.2< ((aM S).1.files++ [cL]).length
   rw[List.length_append];omega
  ·show S.files.length< ((aM S).1.files++ [cL]).length
   rw[al,List.length_append];simp
  have:=kM.lt j hj q hq
  rw[al] at this
  show q.2≠S.files.length
  omega
 |append k m hk hm hf hb=>exact set m _ kM
 |sync k m hk hm hb=>exact set m _ kM
 |syncDir k hk hb=>exact⟨fun j hj=>by rw[A1];exact kM.srt j hj,fun j hj p hp=>by rw[A1] at hp;exact kM.lt j hj p hp,rj kM.uniq fun j _=>A1 _ _ _⟩
 |rename k m h4 hk hm hf aU hb=>exact turn kM (dY hk).1 (by rw[aO];exact sI hm aU) fun e=>by cases e
 |remove k m hk hm hb=>exact turn kM (dY hk).1 (fun e=>by cases e) fun e=>by cases e
def Ii {S S':DiskL} {j:Nat} {x:List UInt8} (h1:aR (S'.dir j).seen x=aR (S.dir j).seen x) (h2: ∀n,aR (S.dir j).seen x=some n→(aI S' n).data=(aI S n).data):am S' j x=am S j x:=by
 unfold am
 rw[h1]
 cases hf:aR (S.dir j).seen x with
 |none=>rfl
 |some n=>exact congrArg some (h2 n hf)
def AF (hg:GoodS S) (h:StepD S kind dir name s S' e) {j:Nat} (hj:j<3) {x:List UInt8} (hx:d7 j=dir→x≠name∧(kind=4→x≠s)):am S' j x=am S j x:=by
 obtain⟨aO,al,-⟩:=fM S
 have hd: ∀ {k},bG dir=some k→j=k→x≠name∧(kind=4→x≠s):=fun hk e=>hx (by rw[e];exact(dY hk).2.symm)
 have turn: ∀ {T:DiskL} {k:Nat} {c:CallL},(∀n,n<S.files.length→aI T n=aI S n)→T.dir=S.dir→(j=k→c.a≠x∧(c.kind=1→c.b≠x))→am (cz T k c) j x=am S j x:=fun{T k c} hf hT hc=>
  Ii (by
   rw[vS]
   by_cases e:j=k
   ·rw[if_pos e,CB (hc e),hT,e]
   ·rw[if_neg e,hT]) fun n hn=>by
   show(aI T n).data=_
   rw[hf n (hg.lt j hj _ (j1 hn))]
 have set: ∀ {k m:Nat} (f:FileL),bG dir=some k→aR (S.dir k).seen name=some m→am (gm (aM S).1 m f) j x=am S j x:=fun{k m} f hk hm=>
  Ii (by show aR ((aM S).1.dir j).seen x=_;rw[aO]) fun n hn=>by
   have pC:m< (aM S).1.files.length:=by rw[al];exact hg.lt k (dY hk).1 _ (j1 hm)
   rw[rD _ _ pC,mZ]
   by_cases e:n=m
   ·subst e
    have h1:=hg.uniq j k hj (dY hk).1 _ (j1 hn) _ (j1 hm) rfl
    exact absurd (congrArg Prod.fst h1.2) (hd hk h1.1).1
   rw[if_neg e]
 cases h with
 |same=>rfl
 |burn=>exact Ii (by rw[aO]) fun n _=>by rw[mZ]
 |create k hk hf hn hb=>exact turn (fun n hn=>by rw[Kz _ _ (by rw[al];exact hn),mZ]) aO fun e=>⟨Ne.symm (hd hk e).1,fun h=>by cases h⟩
 |append k m hk hm hf hb=>exact set _ hk hm
 |sync k m hk hm hb=>exact set _ hk hm
 |syncDir k hk hb=>exact Ii (by rw[A1,aO]) fun n _=>by show(aI (aM S).1 n).data=_;rw[mZ]
 |rename k m h4 hk hm hf aU hb=>exact turn (fun n _=>mZ S n) aO fun e=>⟨Ne.symm (hd hk e).1,fun _=>Ne.symm ((hd hk e).2 h4)⟩
 |remove k m hk hm hb=>exact turn (fun n _=>mZ S n) aO fun e=>⟨Ne.symm (hd hk e).1,fun h=>by cases h⟩
end
structure TkL where
 dir:List UInt8
 name:List UInt8
 data:List UInt8
 light:Bool
 next:Nat
 made:Bool
 ended:Bool
structure PhR where
 did:Bool
 e:Nat
 t:TkL
 S:DiskL
def me (t:TkL) (S:DiskL):PhR:=if(ci S t.dir (aF t.name)).2≠0 then⟨false,0,t,S⟩ else⟨true,(fj S t.dir (aF t.name)).2,t,(fj S t.dir (aF t.name)).1⟩
def Ad (t:TkL) (S:DiskL):PhR:=⟨true,(cv S t.dir (aF t.name)).2,{t with made:=(cv S t.dir (aF t.name)).2==0},(cv S t.dir (aF t.name)).1⟩
def x5 (t:TkL) (S:DiskL):PhR:=⟨true,(bW S t.dir (aF t.name) t.data).2,t,(bW S t.dir (aF t.name) t.data).1⟩
def m9 (t:TkL) (S:DiskL):PhR:=if t.light=true then⟨false,0,t,S⟩ else⟨true,(bU S t.dir (aF t.name)).2,t,(bU S t.dir (aF t.name)).1⟩
def wc (t:TkL) (S:DiskL):PhR:=⟨true,(dU S t.dir (aF t.name) t.name).2,{t with made:=t.made&& (dU S t.dir (aF t.name) t.name).2 !=0},(dU S t.dir (aF t.name) t.name).1⟩
def vg (t:TkL) (S:DiskL):PhR:=if t.light=true then⟨false,0,t,S⟩ else⟨true,(fT S t.dir).2,t,(fT S t.dir).1⟩
def phT (k:Nat) (t:TkL) (S:DiskL):PhR:=match k with
 |0=>me t S
 |1=>Ad t S
 |2=>x5 t S
 |3=>m9 t S
 |4=>wc t S
 |_=>vg t S
structure StR where
 done:Bool
 e:Nat
 t:TkL
 S:DiskL
def nxT (r:PhR):TkL:={r.t with next:=r.t.next+1}
def endT (t:TkL):Bool:=t.next==6|| (t.light&&t.next==5)
def dm (r:PhR):StR:=if(nxT r).made=true∧r.e≠9 then⟨false,r.e,{nxT r with ended:=true},(fj r.S r.t.dir (aF r.t.name)).1⟩ else⟨false,r.e,{nxT r with ended:=true},r.S⟩
def gn (r:PhR):TkL:={nxT r with ended:=endT (nxT r)}
def fS:Nat→TkL→DiskL→StR
 |0,t,S=>⟨false,0,t,S⟩
 |f+1,t,S=>
  if(phT t.next t S).e≠0 then dm (phT t.next t S)
  else if(phT t.next t S).did=false∧endT (nxT (phT t.next t S))=false then fS f (gn (phT t.next t S)) (phT t.next t S).S
  else⟨endT (nxT (phT t.next t S)),0,gn (phT t.next t S),(phT t.next t S).S⟩
def fc (t:TkL) (S:DiskL):StR:=if t.ended=true then⟨false,15,t,S⟩ else fS (6 - t.next) t S
def runG:Nat→TkL→DiskL→Nat×TkL×DiskL
 |0,t,S=>(0,t,S)
 |f+1,t,S=>if(fc t S).done=true∨(fc t S).e≠0 then((fc t S).e,(fc t S).t,(fc t S).S) else runG f (fc t S).t (fc t S).S
def phG:Nat→TkL→DiskL→Nat×DiskL
 |0,_,S=>(0,S)
 |f+1,t,S=>
  if(phT t.next t S).e≠0 then((dm (phT t.next t S)).e,(dm (phT t.next t S)).S)
  else if endT (nxT (phT t.next t S))=true then(0,(phT t.next t S).S)
  else phG f (gn (phT t.next t S)) (phT t.next t S).S
def Fz (f:Nat) (t:TkL) (S:DiskL):phG (f+1) t S=(if(phT t.next t S).e≠0 then((dm (phT t.next t S)).e,(dm (phT t.next t S)).S)
  else if endT (nxT (phT t.next t S))=true then(0,(phT t.next t S).S)
  else phG f (gn (phT t.next t S)) (phT t.next t S).S):=rfl
def pw (k:Nat) (t:TkL) (S:DiskL): (phT k t S).t.dir=t.dir∧(phT k t S).t.name=t.name∧(phT k t S).t.data=t.data∧(phT k t S).t.light=t.light∧(phT k t S).t.next=t.next∧(phT k t S).t.ended=t.ended:=by
 unfold phT
 split
 ·unfold me;split<;>exact⟨rfl,rfl,rfl,rfl,rfl,rfl⟩
 ·exact⟨rfl,rfl,rfl,rfl,rfl,rfl⟩
 ·exact⟨rfl,rfl,rfl,rfl,rfl,rfl⟩
 ·unfold m9;split<;>exact⟨rfl,rfl,rfl,rfl,rfl,rfl⟩
 ·exact⟨rfl,rfl,rfl,rfl,rfl,rfl⟩
 unfold vg;split<;>exact⟨rfl,rfl,rfl,rfl,rfl,rfl⟩
def ry (k:Nat) (t:TkL) (S:DiskL): (gn (phT k t S)).dir=t.dir∧(gn (phT k t S)).name=t.name∧(gn (phT k t S)).data=t.data∧(gn (phT k t S)).light=t.light∧(gn (phT k t S)).next=t.next+1:=by
 obtain⟨h1,h2,h3,h4,h5,-⟩:=pw k t S
 exact⟨h1,h2,h3,h4,congrArg (· +1) h5⟩
def yx (r:PhR): (dm r).e=r.e∧(dm r).done=false:=by
 unfold dm
 split<;>exact⟨rfl,rfl⟩
theorem wq: ∀ (f:Nat) (t:TkL) (S:DiskL),f+t.next=6→0<f→
  ((fS f t S).e≠0∧phG f t S=((fS f t S).e,(fS f t S).S))∨
  ((fS f t S).e=0∧(fS f t S).done=true∧phG f t S=(0,(fS f t S).S))∨
  ((fS f t S).e=0∧(fS f t S).done=false∧(fS f t S).t.ended=false∧t.next< (fS f t S).t.next∧(fS f t S).t.next<6∧phG f t S=phG (6 - (fS f t S).t.next) (fS f t S).t (fS f t S).S)
 |0,_,_,_,h=>absurd h (Nat.lt_irrefl 0)
 |f+1,t,S,hf,_=>by
  obtain⟨-,-,-,-,hn,-⟩:=pw t.next t S
  have dh: (gn (phT t.next t S)).next=t.next+1:=(ry t.next t S).2.2.2.2
  have iV: (gn (phT t.next t S)).ended=endT (nxT (phT t.next t S)):=rfl
  unfold fS
  rw[Fz]
  by_cases he: (phT t.next t S).e≠0
  ·rw[if_pos he,if_pos he]
   exact .inl ⟨by rw[(yx _).1];exact he,rfl⟩
  rw[if_neg he,if_neg he]
  cases n_:endT (nxT (phT t.next t S)) with
  |true=>
   rw[if_neg (fun h=>by cases h.2),if_pos rfl]
   exact .inr (.inl ⟨rfl,rfl,rfl⟩)
  |false=>
   have aC:t.next+1<6:=by
    have h1: (nxT (phT t.next t S)).next=t.next+1:=congrArg (· +1) hn
    unfold endT at n_
    rw[h1] at n_
    simp only[Bool.or_eq_false_iff,beq_eq_false_iff_ne] at n_
    have:=n_.1
    omega
   rw[if_neg (show¬ (false=true) by simp)]
   by_cases hd: (phT t.next t S).did=false
   ·rw[if_pos ⟨hd,rfl⟩]
    have ih:=wq f (gn (phT t.next t S)) (phT t.next t S).S (by rw[dh];omega) oM
    rw[dh] at ih
    rcases ih with h|h| ⟨h1,h2,h3,h4,h5⟩
    ·exact .inl h
    ·exact .inr (.inl h)
    exact .inr (.inr ⟨h1,h2,h3,by omega,h5⟩)
   rw[if_neg fun h=>hd h.1]
   refine .inr (.inr ⟨rfl,rfl,iV.trans n_,by show t.next< (gn (phT t.next t S)).next;rw[dh];omega,by show(gn (phT t.next t S)).next<6;rw[dh];exact aC, ?_⟩)
   show phG f _ _=phG (6 - (gn (phT t.next t S)).next) _ _
   rw[dh,show 6 - (t.next+1)=f by omega]
theorem Fv: ∀ (n f:Nat) (t:TkL) (S:DiskL),6 - t.next≤n→t.next<6→t.ended=false→6 - t.next≤f→((runG f t S).1,(runG f t S).2.2)=phG (6 - t.next) t S
 |0,_,_,_,hn,hl,_,_=>by omega
 |n+1,0,_,_,_,hl,_,hf=>by omega
 |n+1,f+1,t,S,hn,hl,he,hf=>by
  have hs:fc t S=fS (6 - t.next) t S:=by unfold fc;rw[if_neg (by rw[he];simp)]
  unfold runG
  rw[hs]
  rcases wq (6 - t.next) t S oM oM with⟨h1,h2⟩ | ⟨h1,h2,h3⟩ | ⟨h1,h2,h3,h4,h5,h6⟩
  ·rw[if_pos (.inr h1),h2]
  ·rw[if_pos (.inl h2),h3,h1]
  rw[if_neg (by rw[h1,h2];simp),h6]
  exact Fv n f _ _ oM h5 h3 oM
def tk0 (dir name data:List UInt8) (light:Bool):TkL:=⟨dir,name,data,light,0,false,false⟩
def bN (S:DiskL) (dir name data:List UInt8) (light:Bool):Nat×DiskL:=phG 6 (tk0 dir name data light) S
def YE (S:DiskL) (dir name data:List UInt8) (light:Bool): ((runG 6 (tk0 dir name data light) S).1,(runG 6 (tk0 dir name data light) S).2.2)=bN S dir name data light:=Fv 6 6 (tk0 dir name data light) S (ap 6) (Nat.succ_pos 5) rfl (ap 6)
def tkO (t:TkL):Obj:= .cells #[vs t.dir,vs t.name,vs t.data, .bool t.light,vi (t.next:Int), .bool t.made, .bool t.ended] 321 (0,0)
def E7 (t:TkL) (n:Nat):aQ (some (false,n)) (some (tkO t)) 0=some (vs t.dir):=(rfl)
def ED (t:TkL) (n:Nat):aQ (some (false,n)) (some (tkO t)) 1=some (vs t.name):=(rfl)
def Dv (t:TkL) (n:Nat):aQ (some (false,n)) (some (tkO t)) 2=some (vs t.data):=(rfl)
def Dr (t:TkL) (n:Nat):aQ (some (false,n)) (some (tkO t)) 3=some (.bool t.light):=(rfl)
def E5 (t:TkL) (n:Nat):aQ (some (false,n)) (some (tkO t)) 4=some (vi (t.next:Int)):=(rfl)
def Dq (t:TkL) (n:Nat):aQ (some (false,n)) (some (tkO t)) 5=some (.bool t.made):=(rfl)
def EI (t:TkL) (n:Nat):aQ (some (false,n)) (some (tkO t)) 6=some (.bool t.ended):=(rfl)
def CN (t:TkL) (x:Nat) (a:Bool):aw (some (a,1)) (some (tkO t)) 4 (vi (x:Int))=some (tkO {t with next:=x}):=k9 [vs t.dir,vs t.name,vs t.data, .bool t.light] [vi (t.next:Int)] [vi (x:Int)] [.bool t.made, .bool t.ended] a _ 321 rfl rfl rfl rfl rfl
def UI (t:TkL) (x:Bool) (a:Bool):aw (some (a,1)) (some (tkO t)) 5 (.bool x)=some (tkO {t with made:=x}):=k9 [vs t.dir,vs t.name,vs t.data, .bool t.light,vi (t.next:Int)] [.bool t.made] [.bool x] [.bool t.ended] a _ 321 rfl rfl rfl rfl rfl
def Ka (t:TkL) (x:Bool) (a:Bool):aw (some (a,1)) (some (tkO t)) 6 (.bool x)=some (tkO {t with ended:=x}):=k9 [vs t.dir,vs t.name,vs t.data, .bool t.light,vi (t.next:Int), .bool t.made] [.bool t.ended] [.bool x] [] a _ 321 rfl rfl rfl rfl rfl
structure TkB (t:TkL):Prop where
 name:t.name.length≤900000
 data:t.data.length≤1000000
def yu {t:TkL} (h:TkB t): (aF t.name).length≤900004:=by
 unfold aF
 rw[List.length_append]
 have:=h.name
 simp
 omega
def DkA.step {X X':aB} {G G':DkG} {S S':DiskL} {N:Nat} {kind:Int} {dir name s:List UInt8} {e:Nat} (h:DkA X G S N) (hP:DkP X' G' S') (bL:StepD S kind dir name s S' e) (hn:name.length≤1000000) (hs:s.length≤1000000):DkA X' G' S' (N+1):=⟨hP,ym h.H bL,Vp h.B hn hs bL⟩
def DkA.up {X:aB} {G:DkG} {S:DiskL} {N:Nat} (h:DkA X G S N):DkA X G S (N+1):=⟨h.P,h.H,h.B.mono (Nat.le_succ N)⟩
def PhS (G:DkG) (bt:Nat) (r:PhR) (N:Nat) (v:Value) (D:aB):Prop:=v= .tuple #[.bool r.did,vi (r.e:Nat)]∧ ∃X' G',(X'++ [(bt,tkO r.t)]).Perm D∧G'.bd=G.bd∧DkA X' G' r.S N
def axM_ (b o:Nat):ab prog .eql 270 (vp b o) (.pointer none)=some (.bool false):=by
 simp[ab,eqX,eN,eA,underlying270,vp]
def n9 {X:aB} {bt:Nat} {t:TkL} (hn: (keys (X++ [(bt,tkO t)])).Nodup):bt∉keys X∧ ∀X' o,bt∉keys X'→ ∀w,aT w (X'++ [(bt,o)]) bt=some o:=by
 rw[ae,List.nodup_append] at hn
 refine⟨fun hm=>hn.2.2 bt hm bt (by simp[keys]) rfl,fun X' o h w=>ac (@KZ _ [] _ _ h)⟩
def dQ:=aN (aN (aN @bB (aN @bA @E7)) (aN (aN @ED @Dv) (aN @Dr @E5))) (aN (aN @Dq (aN @EI @CN)) (aN (aN @UI @Ka) (aN @Sx.tup2_0 @Sx.tup2_1)))
def Qx (X:aB) (G:DkG) (S:DiskL) (N bt:Nat) (t:TkL) (w:World) (hX: ∀p,p∈X++ [(bt,tkO t)]→w.heap[p.1]? =some p.2) (hn: (keys (X++ [(bt,tkO t)])).Nodup) (hA:DkA X G S N) (hN:N<900000) (hB:TkB t):
  Rets prog 273 #[vp bt 0,vp G.bd 0] w (XS w (X++ [(bt,tkO t)]) (PhS G bt (me t S) (N+1))):=by
 refine Rets.enterX func273 rfl (rs:= [.tmp 4, .tmp 5]) results273 ntmps273 hX hn ?_
 refine kf ?_
 have g_:=(n9 hn).1
 have rdt:=(n9 hn).2 X (tkO t) g_ w
 have bI:=yu hB
 have ao:t.name.length≤900000:=hB.name
 have i4:=hB.data
 have l8:=hA.pend oM
 have zw:=hA.used oM
 unfold me
 refine ky @dQ ?_
 refine Cw.regionO [0,1,2,3,5,6,7,4,8,9,10,11,12,13,14,15] [] rfl kR kR ?_
 simp only[bF, ↓bE, ↓ay, ↓bD, ↓bC,az]
 refine kq (aN @dQ @rdt) ?_
 refine Ow.callFV rfl call94 (fun w' aA=>BB w' G S t.dir (aF t.name) ⟨X,fun b o hb=>aA.has b o (bl _ (cu hb)),hA.P⟩ oM) ?_
 refine kq @dQ ?_
 by_cases h0: (ci S t.dir (aF t.name)).2≠0
 ·have e1:=oO h0
  rw[if_pos h0]
  refine ky (aN @dQ @e1) ?_
  refine⟨_,(ke @dQ), ?_⟩
  exact⟨Ext.refl w _,rfl,X,G,List.Perm.refl _,rfl,hA.up⟩
 have h0': (ci S t.dir (aF t.name)).2=0:=by simpa using h0
 have e1: (((ci S t.dir (aF t.name)).2:Int) !=0)=false:=by rw[h0'];rfl
 rw[if_neg h0]
 refine ky (aN @dQ @e1) ?_
 refine Cw.regionO [0,1,2,3,5,6,7,4,8,9,10,11,12] [10] rfl kR kR ?_
 simp only[bF, ↓bE, ↓ay, ↓bD, ↓bC,az]
 refine kq (aN @dQ @rdt) ?_
 refine Ow.callX (X:=X) (Y:= [(bt,tkO t)]) rfl rfl rfl call240 (fun w' aA aj ad=>Kl_ X G S t.dir (aF t.name) w' aj ad hA.P oM l8) (fun v4 D4 dc bQ=> ?_)
 obtain⟨rfl,G',dw,nx⟩:=bQ
 refine kq @dQ ?_
 refine ky @dQ ?_
 refine⟨_,(ke @dQ), ?_⟩
 exact⟨(Ext.refl w _).came dc,rfl,D4,G',List.Perm.refl _,dw,hA.step nx (qv S _ _ []) oM (aq _)⟩
def NP (X:aB) (G:DkG) (S:DiskL) (N bt:Nat) (t:TkL) (w:World) (hX: ∀p,p∈X++ [(bt,tkO t)]→w.heap[p.1]? =some p.2) (hn: (keys (X++ [(bt,tkO t)])).Nodup) (hA:DkA X G S N) (hN:N<900000) (hB:TkB t):
  Rets prog 274 #[vp bt 0,vp G.bd 0] w (XS w (X++ [(bt,tkO t)]) (PhS G bt (Ad t S) (N+1))):=by
 refine Rets.enterX func274 rfl (rs:= [.tmp 4, .tmp 5]) results274 ntmps274 hX hn ?_
 refine kf ?_
 have g_:=(n9 hn).1
 have rdt:=(n9 hn).2 X (tkO t) g_ w
 have bI:=yu hB
 have ao:t.name.length≤900000:=hB.name
 have i4:=hB.data
 have l8:=hA.pend oM
 have zw:=hA.used oM
 unfold Ad
 refine kz [2] @dQ ?_
 refine Cw.regionO [0,1,2,3,5,6,7,4,8,9,10,11] [10] rfl kR kR ?_
 simp only[bF, ↓bE, ↓ay, ↓bD, ↓bC,az]
 refine kq (aN @dQ @rdt) ?_
 refine Ow.callX (X:=X) (Y:= [(bt,tkO t)]) rfl rfl rfl call306 (fun w' aA aj ad=>Ni X G S t.dir (aF t.name) w' aj ad hA.P oM l8) (fun v4 D4 dc bQ=> ?_)
 obtain⟨rfl,G',dw,nx⟩:=bQ
 refine kq @dQ ?_
 refine Cw.permL (M:=(bt,tkO t)::D4) pM ?_
 have zW:=hA.step nx (ID S _ _ []) oM (aq _)
 have hE:=(Ext.refl w (X++ [(bt,tkO t)])).came dc
 generalize cv S t.dir (aF t.name)=q at*
 obtain⟨S',e⟩:=q
 simp only at zW ⊢
 have hi: ((e:Int)==0)=(e==0):=by
  cases e with
  |zero=>rfl
  |succ n=>rfl
 refine ky (aN @dQ @hi) ?_
 refine⟨_,(ke @dQ), ?_⟩
 exact⟨(hE.perm (List.perm_append_comm (l₁:= [(bt,tkO t)]) (l₂:=D4))).keys rfl,rfl,D4,G',List.perm_append_comm (l₁:=D4) (l₂:= [_]),dw,zW⟩
def NS (X:aB) (G:DkG) (S:DiskL) (N bt:Nat) (t:TkL) (w:World) (hX: ∀p,p∈X++ [(bt,tkO t)]→w.heap[p.1]? =some p.2) (hn: (keys (X++ [(bt,tkO t)])).Nodup) (hA:DkA X G S N) (hN:N<900000) (hB:TkB t):
  Rets prog 275 #[vp bt 0,vp G.bd 0] w (XS w (X++ [(bt,tkO t)]) (PhS G bt (x5 t S) (N+1))):=by
 refine Rets.enterX func275 rfl (rs:= [.tmp 4, .tmp 5]) results275 ntmps275 hX hn ?_
 refine kf ?_
 have g_:=(n9 hn).1
 have rdt:=(n9 hn).2 X (tkO t) g_ w
 have bI:=yu hB
 have ao:t.name.length≤900000:=hB.name
 have i4:=hB.data
 have l8:=hA.pend oM
 have zw:=hA.used oM
 unfold x5
 refine ky @dQ ?_
 refine Cw.regionO [0,1,2,3,5,6,7,10,11,12,4,8,9,13,14,15,16] [14] rfl kR kR ?_
 simp only[bF, ↓bE, ↓ay, ↓bD, ↓bC,az]
 refine kq (aN @dQ @rdt) ?_
 refine Ow.callX (X:=X) (Y:= [(bt,tkO t)]) rfl rfl rfl call84 (fun w' aA aj ad=>X9_ X G S t.dir (aF t.name) t.data w' aj ad hA.P oM oM zw) (fun v4 D4 dc bQ=> ?_)
 obtain⟨rfl,nx⟩:=bQ
 refine kq @dQ ?_
 refine ky @dQ ?_
 refine⟨_,(ke @dQ), ?_⟩
 exact⟨(Ext.refl w _).came dc,rfl,D4,G,List.Perm.refl _,rfl,hA.step nx (A0 S _ _ _) oM oM⟩
def Pe (X:aB) (G:DkG) (S:DiskL) (N bt:Nat) (t:TkL) (w:World) (hX: ∀p,p∈X++ [(bt,tkO t)]→w.heap[p.1]? =some p.2) (hn: (keys (X++ [(bt,tkO t)])).Nodup) (hA:DkA X G S N) (hN:N<900000) (hB:TkB t):
  Rets prog 276 #[vp bt 0,vp G.bd 0] w (XS w (X++ [(bt,tkO t)]) (PhS G bt (m9 t S) (N+1))):=by
 refine Rets.enterX func276 rfl (rs:= [.tmp 4, .tmp 5]) results276 ntmps276 hX hn ?_
 refine kf ?_
 have g_:=(n9 hn).1
 have rdt:=(n9 hn).2 X (tkO t) g_ w
 have bI:=yu hB
 have ao:t.name.length≤900000:=hB.name
 have i4:=hB.data
 have l8:=hA.pend oM
 have zw:=hA.used oM
 unfold m9
 by_cases hl:t.light=true
 ·rw[if_pos hl]
  refine ky (aN @dQ (aN @rdt @hl)) ?_
  refine⟨_,(ke @dQ), ?_⟩
  exact⟨Ext.refl w _,rfl,X,G,List.Perm.refl _,rfl,hA.up⟩
 rw[if_neg hl]
 have lS:t.light=false:=by simpa using hl
 refine ky (aN @dQ (aN @rdt (@lS))) ?_
 refine Cw.regionO [0,1,2,3,5,6,7,4,8,9,10,11,12] [10] rfl kR kR ?_
 simp only[bF, ↓bE, ↓ay, ↓bD, ↓bC,az]
 refine kq (aN @dQ @rdt) ?_
 refine Ow.callX (X:=X) (Y:= [(bt,tkO t)]) rfl rfl rfl call85 (fun w' aA aj ad=>BJ X G S t.dir (aF t.name) w' aj ad hA.P oM) (fun v4 D4 dc bQ=> ?_)
 obtain⟨rfl,nx⟩:=bQ
 refine kq @dQ ?_
 refine ky @dQ ?_
 refine⟨_,(ke @dQ), ?_⟩
 exact⟨(Ext.refl w _).came dc,rfl,D4,G,List.Perm.refl _,rfl,hA.step nx (vQ S _ _ []) oM (aq _)⟩
def Mn (X:aB) (G:DkG) (S:DiskL) (N bt:Nat) (t:TkL) (w:World) (hX: ∀p,p∈X++ [(bt,tkO t)]→w.heap[p.1]? =some p.2) (hn: (keys (X++ [(bt,tkO t)])).Nodup) (hA:DkA X G S N) (hN:N<900000) (hB:TkB t):
  Rets prog 278 #[vp bt 0,vp G.bd 0] w (XS w (X++ [(bt,tkO t)]) (PhS G bt (vg t S) (N+1))):=by
 refine Rets.enterX func278 rfl (rs:= [.tmp 4, .tmp 5]) results278 ntmps278 hX hn ?_
 refine kf ?_
 have g_:=(n9 hn).1
 have rdt:=(n9 hn).2 X (tkO t) g_ w
 have bI:=yu hB
 have ao:t.name.length≤900000:=hB.name
 have i4:=hB.data
 have l8:=hA.pend oM
 have zw:=hA.used oM
 unfold vg
 by_cases hl:t.light=true
 ·rw[if_pos hl]
  refine ky (aN @dQ (aN @rdt @hl)) ?_
  refine⟨_,(ke @dQ), ?_⟩
  exact⟨Ext.refl w _,rfl,X,G,List.Perm.refl _,rfl,hA.up⟩
 rw[if_neg hl]
 have lS:t.light=false:=by simpa using hl
 refine ky (aN @dQ (aN @rdt (@lS))) ?_
 refine kq (aN @dQ @rdt) ?_
 refine Ow.callX (X:=X) (Y:= [(bt,tkO t)]) rfl rfl rfl call308 (fun w' aA aj ad=>M_ X G S t.dir w' aj ad hA.P) (fun v4 D4 dc bQ=> ?_)
 obtain⟨rfl,G',dw,nx⟩:=bQ
 refine kq @dQ ?_
 refine ky @dQ ?_
 refine⟨_,(ke @dQ), ?_⟩
 exact⟨(Ext.refl w _).came dc,rfl,D4,G',List.Perm.refl _,dw,hA.step nx (X5_ S _ [] []) (aq _) (aq _)⟩
def N2 (X:aB) (G:DkG) (S:DiskL) (N bt:Nat) (t:TkL) (w:World) (hX: ∀p,p∈X++ [(bt,tkO t)]→w.heap[p.1]? =some p.2) (hn: (keys (X++ [(bt,tkO t)])).Nodup) (hA:DkA X G S N) (hN:N<900000) (hB:TkB t):
  Rets prog 277 #[vp bt 0,vp G.bd 0] w (XS w (X++ [(bt,tkO t)]) (PhS G bt (wc t S) (N+1))):=by
 refine Rets.enterX func277 rfl (rs:= [.tmp 4, .tmp 5]) results277 ntmps277 hX hn ?_
 refine kf ?_
 have g_:=(n9 hn).1
 have rdt:=(n9 hn).2 X (tkO t) g_ w
 have bI:=yu hB
 have ao:t.name.length≤900000:=hB.name
 have i4:=hB.data
 have l8:=hA.pend oM
 have zw:=hA.used oM
 unfold wc
 refine kz [2] @dQ ?_
 refine Cw.regionO [0,1,2,3,5,6,7,10,11,12,4,8,9,13,14,15] [14] rfl kR kR ?_
 simp only[bF, ↓bE, ↓ay, ↓bD, ↓bC,az]
 refine kq (aN @dQ @rdt) ?_
 refine Ow.callX (X:=X) (Y:= [(bt,tkO t)]) rfl rfl rfl call307 (fun w' aA aj ad=>O2 X G S t.dir (aF t.name) t.name w' aj ad hA.P oM oM l8) (fun v4 D4 dc bQ=> ?_)
 obtain⟨rfl,G',dw,nx⟩:=bQ
 refine kq @dQ ?_
 refine Cw.permL (M:=(bt,tkO t)::D4) pM ?_
 have zW:=hA.step nx (IF S _ _ _) oM oM
 have hE:=(Ext.refl w (X++ [(bt,tkO t)])).came dc
 generalize dU S t.dir (aF t.name) t.name=q at*
 obtain⟨S',e⟩:=q
 simp only at zW ⊢
 have hi: ((e:Int) !=0)=(e !=0):=by
  cases e with
  |zero=>rfl
  |succ n=>rfl
 cases hm:t.made with
 |true=>
  rw[Bool.true_and]
  refine ky (aN @dQ (aN @hi @hm)) ?_
  refine⟨_,(ke @dQ), ?_⟩
  exact⟨(hE.perm (List.perm_append_comm (l₁:= [(bt,tkO t)]) (l₂:=D4))).keys rfl,rfl,D4,G',List.perm_append_comm (l₁:=D4) (l₂:= [_]),dw,zW⟩
 |false=>
  rw[Bool.false_and]
  refine ky (aN @dQ (aN @hi @hm)) ?_
  refine⟨_,(ke @dQ), ?_⟩
  exact⟨(hE.perm (List.perm_append_comm (l₁:= [(bt,tkO t)]) (l₂:=D4))).keys rfl,rfl,D4,G',List.perm_append_comm (l₁:=D4) (l₂:= [_]),dw,zW⟩
def phF (n:Nat):FuncId:=match n with
 |0=>273
 |1=>274
 |2=>275
 |3=>276
 |4=>277
 |_=>278
def stV:List Value:= [.func (.func (phF 0)) #[] #[], .func (.func (phF 1)) #[] #[], .func (.func (phF 2)) #[] #[], .func (.func (phF 3)) #[] #[], .func (.func (phF 4)) #[] #[], .func (.func (phF 5)) #[] #[]]
def stO:Obj:= .cells stV.toArray 348 (0,0)
def Yn (n m:Nat) (h:n<6):aQ (some (false,m)) (some stO) n=some (.func (.func (phF n)) #[] #[]):=by
 rcases(by omega:n=0∨n=1∨n=2∨n=3∨n=4∨n=5) with rfl|rfl|rfl|rfl|rfl|rfl<;>rfl
def XL (n:Nat) (h:n<6) (X:aB) (G:DkG) (S:DiskL) (N bt:Nat) (t:TkL) (w:World) (hX: ∀p,p∈X++ [(bt,tkO t)]→w.heap[p.1]? =some p.2) (hn: (keys (X++ [(bt,tkO t)])).Nodup) (hA:DkA X G S N) (hN:N<900000) (hB:TkB t):
  Rets prog (phF n) #[vp bt 0,vp G.bd 0] w (XS w (X++ [(bt,tkO t)]) (PhS G bt (phT n t S) (N+1))):=by
 rcases(by omega:n=0∨n=1∨n=2∨n=3∨n=4∨n=5) with rfl|rfl|rfl|rfl|rfl|rfl
 ·exact Qx X G S N bt t w hX hn hA hN hB
 ·exact NP X G S N bt t w hX hn hA hN hB
 ·exact NS X G S N bt t w hX hn hA hN hB
 ·exact Pe X G S N bt t w hX hn hA hN hB
 ·exact N2 X G S N bt t w hX hn hA hN hB
 exact Mn X G S N bt t w hX hn hA hN hB
def Y9 (n:Nat) (h:n<6): ∀a w,(callFunc (phF n) a).run prog w= .ok (.enter (phF n) a) w:=by
 rcases(by omega:n=0∨n=1∨n=2∨n=3∨n=4∨n=5) with rfl|rfl|rfl|rfl|rfl|rfl
 ·exact call273
 ·exact call274
 ·exact call275
 ·exact call276
 ·exact call277
 exact call278
def N3 (bt:Nat) (t:TkL) (w:World) (hX:w.heap[bt]? =some (tkO t)):Rets prog 238 #[vp bt 0] w (fun v D=>v= .bool t.ended∧D= []):=by
 have bI:=axM_ bt 0
 refine Rets.enterV func238 rfl (rs:= [.tmp 2]) results238 ntmps238 ?_
 refine kf ?_
 refine ky (aN @hX @bI) ?_
 refine⟨_,(ke @Nat.add_zero),trivial, ?_⟩
 rfl
def VM:fI (d8 prog 348) (au prog 348) [(0, .func (.func (phF 0)) #[] #[]),(1, .func (.func (phF 1)) #[] #[]),(2, .func (.func (phF 2)) #[] #[]),(3, .func (.func (phF 3)) #[] #[]),(4, .func (.func (phF 4)) #[] #[]),(5, .func (.func (phF 5)) #[] #[])]=some (.agg stV.toArray):=by
 rw[show d8 prog 348=some [(0,1),(1,1),(2,1),(3,1),(4,1),(5,1)] from id kR,zr348];rfl
def KK:aw (some (true,6)) (some (.cells #[.nilFunc, .nilFunc, .nilFunc, .nilFunc, .nilFunc, .nilFunc] 348 (0,0))) 0 (.agg stV.toArray)=some stO:=(rfl)
def R6 (w:World):Rets prog 239 #[] w (fun v D=>v= .agg stV.toArray∧D= []):=by
 refine Rets.enterV func239 rfl (rs:= [.cell 0 348]) results239 ntmps239 ?_
 refine kf ?_
 refine ky @Nat.add_zero ?_
 refine Ow.alloc rfl rfl zr348 fun b1 aO aP=> ?_
 refine ko @Nat.add_zero ?_
 refine Ow.build (.agg stV.toArray) rfl VM ?_
 refine ko @KK ?_
 refine ky @KK ?_
 refine⟨_,(ke @Nat.add_zero),⟨aP,trivial⟩, ?_⟩
 rfl
def dv:=aN (aN (aN @bB @bA) (aN @E7 (aN @ED @Dv))) (aN (aN @Dr (aN @E5 @Dq)) (aN @EI (aN @Sx.tup2_0 @Sx.tup2_1)))
def ibeq (n k:Nat): ((n:Int)==(k:Int))=(n==k):=by
 rw[Bool.eq_iff_iff,beq_iff_eq,beq_iff_eq]
 omega
structure SG where
 lab:Nat
 did:Bool
 e:Nat
 t:TkL
 S:DiskL
 G:DkG
 X:aB
 b8:Nat
 c:Nat
def SJ (w:World) (L0:aB) (n bd bt N:Nat) (R:StR) (g:SG):Prop:=
 Ext w L0 ((bt,tkO g.t):: (g.b8,stO)::g.X)∧(keys ((bt,tkO g.t):: (g.b8,stO)::g.X)).Nodup∧n≤g.b8∧g.G.bd=bd∧DkA g.X g.G g.S (N+g.c)∧TkB g.t∧
 ((g.lab=0∧g.c+ (6 - g.t.next)≤6∧g.t.next<6∧fS (6 - g.t.next) g.t g.S=R)∨
 (g.lab=1∧g.c≤6∧ ∃r:PhR,g.t=nxT r∧g.S=r.S∧g.e=r.e∧dm r=R))
def SL (g:SG):Nat:=match g.lab with
 |0=>0
 |_=>1
def SL0 (a b c d e f g h):SL ⟨0,a,b,c,d,e,f,g,h⟩=0:=rfl
def SS (g:SG):List (Nat×Value):= [(6, .bool g.did),(7,vi (g.e:Nat)),(8,vp g.b8 0)]
def SH (bt:Nat) (g:SG):aB:=(bt,tkO g.t):: (g.b8,stO)::g.X
def StS (G:DkG) (bt:Nat) (R:StR) (N:Nat) (v:Value) (D:aB):Prop:=v= .tuple #[.bool R.done,vi (R.e:Nat)]∧ ∃X' G',(X'++ [(bt,tkO R.t)]).Perm D∧G'.bd=G.bd∧DkA X' G' R.S N
set_option maxHeartbeats 12000000 in
def So (X:aB) (G:DkG) (S:DiskL) (N bt:Nat) (t:TkL) (w:World) (hX: ∀p,p∈X++ [(bt,tkO t)]→w.heap[p.1]? =some p.2) (hn: (keys (X++ [(bt,tkO t)])).Nodup) (hA:DkA X G S N) (hN:N<800000) (hB:TkB t) (aU:t.ended=false→t.next<6):
  Rets prog 210 #[vp bt 0,vp G.bd 0] w (XS w (X++ [(bt,tkO t)]) (StS G bt (fc t S) (N+7))):=by
 refine Rets.enterX func210 rfl (rs:= [.tmp 4, .tmp 5]) results210 ntmps210 hX hn ?_
 refine kf ?_
 have g_:=(n9 hn).1
 have rdt:=(n9 hn).2 X (tkO t) g_ w
 unfold fc
 refine ky @dv ?_
 refine Cw.scopeL (G:=SG) (fun g=>SL g) [9,10,4,5,6,7,11,8,13,14,15,16,17,18,19,20,21,12,22,23,24,25,26,27,28,29,30,31,32,33,34,35,36,37,38,39,40,41,42,43,44,45,46,47,48,49,50,51,52,53,54,55,56,57,58,59,60,61,62,63,64,65,66,67,68,69,70,71,72,73,74,75,76,77,78,79,80,81,82,83,84,85,86,87,88,89] (fun g=>SS g) (fun g=>SH bt g) (fun g=>SJ w (X++ [(bt,tkO t)]) w.heap.size G.bd bt N (if t.ended=true then⟨false,15,t,S⟩ else fS (6 - t.next) t S) g) (fun g=>(if g.lab=0 then 6 - g.t.next+1 else 0)) ?_ ?_ ?_
 ·intro g
  unfold SL
  split<;>rfl
 ·intro g j hg
  obtain⟨lab,did,e,t1,S1,G1,X1,b8,c⟩:=g
  obtain⟨hE,ao,iu,dw,eF,dV,hg⟩:=hg
  simp only at hE ao iu dw eF dV hg
  rcases hg with⟨rfl,hc,dO,hR⟩ | ⟨rfl,hc,r,rfl,rfl,rfl,hR⟩
  ·simp only[SL,SS,SH]
   simp only[jU,gv,Bool.or_false,Bool.false_or,Bool.or_true,Bool.true_or,Nat.reduceBEq,beq_self_eq_true, ↓reduceIte,Bool.false_eq_true]
   refine kv ?_
   try with_reducible refine z6 ?_
   have hk:=ao
   simp only[keys,List.map_cons,List.nodup_cons,List.mem_cons,not_or] at hk
   have gA:bt≠b8:=hk.1.1
   have aO:bt∉keys X1:=hk.1.2
   have al:b8∉keys X1:=hk.2.1
   have rd8: ∀o w,aT w ((bt,o):: (b8,stO)::X1) b8=some stO:=fun o w=>ac (by simp[Sx.look,gA])
   have zi: ∀m,nC (.arr 6 m) (vp b8 0) (some (t1.next:Int))=some (vp b8 (t1.next*m.2)):=fun m=>by
    rw[Jw_ _ _ _ _ _ ⟨by omega,by omega⟩];simp
   have mK: ∀m,aQ (some (false,m)) (some stO) t1.next=some (.func (.func (phF t1.next)) #[] #[]):=fun m=>Yn _ m dO
   refine ky (aN @dv (aN @rd8 (aN @zi @mK))) ?_
   refine Ow.permL (M:=(X1++ [(bt,tkO t1)])++ [(b8,stO)]) pM ?_
   refine Ow.callFnX2 (X:=X1++ [(bt,tkO t1)]) (Y:= [(b8,stO)]) (b:=vp bt 0) (b2:=vp G.bd 0) rfl rfl rfl rfl rfl rfl (Y9 t1.next dO) (fun w' aA aj ad=>by rw[←dw];exact XL t1.next dO X1 G1 S1 (N+c) bt t1 w' aj ad eF oM dV) (fun v4 D4 dc bQ=> ?_)
   obtain⟨rfl,X2,G2,gS,ew,dG⟩:=bQ
   obtain⟨lU,jL,o8,yQ,yR,rV⟩:=pw t1.next t1 S1
   have cZ:TkB (phT t1.next t1 S1).t:=⟨by rw[jL];exact dV.name,by rw[o8];exact dV.data⟩
   have hBn:TkB (nxT (phT t1.next t1 S1)):=⟨cZ.name,cZ.data⟩
   have hBf:TkB (gn (phT t1.next t1 S1)):=⟨cZ.name,cZ.data⟩
   obtain⟨q,hq⟩: ∃q,6 - t1.next=q+1:=⟨5 - t1.next,by omega⟩
   rw[hq] at hR
   replace hR: (if(phT t1.next t1 S1).e≠0 then dm (phT t1.next t1 S1)
    else if(phT t1.next t1 S1).did=false∧endT (nxT (phT t1.next t1 S1))=false then fS q (gn (phT t1.next t1 S1)) (phT t1.next t1 S1).S
    else⟨endT (nxT (phT t1.next t1 S1)),0,gn (phT t1.next t1 S1),(phT t1.next t1 S1).S⟩)=_:=hR
   generalize phT t1.next t1 S1=r at*
   have hp3: ((bt,tkO r.t):: (b8,stO)::X2).Perm (D4++ [(b8,stO)]):=(by simpa using(List.perm_append_comm (l₁:= [(bt,tkO r.t),(b8,stO)]) (l₂:=X2)): ((bt,tkO r.t):: (b8,stO)::X2).Perm (X2++ [(bt,tkO r.t),(b8,stO)])).trans (by simpa using gS.append_right [(b8,stO)])
   have bq:Ext w (X++ [(bt,tkO t)]) ((X1++ [(bt,tkO t1)])++ [(b8,stO)]):=hE.perm pM
   have bw:Ext w (X++ [(bt,tkO t)]) ((bt,tkO r.t):: (b8,stO)::X2):=(Ext.came bq dc).perm hp3
   refine Ow.permL hp3 ?_
   refine Ow.world fun w9 jN=> ?_
   have yF: (keys ((bt,tkO r.t):: (b8,stO)::X2)).Nodup:=jN.nodup
   have f_: ∀a,aw (some (a,1)) (some (tkO r.t)) 4 (vi ((r.t.next:Int)+1))=some (tkO (nxT r)):=fun a=>CN r.t (r.t.next+1) a
   have hnx2:r.t.next<6:=by omega
   have fU:DkA (X2++ [(b8,stO)]) G2 r.S (N+7):=⟨dG.P.mono (X':=X2++ [(b8,stO)]) fun b o h=>bZ h,dG.H,dG.B.mono oM⟩
   refine ko @dv ?_
   by_cases he:r.e=0
   ·have e0: ((r.e:Int) !=0)=false:=by rw[he];rfl
    rw[if_neg (fun h=>h he)] at hR
    have gT: ∀a,aw (some (a,1)) (some (tkO (nxT r))) 6 (.bool (endT (nxT r)))=some (tkO (gn r)):=fun a=>Ka (nxT r) _ a
    have iV: (gn r).ended=endT (nxT r):=rfl
    have n_:endT (nxT r)=((nxT r).next==6|| ((nxT r).light&& (nxT r).next==5)):=rfl
    have i6: (((nxT r).next:Int)==6)=((nxT r).next==6):=ibeq _ 6
    have i5: (((nxT r).next:Int)==5)=((nxT r).next==5):=ibeq _ 5
    cases c6: ((nxT r).next==6) with
    |true=>
     have h9:endT (nxT r)=true:=by rw[n_,c6];rfl
     rw[c6] at i6
     rw[h9] at gT iV hR
     rw[if_neg (fun h=>by cases h.2)] at hR
     cases hd:r.did with
     |true=>
      refine ky (aN @dv (aN @f_ (aN @e0 (aN @gT (aN @i6 @iV))))) ?_
      refine⟨_,(ke @dv), ?_⟩
      rw[←hR]
      exact⟨bw.keys rfl,rfl,X2++ [(b8,stO)],G2,pM,ew.trans dw,fU⟩
     |false=>
      refine ky (aN @dv (aN @f_ (aN @e0 (aN @gT (aN @i6 @iV))))) ?_
      refine⟨_,(ke @dv), ?_⟩
      rw[←hR]
      exact⟨bw.keys rfl,rfl,X2++ [(b8,stO)],G2,pM,ew.trans dw,fU⟩
    |false=>
     have Jq:r.t.next+1≠6:=beq_eq_false_iff_ne.1 c6
     rw[c6] at i6
     cases cl: (nxT r).light with
     |false=>
      have h9:endT (nxT r)=false:=by rw[n_,c6,cl];rfl
      rw[h9] at gT iV hR
      cases hd:r.did with
      |true=>
       rw[hd,if_neg (fun h=>by cases h.1)] at hR
       refine ky (aN @dv (aN @f_ (aN @e0 (aN @gT (aN @i6 (aN @cl @iV)))))) ?_
       refine⟨_,(ke @dv), ?_⟩
       rw[←hR]
       exact⟨bw.keys rfl,rfl,X2++ [(b8,stO)],G2,pM,ew.trans dw,fU⟩
      |false=>
       rw[hd,if_pos ⟨rfl,rfl⟩] at hR
       refine ky (aN @dv (aN @f_ (aN @e0 (aN @gT (aN @i6 (aN @cl @iV)))))) ?_
       exact Jump.mk ⟨0,false,r.e,gn r,r.S,G2,X2,b8,c+1⟩ rfl (by show 6 - (r.t.next+1)+1<6 - t1.next+1;omega) ⟨bw.keys rfl,yF,iu,ew.trans dw,dG,hBf, .inl ⟨rfl,by show c+1+ (6 - (r.t.next+1))≤6;omega,by show r.t.next+1<6;omega,by show fS (6 - (r.t.next+1)) _ _=_;rw[show 6 - (r.t.next+1)=q by omega];exact hR⟩⟩ rfl rfl
     |true=>
      cases c5: ((nxT r).next==5) with
      |true=>
       have h9:endT (nxT r)=true:=by rw[n_,c6,cl,c5];rfl
       rw[c5] at i5
       rw[h9] at gT iV hR
       rw[if_neg (fun h=>by cases h.2)] at hR
       cases hd:r.did with
       |true=>
        refine ky (aN @dv (aN @f_ (aN @e0 (aN @gT (aN @i6 (aN @i5 (aN @cl @iV))))))) ?_
        refine⟨_,(ke @dv), ?_⟩
        rw[←hR]
        exact⟨bw.keys rfl,rfl,X2++ [(b8,stO)],G2,pM,ew.trans dw,fU⟩
       |false=>
        refine ky (aN @dv (aN @f_ (aN @e0 (aN @gT (aN @i6 (aN @i5 (aN @cl @iV))))))) ?_
        refine⟨_,(ke @dv), ?_⟩
        rw[←hR]
        exact⟨bw.keys rfl,rfl,X2++ [(b8,stO)],G2,pM,ew.trans dw,fU⟩
      |false=>
       have h9:endT (nxT r)=false:=by rw[n_,c6,cl,c5];rfl
       rw[c5] at i5
       rw[h9] at gT iV hR
       cases hd:r.did with
       |true=>
        rw[hd,if_neg (fun h=>by cases h.1)] at hR
        refine ky (aN @dv (aN @f_ (aN @e0 (aN @gT (aN @i6 (aN @i5 (aN @cl @iV))))))) ?_
        refine⟨_,(ke @dv), ?_⟩
        rw[←hR]
        exact⟨bw.keys rfl,rfl,X2++ [(b8,stO)],G2,pM,ew.trans dw,fU⟩
       |false=>
        rw[hd,if_pos ⟨rfl,rfl⟩] at hR
        refine ky (aN @dv (aN @f_ (aN @e0 (aN @gT (aN @i6 (aN @i5 (aN @cl @iV))))))) ?_
        exact Jump.mk ⟨0,false,r.e,gn r,r.S,G2,X2,b8,c+1⟩ rfl (by show 6 - (r.t.next+1)+1<6 - t1.next+1;omega) ⟨bw.keys rfl,yF,iu,ew.trans dw,dG,hBf, .inl ⟨rfl,by show c+1+ (6 - (r.t.next+1))≤6;omega,by show r.t.next+1<6;omega,by show fS (6 - (r.t.next+1)) _ _=_;rw[show 6 - (r.t.next+1)=q by omega];exact hR⟩⟩ rfl rfl
   have e0: ((r.e:Int) !=0)=true:=by
    rw[bne_iff_ne];omega
   rw[if_pos he] at hR
   refine ky (aN @dv (aN @f_ @e0)) ?_
   exact Jump.mk ⟨1,r.did,r.e,nxT r,r.S,G2,X2,b8,c+1⟩ rfl (by show 0<6 - t1.next+1;omega) ⟨bw.keys rfl,yF,iu,ew.trans dw,dG,hBn, .inr ⟨rfl,by show c+1≤6;omega,r,rfl,rfl,rfl,hR⟩⟩ rfl rfl
  simp only[SL,SS,SH]
  simp only[jU,gv,Bool.or_false,Bool.false_or,Bool.or_true,Bool.true_or,Nat.reduceBEq,beq_self_eq_true, ↓reduceIte,Bool.false_eq_true]
  refine kv ?_
  try with_reducible refine z6 ?_
  have hk:=ao
  simp only[keys,List.map_cons,List.nodup_cons,List.mem_cons,not_or] at hk
  have gA:bt≠b8:=hk.1.1
  have aO:bt∉keys X1:=hk.1.2
  have al:b8∉keys X1:=hk.2.1
  have rd8: ∀o w,aT w ((bt,o):: (b8,stO)::X1) b8=some stO:=fun o w=>ac (by simp[Sx.look,gA])
  obtain⟨T1,zY⟩: ∃T1,T1=({nxT r with ended:=true}:TkL):=⟨_,rfl⟩
  have bL: ∀a,aw (some (a,1)) (some (tkO (nxT r))) 6 (.bool true)=some (tkO T1):=fun a=>by rw[zY];exact Ka (nxT r) true a
  have d1:T1.dir=r.t.dir:=by rw[zY];rfl
  have d2:T1.name=r.t.name:=by rw[zY];rfl
  have d3:T1.made=(nxT r).made:=by rw[zY]
  have hnd1:T1.name.length≤900000:=by rw[d2];exact dV.name
  have hBT: (aF T1.name).length≤900004:=by rw[d2];exact yu (t:=nxT r) dV
  have fU:DkA (X1++ [(b8,stO)]) G1 r.S (N+7):=⟨eF.P.mono (X':=X1++ [(b8,stO)]) fun b o h=>bZ h,eF.H,eF.B.mono oM⟩
  by_cases hm: (nxT r).made=true∧r.e≠9
  ·have m1:T1.made=true:=d3.trans hm.1
   have e9: ((r.e:Int) !=9)=true:=by
    rw[bne_iff_ne]
    have:=hm.2
    omega
   have hw:dm r=⟨false,r.e,T1,(fj r.S T1.dir (aF T1.name)).1⟩:=by
    unfold dm
    rw[if_pos hm,d1,d2,zY]
   refine ky (aN @dv (aN @bL (aN @m1 @e9))) ?_
   refine Cw.permL (M:=X1++ [(bt,tkO T1),(b8,stO)]) pM ?_
   have rdT:aT w (X1++ [(bt,tkO T1),(b8,stO)]) bt=some (tkO T1):=ac (by rw[g8 aO];simp[Sx.look])
   have yW:=fun(w':World) (aj: ∀p,p∈X1→w'.heap[p.1]? =some p.2) (ad: (keys X1).Nodup)=>Kl_ X1 G1 r.S T1.dir (aF T1.name) w' aj ad eF.P oM (eF.pend oM)
   simp only[dw] at yW
   refine Cw.regionO [0,1,2,3,5,6,7,4,8,9,10] [10] rfl kR kR ?_
   simp only[bF, ↓bE, ↓ay, ↓bD, ↓bC,az]
   refine kq (aN @dv @rdT) ?_
   refine Ow.callX (X:=X1) (Y:= [(bt,tkO T1),(b8,stO)]) rfl rfl rfl call240 (fun w' aA aj ad=>yW w' aj ad) (fun v4 D4 dc bQ=> ?_)
   obtain⟨rfl,G',hbd',nx⟩:=bQ
   refine kq @dv ?_
   refine ky @dv ?_
   refine⟨_,(ke @dv), ?_⟩
   rw[←hR,hw]
   have fo:=eF.step nx (qv r.S T1.dir (aF T1.name) []) oM (aq _)
   have bq:Ext w (X++ [(bt,tkO t)]) (X1++ [(bt,tkO T1),(b8,stO)]):=(hE.keys (D':=(bt,tkO T1):: (b8,stO)::X1) rfl).perm pM
   exact⟨bq.came dc,rfl,D4++ [(b8,stO)],G',pM,hbd',fo.P.mono (X':=D4++ [(b8,stO)]) fun b o h=>bZ h,fo.H,fo.B.mono oM⟩
  have hw:dm r=⟨false,r.e,T1,r.S⟩:=by
   unfold dm
   rw[if_neg hm,zY]
  by_cases ey: (nxT r).made=true
  ·have h9:r.e=9:=Decidable.byContradiction fun h=>hm ⟨ey,h⟩
   have m1:T1.made=true:=d3.trans ey
   have e9: ((r.e:Int) !=9)=false:=by rw[h9];rfl
   refine ky (aN @dv (aN @bL (aN @m1 @e9))) ?_
   refine⟨_,(ke @dv), ?_⟩
   rw[←hR,hw]
   exact⟨hE.keys rfl,rfl,X1++ [(b8,stO)],G1,pM,dw,fU⟩
  have m1:T1.made=false:=d3.trans (by simpa using ey)
  refine ky (aN @dv (aN @bL @m1)) ?_
  refine⟨_,(ke @dv), ?_⟩
  rw[←hR,hw]
  exact⟨hE.keys rfl,rfl,X1++ [(b8,stO)],G1,pM,dw,fU⟩
 intro key
 repeat ((try with_reducible refine Cw.go [999999] ?_);(simp(disch:=first|exact dD|fail) only[↓Sx.S0,Sx.S1,fx,dv,Nat.reduceAdd,Nat.reducePow,Int.reducePow,Nat.reduceBEq, ↓reduceIte,UInt8.reduceToNat,UInt16.reduceToNat,UInt32.reduceToNat,UInt64.reduceToNat,Int.reduceToNat]))
 refine Ow.callFV rfl call238 (fun w' aA=>N3 bt t w' (aA.has _ _ (db _ (List.mem_singleton.2 rfl)))) ?_
 have htf:t.ended=true∨t.ended=false:=by cases t.ended<;>simp
 rcases htf with rW|rW
 ·refine ko (aN @dv @rW) ?_
  repeat ((try with_reducible refine Cw.go [999999] ?_);(simp(disch:=first|exact dD|fail) only[↓Sx.S0,Sx.S1,fx,dv,Nat.reduceAdd,Nat.reducePow,Int.reducePow,Nat.reduceBEq, ↓reduceIte,UInt8.reduceToNat,UInt16.reduceToNat,UInt32.reduceToNat,UInt64.reduceToNat,Int.reduceToNat,rW]))
  refine⟨_,(ke @dv), ?_⟩
  rw[if_pos rW]
  exact⟨Ext.refl w _,rfl,X,G,List.Perm.refl _,rfl,hA.P,hA.H,hA.B.mono oM⟩
 have x_: (if t.ended=true then(⟨false,15,t,S⟩:StR) else fS (6 - t.next) t S)=fS (6 - t.next) t S:=by rw[if_neg (by rw[rW];simp)]
 refine ko (aN @dv @rW) ?_
 repeat ((try with_reducible refine Cw.go [999999] ?_);(simp(disch:=first|exact dD|fail) only[↓Sx.S0,Sx.S1,fx,dv,Nat.reduceAdd,Nat.reducePow,Int.reducePow,Nat.reduceBEq, ↓reduceIte,UInt8.reduceToNat,UInt16.reduceToNat,UInt32.reduceToNat,UInt64.reduceToNat,Int.reduceToNat,rW]))
 refine Ow.callFV rfl call239 (fun w' aA=>R6 w') ?_
 refine ko @dv ?_
 repeat ((try with_reducible refine Cw.go [999999] ?_);(simp(disch:=first|exact dD|fail) only[↓Sx.S0,Sx.S1,fx,dv,Nat.reduceAdd,Nat.reducePow,Int.reducePow,Nat.reduceBEq, ↓reduceIte,UInt8.reduceToNat,UInt16.reduceToNat,UInt32.reduceToNat,UInt64.reduceToNat,Int.reduceToNat]))
 refine Ow.alloc rfl rfl zr348 fun b8 iu m_=> ?_
 rw[ag]
 refine Ow.permL (M:=(b8, .cells #[.nilFunc, .nilFunc, .nilFunc, .nilFunc, .nilFunc, .nilFunc] 348 (0,0)):: (X++ [(bt,tkO t)])) pM ?_
 refine ko (aN @dv @KK) ?_
 repeat ((try with_reducible refine Cw.go [999999] ?_);(simp(disch:=first|exact dD|fail) only[↓Sx.S0,Sx.S1,fx,dv,Nat.reduceAdd,Nat.reducePow,Int.reducePow,Nat.reduceBEq, ↓reduceIte,UInt8.reduceToNat,UInt16.reduceToNat,UInt32.reduceToNat,UInt64.reduceToNat,Int.reduceToNat]))
 refine Cw.permL (M:=(bt,tkO t):: (b8,stO)::X) pM ?_
 refine Cw.world fun w9 jN=> ?_
 have hnd9:=jN.nodup
 have key0:=fun f'=>key (⟨0,false,0,t,S,G,X,b8,0⟩) f'
 simp only[jU,gv,Bool.or_false,Bool.false_or,Bool.or_true,Bool.true_or,Nat.reduceBEq,beq_self_eq_true, ↓reduceIte,Bool.false_eq_true] at key0
 clear key
 simp only[SL0,jU,gv,Bool.or_false,Bool.false_or,Bool.or_true,Bool.true_or,Nat.reduceBEq,beq_self_eq_true, ↓reduceIte,Bool.false_eq_true] at key0
 refine Cw.label ?_
 refine key0 _ ?_ ?_
 ·refine⟨(((Ext.refl w (X++ [(bt,tkO t)])).app (o:=stO) m_).perm pM),hnd9,m_,rfl,hA,hB, .inl ⟨rfl,by show 0+ (6 - t.next)≤6;omega,aU rW,x_.symm⟩⟩
 rfl
theorem ww: ∀ (f:Nat) (t:TkL) (S:DiskL),(fS f t S).t.name=t.name∧(fS f t S).t.data=t.data
 |0,_,_=>⟨rfl,rfl⟩
 |f+1,t,S=>by
  obtain⟨-,h2,h3,-⟩:=pw t.next t S
  have hw: (dm (phT t.next t S)).t.name=t.name∧(dm (phT t.next t S)).t.data=t.data:=by
   unfold dm
   split<;>exact⟨h2,h3⟩
  obtain⟨-,f2,f3,-⟩:=ry t.next t S
  have ih:=ww f (gn (phT t.next t S)) (phT t.next t S).S
  rw[f2,f3] at ih
  unfold fS
  split
  ·exact hw
  split
  ·exact ih
  exact⟨f2,f3⟩
def Yo {t:TkL} (h:TkB t) (S:DiskL):TkB (fc t S).t:=by
 unfold fc
 split
 ·exact h
 exact⟨by rw[(ww _ t S).1];exact h.name,by rw[(ww _ t S).2];exact h.data⟩
def U1 {t:TkL} {S:DiskL} (he:t.ended=false) (hn:t.next<6): ((fc t S).done=true∨(fc t S).e≠0)∨((fc t S).t.ended=false∧t.next< (fc t S).t.next∧(fc t S).t.next<6):=by
 have hs:fc t S=fS (6 - t.next) t S:=by unfold fc;rw[if_neg (by rw[he];simp)]
 rw[hs]
 rcases wq (6 - t.next) t S oM oM with⟨h1,-⟩ | ⟨-,h2,-⟩ | ⟨-,-,h3,h4,h5,-⟩
 ·exact .inl (.inr h1)
 ·exact .inl (.inl h2)
 exact .inr ⟨h3,h4,h5⟩
def aww_ (f:Nat) (t:TkL) (S:DiskL):runG (f+1) t S=(if(fc t S).done=true∨(fc t S).e≠0 then((fc t S).e,(fc t S).t,(fc t S).S) else runG f (fc t S).t (fc t S).S):=rfl
def rE:=aN (aN @bB @bA) (aN @Sx.tup2_0 @Sx.tup2_1)
structure RnG where
 f:Nat
 t:TkL
 S:DiskL
 G:DkG
 X:aB
def RnS (G:DkG) (bt:Nat) (R:Nat×TkL×DiskL) (N:Nat) (v:Value) (D:aB):Prop:=v=vi (R.1:Nat)∧ ∃X' G',(X'++ [(bt,tkO R.2.1)]).Perm D∧G'.bd=G.bd∧DkA X' G' R.2.2 N
def W3 (X:aB) (G:DkG) (S:DiskL) (N bt:Nat) (t:TkL) (w:World) (hX: ∀p,p∈X++ [(bt,tkO t)]→w.heap[p.1]? =some p.2) (hn: (keys (X++ [(bt,tkO t)])).Nodup) (hA:DkA X G S N) (hN:N<700000) (hB:TkB t) (he:t.ended=false) (aU:t.next<6):
  Rets prog 156 #[vp G.bd 0,vp bt 0] w (XS w (X++ [(bt,tkO t)]) (RnS G bt (runG 6 t S) (N+42))):=by
 refine Rets.enterX func156 rfl (rs:= [.tmp 4]) results156 ntmps156 hX hn ?_
 refine kf ?_
 refine ky @rE ?_
 refine Cw.loopG (G:=RnG) [8,9,10,7,11,12,5,6,13,14,15,16,17,18,4] (fun g=> []) (fun g=>g.X++ [(bt,tkO g.t)]) (fun g=>runG g.f g.t g.S=runG 6 t S∧6 - g.t.next≤g.f∧g.t.ended=false∧g.t.next<6∧g.G.bd=G.bd∧DkA g.X g.G g.S (N+7* (6 - g.f))∧TkB g.t∧g.f≤6∧Ext w (X++ [(bt,tkO t)]) (g.X++ [(bt,tkO g.t)])) (fun g=>g.f) ⟨6,t,S,G,X⟩ rfl rfl ?_ ?_
 ·exact⟨rfl,by show 6 - t.next≤6;omega,he,aU,rfl,hA,hB,ap 6,Ext.refl w _⟩
 intro g j hg
 refine kv ?_
 obtain⟨f,t1,S1,G1,X1⟩:=g
 obtain⟨hR,hf,n_,dO,dw,eF,dV,hf6,hE⟩:=hg
 simp only at hR hf n_ dO dw eF dV hf6 hE
 obtain⟨f,rfl⟩: ∃q,f=q+1:=⟨f - 1,by omega⟩
 rw[aww_] at hR
 refine ky @rE ?_
 have yW:=fun(w':World) (aj: ∀p,p∈X1++ [(bt,tkO t1)]→w'.heap[p.1]? =some p.2) (ad: (keys (X1++ [(bt,tkO t1)])).Nodup)=>So X1 G1 S1 (N+7* (6 - (f+1))) bt t1 w' aj ad eF oM dV (fun _=>dO)
 simp only[dw] at yW
 refine Ow.callX (X:=X1++ [(bt,tkO t1)]) (Y:= []) (List.append_nil _).symm rfl rfl call210 (fun w' aA aj ad=>yW w' aj ad) (fun v4 D4 dc bQ=> ?_)
 obtain⟨rfl,X2,G2,gS,ew,dG⟩:=bQ
 rw[List.append_nil]
 have bw:=(hE.came0 dc).perm gS
 have bL:=U1 (S:=S1) n_ dO
 have hsB:=Yo dV S1
 refine Ow.permL gS ?_
 generalize fc t1 S1=r at*
 have fU:DkA X2 G2 r.S (N+42):=⟨dG.P,dG.H,dG.B.mono oM⟩
 by_cases hd:r.done=true
 ·rw[if_pos (.inl hd)] at hR
  refine ko (aN @rE @hd) ?_
  refine ky (aN @rE @hd) ?_
  refine⟨_,(ke @rE), ?_⟩
  rw[←hR]
  exact⟨bw,rfl,X2,G2,List.Perm.refl _,ew.trans dw,fU⟩
 have ju:r.done=false:=by simpa using hd
 by_cases Jg:r.e=0
 ·have e0: ((r.e:Int) !=0)=false:=by rw[Jg];rfl
  rw[if_neg (fun h=>by rcases h with h|h;exact hd h;exact h Jg)] at hR
  obtain⟨s1,s2,s3⟩:=bL.resolve_left (fun h=>by rcases h with h|h;exact hd h;exact h Jg)
  refine ko (aN @rE (aN @ju @e0)) ?_
  refine ky (aN @rE (aN @ju @e0)) ?_
  exact Again.mk ⟨f,r.t,r.S,G2,X2⟩ (Nat.lt_succ_self f) ⟨hR,by show 6 - r.t.next≤f;omega,s1,s3,ew.trans dw,⟨dG.P,dG.H,dG.B.mono (by show _≤N+7* (6 - f);omega)⟩,hsB,by show f≤6;omega,bw⟩ rfl rfl
 have e0: ((r.e:Int) !=0)=true:=by
  rw[bne_iff_ne];omega
 rw[if_pos (.inr Jg)] at hR
 refine ko (aN @rE (aN @ju @e0)) ?_
 refine ky (aN @rE (aN @ju @e0)) ?_
 refine⟨_,(ke @rE), ?_⟩
 rw[←hR]
 exact⟨bw,rfl,X2,G2,List.Perm.refl _,ew.trans dw,fU⟩
def V' (dir name data:List UInt8) (light:Bool):fI (d8 prog 321) (au prog 321) [(0,vs dir),(1,vs name),(2,vs data),(3, .bool light)]=some (.agg #[vs dir,vs name,vs data, .bool light,vi 0, .bool false, .bool false]):=by
 rw[show d8 prog 321=some [(0,1),(1,1),(2,1),(3,1),(4,1),(5,1),(6,1)] from id kR,zr321];rfl
def Q_ (dir name data:List UInt8) (light:Bool) (w:World):
  Rets prog 157 #[vs dir,vs name,vs data, .bool light] w (fun v D=> ∃b,w.heap.size≤b∧v=vp b 0∧D= [(b,tkO (tk0 dir name data light))]):=by
 refine Rets.enter func157 rfl (rs:= [.tmp 8]) results157 ntmps157 ?_
 refine kf ?_
 refine ky @Nat.add_zero ?_
 refine Ow.build (.agg #[vs dir,vs name,vs data, .bool light,vi 0, .bool false, .bool false]) rfl (V' dir name data light) ?_
 refine Ow.box rfl rfl fun b1 aO aP=> ?_
 refine ko @Nat.add_zero ?_
 refine ky @Nat.add_zero ?_
 exact⟨_,rfl,b1,aP,rfl,rfl⟩
def PubS (G:DkG) (R:Nat×DiskL) (N:Nat) (v:Value) (D:aB):Prop:=v=vi (R.1:Nat)∧ ∃G',G'.bd=G.bd∧DkA D G' R.2 N
def Lm (X:aB) (G:DkG) (S:DiskL) (N:Nat) (dir name data:List UInt8) (w:World) (hX: ∀p,p∈X→w.heap[p.1]? =some p.2) (hn: (keys X).Nodup) (hA:DkA X G S N) (hN:N<700000) (ec:name.length≤900000) (HE:data.length≤1000000):
  Rets prog 87 #[vp G.bd 0,vs dir,vs name,vs data] w (XS w X (PubS G (bN S dir name data false) (N+42))):=by
 have hB:TkB (tk0 dir name data false):=⟨ec,HE⟩
 refine Rets.enterX func87 rfl (rs:= [.tmp 8]) results87 ntmps87 hX hn ?_
 refine kf ?_
 refine ky @Nat.add_zero ?_
 refine Ow.callF rfl rfl call157 (S:=fun B v D=> ∃b',B≤b'∧v=vp b' 0∧D= [(b',tkO (tk0 dir name data false))]) (fun w' aA=>Q_ dir name data false w') ?_
 rintro B v D jn zX ⟨b1,aO,rfl,rfl⟩
 refine⟨_,Mrg.fresh (by intro q hq;simp only[keys,List.map_cons,List.map_nil,List.mem_singleton] at hq;omega), ?_⟩
 refine Ow.callX (X:=X++ [(b1,tkO (tk0 dir name data false))]) (Y:= []) (List.append_nil _).symm rfl rfl call156 (fun w' aA aj ad=>W3 X G S N b1 (tk0 dir name data false) w' aj ad hA hN hB rfl (Nat.succ_pos 5)) (fun v4 D4 dc bQ=> ?_)
 obtain⟨rfl,X2,G2,gS,ew,dG⟩:=bQ
 rw[List.append_nil]
 have bw:=(((Ext.refl w X).app (o:=tkO (tk0 dir name data false)) oM).came0 dc).perm gS
 refine Ow.permL gS ?_
 have hr:=YE S dir name data false
 rw[←hr]
 refine ko @Nat.add_zero ?_
 refine ky @Nat.add_zero ?_
 refine⟨_,(ke @Nat.add_zero), ?_⟩
 exact⟨bw,rfl,G2,ew,dG.P.mono fun b o h=>bZ h,dG.H,dG.B⟩
end Go.Proofs
end
namespace Go.Sx
def kB (c:Bool):BitVec 32:=bif c then 3988292384#32 else 0#32
def stB (x:BitVec 32):BitVec 32:=(x>>>1)^^^kB (x.getLsbD 0)
def Z0 (c:Bool) (j:Nat) (h:j<5): (kB c).getLsbD j=false:=by
 have:j=0∨j=1∨j=2∨j=3∨j=4:=by omega
 rcases this with rfl|rfl|rfl|rfl|rfl<;>cases c<;>decide
def zQ (x:BitVec 32) (j:Nat) (h:j<5): (stB x).getLsbD j=x.getLsbD (j+1):=by
 unfold stB
 rw[BitVec.getLsbD_xor,Z0 _ _ h,BitVec.getLsbD_ushiftRight,Bool.xor_false,Nat.add_comm]
def stB4 (x:BitVec 32):stB (stB (stB (stB x)))=(x>>>4)^^^ (kB (x.getLsbD 0)>>>3^^^kB (x.getLsbD 1)>>>2^^^kB (x.getLsbD 2)>>>1^^^kB (x.getLsbD 3)):=by
 have h1: (stB x).getLsbD 0=x.getLsbD 1:=zQ x 0 oM
 have h2: (stB (stB x)).getLsbD 0=x.getLsbD 2:=by rw[zQ _ 0 oM,zQ _ 1 oM]
 have h3: (stB (stB (stB x))).getLsbD 0=x.getLsbD 3:=by rw[zQ _ 0 oM,zQ _ 1 oM,zQ _ 2 oM]
 have e4:stB (stB (stB (stB x)))=(stB (stB (stB x))>>>1)^^^kB (x.getLsbD 3):=by rw[←h3];rfl
 have e3:stB (stB (stB x))=(stB (stB x)>>>1)^^^kB (x.getLsbD 2):=by rw[←h2];rfl
 have e2:stB (stB x)=(stB x>>>1)^^^kB (x.getLsbD 1):=by rw[←h1];rfl
 have e1:stB x=(x>>>1)^^^kB (x.getLsbD 0):=rfl
 rw[e4,e3,e2,e1]
 simp only[BitVec.ushiftRight_xor_distrib,←BitVec.shiftRight_add,BitVec.xor_assoc]
def hvB:List (BitVec 32):= [0x00000000,0x1db71064,0x3b6e20c8,0x26d930ac,0x76dc4190,0x6b6b51f4,0x4db26158,0x5005713c,0xedb88320,0xf00f9344,0xd6d6a3e8,0xcb61b38c,0x9b64c2b0,0x86d3d2d4,0xa00ae278,0xbdbdf21c]
def tabB: ∀a b c d:Bool,(kB a>>>3^^^kB b>>>2^^^kB c>>>1^^^kB d)=hvB.getD (a.toNat+2*b.toNat+4*c.toNat+8*d.toNat) 0:=by decide
def lowB (x:BitVec 32):x.toNat%16=(x.getLsbD 0).toNat+2* (x.getLsbD 1).toNat+4* (x.getLsbD 2).toNat+8* (x.getLsbD 3).toNat:=by
 have e: ∀i,(x.getLsbD i).toNat=x.toNat / 2^i%2:=by
  intro i
  rw[BitVec.getLsbD,Nat.testBit_eq_decide_div_mod_eq]
  have:=Nat.mod_lt (x.toNat / 2^i) (show 0<2 by omega)
  by_cases h:x.toNat / 2^i%2=1
  ·simp[h]
  have h0:x.toNat / 2^i%2=0:=by omega
  simp[h0]
 rw[e 0,e 1,e 2,e 3]
 omega
def axs_ (x:BitVec 32):stB (stB (stB (stB x)))=(x>>>4)^^^hvB.getD (x.toNat%16) 0:=by
 rw[stB4,tabB,lowB]
end Go.Sx
section
open Go Go.Proofs Go.Sx
namespace Go.Proofs
def kb (n:UInt32):UInt32:=if n%2==1 then n / 2^^^3988292384 else n / 2
def sG (n:UInt32): (kb n).toBitVec=stB n.toBitVec:=by
 have hd: (n / 2).toBitVec=n.toBitVec>>>1:=by
  apply BitVec.eq_of_toNat_eq
  rw[UInt32.toBitVec_div,BitVec.toNat_udiv,BitVec.toNat_ushiftRight]
  rfl
 have hm: (n%2==1)=n.toBitVec.getLsbD 0:=by
  rw[BitVec.getLsbD,Nat.testBit_eq_decide_div_mod_eq,Nat.pow_zero,Nat.div_one,Bool.eq_iff_iff,beq_iff_eq,decide_eq_true_eq,←UInt32.toNat_inj,UInt32.toNat_mod]
  rfl
 unfold kb stB
 rw[hm]
 cases n.toBitVec.getLsbD 0
 ·rw[if_neg (by decide),hd];simp[kB]
 rw[if_pos rfl,UInt32.toBitVec_xor,hd];rfl
def C8 (n:UInt32):pj n=kb (kb (kb (kb n))):=by
 apply UInt32.toBitVec_inj.1
 rw[sG,sG,sG,sG,axs_]
 unfold pj
 rw[UInt32.toBitVec_xor]
 congr 1
 ·apply BitVec.eq_of_toNat_eq
  unfold gb
  rw[BitVec.toNat_ushiftRight,Nat.shiftRight_eq_div_pow]
  have:=n.toNat_lt
  simp only[UInt32.toNat_toBitVec,UInt32.toNat_ofNat']
  omega
 have e: (n&&&15).toNat=n.toBitVec.toNat%16:=by
  rw[UInt32.toNat_and,show(15:UInt32).toNat=2^4 - 1 from rfl,Nat.and_two_pow_sub_one_eq_mod]
  rfl
 rw[e]
 have aC:n.toBitVec.toNat%16<16:=Nat.mod_lt _ oM
 generalize n.toBitVec.toNat%16=m at aC
 have: ∀m,m<16→(hvL.getD m 0).toBitVec=hvB.getD m 0:=by decide
 exact this m aC
def so (n:UInt32):Nat→UInt32
 |0=>n
 |k+1=>kb (so n k)
def SA (n:UInt32):so n 8=nc n 2:=by
 show kb (kb (kb (kb (kb (kb (kb (kb n)))))))=pj (pj n)
 rw[C8,C8]
def et:=aN (aN @bB @iH) (aN @iG (aN @iE @bA))
def UM (n:UInt32) (w:World):Rets prog 298 #[v32 n] w (fun v D=>v=v32 (kb n)∧D= []):=by
 have yT:aD .rem (v32 n) (v32 2)=some (v32 (n%2)):=IC _ _ (by decide)
 have yP:aD .quo (v32 n) (v32 2)=some (v32 (n / 2)):=IE _ _ (by decide)
 refine Rets.enterV func298 rfl (rs:= [.tmp 2]) results298 ntmps298 ?_
 refine kf ?_
 unfold kb
 refine ky (aN @et (aN @yT @yP)) ?_
 cases h: (n%2==1)
 ·refine ky (aN @et @yP) ?_
  refine⟨_,(ke @et),trivial, ?_⟩
  rfl
 refine ky (aN @et @yP) ?_
 refine⟨_,(ke @et),trivial, ?_⟩
 rfl
def Tn (n:UInt32) (b:UInt8) (w:World):Rets prog 257 #[v32 n,v8 b] w (fun v D=>v=v32 (ng n b)∧D= []):=by
 refine Rets.enterV func257 rfl (rs:= [.tmp 4]) results257 ntmps257 ?_
 refine kf ?_
 refine ky @et ?_
 unfold ng
 generalize n^^^UInt32.ofNat b.toNat=m
 rw[←SA,show v32 m=v32 (so m 0) from rfl]
 refine Cw.loopG (G:=Nat) [10,11,14,15,0,12,13,5] (fun g=> [(0,v32 (so m g)),(5,vi g)]) (fun g=> []) (fun g=>g≤8) (fun g=>8 - g) 0 rfl rfl ?_ ?_
 ·omega
 intro g j hg
 refine kv ?_
 by_cases aC:g<8
 ·refine ky @et ?_
  refine Ow.callFV rfl call298 (fun w' aA=>UM _ w') ?_
  refine ko @et ?_
  refine ky @et ?_
  refine Again.mk (g+1) oM oM rfl rfl
 obtain rfl:g=8:=by omega
 refine ky @et ?_
 refine⟨_,(ke @et),trivial, ?_⟩
 rfl
def Yf (n:UInt32):4294967295 - n= ~~~ n:=by
 apply UInt32.toBitVec_inj.1
 rw[UInt32.toBitVec_sub,UInt32.toBitVec_not,←BitVec.allOnes_sub_eq_not]
 rfl
def Pj (s:List UInt8) (w:World) (hs:s.length<1099511627776):Rets prog 224 #[vs s] w (fun v D=>v=v32 (crcV s)∧D= []):=by
 refine Rets.enterV func224 rfl (rs:= [.tmp 2]) results224 ntmps224 ?_
 refine kf ?_
 refine ky @et ?_
 rw[show v32 4294967295=v32 (je (~~~ (0:UInt32)) (s.take 0)) from rfl]
 refine Cw.loopG (G:=Nat) [5,6,7,8,11,12,13,14,15,3,9,10,4] (fun g=> [(3,v32 (je (~~~ (0:UInt32)) (s.take g))),(4,vi g)]) (fun g=> []) (fun g=>g≤s.length) (fun g=>s.length - g) 0 rfl rfl ?_ ?_
 ·omega
 intro g j hg
 refine kv ?_
 by_cases aC:g<s.length
 ·refine ky @et ?_
  refine Ow.callFV rfl call257 (fun w' aA=>Tn _ _ w') ?_
  refine ko @et ?_
  refine ky @et ?_
  refine Again.mk (g+1) oM oM rfl ?_
  rw[BY _ _ _ aC]
  rfl
 obtain rfl:g=s.length:=by omega
 refine ky @et ?_
 rw[List.take_length]
 rw[Yf]
 refine⟨_,(ke @et),trivial, ?_⟩
 rfl
def XZ (n:UInt32):sum4 n= [UInt8.ofNat (n%256).toNat,UInt8.ofNat (n / 256%256).toNat,UInt8.ofNat (n / 65536%256).toNat,UInt8.ofNat (n / 16777216).toNat]:=by
 show [UInt8.ofNat (gb n 0).toNat,UInt8.ofNat (gb n 8).toNat,UInt8.ofNat (gb n 16).toNat,UInt8.ofNat (gb n 24).toNat]=_
 have hn:=n.toNat_lt
 congr 1
 ·apply UInt8.toNat_inj.1
  simp[gb]
 congr 1
 ·apply UInt8.toNat_inj.1
  simp[gb]
 congr 1
 ·apply UInt8.toNat_inj.1
  simp[gb]
 congr 1
 apply UInt8.toNat_inj.1
 simp[gb]
def ND (s:List UInt8) (w:World) (hs:s.length<1099511627776):
  Rets prog 176 #[vs s] w (fun v D=>v=vs (gZ s)∧D= []):=by
 refine Rets.enterV func176 rfl (rs:= [.tmp 2]) results176 ntmps176 ?_
 refine kf ?_
 refine ky @et ?_
 refine Ow.callFV rfl call224 (fun w' aA=>Pj s w' hs) ?_
 refine ko @et ?_
 unfold gZ
 rw[XZ]
 generalize crcV s=n
 have h1:aD .rem (v32 n) (v32 256)=some (v32 (n%256)):=IC _ _ (by decide)
 have h2:aD .quo (v32 n) (v32 256)=some (v32 (n / 256)):=IE _ _ (by decide)
 have h3:aD .rem (v32 (n / 256)) (v32 256)=some (v32 (n / 256%256)):=IC _ _ (by decide)
 have h4:aD .quo (v32 n) (v32 65536)=some (v32 (n / 65536)):=IE _ _ (by decide)
 have h5:aD .rem (v32 (n / 65536)) (v32 256)=some (v32 (n / 65536%256)):=IC _ _ (by decide)
 have h6:aD .quo (v32 n) (v32 16777216)=some (v32 (n / 16777216)):=IE _ _ (by decide)
 refine ky (aN @et (aN @h1 (aN @h2 (aN @h3 (aN @h4 (aN @h5 @h6)))))) ?_
 generalize UInt8.ofNat (n%256).toNat=q0
 generalize UInt8.ofNat (n / 256%256).toNat=q1
 generalize UInt8.ofNat (n / 65536%256).toNat=q2
 generalize UInt8.ofNat (n / 16777216).toNat=q3
 refine Ow.buildSlice (e:=5) #[v8 q0,v8 q1,v8 q2,v8 q3] rfl rfl kR fun b1 aO aP=> ?_
 rw[show(#[v8 q0,v8 q1,v8 q2,v8 q3]:Array Value)=a8 [q0,q1,q2,q3] from rfl]
 have tT: [q0,q1,q2,q3].length=4:=rfl
 have e4:List.take 4 (List.drop 0 [q0,q1,q2,q3])= [q0,q1,q2,q3]:=rfl
 generalize [q0,q1,q2,q3]=q at*
 refine ko (aN @et @e4) ?_
 refine ky @et ?_
 refine⟨_,(ke @et),⟨aP,trivial⟩, ?_⟩
 rfl
def W7_ (s:List UInt8) (w:World) (hs:s.length<1099511627776):
  Rets prog 220 #[vs s] w (fun v D=>v= .tuple #[vs (gI s).1, .bool (gI s).2]∧D= []):=by
 refine Rets.enterV func220 rfl (rs:= [.tmp 2, .tmp 3]) results220 ntmps220 ?_
 refine kf ?_
 refine ky @et ?_
 unfold gI
 by_cases h4:s.length<4
 ·have e1:decide ((s.length:Int)<4)=true:=aW oM
  rw[if_pos h4]
  refine ky (aN @et @e1) ?_
  refine⟨_,(ke @et),trivial, ?_⟩
  rfl
 have e1:decide ((s.length:Int)<4)=false:=ah oM
 have e2: ((s.length:Int) - 4).toNat=s.length - 4:=by omega
 rw[if_neg h4]
 refine ky (aN @et (aN @e1 @e2)) ?_
 refine Ow.callFV rfl call176 (fun w' aA=>ND (s.take (s.length - 4)) w' (by rw[List.length_take];omega)) ?_
 refine ko @et ?_
 cases hq: (gZ (s.take (s.length - 4)) !=s)
 ·rw[if_pos (by simpa using hq)]
  refine ky (aN @et (aN @hq @e2)) ?_
  refine⟨_,(ke @et),trivial, ?_⟩
  rfl
 rw[if_neg (by simpa using hq)]
 refine ky (aN @et @hq) ?_
 refine⟨_,(ke @et),trivial, ?_⟩
 rfl
def nB:=aN (aN @bB @iH) (aN @iG (aN @iE @bA))
def Ly (s p:List UInt8) (w:World) (_hs:s.length<1099511627776):Rets prog 295 #[vs s,vs p] w (fun v D=>v= .bool (decide (p.length≤s.length)&& (s.take p.length==p))∧D= []):=by
 refine Rets.enterV func295 rfl (rs:= [.tmp 4]) results295 ntmps295 ?_
 refine kf ?_
 by_cases h:p.length≤s.length
 ·have e1:decide ((p.length:Int)≤ (s.length:Int))=true:=aW oM
  refine ky (aN @nB @e1) ?_
  refine⟨_,(ke @nB),trivial, ?_⟩
  simp[bv,h]
 have e1:decide ((p.length:Int)≤ (s.length:Int))=false:=ah oM
 refine ky (aN @nB @e1) ?_
 refine⟨_,(ke @nB),trivial, ?_⟩
 simp[bv,h]
def cutP (s p:List UInt8):List UInt8×Bool:=if(decide (p.length≤s.length)&& (s.take p.length==p))=true then(s.drop p.length,true) else(s,false)
def Vo_ (s p:List UInt8) (w:World) (hs:s.length<1099511627776):Rets prog 253 #[vs s,vs p] w (fun v D=>v= .tuple #[vs (cutP s p).1, .bool (cutP s p).2]∧D= []):=by
 refine Rets.enterV func253 rfl (rs:= [.tmp 4, .tmp 5]) results253 ntmps253 ?_
 refine kf ?_
 refine ky @nB ?_
 refine Ow.callFV rfl call295 (fun w' aA=>Ly s p w' hs) ?_
 refine ko @nB ?_
 unfold cutP
 cases h: (decide (p.length≤s.length)&& (s.take p.length==p))
 ·refine ky @nB ?_
  refine⟨_,(ke @nB),trivial, ?_⟩
  rfl
 have dC:p.length≤s.length:=by
  rw[Bool.and_eq_true,decide_eq_true_eq] at h;exact h.1
 refine ky @nB ?_
 refine⟨_,(ke @nB),trivial, ?_⟩
 rfl
def MF (s p:List UInt8) (w:World) (hs:s.length<1099511627776):Rets prog 217 #[vs s,vs p] w (fun v D=>v= .tuple #[vs (cutP s p).1, .bool (cutP s p).2]∧D= []):=by
 refine Rets.enterV func217 rfl (rs:= [.tmp 4, .tmp 5]) results217 ntmps217 ?_
 refine kf ?_
 refine ky @nB ?_
 refine Ow.callFV rfl call253 (fun w' aA=>Vo_ s p w' hs) ?_
 refine Ow.go rfl ?_
 simp(disch:=first|exact dD|fail) only[↓Sx.S0,Sx.S1,fx,nB,Nat.reduceAdd,Nat.reducePow,Int.reducePow,Nat.reduceBEq, ↓reduceIte,UInt8.reduceToNat,UInt16.reduceToNat,UInt32.reduceToNat,UInt64.reduceToNat,Int.reduceToNat,Sx.tup2_0,Sx.tup2_1]
 refine ky @nB ?_
 refine⟨_,(ke @nB),trivial, ?_⟩
 rfl
def rm (c:Int):Bool:=decide (c<33) ||decide (126<c) || (c==47)
def la (b:UInt8):Bool:=decide (b.toNat<33) ||decide (126<b.toNat) || (b.toNat==47)
def axN_ (a b:Bool):ab prog .eql 4 (.bool a) (.bool b)=some (.bool (a==b)):=by
 simp[ab,eqX,eN,eA,underlying4]
def W8 (a:Value): (#[a]:Array Value)[0]? =some a:=(rfl)
def eC:=aN (aN (aN @bB (aN @iH @iG)) (aN (aN @iE @bA) (aN @wC @KX))) (aN (aN (aN @KQ @KT) (aN @ws @W8)) (aN (aN @Sx.tup3_0 @Sx.tup3_1) (aN @Sx.tup3_2 @axN_)))
def Lz (c:Int) (w:World):Rets prog 205 #[gh c] w (fun v D=>v= .bool (rm c)∧D= []):=by
 refine Rets.enterV func205 rfl (rs:= [.tmp 2]) results205 ntmps205 ?_
 refine kf ?_
 unfold rm
 cases h1:decide (c<33)
 ·cases h2:decide (126<c)
  ·refine ky (aN @eC (aN @h1 @h2)) ?_
   refine⟨_,(ke @eC),trivial, ?_⟩
   simp[bv]
  refine ky (aN @eC (aN @h1 @h2)) ?_
  refine⟨_,(ke @eC),trivial, ?_⟩
  simp[bv]
 refine ky (aN @eC @h1) ?_
 refine⟨_,(ke @eC),trivial, ?_⟩
 simp[bv]
def Re (l:List UInt8) (i:Nat) (h:i<l.length):rm ((Utf8.decode ⟨l.toArray⟩ i).1:Nat)=la (l.getD i 0)∧(la (l.getD i 0)=false→(Utf8.decode ⟨l.toArray⟩ i).2=1):=by
 obtain⟨h0,h1,h2⟩:=Vs_ l i h
 by_cases hc: (l.getD i 0).toNat<128
 ·rw[h1 hc]
  refine⟨?_,fun _=>rfl⟩
  unfold rm la
  congr 1
  ·congr 1
   ·apply decide_eq_decide.2;omega
   apply decide_eq_decide.2;omega
  rw[Bool.eq_iff_iff,beq_iff_eq,beq_iff_eq];omega
 have uX:=h2 oM
 have hb:la (l.getD i 0)=true:=by
  unfold la
  rw[aW (show 126< (l.getD i 0).toNat by omega)];simp
 rw[hb]
 refine⟨?_,fun h=>by cases h⟩
 unfold rm
 rw[aW (show(126:Int)< (((Utf8.decode ⟨l.toArray⟩ i).1:Nat):Int) by omega)];simp
def KA_ (s:List UInt8) (k:FuncId) (hk: ∀a w,(callFunc k a).run prog w= .ok (.enter k a) w) (hc: ∀c w,Rets prog k #[gh c] w (fun v D=>v= .bool (rm c)∧D= [])) (w:World) (hs:s.length<1099511627776):
  Rets prog 256 #[vs s, .func (.func k) #[] #[], .bool true] w (fun v D=> ∃n:Int,v=vi n∧(0≤n↔s.any la=true)∧D= []):=by
 refine Rets.mono (S:=fun v D=>(∃n:Int,v=vi n∧(0≤n↔s.any la=true))∧D= []) ?_ (by rintro v D ⟨⟨n,h1,h2⟩,h3⟩;exact⟨n,h1,h2,h3⟩)
 refine Rets.enterV func256 rfl (rs:= [.tmp 6]) results256 ntmps256 ?_
 refine kf ?_
 refine ky @eC ?_
 refine Ow.rangeText rfl rfl underlying9 rfl fun b1 aO aP=> ?_
 refine ko @eC ?_
 refine ky @eC ?_
 refine Cw.loopG (G:=Nat) [11,12,13,14,7,8,15,16,17,18,19,20,6] (fun g=> []) (fun g=> [(b1, .stringIter ⟨s.toArray⟩ g)]) (fun g=>g≤s.length∧ ∀i,i<g→la (s.getD i 0)=false) (fun g=>s.length - g) 0 rfl rfl ?_ ?_
 ·exact⟨by omega,fun i hi=>by omega⟩
 intro g j hg
 refine kv ?_
 obtain⟨qU,eJ⟩:=hg
 by_cases aC:g<s.length
 ·have gz:=Re s g aC
  refine ky @eC ?_
  refine Ow.nextText rfl rfl rfl (fN _ _ _) aC ?_
  rw[n5]
  generalize xr:Utf8.decode ⟨s.toArray⟩ g=dd at*
  obtain⟨c,n⟩:=dd
  simp only at gz ⊢
  refine ko @eC ?_
  refine ky @eC ?_
  refine Ow.callFn1 (v:= .bool (rm c)) (k:=k) rfl rfl rfl hk (fun w' aA=>hc _ w') ?_
  rw[gz.1]
  refine ko @eC ?_
  cases tL:la (s.getD g 0)
  ·refine ky @eC ?_
   refine Again.mk (g+1) oM ⟨by omega,fun i hi=> ?_⟩ ?_ rfl
   ·by_cases y3:i=g
    ·rw[y3];exact tL
    exact eJ i oM
   rw[gz.2 tL]
  refine ky @eC ?_
  refine⟨_,(ke @eC),⟨aP,trivial⟩, ?_⟩
  refine⟨(g:Int),rfl,⟨fun _=> ?_,fun _=>by omega⟩⟩
  rw[List.any_eq_true]
  refine⟨s.getD g 0, ?_,tL⟩
  rw[List.getD_eq_getElem?_getD,List.getElem?_eq_getElem aC]
  exact List.getElem_mem aC
 obtain rfl:g=s.length:=by omega
 refine ky @eC ?_
 refine Ow.nextOver rfl rfl rfl (fN _ _ _) aC ?_
 refine ko @eC ?_
 refine ky @eC ?_
 refine⟨_,(ke @eC),⟨aP,trivial⟩, ?_⟩
 refine⟨-1,rfl,⟨fun h=>by omega,fun h=> ?_⟩⟩
 rw[List.any_eq_true] at h
 obtain⟨x,hx,K0⟩:=h
 obtain⟨i,hi,rfl⟩:=List.getElem_of_mem hx
 have:=eJ i hi
 rw[List.getD_eq_getElem?_getD,List.getElem?_eq_getElem hi] at this
 exact absurd K0 (by simpa using this)
def KF_ (s:List UInt8) (k:FuncId) (hk: ∀a w,(callFunc k a).run prog w= .ok (.enter k a) w) (hc: ∀c w,Rets prog k #[gh c] w (fun v D=>v= .bool (rm c)∧D= [])) (w:World) (hs:s.length<1099511627776):
  Rets prog 223 #[vs s, .func (.func k) #[] #[]] w (fun v D=> ∃n:Int,v=vi n∧(0≤n↔s.any la=true)∧D= []):=by
 refine Rets.mono (S:=fun v D=>(∃n:Int,v=vi n∧(0≤n↔s.any la=true))∧D= []) ?_ (by rintro v D ⟨⟨n,h1,h2⟩,h3⟩;exact⟨n,h1,h2,h3⟩)
 refine Rets.enterV func223 rfl (rs:= [.tmp 4]) results223 ntmps223 ?_
 refine kf ?_
 refine ky @eC ?_
 refine Ow.callF rfl rfl call256 (S:=fun _ v D=> ∃n:Int,v=vi n∧(0≤n↔s.any la=true)∧D= []) (fun w' aA=>KA_ s k hk hc w' hs) ?_
 rintro B v D - - ⟨n,rfl,hn,rfl⟩
 refine⟨_,Mrg.nil, ?_⟩
 refine ko @eC ?_
 refine ky @eC ?_
 refine⟨_,(ke @eC),trivial, ?_⟩
 exact⟨n,rfl,hn⟩
def QU_ (s:List UInt8) (k:FuncId) (hk: ∀a w,(callFunc k a).run prog w= .ok (.enter k a) w) (hc: ∀c w,Rets prog k #[gh c] w (fun v D=>v= .bool (rm c)∧D= [])) (w:World) (hs:s.length<1099511627776):
  Rets prog 170 #[vs s, .func (.func k) #[] #[]] w (fun v D=>v= .bool (s.any la)∧D= []):=by
 refine Rets.enterV func170 rfl (rs:= [.tmp 4]) results170 ntmps170 ?_
 refine kf ?_
 refine ky @eC ?_
 refine Ow.callF rfl rfl call223 (S:=fun _ v D=> ∃n:Int,v=vi n∧(0≤n↔s.any la=true)∧D= []) (fun w' aA=>KF_ s k hk hc w' hs) ?_
 rintro B v D - - ⟨n,rfl,hn,rfl⟩
 refine⟨_,Mrg.nil, ?_⟩
 refine ko @eC ?_
 refine ky @eC ?_
 refine⟨_,(ke @eC),trivial, ?_⟩
 exact congrArg Value.bool (by rw[Bool.eq_iff_iff,decide_eq_true_eq];exact hn)
def NU (s:List UInt8) (w:World) (hs:s.length<1099511627776):
  Rets prog 149 #[vs s] w (fun v D=>v= .bool (!(s== [])&&decide (s.length≤32)&& !(s.any la))∧D= []):=by
 refine Rets.enterV func149 rfl (rs:= [.tmp 2]) results149 ntmps149 ?_
 refine kf ?_
 cases h0: (s != [])
 ·have e0: (s== [])=true:=by simpa using h0
  refine ky (aN @eC @h0) ?_
  refine⟨_,(ke @eC),trivial, ?_⟩
  simp[bv,e0]
 have e0: (s== [])=false:=by simpa using h0
 cases h1:decide ((s.length:Int)≤32)
 ·have e1:decide (s.length≤32)=false:=ah (by have:=of_decide_eq_false h1;omega)
  refine ky (aN @eC (aN @h0 @h1)) ?_
  refine⟨_,(ke @eC),trivial, ?_⟩
  simp only[bv,e0,e1,Bool.not_false,Bool.true_and,Bool.false_and,Bool.and_false]
 have e1:decide (s.length≤32)=true:=aW (by have:=of_decide_eq_true h1;omega)
 refine ky (aN @eC (aN @h0 @h1)) ?_
 refine Ow.callFV rfl call170 (fun w' aA=>QU_ s 205 call205 Lz w' hs) ?_
 refine ko @eC ?_
 refine ky @eC ?_
 refine⟨_,(ke @eC),trivial, ?_⟩
 simp only[bv,e0,e1,Bool.not_false,Bool.true_and]
def cN (s:List UInt8):Bool:= !(s== [])&&decide (s.length≤32)&& !(s.any la)
structure RefL where
 name:List UInt8
 id:IdL
def aH (r:RefL):List Value:=vs r.name::r.id.l.map v8
def ef (r:RefL): (aH r).length=33:=by simp[aH,r.id.h]
def rC (r:RefL) (E:TypeId) (n:Nat):aQ (some (false,n)) (some (.cells (aH r).toArray E (0,0))) 0=some (vs r.name):=(rfl)
def rA (r:RefL) (E:TypeId):aQ (some (true,32)) (some (.cells (aH r).toArray E (0,0))) 1=some (.agg (a8 r.id.l)):=by
 have hs:1+32≤ (aH r).toArray.size:=by rw[List.size_toArray,ef];decide
 simp only[aQ,hs, ↓reduceIte]
 congr 2
 show(aH r).toArray.extract 1 33=(r.id.l.map v8).toArray
 rw[List.extract_toArray]
 congr 1
 unfold aH
 rw[List.extract_eq_take_drop,List.drop_succ_cons,List.drop_zero,List.take_of_length_le (by simp[r.id.h])]
def kX (r:RefL):Value.cells (.agg (aH r).toArray)=(aH r).toArray:=ag _
def eqId (l l':List UInt8) (h:l.length=32∧l'.length=32):ab prog .eql 24 (.agg (a8 l)) (.agg (a8 l'))=some (.bool (l==l')):=
 Ew underlying24 underlying5 ag5 kR l l' h
def nA:=aN (aN (aN @bB @iH) (aN @iG @iE)) (aN (aN @bA @rC) (aN @rA (aN @kX @eqId)))
def sc (r:RefL) (m:aZ):aZ:=if r.id.l==z32 then delV r.name (updV r.name r.id.l m) else updV r.name r.id.l m
def wR (b:Nat) (o:Obj) (m:aZ) (r:RefL) (w:World) (ho:w.heap[b]? =some o) (hm:MapR o m):
  Rets prog 158 #[vm b, .agg (aH r).toArray] w (fun v D=> ∃o',D= [(b,o')]∧v= .bool (decide ((sc r m).length≤16))∧MapR o' (sc r m)):=by
 have fE:=(Array.getElem?_eq_some_iff.1 ho).1
 refine Rets.enterM func158 rfl (rs:= [.tmp 4]) results158 ntmps158 ho ?_
 refine kf ?_
 refine ky @nA ?_
 refine Ow.box rfl rfl fun b1 aO aP=> ?_
 obtain⟨h01,-⟩:=aO
 refine ko @nA ?_
 refine ky @nA ?_
 refine Ow.mapUpdate rfl rfl underlying162 underlying9 rfl rfl rfl (fN _ _ _) hm (fun o1 ey=> ?_)
 rw[n5]
 have iw:=r.id.h
 have hz:=show z32.length=32 by simp[z32]
 refine ko @nA ?_
 refine ky @nA ?_
 refine Ow.build (.agg (a8 z32)) rfl kR ?_
 refine ko @nA ?_
 unfold sc
 cases HO: (r.id.l==z32)
 ·rw[if_neg Bool.false_ne_true]
  refine ky @nA ?_
  refine Ow.lenMap rfl rfl underlying162 rfl (oH _ _ _ _) ey ?_
  refine ko @nA ?_
  refine ky @nA ?_
  refine⟨_,_,_,(by simp(disch:=omega) only[JO,Ih,Il,cV,ce,JA];rfl),rfl,⟨aP,trivial⟩, ?_,ey⟩
  exact congrArg Value.bool (decide_eq_decide.2 oM)
 rw[if_pos rfl]
 refine ky @nA ?_
 refine Ow.mapDelete rfl rfl underlying162 underlying9 rfl rfl (fN _ _ _) ey (fun o2 gj=> ?_)
 rw[n5]
 refine ko @nA ?_
 refine ky @nA ?_
 refine Ow.lenMap rfl rfl underlying162 rfl (oH _ _ _ _) gj ?_
 refine ko @nA ?_
 refine ky @nA ?_
 refine⟨_,_,_,(by simp(disch:=omega) only[JO,Ih,Il,cV,ce,JA];rfl),rfl,⟨aP,trivial⟩, ?_,gj⟩
 exact congrArg Value.bool (decide_eq_decide.2 oM)
def Kc (n:List UInt8) (id:IdL):fI (d8 prog 149) (au prog 149) [(0,vs n),(1, .agg (a8 id.l))]=some (.agg (aH ⟨n,id⟩).toArray):=by
 have hz:au prog 149=some (.agg (vs []:: (List.replicate 32 (0:UInt8)).map v8).toArray):=zr149
 rw[pc149,hz]
 have h1: (Value.cells (vs n))= #[vs n]:=rfl
 have h2:Value.cells (.agg (a8 id.l))=(id.l.map v8).toArray:=ag _
 have qk:dZ (vs []:: (List.replicate 32 (0:UInt8)).map v8).toArray 0 [vs n]=(vs n:: (List.replicate 32 (0:UInt8)).map v8).toArray:=rfl
 have gS:=AR (id.l.map v8) [vs n] ((List.replicate 32 (0:UInt8)).map v8) (by simp[id.h])
 simp only[List.cons_append,List.nil_append,List.length_cons,List.length_nil,Nat.zero_add] at gS
 have hd:List.drop (id.l.map v8).length ((List.replicate 32 (0:UInt8)).map v8)= []:=List.drop_eq_nil_of_le (by simp[id.h])
 rw[hd,List.append_nil] at gS
 have s1: (vs []:: (List.replicate 32 (0:UInt8)).map v8).toArray.size=33:=by simp
 have s2: (vs n:: (List.replicate 32 (0:UInt8)).map v8).toArray.size=33:=by simp
 have s3: (id.l.map v8).toArray.size=32:=by simp[id.h]
 simp only[fI,Sx.fillV,List.getElem?_cons_zero,List.getElem?_cons_succ,h1,h2,s3]
 rw[if_pos ⟨rfl,by rw[s1];decide⟩,if_pos ⟨trivial,by rw[qk,s2];decide⟩,qk,gS]
 rfl
def sM {s:List UInt8} {a:Nat} {e:Int} (_ha:a≤s.length): (idR s a e).1.length=32:=by
 unfold idR
 simp only
 split
 ·assumption
 simp[z32]
def Zc {s:List UInt8} {a:Nat} {e:Int} (ha:a≤s.length):a≤ (idR s a e).2.1∧(idR s a e).2.1≤s.length:=vk ha
def yv {s:List UInt8} {a:Nat} {e most:Int} (ha:a≤s.length):a≤ (aY s a e most).2.1∧(aY s a e most).2.1≤s.length:=by
 have hp:=i_ (e:=e) (most:=most) ha
 have hq:=vk (e:=(aG s a e most).2.2) (n:=(aG s a e most).1) hp.2
 unfold aY
 simp only
 split
 ·exact⟨ap _,ha⟩
 exact⟨by omega,hq.2⟩
def Ue (old:Array Value) (r:RefL) (E:TypeId) (h:old.size=33):aw (some (true,33)) (some (.cells old E (0,0))) 0 (.agg (aH r).toArray)=some (.cells (aH r).toArray E (0,0)):=by
 have h1:Value.cells (.agg (aH r).toArray)=(aH r).toArray:=ag _
 have hp:=AR (aH r) [] old.toList (by rw[ef,Array.length_toList,h];exact ap _)
 simp only[List.nil_append,List.length_nil,Array.toArray_toList] at hp
 have hd:List.drop (aH r).length old.toList= []:=List.drop_eq_nil_of_le (by rw[ef,Array.length_toList,h];exact ap _)
 rw[hd,List.append_nil] at hp
 have ho: (aH r).all Value.oneCell'=true:=by
  unfold aH
  rw[List.all_cons,List.all_map,Bool.and_eq_true]
  exact⟨rfl,List.all_eq_true.2 fun x _=>rfl⟩
 unfold aw
 simp only[h1]
 rw[if_pos ⟨by rw[List.size_toArray,ef],by omega, .inl (ap 0),ho⟩,hp]
def tw (r:RefL) (E:TypeId):aQ (some (true,33)) (some (.cells (aH r).toArray E (0,0))) 0=some (.agg (aH r).toArray):=rZ _ E (0,0) 33 (by rw[List.size_toArray,ef])
def u3 (r r':RefL) (E:TypeId):aw (some (true,33)) (some (.cells (aH r').toArray E (0,0))) 0 (.agg (aH r).toArray)=some (.cells (aH r).toArray E (0,0)):=Ue _ _ _ (by rw[List.size_toArray,ef])
def cD:RefL:=⟨[],id0⟩
def oZ:au prog 149=some (.agg (aH cD).toArray):=zr149
def oneR (s:List UInt8) (a:Nat) (e:Int) (ha:a≤s.length):RefL×Nat×Int:=
 (⟨(aY s a e 32).1,⟨(idR s (aY s a e 32).2.1 (aY s a e 32).2.2).1,sM (yv ha).2⟩⟩,(idR s (aY s a e 32).2.1 (aY s a e 32).2.2).2)
def yg:=aN (aN (aN @bB @iH) (aN @iG (aN @iE @bA))) (aN (aN @rC (aN @rA @kX)) (aN @eqId (aN @u3 @tw)))
def EY (b:Nat) (s:List UInt8) (a:Nat) (e:Int) (w:World) (ha:a≤s.length) (hs:s.length<1099511627776) (ho:w.heap[b]? =some (.cells #[vs s,vi a,vi e] 314 (0,0))):
  Rets prog 166 #[vp b 0] w (fun v D=> ∃o,D= [(b,o)]∧v= .agg (aH (oneR s a e ha).1).toArray∧o= .cells #[vs s,vi (oneR s a e ha).2.1,vi (oneR s a e ha).2.2] 314 (0,0)):=by
 have fE:=(Array.getElem?_eq_some_iff.1 ho).1
 have ht:=yv (e:=e) (most:=32) ha
 unfold oneR
 refine Rets.enterM func166 rfl (rs:= [.cell 2 149]) results166 ntmps166 ho ?_
 refine kf ?_
 refine ky @yg ?_
 refine Ow.alloc rfl rfl oZ fun b1 aO aP=> ?_
 rw[kX]
 obtain⟨h01,-⟩:=aO
 refine ko @yg ?_
 refine ky @yg ?_
 refine Ow.callM rfl rfl call202 (by simp[keys]) (fun w' aA=>BE b s a e 32 w' ha oM (aA.has _ _ aa)) ?_
 refine ko @yg ?_
 refine Ow.callM rfl rfl call203 (by simp[keys]) (fun w' aA=>V7 b s _ _ w' ht.2 oM (aA.has _ _ aa)) ?_
 rw[n5]
 refine Ow.build _ rfl (Kc (aY s a e 32).1 ⟨(idR s (aY s a e 32).2.1 (aY s a e 32).2.2).1,sM (yv ha).2⟩) ?_
 generalize (⟨(aY s a e 32).1,⟨(idR s (aY s a e 32).2.1 (aY s a e 32).2.2).1,sM (yv ha).2⟩⟩:RefL)=r
 generalize hq: (idR s (aY s a e 32).2.1 (aY s a e 32).2.2).2=q
 refine ko @yg ?_
 refine ky @yg ?_
 refine⟨_,_,_,(ke @yg),rfl,⟨aP,trivial⟩, ?_⟩
 exact⟨rfl,rfl⟩
def cm (s:List UInt8) (a:Nat) (e:Int) (p:List UInt8):Option (List UInt8)×Nat×Int:=
 let t:=aY s a e 65536
 let u:=gI t.1
 let c:=cutP u.1 p
 (if u.2=true∧c.2=true∧t.2.2=0 then some c.1 else none,t.2)
def kZ:=aN (aN (aN (aN @bB @iH) (aN @iG @iE)) (aN (aN @bA @tz) (aN @u2 @u5))) (aN (aN (aN @tq @tv) (aN @nilR @pv)) (aN (aN @sk @sd) (aN @Sx.tup2_0 @Sx.tup2_1)))
def LI {s:List UInt8} {a:Nat} {e most:Int} (hs:s.length<1099511627776): (aY s a e most).1.length<1099511627776:=by
 have: ∀ (b:Nat) (e n:Int),(ax s b e n).1.length≤s.length:=by
  intro b e n
  unfold ax
  split
  ·simp
  split
  ·simp
  split
  ·simp
  simp only[List.length_take,List.length_drop];omega
 unfold aY
 simp only
 split
 ·simp
 exact Nat.lt_of_le_of_lt (this _ _ _) hs
def Vh_ (s:List UInt8): (gI s).1.length≤s.length:=by
 unfold gI
 split
 ·simp
 split
 ·simp only[List.length_take];omega
 simp
def RecS (s:List UInt8) (a:Nat) (e:Int) (p:List UInt8) (b n:Nat) (v:Value) (D:aB):Prop:=
 ((cm s a e p).1=none∧v= .pointer none∧D= [(b, .cells #[vs s,vi (cm s a e p).2.1,vi (cm s a e p).2.2] 314 (0,0))])∨
 ∃b' c,(cm s a e p).1=some c∧v=vp b' 0∧n≤b'∧b≠b'∧D= [(b, .cells #[vs s,vi (cm s a e p).2.1,vi (cm s a e p).2.2] 314 (0,0)),(b', .cells #[vs c,vi 0,vi 0] 314 (0,0))]
def Dp {s:List UInt8} {a:Nat} {e:Int} {p c:List UInt8} (hs:s.length<1099511627776) (h: (cm s a e p).1=some c):c.length<1099511627776:=by
 have h1:=LI (a:=a) (e:=e) (most:=65536) hs
 have h2:=Vh_ (aY s a e 65536).1
 unfold cm at h
 simp only at h
 split at h
 ·simp only[Option.some.injEq] at h
  subst h
  unfold cutP
  split
  ·simp only[List.length_drop];omega
  simp only;omega
 cases h
def EX {s:List UInt8} {a:Nat} {e:Int} {p c:List UInt8} (h: (cm s a e p).1=some c): (cm s a e p).2.2=0:=by
 unfold cm at h ⊢
 simp only at h ⊢
 split at h
 ·rename_i hh;exact hh.2.2
 cases h
def Xa_ (b:Nat) (s:List UInt8) (a:Nat) (e:Int) (p:List UInt8) (w:World) (hG:GlobC w) (kM:b≠4) (ha:a≤s.length) (hs:s.length<1099511627776) (ho:w.heap[b]? =some (.cells #[vs s,vi a,vi e] 314 (0,0))):
  Rets prog 164 #[vp b 0,vs p] w (XS w [(b, .cells #[vs s,vi a,vi e] 314 (0,0))] (RecS s a e p b 0)):=by
 have fE:=(Array.getElem?_eq_some_iff.1 ho).1
 have dE:=LI (a:=a) (e:=e) (most:=65536) hs
 have hul:=Vh_ (aY s a e 65536).1
 have hr:cm s a e p=(if(gI (aY s a e 65536).1).2=true∧(cutP (gI (aY s a e 65536).1).1 p).2=true∧(aY s a e 65536).2.2=0 then some (cutP (gI (aY s a e 65536).1).1 p).1 else none,(aY s a e 65536).2):=rfl
 unfold RecS
 rw[hr]
 have hX0: ∀q,q∈ [(b,Obj.cells #[vs s,vi a,vi e] 314 (0,0))]→w.heap[q.1]? =some q.2:=by
  intro q hq
  obtain rfl:=List.mem_singleton.1 hq
  exact ho
 refine Rets.enterX func164 rfl (rs:= [.tmp 4]) results164 ntmps164 hX0 (by simp[keys]) ?_
 refine kf ?_
 refine ky @kZ ?_
 refine Ow.callM rfl rfl call202 (by simp[keys]) (fun w' aA=>BE b s a e 65536 w' ha oM (aA.has _ _ aa)) ?_
 rw[n5]
 generalize aY s a e 65536=t at*
 obtain⟨t,a2,e2⟩:=t
 simp only at dE hul ⊢
 refine ko @kZ ?_
 refine Ow.callFV rfl call216 (fun w' aA=>Nr t w' (GlobC.of hG aA (by simp[keys];omega)) dE) ?_
 generalize gI t=u at*
 obtain⟨u,ok⟩:=u
 simp only at hul ⊢
 refine ko @kZ ?_
 refine ky @kZ ?_
 refine Ow.callFV rfl call217 (fun w' aA=>MF u p w' oM) ?_
 generalize cutP u p=c at*
 obtain⟨c,is⟩:=c
 simp only
 refine ko @kZ ?_
 refine ky @kZ ?_
 cases ok
 ·refine ky @kZ ?_
  refine⟨_,(ke @kZ), ?_⟩
  exact⟨Ext.refl _ _|>.keys rfl, .inl ⟨by simp,rfl,rfl⟩⟩
 cases is
 ·refine ky @kZ ?_
  refine⟨_,(ke @kZ), ?_⟩
  exact⟨Ext.refl _ _|>.keys rfl, .inl ⟨by simp,rfl,rfl⟩⟩
 refine ky @kZ ?_
 refine Ow.callFV rfl call218 (fun w' aA=>BA b s _ e2 w' (aA.has _ _ aa)) ?_
 refine ko @kZ ?_
 by_cases he:e2=0
 ·refine ky @kZ ?_
  refine Ow.callF rfl rfl call147 (S:=fun B v D=> ∃b',B≤b'∧v=vp b' 0∧D= [(b', .cells #[vs c,vi 0,vi 0] 314 (0,0))]) (fun w' aA=>C5 c w') ?_
  rintro B v D jn hB ⟨b',eG,rfl,rfl⟩
  refine⟨_,Mrg.fresh (by intro q hq;simp only[keys,List.map_cons,List.map_nil,List.mem_singleton] at hq;omega), ?_⟩
  obtain⟨hab1,-⟩:=jn
  refine ko @kZ ?_
  refine ky @kZ ?_
  refine⟨_,(ke @kZ), ?_⟩
  refine⟨?_, .inr ⟨b',c,by simp[he],rfl,by omega,by omega,rfl⟩⟩
  exact(Ext.refl _ _|>.keys rfl:Ext w [(b,Obj.cells #[vs s,vi a,vi e] 314 (0,0))] [(b,Obj.cells #[vs s,vi a2,vi e2] 314 (0,0))]).app oM
 refine ky @kZ ?_
 refine⟨_,(ke @kZ), ?_⟩
 exact⟨Ext.refl _ _|>.keys rfl, .inl ⟨by simp[he],rfl,rfl⟩⟩
def zI (r:RefL): (aH r).all Value.oneCell'=true:=by
 unfold aH
 rw[List.all_cons,List.all_map,Bool.and_eq_true]
 exact⟨rfl,List.all_eq_true.2 fun x _=>rfl⟩
def yf:=aN (aN @bB @iH) (aN @iG (aN @iE @bA))
abbrev gY (w:World) (v:Value) (l:List RefL):Prop:=SlV 33 aH cD w v l
def C3 (b o n c:Nat):ab prog .eql 71 (vsl b o n c) (.slice none 0 0)=some (.bool false):=by
 simp[ab,eqX,eN,eA,underlying71,vsl]
def Va_:ab prog .eql 71 (.slice none 0 0) (.slice none 0 0)=some (.bool true):=by
 simp[ab,eqX,eN,eA,underlying71]
def ti (v:Value) (ls:List RefL) (w:World) (hv:gY w v ls) (hl:ls.length<1000000):
  Rets prog 81 #[v] w (XS w [] (fun v D=>Gr D 149 33 v ls.length (ls.map aH).flatten)):=by
 obtain⟨b,off,c,arr,E,fz,hr,hc,⟨rfl,rfl,rfl⟩ | ⟨rfl,hb,e_⟩⟩:=hv
 ·refine Rets.enterX func81 rfl (rs:= [.tmp 2]) results81 ntmps81 (fun p hp=>by cases hp) (by simp[keys]) ?_
  refine kf ?_
  refine ky (aN @yf (aN @C3 @Va_)) ?_
  refine⟨_,(ke @yf), ?_⟩
  exact⟨Ext.refl _ _,Gr.nl⟩
 have fE:=(Array.getElem?_eq_some_iff.1 hb).1
 have hv:gY w (vsl b off ls.length c) ls:=⟨b,off,c,arr,E,fz,hr,hc, .inr ⟨rfl,hb,e_⟩⟩
 refine Rets.enterX func81 rfl (rs:= [.tmp 2]) results81 ntmps81 (fun p hp=>by cases hp) (by simp[keys]) ?_
 refine kf ?_
 refine ky (aN @yf (aN @C3 @Va_)) ?_
 refine Ow.buildSlice (e:=149) #[] rfl rfl kR fun b1 aO aP=> ?_
 refine ko @yf ?_
 refine Ow.appendG (e:=149) (k:=ls.length) (new:=(ls.map aH).flatten) (vsl b1 0 0 0) rfl rfl rfl underlying71 ag149 kR oZ (by rw[kX,List.size_toArray,ef]) underlying71 (by intro k h;cases h) (.inr ⟨rfl,rfl,b1,rfl,jQ aO⟩) (fun w' aA=>(hv.oldN aA ⟨aP,trivial⟩).appX ef zI) (wI ef ls) oM (fun v2 L2 hB cZ hG hS=> ?_)
 rw[Nat.zero_add,List.nil_append] at hB
 refine ko @yf ?_
 refine ky @yf ?_
 refine⟨_,(ke @yf), ?_⟩
 exact⟨((Ext.refl w []).app (o:=Obj.cells #[] 149 (0,0)) aP).grew hG,hB⟩
def GlobC.ofE {w w':World} {X L:aB} (h:GlobC w) (hE:Ext w X L) (hw:Hp w L w') (hn: (4:Nat)∉keys X):GlobC w':=by
 have aC: (4:Nat)<w.heap.size:=by obtain⟨e,f,h⟩:=h;exact(Array.getElem?_eq_some_iff.1 h).1
 exact GlobC.of h hw (hE.not aC hn)
def BldAt.zero (b:Nat) {L:aB} (h:Sx.look L b=some (.cells #[.pointer none, .slice none 0 0] 236 (0,0))):BldAt b [] L:=
 ⟨_,_,h, .inl rfl, .nl,fun h=>by cases h⟩
def eQ (l:List UInt8):List UInt8:=dz (gZ l)
def Wl_ (b:Nat) (X:aB) (l:List UInt8) (w:World) (hG:GlobC w) (hg: (4:Nat)∉keys X) (hB:BldAt b l X) (hX: ∀p,p∈X→w.heap[p.1]? =some p.2) (hn: (keys X).Nodup) (hl:l.length<1073741824):
  Rets prog 155 #[vp b 0] w (XS w X (fun v _=>v=vs (eQ l))):=by
 refine Rets.enterX func155 rfl (rs:= [.tmp 2]) results155 ntmps155 hX hn ?_
 refine kf ?_
 refine ky @Nat.add_zero ?_
 refine Ow.alloc rfl rfl zr236 fun b1 aO aP=> ?_
 refine ko @Nat.add_zero ?_
 have fp:=(Ext.refl w X).app (o:= .cells #[.pointer none, .slice none 0 0] 236 (0,0)) aP
 refine ky @Nat.add_zero ?_
 refine Ow.callX (Y:= [(b1, .cells #[.pointer none, .slice none 0 0] 236 (0,0))]) (by simp) rfl rfl call126 (fun w' aA hX hn=>Kq_ b X l w' hB hX hn oM) (fun v2 D2 hC bH=> ?_)
 subst bH
 have bw:=fp.came hC
 have hb1D:b1∉keys D2:=fun hm=>by
  rcases hC.new b1 hm with h| ⟨h,-⟩
  ·exact Nat.lt_irrefl _ (ak aO h)
  exact Nat.lt_irrefl _ (ak h (by rw[ae];exact db _ aa))
 have hZ:BldAt b1 [] (D2++ [(b1, .cells #[.pointer none, .slice none 0 0] 236 (0,0))]):=BldAt.zero b1 (by rw[g8 hb1D];exact fN _ _ _)
 generalize D2++ [(b1,Obj.cells #[.pointer none, .slice none 0 0] 236 (0,0))]=D3 at*
 refine ko @Nat.add_zero ?_
 refine Ow.callFV rfl call209 (fun w' aA=>B_ l w' (GlobC.ofE hG bw aA hg) oM) ?_
 refine ko @Nat.add_zero ?_
 have cb:=As l
 refine Ow.buildSlice (e:=9) #[vs (gZ l)] rfl rfl kR fun b4 ir lC=> ?_
 refine ko @Nat.add_zero ?_
 have dE: (lE [gZ l])=eQ l:=by simp[lE,eQ]
 have bI:=ij ((gZ l).length:Int)
 have oA: (eQ l).length=(eY (d_ (gZ l).length)).length+ (gZ l).length:=by unfold eQ dz;rw[List.length_append]
 refine Ow.callX (Y:= [(b4, .cells #[vs (gZ l)] 9 (0,0))]) (by simp) rfl rfl call124 (fun w' aA hX hn=>Lo b1 D3 [] _ b4 0 [gZ l] _ _ _ w' hZ hX hn (StrS.lit [gZ l] rfl rfl (aA.has _ _ (db _ aa))) (fun _ hm=>Nat.lt_irrefl _ (ak ir hm)) (by rw[dE];simp only[List.length_nil];omega) (by simp)) (fun v5 D5 uZ rN=> ?_)
 obtain⟨rfl,mo⟩:=rN
 rw[dE,List.nil_append] at mo
 have jB:=(bw.app (o:= .cells #[vs (gZ l)] 9 (0,0)) lC).came uZ
 have tF:=BldAt.app (Y:= [(b4, .cells #[vs (gZ l)] 9 (0,0))]) mo
 generalize D5++ [(b4,Obj.cells #[vs (gZ l)] 9 (0,0))]=D6 at*
 refine ko @Nat.add_zero ?_
 refine ky @Nat.add_zero ?_
 refine Ow.callX (Y:= []) (by simp) rfl rfl call126 (fun w' aA hX hn=>Kq_ b1 D6 (eQ l) w' tF hX hn oM) (fun v7 D7 ox jD=> ?_)
 subst jD
 rw[List.append_nil]
 refine ko @Nat.add_zero ?_
 refine ky @Nat.add_zero ?_
 refine⟨_,(ke @Nat.add_zero), ?_⟩
 exact⟨jB.came0 ox,rfl⟩
end Go.Proofs
end
