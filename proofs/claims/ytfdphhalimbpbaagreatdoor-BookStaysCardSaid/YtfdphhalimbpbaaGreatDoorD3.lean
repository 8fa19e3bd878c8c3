/-
  Part 3 of the walk: contracts of the functions that the law reaches, and the calculus they stand on.
  No conditions.
-/
import Derived.Test.YtfdphhalimbpbaaGreatDoorD2
import Derived.Lib.Small
import Derived.Lib.Walk
import Derived.Sort.Grow
import Derived.Deep.Draws
import Derived.Shelf.SlSortCmp.NoneTotal
import Derived.Shelf.SlLaysF0
import Derived.Ground.SlsfProg
set_option maxRecDepth 100000
set_option maxHeartbeats 4000000
set_option linter.unusedSimpArgs false
set_option linter.defProp false
open Go.Proofs.Tryz
section
open Go Go.Proofs Go.Sx Go.StP
namespace Go.Proofs
def phF (n:Nat):FuncId:=match n with
 |0=>273
 |1=>274
 |2=>275
 |3=>276
 |4=>277
 |_=>278
def stV:List Value:= [.func (.func (phF 0)) #[] #[], .func (.func (phF 1)) #[] #[], .func (.func (phF 2)) #[] #[], .func (.func (phF 3)) #[] #[], .func (.func (phF 4)) #[] #[], .func (.func (phF 5)) #[] #[]]
def stO:Obj:= .cells stV.toArray 348 (0,0)
def P6 (n m:Nat) (h:n<6):ak (some (false,m)) (some stO) n=some (.func (.func (phF n)) #[] #[]):=by
 rcases(by omega:n=0∨n=1∨n=2∨n=3∨n=4∨n=5) with rfl|rfl|rfl|rfl|rfl|rfl<;>rfl
def OE (n:Nat) (h:n<6) (X:aA) (G:DkG) (S:DiskL) (N bt:Nat) (t:TkL) (w:World) (hX: ∀p,p∈X++ [(bt,tkO t)]→w.heap[p.1]? =some p.2) (hn: (keys (X++ [(bt,tkO t)])).Nodup) (hA:DkA X G S N) (hN:N<900000) (hB:TkB t):
  Rets prog (phF n) #[vp bt 0,vp G.bd 0] w (XS w (X++ [(bt,tkO t)]) (PhS G bt (phT n t S) (N+1))):=by
 rcases(by omega:n=0∨n=1∨n=2∨n=3∨n=4∨n=5) with rfl|rfl|rfl|rfl|rfl|rfl
 ·exact I5 X G S N bt t w hX hn hA hN hB
 ·exact FF X G S N bt t w hX hn hA hN hB
 ·exact FI X G S N bt t w hX hn hA hN hB
 ·exact HQ X G S N bt t w hX hn hA hN hB
 ·exact Xv X G S N bt t w hX hn hA hN hB
 exact Xc X G S N bt t w hX hn hA hN hB
def Oq (n:Nat) (h:n<6): ∀a w,(callFunc (phF n) a).run prog w= .ok (.enter (phF n) a) w:=by
 rcases(by omega:n=0∨n=1∨n=2∨n=3∨n=4∨n=5) with rfl|rfl|rfl|rfl|rfl|rfl
 ·exact call273
 ·exact call274
 ·exact call275
 ·exact call276
 ·exact call277
 exact call278
def Xw (bt:Nat) (t:TkL) (w:World) (hX:w.heap[bt]? =some (tkO t)):Rets prog 238 #[vp bt 0] w (fun v D=>v= .bool t.ended∧D= []):=by
 have bC:=Qu bt 0
 refine Rets.enterV func238 rfl (rs:= [.tmp 2]) results238 ntmps238 ?_
 refine kf ?_
 refine ky (aN @hX @bC) ?_
 refine⟨_,(ke @Nat.add_zero),trivial, ?_⟩
 rfl
def Lf:iL (fX prog 348) (bL prog 348) [(0, .func (.func (phF 0)) #[] #[]),(1, .func (.func (phF 1)) #[] #[]),(2, .func (.func (phF 2)) #[] #[]),(3, .func (.func (phF 3)) #[] #[]),(4, .func (.func (phF 4)) #[] #[]),(5, .func (.func (phF 5)) #[] #[])]=some (.agg stV.toArray):=by
 rw[show fX prog 348=some [(0,1),(1,1),(2,1),(3,1),(4,1),(5,1)] from id kR,zr348];rfl
def Dh:bM (some (true,6)) (some (.cells #[.nilFunc, .nilFunc, .nilFunc, .nilFunc, .nilFunc, .nilFunc] 348 (0,0))) 0 (.agg stV.toArray)=some stO:=(rfl)
def ID (w:World):Rets prog 239 #[] w (fun v D=>v= .agg stV.toArray∧D= []):=by
 refine Rets.enterV func239 rfl (rs:= [.cell 0 348]) results239 ntmps239 ?_
 refine kf ?_
 refine ky @Nat.add_zero ?_
 refine Ow.alloc rfl rfl zr348 fun b1 aP aY=> ?_
 refine ko @Nat.add_zero ?_
 refine Ow.build (.agg stV.toArray) rfl Lf ?_
 refine ko @Dh ?_
 refine ky @Dh ?_
 refine⟨_,(ke @Nat.add_zero),⟨aY,trivial⟩, ?_⟩
 rfl
def d5:=aN (aN (aN @bq @bl) (aN @xm (aN @xq @xd))) (aN (aN @xT (aN @xk @xv)) (aN @xN (aN @Sx.tup2_0 @Sx.tup2_1)))
def ibeq (n k:Nat): ((n:Int)==(k:Int))=(n==k):=by
 rw[Bool.eq_iff_iff,beq_iff_eq,beq_iff_eq]
 omega
structure SG where
 lab:Nat
 did:Bool
 e:Nat
 t:TkL
 S:DiskL
 G:DkG
 X:aA
 b8:Nat
 c:Nat
def SJ (w:World) (L0:aA) (n bd bt N:Nat) (R:StR) (g:SG):Prop:=
 Ext w L0 ((bt,tkO g.t):: (g.b8,stO)::g.X)∧(keys ((bt,tkO g.t):: (g.b8,stO)::g.X)).Nodup∧n≤g.b8∧g.G.bd=bd∧DkA g.X g.G g.S (N+g.c)∧TkB g.t∧
 ((g.lab=0∧g.c+ (6 - g.t.next)≤6∧g.t.next<6∧eZ (6 - g.t.next) g.t g.S=R)∨
 (g.lab=1∧g.c≤6∧ ∃r:PhR,g.t=nxT r∧g.S=r.S∧g.e=r.e∧cu r=R))
def SL (g:SG):Nat:=match g.lab with
 |0=>0
 |_=>1
def SL0 (a b c d e f g h):SL ⟨0,a,b,c,d,e,f,g,h⟩=0:=rfl
def SS (g:SG):List (Nat×Value):= [(6, .bool g.did),(7,vi (g.e:Nat)),(8,vp g.b8 0)]
def SH (bt:Nat) (g:SG):aA:=(bt,tkO g.t):: (g.b8,stO)::g.X
def StS (G:DkG) (bt:Nat) (R:StR) (N:Nat) (v:Value) (D:aA):Prop:=v= .tuple #[.bool R.done,vi (R.e:Nat)]∧ ∃X' G',(X'++ [(bt,tkO R.t)]).Perm D∧G'.bd=G.bd∧DkA X' G' R.S N
set_option maxHeartbeats 12000000 in
def Jl (X:aA) (G:DkG) (S:DiskL) (N bt:Nat) (t:TkL) (w:World) (hX: ∀p,p∈X++ [(bt,tkO t)]→w.heap[p.1]? =some p.2) (hn: (keys (X++ [(bt,tkO t)])).Nodup) (hA:DkA X G S N) (hN:N<800000) (hB:TkB t) (aQ:t.ended=false→t.next<6):
  Rets prog 210 #[vp bt 0,vp G.bd 0] w (XS w (X++ [(bt,tkO t)]) (StS G bt (ek t S) (N+7))):=by
 refine Rets.enterX func210 rfl (rs:= [.tmp 4, .tmp 5]) results210 ntmps210 hX hn ?_
 refine kf ?_
 have gg:=(kO hn).1
 have rdt:=(kO hn).2 X (tkO t) gg w
 unfold ek
 refine ky @d5 ?_
 refine Cw.scopeL (G:=SG) (fun g=>SL g) [9,10,4,5,6,7,11,8,13,14,15,16,17,18,19,20,21,12,22,23,24,25,26,27,28,29,30,31,32,33,34,35,36,37,38,39,40,41,42,43,44,45,46,47,48,49,50,51,52,53,54,55,56,57,58,59,60,61,62,63,64,65,66,67,68,69,70,71,72,73,74,75,76,77,78,79,80,81,82,83,84,85,86,87,88,89] (fun g=>SS g) (fun g=>SH bt g) (fun g=>SJ w (X++ [(bt,tkO t)]) w.heap.size G.bd bt N (if t.ended=true then⟨false,15,t,S⟩ else eZ (6 - t.next) t S) g) (fun g=>(if g.lab=0 then 6 - g.t.next+1 else 0)) ?_ ?_ ?_
 ·intro g
  unfold SL
  split<;>rfl
 ·intro g j hg
  obtain⟨lab,did,e,t1,S1,G1,X1,b8,c⟩:=g
  obtain⟨hE,ay,iS,dU,eR,dv,hg⟩:=hg
  simp only at hE ay iS dU eR dv hg
  rcases hg with⟨rfl,hc,ft,hR⟩ | ⟨rfl,hc,r,rfl,rfl,rfl,hR⟩
  ·simp only[SL,SS,SH]
   simp only[gq,fi,Bool.or_false,Bool.false_or,Bool.or_true,Bool.true_or,Nat.reduceBEq,beq_self_eq_true, ↓reduceIte,Bool.false_eq_true]
   refine kv ?_
   try with_reducible refine tP ?_
   have hk:=ay
   simp only[keys,List.map_cons,List.nodup_cons,List.mem_cons,not_or] at hk
   have gd:bt≠b8:=hk.1.1
   have aP:bt∉keys X1:=hk.1.2
   have ar:b8∉keys X1:=hk.2.1
   have rd8: ∀o w,aS w ((bt,o):: (b8,stO)::X1) b8=some stO:=fun o w=>ad (by simp[Sx.look,gd])
   have uC: ∀m,lD (.arr 6 m) (vp b8 0) (some (t1.next:Int))=some (vp b8 (t1.next*m.2)):=fun m=>by
    rw[V7 _ _ _ _ _ ⟨by omega,by omega⟩];simp
   have jY: ∀m,ak (some (false,m)) (some stO) t1.next=some (.func (.func (phF t1.next)) #[] #[]):=fun m=>P6 _ m ft
   refine ky (aN @d5 (aN @rd8 (aN @uC @jY))) ?_
   refine Ow.permL (M:=(X1++ [(bt,tkO t1)])++ [(b8,stO)]) pM ?_
   refine Ow.callFnX2 (X:=X1++ [(bt,tkO t1)]) (Y:= [(b8,stO)]) (b:=vp bt 0) (b2:=vp G.bd 0) rfl rfl rfl rfl rfl rfl (Oq t1.next ft) (fun w' aB ab aX=>by rw[←dU];exact OE t1.next ft X1 G1 S1 (N+c) bt t1 w' ab aX eR oM dv) (fun v4 D4 dH bE=> ?_)
   obtain⟨rfl,X2,G2,fH,dw,cU⟩:=bE
   obtain⟨k7,gn,nQ,tA,uK,pL⟩:=m9 t1.next t1 S1
   have cX:TkB (phT t1.next t1 S1).t:=⟨by rw[gn];exact dv.name,by rw[nQ];exact dv.data⟩
   have Yf:TkB (nxT (phT t1.next t1 S1)):=⟨cX.name,cX.data⟩
   have VQ:TkB (fe (phT t1.next t1 S1)):=⟨cX.name,cX.data⟩
   obtain⟨q,hq⟩: ∃q,6 - t1.next=q+1:=⟨5 - t1.next,by omega⟩
   rw[hq] at hR
   replace hR: (if(phT t1.next t1 S1).e≠0 then cu (phT t1.next t1 S1)
    else if(phT t1.next t1 S1).did=false∧ga (nxT (phT t1.next t1 S1))=false then eZ q (fe (phT t1.next t1 S1)) (phT t1.next t1 S1).S
    else⟨ga (nxT (phT t1.next t1 S1)),0,fe (phT t1.next t1 S1),(phT t1.next t1 S1).S⟩)=_:=hR
   generalize phT t1.next t1 S1=r at*
   have Vx: ((bt,tkO r.t):: (b8,stO)::X2).Perm (D4++ [(b8,stO)]):=(by simpa using(List.perm_append_comm (l₁:= [(bt,tkO r.t),(b8,stO)]) (l₂:=X2)): ((bt,tkO r.t):: (b8,stO)::X2).Perm (X2++ [(bt,tkO r.t),(b8,stO)])).trans (by simpa using fH.append_right [(b8,stO)])
   have bN:Ext w (X++ [(bt,tkO t)]) ((X1++ [(bt,tkO t1)])++ [(b8,stO)]):=hE.perm pM
   have bO:Ext w (X++ [(bt,tkO t)]) ((bt,tkO r.t):: (b8,stO)::X2):=(Ext.came bN dH).perm Vx
   refine Ow.permL Vx ?_
   refine Ow.world fun w9 jh=> ?_
   have su: (keys ((bt,tkO r.t):: (b8,stO)::X2)).Nodup:=jh.nodup
   have f_: ∀a,bM (some (a,1)) (some (tkO r.t)) 4 (vi ((r.t.next:Int)+1))=some (tkO (nxT r)):=fun a=>vn r.t (r.t.next+1) a
   have Zq:r.t.next<6:=by omega
   have e_:DkA (X2++ [(b8,stO)]) G2 r.S (N+7):=⟨cU.P.mono (X':=X2++ [(b8,stO)]) fun b o h=>cT h,cU.H,cU.B.mono oM⟩
   refine ko @d5 ?_
   by_cases he:r.e=0
   ·have e0: ((r.e:Int) !=0)=false:=by rw[he];rfl
    rw[if_neg (fun h=>h he)] at hR
    have fI: ∀a,bM (some (a,1)) (some (tkO (nxT r))) 6 (.bool (ga (nxT r)))=some (tkO (fe r)):=fun a=>Ed (nxT r) _ a
    have gF: (fe r).ended=ga (nxT r):=rfl
    have kj:ga (nxT r)=((nxT r).next==6|| ((nxT r).light&& (nxT r).next==5)):=rfl
    have i6: (((nxT r).next:Int)==6)=((nxT r).next==6):=ibeq _ 6
    have i5: (((nxT r).next:Int)==5)=((nxT r).next==5):=ibeq _ 5
    cases c6: ((nxT r).next==6) with
    |true=>
     have h9:ga (nxT r)=true:=by rw[kj,c6];rfl
     rw[c6] at i6
     rw[h9] at fI gF hR
     rw[if_neg (fun h=>by cases h.2)] at hR
     cases hd:r.did with
     |true=>
      refine ky (aN @d5 (aN @f_ (aN @e0 (aN @fI (aN @i6 @gF))))) ?_
      refine⟨_,(ke @d5), ?_⟩
      rw[←hR]
      exact⟨bO.keys rfl,rfl,X2++ [(b8,stO)],G2,pM,dw.trans dU,e_⟩
     |false=>
      refine ky (aN @d5 (aN @f_ (aN @e0 (aN @fI (aN @i6 @gF))))) ?_
      refine⟨_,(ke @d5), ?_⟩
      rw[←hR]
      exact⟨bO.keys rfl,rfl,X2++ [(b8,stO)],G2,pM,dw.trans dU,e_⟩
    |false=>
     have Cz:r.t.next+1≠6:=beq_eq_false_iff_ne.1 c6
     rw[c6] at i6
     cases cl: (nxT r).light with
     |false=>
      have h9:ga (nxT r)=false:=by rw[kj,c6,cl];rfl
      rw[h9] at fI gF hR
      cases hd:r.did with
      |true=>
       rw[hd,if_neg (fun h=>by cases h.1)] at hR
       refine ky (aN @d5 (aN @f_ (aN @e0 (aN @fI (aN @i6 (aN @cl @gF)))))) ?_
       refine⟨_,(ke @d5), ?_⟩
       rw[←hR]
       exact⟨bO.keys rfl,rfl,X2++ [(b8,stO)],G2,pM,dw.trans dU,e_⟩
      |false=>
       rw[hd,if_pos ⟨rfl,rfl⟩] at hR
       refine ky (aN @d5 (aN @f_ (aN @e0 (aN @fI (aN @i6 (aN @cl @gF)))))) ?_
       exact Jump.mk ⟨0,false,r.e,fe r,r.S,G2,X2,b8,c+1⟩ rfl (by show 6 - (r.t.next+1)+1<6 - t1.next+1;omega) ⟨bO.keys rfl,su,iS,dw.trans dU,cU,VQ, .inl ⟨rfl,by show c+1+ (6 - (r.t.next+1))≤6;omega,by show r.t.next+1<6;omega,by show eZ (6 - (r.t.next+1)) _ _=_;rw[show 6 - (r.t.next+1)=q by omega];exact hR⟩⟩ rfl rfl
     |true=>
      cases c5: ((nxT r).next==5) with
      |true=>
       have h9:ga (nxT r)=true:=by rw[kj,c6,cl,c5];rfl
       rw[c5] at i5
       rw[h9] at fI gF hR
       rw[if_neg (fun h=>by cases h.2)] at hR
       cases hd:r.did with
       |true=>
        refine ky (aN @d5 (aN @f_ (aN @e0 (aN @fI (aN @i6 (aN @i5 (aN @cl @gF))))))) ?_
        refine⟨_,(ke @d5), ?_⟩
        rw[←hR]
        exact⟨bO.keys rfl,rfl,X2++ [(b8,stO)],G2,pM,dw.trans dU,e_⟩
       |false=>
        refine ky (aN @d5 (aN @f_ (aN @e0 (aN @fI (aN @i6 (aN @i5 (aN @cl @gF))))))) ?_
        refine⟨_,(ke @d5), ?_⟩
        rw[←hR]
        exact⟨bO.keys rfl,rfl,X2++ [(b8,stO)],G2,pM,dw.trans dU,e_⟩
      |false=>
       have h9:ga (nxT r)=false:=by rw[kj,c6,cl,c5];rfl
       rw[c5] at i5
       rw[h9] at fI gF hR
       cases hd:r.did with
       |true=>
        rw[hd,if_neg (fun h=>by cases h.1)] at hR
        refine ky (aN @d5 (aN @f_ (aN @e0 (aN @fI (aN @i6 (aN @i5 (aN @cl @gF))))))) ?_
        refine⟨_,(ke @d5), ?_⟩
        rw[←hR]
        exact⟨bO.keys rfl,rfl,X2++ [(b8,stO)],G2,pM,dw.trans dU,e_⟩
       |false=>
        rw[hd,if_pos ⟨rfl,rfl⟩] at hR
        refine ky (aN @d5 (aN @f_ (aN @e0 (aN @fI (aN @i6 (aN @i5 (aN @cl @gF))))))) ?_
        exact Jump.mk ⟨0,false,r.e,fe r,r.S,G2,X2,b8,c+1⟩ rfl (by show 6 - (r.t.next+1)+1<6 - t1.next+1;omega) ⟨bO.keys rfl,su,iS,dw.trans dU,cU,VQ, .inl ⟨rfl,by show c+1+ (6 - (r.t.next+1))≤6;omega,by show r.t.next+1<6;omega,by show eZ (6 - (r.t.next+1)) _ _=_;rw[show 6 - (r.t.next+1)=q by omega];exact hR⟩⟩ rfl rfl
   have e0: ((r.e:Int) !=0)=true:=by
    rw[bne_iff_ne];omega
   rw[if_pos he] at hR
   refine ky (aN @d5 (aN @f_ @e0)) ?_
   exact Jump.mk ⟨1,r.did,r.e,nxT r,r.S,G2,X2,b8,c+1⟩ rfl (by show 0<6 - t1.next+1;omega) ⟨bO.keys rfl,su,iS,dw.trans dU,cU,Yf, .inr ⟨rfl,by show c+1≤6;omega,r,rfl,rfl,rfl,hR⟩⟩ rfl rfl
  simp only[SL,SS,SH]
  simp only[gq,fi,Bool.or_false,Bool.false_or,Bool.or_true,Bool.true_or,Nat.reduceBEq,beq_self_eq_true, ↓reduceIte,Bool.false_eq_true]
  refine kv ?_
  try with_reducible refine tP ?_
  have hk:=ay
  simp only[keys,List.map_cons,List.nodup_cons,List.mem_cons,not_or] at hk
  have gd:bt≠b8:=hk.1.1
  have aP:bt∉keys X1:=hk.1.2
  have ar:b8∉keys X1:=hk.2.1
  have rd8: ∀o w,aS w ((bt,o):: (b8,stO)::X1) b8=some stO:=fun o w=>ad (by simp[Sx.look,gd])
  obtain⟨T1,u4⟩: ∃T1,T1=({nxT r with ended:=true}:TkL):=⟨_,rfl⟩
  have bH: ∀a,bM (some (a,1)) (some (tkO (nxT r))) 6 (.bool true)=some (tkO T1):=fun a=>by rw[u4];exact Ed (nxT r) true a
  have d1:T1.dir=r.t.dir:=by rw[u4];rfl
  have d2:T1.name=r.t.name:=by rw[u4];rfl
  have d3:T1.made=(nxT r).made:=by rw[u4]
  have Zm:T1.name.length≤900000:=by rw[d2];exact dv.name
  have hBT: (aD T1.name).length≤900004:=by rw[d2];exact tc (t:=nxT r) dv
  have e_:DkA (X1++ [(b8,stO)]) G1 r.S (N+7):=⟨eR.P.mono (X':=X1++ [(b8,stO)]) fun b o h=>cT h,eR.H,eR.B.mono oM⟩
  by_cases hm: (nxT r).made=true∧r.e≠9
  ·have m1:T1.made=true:=d3.trans hm.1
   have e9: ((r.e:Int) !=9)=true:=by
    rw[bne_iff_ne]
    have:=hm.2
    omega
   have hw:cu r=⟨false,r.e,T1,(fA r.S T1.dir (aD T1.name)).1⟩:=by
    unfold cu
    rw[if_pos hm,d1,d2,u4]
   refine ky (aN @d5 (aN @bH (aN @m1 @e9))) ?_
   refine Cw.permL (M:=X1++ [(bt,tkO T1),(b8,stO)]) pM ?_
   have rdT:aS w (X1++ [(bt,tkO T1),(b8,stO)]) bt=some (tkO T1):=ad (by rw[gO aP];simp[Sx.look])
   have tE:=fun(w':World) (ab: ∀p,p∈X1→w'.heap[p.1]? =some p.2) (aX: (keys X1).Nodup)=>Tt X1 G1 r.S T1.dir (aD T1.name) w' ab aX eR.P oM (eR.pend oM)
   simp only[dU] at tE
   refine Cw.regionO [0,1,2,3,5,6,7,4,8,9,10] [10] rfl kR kR ?_
   simp only[cR, ↓cS, ↓bz, ↓cG, ↓cH,b_]
   refine kq (aN @d5 @rdT) ?_
   refine Ow.callX (X:=X1) (Y:= [(bt,tkO T1),(b8,stO)]) rfl rfl rfl call240 (fun w' aB ab aX=>tE w' ab aX) (fun v4 D4 dH bE=> ?_)
   obtain⟨rfl,G',Rf,kh⟩:=bE
   refine kq @d5 ?_
   refine ky @d5 ?_
   refine⟨_,(ke @d5), ?_⟩
   rw[←hR,hw]
   have gP:=eR.step kh (pV r.S T1.dir (aD T1.name) []) oM (cC _)
   have bN:Ext w (X++ [(bt,tkO t)]) (X1++ [(bt,tkO T1),(b8,stO)]):=(hE.keys (D':=(bt,tkO T1):: (b8,stO)::X1) rfl).perm pM
   exact⟨bN.came dH,rfl,D4++ [(b8,stO)],G',pM,Rf,gP.P.mono (X':=D4++ [(b8,stO)]) fun b o h=>cT h,gP.H,gP.B.mono oM⟩
  have hw:cu r=⟨false,r.e,T1,r.S⟩:=by
   unfold cu
   rw[if_neg hm,u4]
  by_cases eK: (nxT r).made=true
  ·have h9:r.e=9:=Decidable.byContradiction fun h=>hm ⟨eK,h⟩
   have m1:T1.made=true:=d3.trans eK
   have e9: ((r.e:Int) !=9)=false:=by rw[h9];rfl
   refine ky (aN @d5 (aN @bH (aN @m1 @e9))) ?_
   refine⟨_,(ke @d5), ?_⟩
   rw[←hR,hw]
   exact⟨hE.keys rfl,rfl,X1++ [(b8,stO)],G1,pM,dU,e_⟩
  have m1:T1.made=false:=d3.trans (by simpa using eK)
  refine ky (aN @d5 (aN @bH @m1)) ?_
  refine⟨_,(ke @d5), ?_⟩
  rw[←hR,hw]
  exact⟨hE.keys rfl,rfl,X1++ [(b8,stO)],G1,pM,dU,e_⟩
 intro key
 repeat ((try with_reducible refine Cw.go [999999] ?_);(simp(disch:=first|exact dD|fail) only[↓Sx.S0,Sx.S1,fx,d5,Nat.reduceAdd,Nat.reducePow,Int.reducePow,Nat.reduceBEq, ↓reduceIte,UInt8.reduceToNat,UInt16.reduceToNat,UInt32.reduceToNat,UInt64.reduceToNat,Int.reduceToNat]))
 refine Ow.callFV rfl call238 (fun w' aB=>Xw bt t w' (aB.has _ _ (dS _ (List.mem_singleton.2 rfl)))) ?_
 have htf:t.ended=true∨t.ended=false:=by cases t.ended<;>simp
 rcases htf with nV|nV
 ·refine ko (aN @d5 @nV) ?_
  repeat ((try with_reducible refine Cw.go [999999] ?_);(simp(disch:=first|exact dD|fail) only[↓Sx.S0,Sx.S1,fx,d5,Nat.reduceAdd,Nat.reducePow,Int.reducePow,Nat.reduceBEq, ↓reduceIte,UInt8.reduceToNat,UInt16.reduceToNat,UInt32.reduceToNat,UInt64.reduceToNat,Int.reduceToNat,nV]))
  refine⟨_,(ke @d5), ?_⟩
  rw[if_pos nV]
  exact⟨Ext.refl w _,rfl,X,G,List.Perm.refl _,rfl,hA.P,hA.H,hA.B.mono oM⟩
 have AA: (if t.ended=true then(⟨false,15,t,S⟩:StR) else eZ (6 - t.next) t S)=eZ (6 - t.next) t S:=by rw[if_neg (by rw[nV];simp)]
 refine ko (aN @d5 @nV) ?_
 repeat ((try with_reducible refine Cw.go [999999] ?_);(simp(disch:=first|exact dD|fail) only[↓Sx.S0,Sx.S1,fx,d5,Nat.reduceAdd,Nat.reducePow,Int.reducePow,Nat.reduceBEq, ↓reduceIte,UInt8.reduceToNat,UInt16.reduceToNat,UInt32.reduceToNat,UInt64.reduceToNat,Int.reduceToNat,nV]))
 refine Ow.callFV rfl call239 (fun w' aB=>ID w') ?_
 refine ko @d5 ?_
 repeat ((try with_reducible refine Cw.go [999999] ?_);(simp(disch:=first|exact dD|fail) only[↓Sx.S0,Sx.S1,fx,d5,Nat.reduceAdd,Nat.reducePow,Int.reducePow,Nat.reduceBEq, ↓reduceIte,UInt8.reduceToNat,UInt16.reduceToNat,UInt32.reduceToNat,UInt64.reduceToNat,Int.reduceToNat]))
 refine Ow.alloc rfl rfl zr348 fun b8 iS qi=> ?_
 rw[bI]
 refine Ow.permL (M:=(b8, .cells #[.nilFunc, .nilFunc, .nilFunc, .nilFunc, .nilFunc, .nilFunc] 348 (0,0)):: (X++ [(bt,tkO t)])) pM ?_
 refine ko (aN @d5 @Dh) ?_
 repeat ((try with_reducible refine Cw.go [999999] ?_);(simp(disch:=first|exact dD|fail) only[↓Sx.S0,Sx.S1,fx,d5,Nat.reduceAdd,Nat.reducePow,Int.reducePow,Nat.reduceBEq, ↓reduceIte,UInt8.reduceToNat,UInt16.reduceToNat,UInt32.reduceToNat,UInt64.reduceToNat,Int.reduceToNat]))
 refine Cw.permL (M:=(bt,tkO t):: (b8,stO)::X) pM ?_
 refine Cw.world fun w9 jh=> ?_
 have So:=jh.nodup
 have key0:=fun f'=>key (⟨0,false,0,t,S,G,X,b8,0⟩) f'
 simp only[gq,fi,Bool.or_false,Bool.false_or,Bool.or_true,Bool.true_or,Nat.reduceBEq,beq_self_eq_true, ↓reduceIte,Bool.false_eq_true] at key0
 clear key
 simp only[SL0,gq,fi,Bool.or_false,Bool.false_or,Bool.or_true,Bool.true_or,Nat.reduceBEq,beq_self_eq_true, ↓reduceIte,Bool.false_eq_true] at key0
 refine Cw.label ?_
 refine key0 _ ?_ ?_
 ·refine⟨(((Ext.refl w (X++ [(bt,tkO t)])).app (o:=stO) qi).perm pM),So,qi,rfl,hA,hB, .inl ⟨rfl,by show 0+ (6 - t.next)≤6;omega,aQ nV,AA.symm⟩⟩
 rfl
theorem rj: ∀ (f:Nat) (t:TkL) (S:DiskL),(eZ f t S).t.name=t.name∧(eZ f t S).t.data=t.data
 |0,_,_=>⟨rfl,rfl⟩
 |f+1,t,S=>by
  obtain⟨-,h2,h3,-⟩:=m9 t.next t S
  have hw: (cu (phT t.next t S)).t.name=t.name∧(cu (phT t.next t S)).t.data=t.data:=by
   unfold cu
   split<;>exact⟨h2,h3⟩
  obtain⟨-,f2,f3,-⟩:=CC t.next t S
  have ih:=rj f (fe (phT t.next t S)) (phT t.next t S).S
  rw[f2,f3] at ih
  unfold eZ
  split
  ·exact hw
  split
  ·exact ih
  exact⟨f2,f3⟩
def P7 {t:TkL} (h:TkB t) (S:DiskL):TkB (ek t S).t:=by
 unfold ek
 split
 ·exact h
 exact⟨by rw[(rj _ t S).1];exact h.name,by rw[(rj _ t S).2];exact h.data⟩
def LS {t:TkL} {S:DiskL} (he:t.ended=false) (hn:t.next<6): ((ek t S).done=true∨(ek t S).e≠0)∨((ek t S).t.ended=false∧t.next< (ek t S).t.next∧(ek t S).t.next<6):=by
 have hs:ek t S=eZ (6 - t.next) t S:=by unfold ek;rw[if_neg (by rw[he];simp)]
 rw[hs]
 rcases rY (6 - t.next) t S oM oM with⟨h1,-⟩ | ⟨-,h2,-⟩ | ⟨-,-,h3,h4,h5,-⟩
 ·exact .inl (.inr h1)
 ·exact .inl (.inl h2)
 exact .inr ⟨h3,h4,h5⟩
def PL (f:Nat) (t:TkL) (S:DiskL):runG (f+1) t S=(if(ek t S).done=true∨(ek t S).e≠0 then((ek t S).e,(ek t S).t,(ek t S).S) else runG f (ek t S).t (ek t S).S):=rfl
def nD:=aN (aN @bq @bl) (aN @Sx.tup2_0 @Sx.tup2_1)
structure RnG where
 f:Nat
 t:TkL
 S:DiskL
 G:DkG
 X:aA
def RnS (G:DkG) (bt:Nat) (R:Nat×TkL×DiskL) (N:Nat) (v:Value) (D:aA):Prop:=v=vi (R.1:Nat)∧ ∃X' G',(X'++ [(bt,tkO R.2.1)]).Perm D∧G'.bd=G.bd∧DkA X' G' R.2.2 N
def Mg (X:aA) (G:DkG) (S:DiskL) (N bt:Nat) (t:TkL) (w:World) (hX: ∀p,p∈X++ [(bt,tkO t)]→w.heap[p.1]? =some p.2) (hn: (keys (X++ [(bt,tkO t)])).Nodup) (hA:DkA X G S N) (hN:N<700000) (hB:TkB t) (he:t.ended=false) (aQ:t.next<6):
  Rets prog 156 #[vp G.bd 0,vp bt 0] w (XS w (X++ [(bt,tkO t)]) (RnS G bt (runG 6 t S) (N+42))):=by
 refine Rets.enterX func156 rfl (rs:= [.tmp 4]) results156 ntmps156 hX hn ?_
 refine kf ?_
 refine ky @nD ?_
 refine Cw.loopG (G:=RnG) [8,9,10,7,11,12,5,6,13,14,15,16,17,18,4] (fun g=> []) (fun g=>g.X++ [(bt,tkO g.t)]) (fun g=>runG g.f g.t g.S=runG 6 t S∧6 - g.t.next≤g.f∧g.t.ended=false∧g.t.next<6∧g.G.bd=G.bd∧DkA g.X g.G g.S (N+7* (6 - g.f))∧TkB g.t∧g.f≤6∧Ext w (X++ [(bt,tkO t)]) (g.X++ [(bt,tkO g.t)])) (fun g=>g.f) ⟨6,t,S,G,X⟩ rfl rfl ?_ ?_
 ·exact⟨rfl,by show 6 - t.next≤6;omega,he,aQ,rfl,hA,hB,ag 6,Ext.refl w _⟩
 intro g j hg
 refine kv ?_
 obtain⟨f,t1,S1,G1,X1⟩:=g
 obtain⟨hR,hf,kj,ft,dU,eR,dv,ZN,hE⟩:=hg
 simp only at hR hf kj ft dU eR dv ZN hE
 obtain⟨f,rfl⟩: ∃q,f=q+1:=⟨f - 1,by omega⟩
 rw[PL] at hR
 refine ky @nD ?_
 have tE:=fun(w':World) (ab: ∀p,p∈X1++ [(bt,tkO t1)]→w'.heap[p.1]? =some p.2) (aX: (keys (X1++ [(bt,tkO t1)])).Nodup)=>Jl X1 G1 S1 (N+7* (6 - (f+1))) bt t1 w' ab aX eR oM dv (fun _=>ft)
 simp only[dU] at tE
 refine Ow.callX (X:=X1++ [(bt,tkO t1)]) (Y:= []) (List.append_nil _).symm rfl rfl call210 (fun w' aB ab aX=>tE w' ab aX) (fun v4 D4 dH bE=> ?_)
 obtain⟨rfl,X2,G2,fH,dw,cU⟩:=bE
 rw[List.append_nil]
 have bO:=(hE.came0 dH).perm fH
 have bH:=LS (S:=S1) kj ft
 have hsB:=P7 dv S1
 refine Ow.permL fH ?_
 generalize ek t1 S1=r at*
 have e_:DkA X2 G2 r.S (N+42):=⟨cU.P,cU.H,cU.B.mono oM⟩
 by_cases hd:r.done=true
 ·rw[if_pos (.inl hd)] at hR
  refine ko (aN @nD @hd) ?_
  refine ky (aN @nD @hd) ?_
  refine⟨_,(ke @nD), ?_⟩
  rw[←hR]
  exact⟨bO,rfl,X2,G2,List.Perm.refl _,dw.trans dU,e_⟩
 have iu:r.done=false:=by simpa using hd
 by_cases Cn:r.e=0
 ·have e0: ((r.e:Int) !=0)=false:=by rw[Cn];rfl
  rw[if_neg (fun h=>by rcases h with h|h;exact hd h;exact h Cn)] at hR
  obtain⟨s1,s2,s3⟩:=bH.resolve_left (fun h=>by rcases h with h|h;exact hd h;exact h Cn)
  refine ko (aN @nD (aN @iu @e0)) ?_
  refine ky (aN @nD (aN @iu @e0)) ?_
  exact Again.mk ⟨f,r.t,r.S,G2,X2⟩ (Nat.lt_succ_self f) ⟨hR,by show 6 - r.t.next≤f;omega,s1,s3,dw.trans dU,⟨cU.P,cU.H,cU.B.mono (by show _≤N+7* (6 - f);omega)⟩,hsB,by show f≤6;omega,bO⟩ rfl rfl
 have e0: ((r.e:Int) !=0)=true:=by
  rw[bne_iff_ne];omega
 rw[if_pos (.inr Cn)] at hR
 refine ko (aN @nD (aN @iu @e0)) ?_
 refine ky (aN @nD (aN @iu @e0)) ?_
 refine⟨_,(ke @nD), ?_⟩
 rw[←hR]
 exact⟨bO,rfl,X2,G2,List.Perm.refl _,dw.trans dU,e_⟩
def Ma (dir name data:List UInt8) (light:Bool):iL (fX prog 321) (bL prog 321) [(0,vs dir),(1,vs name),(2,vs data),(3, .bool light)]=some (.agg #[vs dir,vs name,vs data, .bool light,vi 0, .bool false, .bool false]):=by
 rw[show fX prog 321=some [(0,1),(1,1),(2,1),(3,1),(4,1),(5,1),(6,1)] from id kR,zr321];rfl
def I7 (dir name data:List UInt8) (light:Bool) (w:World):
  Rets prog 157 #[vs dir,vs name,vs data, .bool light] w (fun v D=> ∃b,w.heap.size≤b∧v=vp b 0∧D= [(b,tkO (tk0 dir name data light))]):=by
 refine Rets.enter func157 rfl (rs:= [.tmp 8]) results157 ntmps157 ?_
 refine kf ?_
 refine ky @Nat.add_zero ?_
 refine Ow.build (.agg #[vs dir,vs name,vs data, .bool light,vi 0, .bool false, .bool false]) rfl (Ma dir name data light) ?_
 refine Ow.box rfl rfl fun b1 aP aY=> ?_
 refine ko @Nat.add_zero ?_
 refine ky @Nat.add_zero ?_
 exact⟨_,rfl,b1,aY,rfl,rfl⟩
def PubS (G:DkG) (R:Nat×DiskL) (N:Nat) (v:Value) (D:aA):Prop:=v=vi (R.1:Nat)∧ ∃G',G'.bd=G.bd∧DkA D G' R.2 N
def EF (X:aA) (G:DkG) (S:DiskL) (N:Nat) (dir name data:List UInt8) (w:World) (hX: ∀p,p∈X→w.heap[p.1]? =some p.2) (hn: (keys X).Nodup) (hA:DkA X G S N) (hN:N<700000) (ce:name.length≤900000) (z':data.length≤1000000):
  Rets prog 87 #[vp G.bd 0,vs dir,vs name,vs data] w (XS w X (PubS G (au S dir name data false) (N+42))):=by
 have hB:TkB (tk0 dir name data false):=⟨ce,z'⟩
 refine Rets.enterX func87 rfl (rs:= [.tmp 8]) results87 ntmps87 hX hn ?_
 refine kf ?_
 refine ky @Nat.add_zero ?_
 refine Ow.callF rfl rfl call157 (S:=fun B v D=> ∃b',B≤b'∧v=vp b' 0∧D= [(b',tkO (tk0 dir name data false))]) (fun w' aB=>I7 dir name data false w') ?_
 rintro B v D i7 u2 ⟨b1,aP,rfl,rfl⟩
 refine⟨_,Mrg.fresh (by intro q hq;simp only[keys,List.map_cons,List.map_nil,List.mem_singleton] at hq;omega), ?_⟩
 refine Ow.callX (X:=X++ [(b1,tkO (tk0 dir name data false))]) (Y:= []) (List.append_nil _).symm rfl rfl call156 (fun w' aB ab aX=>Mg X G S N b1 (tk0 dir name data false) w' ab aX hA hN hB rfl (Nat.succ_pos 5)) (fun v4 D4 dH bE=> ?_)
 obtain⟨rfl,X2,G2,fH,dw,cU⟩:=bE
 rw[List.append_nil]
 have bO:=(((Ext.refl w X).app (o:=tkO (tk0 dir name data false)) oM).came0 dH).perm fH
 refine Ow.permL fH ?_
 have hr:=PD S dir name data false
 rw[←hr]
 refine ko @Nat.add_zero ?_
 refine ky @Nat.add_zero ?_
 refine⟨_,(ke @Nat.add_zero), ?_⟩
 exact⟨bO,rfl,G2,dw,cU.P.mono fun b o h=>cT h,cU.H,cU.B⟩
end Go.Proofs
end
namespace Go.Sx
def kB (c:Bool):BitVec 32:=bif c then 3988292384#32 else 0#32
def hvB:List (BitVec 32):= [0x00000000,0x1db71064,0x3b6e20c8,0x26d930ac,0x76dc4190,0x6b6b51f4,0x4db26158,0x5005713c,0xedb88320,0xf00f9344,0xd6d6a3e8,0xcb61b38c,0x9b64c2b0,0x86d3d2d4,0xa00ae278,0xbdbdf21c]
def eG: ∀a b c d:Bool,(kB a>>>3^^^kB b>>>2^^^kB c>>>1^^^kB d)=hvB.getD (a.toNat+2*b.toNat+4*c.toNat+8*d.toNat) 0:=by decide
end Go.Sx
section
open Go Go.Proofs Go.Sx
namespace Go.Proofs
def Qn (n:UInt32):UInt32:=if n%2==1 then n / 2^^^3988292384 else n / 2
def Qq (n:UInt32):Nat→UInt32
 |0=>n
 |k+1=>Qn (Qq n k)
def kJ:=aN (aN @bq @iH) (aN @iG (aN @iF @bl))
def X6 (s p:List UInt8) (w:World) (_hs:s.length<1099511627776):Rets prog 295 #[vs s,vs p] w (fun v D=>v= .bool (decide (p.length≤s.length)&& (s.take p.length==p))∧D= []):=by
 refine Rets.enterV func295 rfl (rs:= [.tmp 4]) results295 ntmps295 ?_
 refine kf ?_
 by_cases h:p.length≤s.length
 ·have e1:decide ((p.length:Int)≤ (s.length:Int))=true:=dR oM
  refine ky (aN @kJ @e1) ?_
  refine⟨_,(ke @kJ),trivial, ?_⟩
  simp[bw,h]
 have e1:decide ((p.length:Int)≤ (s.length:Int))=false:=i1 oM
 refine ky (aN @kJ @e1) ?_
 refine⟨_,(ke @kJ),trivial, ?_⟩
 simp[bw,h]
def cutP (s p:List UInt8):List UInt8×Bool:=if(decide (p.length≤s.length)&& (s.take p.length==p))=true then(s.drop p.length,true) else(s,false)
def WS (s p:List UInt8) (w:World) (hs:s.length<1099511627776):Rets prog 253 #[vs s,vs p] w (fun v D=>v= .tuple #[vs (cutP s p).1, .bool (cutP s p).2]∧D= []):=by
 refine Rets.enterV func253 rfl (rs:= [.tmp 4, .tmp 5]) results253 ntmps253 ?_
 refine kf ?_
 refine ky @kJ ?_
 refine Ow.callFV rfl call295 (fun w' aB=>X6 s p w' hs) ?_
 refine ko @kJ ?_
 unfold cutP
 cases h: (decide (p.length≤s.length)&& (s.take p.length==p))
 ·refine ky @kJ ?_
  refine⟨_,(ke @kJ),trivial, ?_⟩
  rfl
 have eU:p.length≤s.length:=by
  rw[Bool.and_eq_true,decide_eq_true_eq] at h;exact h.1
 refine ky @kJ ?_
 refine⟨_,(ke @kJ),trivial, ?_⟩
 rfl
def XX (s p:List UInt8) (w:World) (hs:s.length<1099511627776):Rets prog 217 #[vs s,vs p] w (fun v D=>v= .tuple #[vs (cutP s p).1, .bool (cutP s p).2]∧D= []):=by
 refine Rets.enterV func217 rfl (rs:= [.tmp 4, .tmp 5]) results217 ntmps217 ?_
 refine kf ?_
 refine ky @kJ ?_
 refine Ow.callFV rfl call253 (fun w' aB=>WS s p w' hs) ?_
 refine Ow.go rfl ?_
 simp(disch:=first|exact dD|fail) only[↓Sx.S0,Sx.S1,fx,kJ,Nat.reduceAdd,Nat.reducePow,Int.reducePow,Nat.reduceBEq, ↓reduceIte,UInt8.reduceToNat,UInt16.reduceToNat,UInt32.reduceToNat,UInt64.reduceToNat,Int.reduceToNat,Sx.tup2_0,Sx.tup2_1]
 refine ky @kJ ?_
 refine⟨_,(ke @kJ),trivial, ?_⟩
 rfl
def nx (c:Int):Bool:=decide (c<33) ||decide (126<c) || (c==47)
def jI (b:UInt8):Bool:=decide (b.toNat<33) ||decide (126<b.toNat) || (b.toNat==47)
def Qw (a b:Bool):ac prog .eql 4 (.bool a) (.bool b)=some (.bool (a==b)):=by
 simp[ac,eqX,eM,eX,underlying4]
def MF (a:Value): (#[a]:Array Value)[0]? =some a:=(rfl)
def dF:=aN (aN (aN @bq (aN @iH @iG)) (aN (aN @iF @bl) (aN @EM @Tf))) (aN (aN (aN @Ex @Td) (aN @rf @MF)) (aN (aN @Sx.tup3_0 @Sx.tup3_1) (aN @Sx.tup3_2 @Qw)))
def Wa (c:Int) (w:World):Rets prog 205 #[fY c] w (fun v D=>v= .bool (nx c)∧D= []):=by
 refine Rets.enterV func205 rfl (rs:= [.tmp 2]) results205 ntmps205 ?_
 refine kf ?_
 unfold nx
 cases h1:decide (c<33)
 ·cases h2:decide (126<c)
  ·refine ky (aN @dF (aN @h1 @h2)) ?_
   refine⟨_,(ke @dF),trivial, ?_⟩
   simp[bw]
  refine ky (aN @dF (aN @h1 @h2)) ?_
  refine⟨_,(ke @dF),trivial, ?_⟩
  simp[bw]
 refine ky (aN @dF @h1) ?_
 refine⟨_,(ke @dF),trivial, ?_⟩
 simp[bw]
def IJ (l:List UInt8) (i:Nat) (h:i<l.length):nx ((Utf8.decode ⟨l.toArray⟩ i).1:Nat)=jI (l.getD i 0)∧(jI (l.getD i 0)=false→(Utf8.decode ⟨l.toArray⟩ i).2=1):=by
 obtain⟨h0,h1,h2⟩:=Tn l i h
 by_cases hc: (l.getD i 0).toNat<128
 ·rw[h1 hc]
  refine⟨?_,fun _=>rfl⟩
  unfold nx jI
  congr 1
  ·congr 1
   ·apply decide_eq_decide.2;omega
   apply decide_eq_decide.2;omega
  rw[Bool.eq_iff_iff,beq_iff_eq,beq_iff_eq];omega
 have p_:=h2 oM
 have hb:jI (l.getD i 0)=true:=by
  unfold jI
  rw[dR (show 126< (l.getD i 0).toNat by omega)];simp
 rw[hb]
 refine⟨?_,fun h=>by cases h⟩
 unfold nx
 rw[dR (show(126:Int)< (((Utf8.decode ⟨l.toArray⟩ i).1:Nat):Int) by omega)];simp
def WX (s:List UInt8) (k:FuncId) (hk: ∀a w,(callFunc k a).run prog w= .ok (.enter k a) w) (hc: ∀c w,Rets prog k #[fY c] w (fun v D=>v= .bool (nx c)∧D= [])) (w:World) (hs:s.length<1099511627776):
  Rets prog 256 #[vs s, .func (.func k) #[] #[], .bool true] w (fun v D=> ∃n:Int,v=vi n∧(0≤n↔s.any jI=true)∧D= []):=by
 refine Rets.mono (S:=fun v D=>(∃n:Int,v=vi n∧(0≤n↔s.any jI=true))∧D= []) ?_ (by rintro v D ⟨⟨n,h1,h2⟩,h3⟩;exact⟨n,h1,h2,h3⟩)
 refine Rets.enterV func256 rfl (rs:= [.tmp 6]) results256 ntmps256 ?_
 refine kf ?_
 refine ky @dF ?_
 refine Ow.rangeText rfl rfl underlying9 rfl fun b1 aP aY=> ?_
 refine ko @dF ?_
 refine ky @dF ?_
 refine Cw.loopG (G:=Nat) [11,12,13,14,7,8,15,16,17,18,19,20,6] (fun g=> []) (fun g=> [(b1, .stringIter ⟨s.toArray⟩ g)]) (fun g=>g≤s.length∧ ∀i,i<g→jI (s.getD i 0)=false) (fun g=>s.length - g) 0 rfl rfl ?_ ?_
 ·exact⟨by omega,fun i hi=>by omega⟩
 intro g j hg
 refine kv ?_
 obtain⟨nK,f5⟩:=hg
 by_cases aG:g<s.length
 ·have dy:=IJ s g aG
  refine ky @dF ?_
  refine Ow.nextText rfl rfl rfl (er _ _ _) aG ?_
  rw[l7]
  generalize sX:Utf8.decode ⟨s.toArray⟩ g=dd at*
  obtain⟨c,n⟩:=dd
  simp only at dy ⊢
  refine ko @dF ?_
  refine ky @dF ?_
  refine Ow.callFn1 (v:= .bool (nx c)) (k:=k) rfl rfl rfl hk (fun w' aB=>hc _ w') ?_
  rw[dy.1]
  refine ko @dF ?_
  cases pB:jI (s.getD g 0)
  ·refine ky @dF ?_
   refine Again.mk (g+1) oM ⟨by omega,fun i hi=> ?_⟩ ?_ rfl
   ·by_cases AB:i=g
    ·rw[AB];exact pB
    exact f5 i oM
   rw[dy.2 pB]
  refine ky @dF ?_
  refine⟨_,(ke @dF),⟨aY,trivial⟩, ?_⟩
  refine⟨(g:Int),rfl,⟨fun _=> ?_,fun _=>by omega⟩⟩
  rw[List.any_eq_true]
  refine⟨s.getD g 0, ?_,pB⟩
  rw[List.getD_eq_getElem?_getD,List.getElem?_eq_getElem aG]
  exact List.getElem_mem aG
 obtain rfl:g=s.length:=by omega
 refine ky @dF ?_
 refine Ow.nextOver rfl rfl rfl (er _ _ _) aG ?_
 refine ko @dF ?_
 refine ky @dF ?_
 refine⟨_,(ke @dF),⟨aY,trivial⟩, ?_⟩
 refine⟨-1,rfl,⟨fun h=>by omega,fun h=> ?_⟩⟩
 rw[List.any_eq_true] at h
 obtain⟨x,hx,DI⟩:=h
 obtain⟨i,hi,rfl⟩:=List.getElem_of_mem hx
 have:=f5 i hi
 rw[List.getD_eq_getElem?_getD,List.getElem?_eq_getElem hi] at this
 exact absurd DI (by simpa using this)
def WZ (s:List UInt8) (k:FuncId) (hk: ∀a w,(callFunc k a).run prog w= .ok (.enter k a) w) (hc: ∀c w,Rets prog k #[fY c] w (fun v D=>v= .bool (nx c)∧D= [])) (w:World) (hs:s.length<1099511627776):
  Rets prog 223 #[vs s, .func (.func k) #[] #[]] w (fun v D=> ∃n:Int,v=vi n∧(0≤n↔s.any jI=true)∧D= []):=by
 refine Rets.mono (S:=fun v D=>(∃n:Int,v=vi n∧(0≤n↔s.any jI=true))∧D= []) ?_ (by rintro v D ⟨⟨n,h1,h2⟩,h3⟩;exact⟨n,h1,h2,h3⟩)
 refine Rets.enterV func223 rfl (rs:= [.tmp 4]) results223 ntmps223 ?_
 refine kf ?_
 refine ky @dF ?_
 refine Ow.callF rfl rfl call256 (S:=fun _ v D=> ∃n:Int,v=vi n∧(0≤n↔s.any jI=true)∧D= []) (fun w' aB=>WX s k hk hc w' hs) ?_
 rintro B v D - - ⟨n,rfl,hn,rfl⟩
 refine⟨_,Mrg.nil, ?_⟩
 refine ko @dF ?_
 refine ky @dF ?_
 refine⟨_,(ke @dF),trivial, ?_⟩
 exact⟨n,rfl,hn⟩
def YA (s:List UInt8) (k:FuncId) (hk: ∀a w,(callFunc k a).run prog w= .ok (.enter k a) w) (hc: ∀c w,Rets prog k #[fY c] w (fun v D=>v= .bool (nx c)∧D= [])) (w:World) (hs:s.length<1099511627776):
  Rets prog 170 #[vs s, .func (.func k) #[] #[]] w (fun v D=>v= .bool (s.any jI)∧D= []):=by
 refine Rets.enterV func170 rfl (rs:= [.tmp 4]) results170 ntmps170 ?_
 refine kf ?_
 refine ky @dF ?_
 refine Ow.callF rfl rfl call223 (S:=fun _ v D=> ∃n:Int,v=vi n∧(0≤n↔s.any jI=true)∧D= []) (fun w' aB=>WZ s k hk hc w' hs) ?_
 rintro B v D - - ⟨n,rfl,hn,rfl⟩
 refine⟨_,Mrg.nil, ?_⟩
 refine ko @dF ?_
 refine ky @dF ?_
 refine⟨_,(ke @dF),trivial, ?_⟩
 exact congrArg Value.bool (by rw[Bool.eq_iff_iff,decide_eq_true_eq];exact hn)
def FK (s:List UInt8) (w:World) (hs:s.length<1099511627776):
  Rets prog 149 #[vs s] w (fun v D=>v= .bool (!(s== [])&&decide (s.length≤32)&& !(s.any jI))∧D= []):=by
 refine Rets.enterV func149 rfl (rs:= [.tmp 2]) results149 ntmps149 ?_
 refine kf ?_
 cases h0: (s != [])
 ·have e0: (s== [])=true:=by simpa using h0
  refine ky (aN @dF @h0) ?_
  refine⟨_,(ke @dF),trivial, ?_⟩
  simp[bw,e0]
 have e0: (s== [])=false:=by simpa using h0
 cases h1:decide ((s.length:Int)≤32)
 ·have e1:decide (s.length≤32)=false:=i1 (by have:=of_decide_eq_false h1;omega)
  refine ky (aN @dF (aN @h0 @h1)) ?_
  refine⟨_,(ke @dF),trivial, ?_⟩
  simp only[bw,e0,e1,Bool.not_false,Bool.true_and,Bool.false_and,Bool.and_false]
 have e1:decide (s.length≤32)=true:=dR (by have:=of_decide_eq_true h1;omega)
 refine ky (aN @dF (aN @h0 @h1)) ?_
 refine Ow.callFV rfl call170 (fun w' aB=>YA s 205 call205 Wa w' hs) ?_
 refine ko @dF ?_
 refine ky @dF ?_
 refine⟨_,(ke @dF),trivial, ?_⟩
 simp only[bw,e0,e1,Bool.not_false,Bool.true_and]
def bU (s:List UInt8):Bool:= !(s== [])&&decide (s.length≤32)&& !(s.any jI)
structure RefL where
 name:List UInt8
 id:IdL
def aI (r:RefL):List Value:=vs r.name::r.id.l.map v8
def di (r:RefL): (aI r).length=33:=by simp[aI,r.id.h]
def mp (r:RefL) (E:TypeId) (n:Nat):ak (some (false,n)) (some (.cells (aI r).toArray E (0,0))) 0=some (vs r.name):=(rfl)
def mn (r:RefL) (E:TypeId):ak (some (true,32)) (some (.cells (aI r).toArray E (0,0))) 1=some (.agg (a8 r.id.l)):=by
 have hs:1+32≤ (aI r).toArray.size:=by rw[List.size_toArray,di];decide
 simp only[ak,hs, ↓reduceIte]
 congr 2
 show(aI r).toArray.extract 1 33=(r.id.l.map v8).toArray
 rw[List.extract_toArray]
 congr 1
 unfold aI
 rw[List.extract_eq_take_drop,List.drop_succ_cons,List.drop_zero,List.take_of_length_le (by simp[r.id.h])]
def ig (r:RefL):Value.cells (.agg (aI r).toArray)=(aI r).toArray:=bI _
def eqId (l l':List UInt8) (h:l.length=32∧l'.length=32):ac prog .eql 24 (.agg (a8 l)) (.agg (a8 l'))=some (.bool (l==l')):=
 O8 underlying24 underlying5 ag5 kR l l' h
def kI:=aN (aN (aN @bq @iH) (aN @iG @iF)) (aN (aN @bl @mp) (aN @mn (aN @ig @eqId)))
def oB (r:RefL) (m:aU):aU:=if r.id.l==z32 then delV r.name (gz r.name r.id.l m) else gz r.name r.id.l m
def EY (b:Nat) (o:Obj) (m:aU) (r:RefL) (w:World) (ho:w.heap[b]? =some o) (hm:MapR o m):
  Rets prog 158 #[vm b, .agg (aI r).toArray] w (fun v D=> ∃o',D= [(b,o')]∧v= .bool (decide ((oB r m).length≤16))∧MapR o' (oB r m)):=by
 have fD:=(Array.getElem?_eq_some_iff.1 ho).1
 refine Rets.enterM func158 rfl (rs:= [.tmp 4]) results158 ntmps158 ho ?_
 refine kf ?_
 refine ky @kI ?_
 refine Ow.box rfl rfl fun b1 aP aY=> ?_
 obtain⟨VD,-⟩:=aP
 refine ko @kI ?_
 refine ky @kI ?_
 refine Ow.mapUpdate rfl rfl underlying162 underlying9 rfl rfl rfl (er _ _ _) hm (fun o1 eK=> ?_)
 rw[l7]
 have nN:=r.id.h
 have hz:=show z32.length=32 by simp[z32]
 refine ko @kI ?_
 refine ky @kI ?_
 refine Ow.build (.agg (a8 z32)) rfl kR ?_
 refine ko @kI ?_
 unfold oB
 cases S9: (r.id.l==z32)
 ·rw[if_neg Bool.false_ne_true]
  refine ky @kI ?_
  refine Ow.lenMap rfl rfl underlying162 rfl (mo _ _ _ _) eK ?_
  refine ko @kI ?_
  refine ky @kI ?_
  refine⟨_,_,_,(by simp(disch:=omega) only[DU,CV,Bh,dC,dW,DV];rfl),rfl,⟨aY,trivial⟩, ?_,eK⟩
  exact congrArg Value.bool (decide_eq_decide.2 oM)
 rw[if_pos rfl]
 refine ky @kI ?_
 refine Ow.mapDelete rfl rfl underlying162 underlying9 rfl rfl (er _ _ _) eK (fun o2 gG=> ?_)
 rw[l7]
 refine ko @kI ?_
 refine ky @kI ?_
 refine Ow.lenMap rfl rfl underlying162 rfl (mo _ _ _ _) gG ?_
 refine ko @kI ?_
 refine ky @kI ?_
 refine⟨_,_,_,(by simp(disch:=omega) only[DU,CV,Bh,dC,dW,DV];rfl),rfl,⟨aY,trivial⟩, ?_,gG⟩
 exact congrArg Value.bool (decide_eq_decide.2 oM)
def Ee (n:List UInt8) (id:IdL):iL (fX prog 149) (bL prog 149) [(0,vs n),(1, .agg (a8 id.l))]=some (.agg (aI ⟨n,id⟩).toArray):=by
 have hz:bL prog 149=some (.agg (vs []:: (List.replicate 32 (0:UInt8)).map v8).toArray):=zr149
 rw[pc149,hz]
 have h1: (Value.cells (vs n))= #[vs n]:=rfl
 have h2:Value.cells (.agg (a8 id.l))=(id.l.map v8).toArray:=bI _
 have mZ:dY (vs []:: (List.replicate 32 (0:UInt8)).map v8).toArray 0 [vs n]=(vs n:: (List.replicate 32 (0:UInt8)).map v8).toArray:=rfl
 have fH:=vC (id.l.map v8) [vs n] ((List.replicate 32 (0:UInt8)).map v8) (by simp[id.h])
 simp only[List.cons_append,List.nil_append,List.length_cons,List.length_nil,Nat.zero_add] at fH
 have hd:List.drop (id.l.map v8).length ((List.replicate 32 (0:UInt8)).map v8)= []:=List.drop_eq_nil_of_le (by simp[id.h])
 rw[hd,List.append_nil] at fH
 have s1: (vs []:: (List.replicate 32 (0:UInt8)).map v8).toArray.size=33:=by simp
 have s2: (vs n:: (List.replicate 32 (0:UInt8)).map v8).toArray.size=33:=by simp
 have s3: (id.l.map v8).toArray.size=32:=by simp[id.h]
 simp only[iL,Sx.fillV,List.getElem?_cons_zero,List.getElem?_cons_succ,h1,h2,s3]
 rw[if_pos ⟨rfl,by rw[s1];decide⟩,if_pos ⟨trivial,by rw[mZ,s2];decide⟩,mZ,fH]
 rfl
def o0 {s:List UInt8} {a:Nat} {e:Int} (_ha:a≤s.length): (idR s a e).1.length=32:=by
 unfold idR
 simp only
 split
 ·assumption
 simp[z32]
def PP {s:List UInt8} {a:Nat} {e:Int} (ha:a≤s.length):a≤ (idR s a e).2.1∧(idR s a e).2.1≤s.length:=vL ha
def tV {s:List UInt8} {a:Nat} {e most:Int} (ha:a≤s.length):a≤ (a_ s a e most).2.1∧(a_ s a e most).2.1≤s.length:=by
 have hp:=tk (e:=e) (most:=most) ha
 have hq:=vL (e:=(aV s a e most).2.2) (n:=(aV s a e most).1) hp.2
 unfold a_
 simp only
 split
 ·exact⟨ag _,ha⟩
 exact⟨by omega,hq.2⟩
def Ly (old:Array Value) (r:RefL) (E:TypeId) (h:old.size=33):bM (some (true,33)) (some (.cells old E (0,0))) 0 (.agg (aI r).toArray)=some (.cells (aI r).toArray E (0,0)):=by
 have h1:Value.cells (.agg (aI r).toArray)=(aI r).toArray:=bI _
 have hp:=vC (aI r) [] old.toList (by rw[di,Array.length_toList,h];exact ag _)
 simp only[List.nil_append,List.length_nil,Array.toArray_toList] at hp
 have hd:List.drop (aI r).length old.toList= []:=List.drop_eq_nil_of_le (by rw[di,Array.length_toList,h];exact ag _)
 rw[hd,List.append_nil] at hp
 have ho: (aI r).all Value.oneCell'=true:=by
  unfold aI
  rw[List.all_cons,List.all_map,Bool.and_eq_true]
  exact⟨rfl,List.all_eq_true.2 fun x _=>rfl⟩
 unfold bM
 simp only[h1]
 rw[if_pos ⟨by rw[List.size_toArray,di],by omega, .inl (ag 0),ho⟩,hp]
def pX (r:RefL) (E:TypeId):ak (some (true,33)) (some (.cells (aI r).toArray E (0,0))) 0=some (.agg (aI r).toArray):=uk _ E (0,0) 33 (by rw[List.size_toArray,di])
def pd (r r':RefL) (E:TypeId):bM (some (true,33)) (some (.cells (aI r').toArray E (0,0))) 0 (.agg (aI r).toArray)=some (.cells (aI r).toArray E (0,0)):=Ly _ _ _ (by rw[List.size_toArray,di])
def az:RefL:=⟨[],id0⟩
def lJ:bL prog 149=some (.agg (aI az).toArray):=zr149
def oneR (s:List UInt8) (a:Nat) (e:Int) (ha:a≤s.length):RefL×Nat×Int:=
 (⟨(a_ s a e 32).1,⟨(idR s (a_ s a e 32).2.1 (a_ s a e 32).2.2).1,o0 (tV ha).2⟩⟩,(idR s (a_ s a e 32).2.1 (a_ s a e 32).2.2).2)
def te:=aN (aN (aN @bq @iH) (aN @iG (aN @iF @bl))) (aN (aN @mp (aN @mn @ig)) (aN @eqId (aN @pd @pX)))
def x7 (b:Nat) (s:List UInt8) (a:Nat) (e:Int) (w:World) (ha:a≤s.length) (hs:s.length<1099511627776) (ho:w.heap[b]? =some (.cells #[vs s,vi a,vi e] 314 (0,0))):
  Rets prog 166 #[vp b 0] w (fun v D=> ∃o,D= [(b,o)]∧v= .agg (aI (oneR s a e ha).1).toArray∧o= .cells #[vs s,vi (oneR s a e ha).2.1,vi (oneR s a e ha).2.2] 314 (0,0)):=by
 have fD:=(Array.getElem?_eq_some_iff.1 ho).1
 have ht:=tV (e:=e) (most:=32) ha
 unfold oneR
 refine Rets.enterM func166 rfl (rs:= [.cell 2 149]) results166 ntmps166 ho ?_
 refine kf ?_
 refine ky @te ?_
 refine Ow.alloc rfl rfl lJ fun b1 aP aY=> ?_
 rw[ig]
 obtain⟨VD,-⟩:=aP
 refine ko @te ?_
 refine ky @te ?_
 refine Ow.callM rfl rfl call202 (by simp[keys]) (fun w' aB=>Ue b s a e 32 w' ha oM (aB.has _ _ ah)) ?_
 refine ko @te ?_
 refine Ow.callM rfl rfl call203 (by simp[keys]) (fun w' aB=>Mw b s _ _ w' ht.2 oM (aB.has _ _ ah)) ?_
 rw[l7]
 refine Ow.build _ rfl (Ee (a_ s a e 32).1 ⟨(idR s (a_ s a e 32).2.1 (a_ s a e 32).2.2).1,o0 (tV ha).2⟩) ?_
 generalize (⟨(a_ s a e 32).1,⟨(idR s (a_ s a e 32).2.1 (a_ s a e 32).2.2).1,o0 (tV ha).2⟩⟩:RefL)=r
 generalize hq: (idR s (a_ s a e 32).2.1 (a_ s a e 32).2.2).2=q
 refine ko @te ?_
 refine ky @te ?_
 refine⟨_,_,_,(ke @te),rfl,⟨aY,trivial⟩, ?_⟩
 exact⟨rfl,rfl⟩
def bS (s:List UInt8) (a:Nat) (e:Int) (p:List UInt8):Option (List UInt8)×Nat×Int:=
 let t:=a_ s a e 65536
 let u:=lb t.1
 let c:=cutP u.1 p
 (if u.2=true∧c.2=true∧t.2.2=0 then some c.1 else none,t.2)
def ij:=aN (aN (aN (aN @bq @iH) (aN @iG @iF)) (aN (aN @bl @vV) (aN @vP @vF))) (aN (aN (aN @BH @BQ) (aN @nilR @l_)) (aN (aN @oQ @oC) (aN @Sx.tup2_0 @Sx.tup2_1)))
def Ei {s:List UInt8} {a:Nat} {e most:Int} (hs:s.length<1099511627776): (a_ s a e most).1.length<1099511627776:=by
 have: ∀ (b:Nat) (e n:Int),(ck s b e n).1.length≤s.length:=by
  intro b e n
  unfold ck
  split
  ·simp
  split
  ·simp
  split
  ·simp
  simp only[List.length_take,List.length_drop];omega
 unfold a_
 simp only
 split
 ·simp
 exact Nat.lt_of_le_of_lt (this _ _ _) hs
def Tq (s:List UInt8): (lb s).1.length≤s.length:=by
 unfold lb
 split
 ·simp
 split
 ·simp only[List.length_take];omega
 simp
def RecS (s:List UInt8) (a:Nat) (e:Int) (p:List UInt8) (b n:Nat) (v:Value) (D:aA):Prop:=
 ((bS s a e p).1=none∧v= .pointer none∧D= [(b, .cells #[vs s,vi (bS s a e p).2.1,vi (bS s a e p).2.2] 314 (0,0))])∨
 ∃b' c,(bS s a e p).1=some c∧v=vp b' 0∧n≤b'∧b≠b'∧D= [(b, .cells #[vs s,vi (bS s a e p).2.1,vi (bS s a e p).2.2] 314 (0,0)),(b', .cells #[vs c,vi 0,vi 0] 314 (0,0))]
def xu {s:List UInt8} {a:Nat} {e:Int} {p c:List UInt8} (hs:s.length<1099511627776) (h: (bS s a e p).1=some c):c.length<1099511627776:=by
 have h1:=Ei (a:=a) (e:=e) (most:=65536) hs
 have h2:=Tq (a_ s a e 65536).1
 unfold bS at h
 simp only at h
 split at h
 ·simp only[Option.some.injEq] at h
  subst h
  unfold cutP
  split
  ·simp only[List.length_drop];omega
  simp only;omega
 cases h
def x6 {s:List UInt8} {a:Nat} {e:Int} {p c:List UInt8} (h: (bS s a e p).1=some c): (bS s a e p).2.2=0:=by
 unfold bS at h ⊢
 simp only at h ⊢
 split at h
 ·rename_i hh;exact hh.2.2
 cases h
def U9 (b:Nat) (s:List UInt8) (a:Nat) (e:Int) (p:List UInt8) (w:World) (hG:GlobC w) (iV:b≠4) (ha:a≤s.length) (hs:s.length<1099511627776) (ho:w.heap[b]? =some (.cells #[vs s,vi a,vi e] 314 (0,0))):
  Rets prog 164 #[vp b 0,vs p] w (XS w [(b, .cells #[vs s,vi a,vi e] 314 (0,0))] (RecS s a e p b 0)):=by
 have fD:=(Array.getElem?_eq_some_iff.1 ho).1
 have cp:=Ei (a:=a) (e:=e) (most:=65536) hs
 have WA:=Tq (a_ s a e 65536).1
 have hr:bS s a e p=(if(lb (a_ s a e 65536).1).2=true∧(cutP (lb (a_ s a e 65536).1).1 p).2=true∧(a_ s a e 65536).2.2=0 then some (cutP (lb (a_ s a e 65536).1).1 p).1 else none,(a_ s a e 65536).2):=rfl
 unfold RecS
 rw[hr]
 have Z4: ∀q,q∈ [(b,Obj.cells #[vs s,vi a,vi e] 314 (0,0))]→w.heap[q.1]? =some q.2:=by
  intro q hq
  obtain rfl:=List.mem_singleton.1 hq
  exact ho
 refine Rets.enterX func164 rfl (rs:= [.tmp 4]) results164 ntmps164 Z4 (by simp[keys]) ?_
 refine kf ?_
 refine ky @ij ?_
 refine Ow.callM rfl rfl call202 (by simp[keys]) (fun w' aB=>Ue b s a e 65536 w' ha oM (aB.has _ _ ah)) ?_
 rw[l7]
 generalize a_ s a e 65536=t at*
 obtain⟨t,a2,e2⟩:=t
 simp only at cp WA ⊢
 refine ko @ij ?_
 refine Ow.callFV rfl call216 (fun w' aB=>FB t w' (GlobC.of hG aB (by simp[keys];omega)) cp) ?_
 generalize lb t=u at*
 obtain⟨u,ok⟩:=u
 simp only at WA ⊢
 refine ko @ij ?_
 refine ky @ij ?_
 refine Ow.callFV rfl call217 (fun w' aB=>XX u p w' oM) ?_
 generalize cutP u p=c at*
 obtain⟨c,is⟩:=c
 simp only
 refine ko @ij ?_
 refine ky @ij ?_
 cases ok
 ·refine ky @ij ?_
  refine⟨_,(ke @ij), ?_⟩
  exact⟨Ext.refl _ _|>.keys rfl, .inl ⟨by simp,rfl,rfl⟩⟩
 cases is
 ·refine ky @ij ?_
  refine⟨_,(ke @ij), ?_⟩
  exact⟨Ext.refl _ _|>.keys rfl, .inl ⟨by simp,rfl,rfl⟩⟩
 refine ky @ij ?_
 refine Ow.callFV rfl call218 (fun w' aB=>BJ b s _ e2 w' (aB.has _ _ ah)) ?_
 refine ko @ij ?_
 by_cases he:e2=0
 ·refine ky @ij ?_
  refine Ow.callF rfl rfl call147 (S:=fun B v D=> ∃b',B≤b'∧v=vp b' 0∧D= [(b', .cells #[vs c,vi 0,vi 0] 314 (0,0))]) (fun w' aB=>vw c w') ?_
  rintro B v D i7 hB ⟨b',dI,rfl,rfl⟩
  refine⟨_,Mrg.fresh (by intro q hq;simp only[keys,List.map_cons,List.map_nil,List.mem_singleton] at hq;omega), ?_⟩
  obtain⟨Z7,-⟩:=i7
  refine ko @ij ?_
  refine ky @ij ?_
  refine⟨_,(ke @ij), ?_⟩
  refine⟨?_, .inr ⟨b',c,by simp[he],rfl,by omega,by omega,rfl⟩⟩
  exact(Ext.refl _ _|>.keys rfl:Ext w [(b,Obj.cells #[vs s,vi a,vi e] 314 (0,0))] [(b,Obj.cells #[vs s,vi a2,vi e2] 314 (0,0))]).app oM
 refine ky @ij ?_
 refine⟨_,(ke @ij), ?_⟩
 exact⟨Ext.refl _ _|>.keys rfl, .inl ⟨by simp[he],rfl,rfl⟩⟩
def uu (r:RefL): (aI r).all Value.oneCell'=true:=by
 unfold aI
 rw[List.all_cons,List.all_map,Bool.and_eq_true]
 exact⟨rfl,List.all_eq_true.2 fun x _=>rfl⟩
def ti:=aN (aN @bq @iH) (aN @iG (aN @iF @bl))
abbrev fB (w:World) (v:Value) (l:List RefL):Prop:=SlV 33 aI az w v l
def Uq (b o n c:Nat):ac prog .eql 71 (vsl b o n c) (.slice none 0 0)=some (.bool false):=by
 simp[ac,eqX,eM,eX,underlying71,vsl]
def To:ac prog .eql 71 (.slice none 0 0) (.slice none 0 0)=some (.bool true):=by
 simp[ac,eqX,eM,eX,underlying71]
def pf (v:Value) (ls:List RefL) (w:World) (hv:fB w v ls) (hl:ls.length<1000000):
  Rets prog 81 #[v] w (XS w [] (fun v D=>Gr D 149 33 v ls.length (ls.map aI).flatten)):=by
 obtain⟨b,off,c,arr,E,fz,hr,hc,⟨rfl,rfl,rfl⟩ | ⟨rfl,hb,e8⟩⟩:=hv
 ·refine Rets.enterX func81 rfl (rs:= [.tmp 2]) results81 ntmps81 (fun p hp=>by cases hp) (by simp[keys]) ?_
  refine kf ?_
  refine ky (aN @ti (aN @Uq @To)) ?_
  refine⟨_,(ke @ti), ?_⟩
  exact⟨Ext.refl _ _,Gr.nl⟩
 have fD:=(Array.getElem?_eq_some_iff.1 hb).1
 have hv:fB w (vsl b off ls.length c) ls:=⟨b,off,c,arr,E,fz,hr,hc, .inr ⟨rfl,hb,e8⟩⟩
 refine Rets.enterX func81 rfl (rs:= [.tmp 2]) results81 ntmps81 (fun p hp=>by cases hp) (by simp[keys]) ?_
 refine kf ?_
 refine ky (aN @ti (aN @Uq @To)) ?_
 refine Ow.buildSlice (e:=149) #[] rfl rfl kR fun b1 aP aY=> ?_
 refine ko @ti ?_
 refine Ow.appendG (e:=149) (k:=ls.length) (new:=(ls.map aI).flatten) (vsl b1 0 0 0) rfl rfl rfl underlying71 ag149 kR lJ (by rw[ig,List.size_toArray,di]) underlying71 (by intro k h;cases h) (.inr ⟨rfl,rfl,b1,rfl,iE aP⟩) (fun w' aB=>(hv.oldN aB ⟨aY,trivial⟩).appX di uu) (ET di ls) oM (fun v2 L2 hB cX hG hS=> ?_)
 rw[Nat.zero_add,List.nil_append] at hB
 refine ko @ti ?_
 refine ky @ti ?_
 refine⟨_,(ke @ti), ?_⟩
 exact⟨((Ext.refl w []).app (o:=Obj.cells #[] 149 (0,0)) aY).grew hG,hB⟩
def GlobC.ofE {w w':World} {X L:aA} (h:GlobC w) (hE:Ext w X L) (hw:Hp w L w') (hn: (4:Nat)∉keys X):GlobC w':=by
 have aG: (4:Nat)<w.heap.size:=by obtain⟨e,f,h⟩:=h;exact(Array.getElem?_eq_some_iff.1 h).1
 exact GlobC.of h hw (hE.not aG hn)
def BldAt.zero (b:Nat) {L:aA} (h:Sx.look L b=some (.cells #[.pointer none, .slice none 0 0] 236 (0,0))):BldAt b [] L:=
 ⟨_,_,h, .inl rfl, .nl,fun h=>by cases h⟩
def Dq {n:Nat} (h:n<1099511627776):eL (n:Int)=n:=by unfold eL maxN;omega
def ai (l:List UInt8):List UInt8:=dB (eY l)
def Uy (b:Nat) (X:aA) (l:List UInt8) (w:World) (hG:GlobC w) (hg: (4:Nat)∉keys X) (hB:BldAt b l X) (hX: ∀p,p∈X→w.heap[p.1]? =some p.2) (hn: (keys X).Nodup) (hl:l.length<1073741824):
  Rets prog 155 #[vp b 0] w (XS w X (fun v _=>v=vs (ai l))):=by
 refine Rets.enterX func155 rfl (rs:= [.tmp 2]) results155 ntmps155 hX hn ?_
 refine kf ?_
 refine ky @Nat.add_zero ?_
 refine Ow.alloc rfl rfl zr236 fun b1 aP aY=> ?_
 refine ko @Nat.add_zero ?_
 have fZ:=(Ext.refl w X).app (o:= .cells #[.pointer none, .slice none 0 0] 236 (0,0)) aY
 refine ky @Nat.add_zero ?_
 refine Ow.callX (Y:= [(b1, .cells #[.pointer none, .slice none 0 0] 236 (0,0))]) (by simp) rfl rfl call126 (fun w' aB hX hn=>Tw b X l w' hB hX hn oM) (fun v2 D2 hC an=> ?_)
 subst an
 have bO:=fZ.came hC
 have Rb:b1∉keys D2:=fun hm=>by
  rcases hC.new b1 hm with h| ⟨h,-⟩
  ·exact Nat.lt_irrefl _ (ae aP h)
  exact Nat.lt_irrefl _ (ae h (by rw[aZ];exact dS _ ah))
 have hZ:BldAt b1 [] (D2++ [(b1, .cells #[.pointer none, .slice none 0 0] 236 (0,0))]):=BldAt.zero b1 (by rw[gO Rb];exact er _ _ _)
 generalize D2++ [(b1,Obj.cells #[.pointer none, .slice none 0 0] 236 (0,0))]=D3 at*
 refine ko @Nat.add_zero ?_
 refine Ow.callFV rfl call209 (fun w' aB=>UN l w' (GlobC.ofE hG bO aB hg) oM) ?_
 refine ko @Nat.add_zero ?_
 have cA:=r8 l
 refine Ow.buildSlice (e:=9) #[vs (eY l)] rfl rfl kR fun b4 lQ nW=> ?_
 refine ko @Nat.add_zero ?_
 have cp: (j8 [eY l])=ai l:=by simp[j8,ai]
 have bC:=j9 ((eY l).length:Int)
 have pN: (ai l).length=(cE (eL (eY l).length)).length+ (eY l).length:=by unfold ai dB;rw[List.length_append]
 refine Ow.callX (Y:= [(b4, .cells #[vs (eY l)] 9 (0,0))]) (by simp) rfl rfl call124 (fun w' aB hX hn=>Dr b1 D3 [] _ b4 0 [eY l] _ _ _ w' hZ hX hn (StrS.lit [eY l] rfl rfl (aB.has _ _ (dS _ ah))) (fun _ hm=>Nat.lt_irrefl _ (ae lQ hm)) (by rw[cp];simp only[List.length_nil];omega) (by simp)) (fun v5 D5 qB nI=> ?_)
 obtain⟨rfl,og⟩:=nI
 rw[cp,List.nil_append] at og
 have gc:=(bO.app (o:= .cells #[vs (eY l)] 9 (0,0)) nW).came qB
 have ol:=BldAt.app (Y:= [(b4, .cells #[vs (eY l)] 9 (0,0))]) og
 generalize D5++ [(b4,Obj.cells #[vs (eY l)] 9 (0,0))]=D6 at*
 refine ko @Nat.add_zero ?_
 refine ky @Nat.add_zero ?_
 refine Ow.callX (Y:= []) (by simp) rfl rfl call126 (fun w' aB hX hn=>Tw b1 D6 (ai l) w' ol hX hn oM) (fun v7 D7 lL gE=> ?_)
 subst gE
 rw[List.append_nil]
 refine ko @Nat.add_zero ?_
 refine ky @Nat.add_zero ?_
 refine⟨_,(ke @Nat.add_zero), ?_⟩
 exact⟨gc.came0 lL,rfl⟩
def Cw.perm {P:Program} {w0:World} {c:Code} {f:Fr} {L:aA} {K:bY} (M:aA) (hs: ∀p,p∈M↔p∈L) (hn: (keys M).Nodup) (h:Cw P w0 c f M K):Cw P w0 c f L K:=fun w hw=>h w (hw.same hs hn)
def xV (id:IdL):ny prog 30 1 [(0, .agg (a8 id.l))]=some (24,a8 id.l):=by
 have h2:Value.cells (.agg (a8 id.l))=(id.l.map v8).toArray:=bI _
 have hz:bL prog 24=some (.agg ((List.replicate 32 (0:UInt8)).map v8).toArray):=zr24
 have s3: (id.l.map v8).toArray.size=32:=by simp[id.h]
 have fH:=vC (id.l.map v8) [] ((List.replicate 32 (0:UInt8)).map v8) (by simp[id.h])
 have hd:List.drop (id.l.map v8).length ((List.replicate 32 (0:UInt8)).map v8)= []:=List.drop_eq_nil_of_le (by simp[id.h])
 rw[hd,List.append_nil,List.nil_append] at fH
 have hzz: ((Array.range (1*32)).map fun x=>(Value.cells (.agg ((List.replicate 32 (0:UInt8)).map v8).toArray))[x% (Value.cells (.agg ((List.replicate 32 (0:UInt8)).map v8).toArray)).size]!)=((List.replicate 32 (0:UInt8)).map v8).toArray:=by kernel_rfl
 simp only[ny,underlying30,ag24,hz,Option.map_some]
 rw[if_neg (by decide),if_neg (by decide)]
 simp only
 rw[hzz]
 have dL:Instr.fill (fun i=>some (i*32,32)) ((List.replicate 32 (0:UInt8)).map v8).toArray [(0,Value.agg (a8 id.l))]=some (a8 id.l):=by
  have s4: (((List.replicate 32 (0:UInt8)).map v8).toArray).size=32:=by simp
  unfold Instr.fill
  simp only[h2,s3,s4,Nat.zero_mul,ne_eq,not_true_eq_false,decide_false,Bool.false_or,Nat.zero_add,Nat.lt_irrefl,gt_iff_lt,Bool.false_eq_true, ↓reduceIte]
  unfold Instr.fill
  congr 1
  have hz:=Da (id.l.map v8) 0 0 ((List.replicate 32 (0:UInt8)).map v8).toArray
  have hp:dY ((List.replicate 32 (0:UInt8)).map v8).toArray 0 (id.l.map v8)=(id.l.map v8).toArray:=fH
  rw[Nat.add_zero,hp] at hz
  simp only[Nat.zero_add] at hz
  rw[←Array.foldl_toList,Array.toList_zipIdx]
  exact hz
 rw[dL]
 rfl
def bW (r:RefL):List UInt8:= [69]++dB r.name++r.id.l
def j5:=aN (aN (aN @bq @iH) (aN @iG @iF)) (aN (aN @bl @mp) (aN @mn (aN @ig @eqId)))
def WO (r:RefL) (w:World) (hG:GlobC w) (hr:r.name.length<1000000):
  Rets prog 150 #[.agg (aI r).toArray] w (XS w [] (fun v _=>v=vs (ai (bW r)))):=by
 have ZQ: (4:Nat)<w.heap.size:=by obtain⟨e,f,h⟩:=hG;exact(Array.getElem?_eq_some_iff.1 h).1
 refine Rets.enterX func150 rfl (rs:= [.tmp 2]) results150 ntmps150 (fun p hp=>by cases hp) (by simp[keys]) ?_
 refine kf ?_
 refine ky @j5 ?_
 refine Ow.box rfl rfl fun b0 ze dV=> ?_
 simp only[df,dC,ig,List.nil_append]
 refine ko @j5 ?_
 refine ky @j5 ?_
 refine Ow.alloc rfl rfl zr236 fun b1 aP aY=> ?_
 obtain⟨VD,-⟩:=aP
 refine ko @j5 ?_
 refine Ow.permL (List.Perm.swap _ _ _) ?_
 have fZ:Ext w [] [(b1,Obj.cells #[.pointer none, .slice none 0 0] 236 (0,0)),(b0,Obj.cells (aI r).toArray 149 (0,0))]:=
  ((Ext.refl w []).app aY).app dV
 have hZ:BldAt b1 [] [(b1, .cells #[.pointer none, .slice none 0 0] 236 (0,0))]:=BldAt.zero b1 (er _ _ _)
 refine ky @j5 ?_
 refine Ow.buildSlice (e:=9) #[vs [69]] rfl rfl kR fun b2 ar eW=> ?_
 obtain⟨CW,h02,-⟩:=ar
 have bN:=fZ.app (o:= .cells #[vs [69]] 9 (0,0)) eW
 refine ko @j5 ?_
 refine Ow.callX (Y:= [(b0, .cells (aI r).toArray 149 (0,0)),(b2, .cells #[vs [69]] 9 (0,0))]) (by simp) rfl rfl call154 (fun w' aB hX hn=>C0 b1 [(b1, .cells #[.pointer none, .slice none 0 0] 236 (0,0))] [] _ b2 0 [[69]] _ _ _ w' hZ hX hn (StrS.lit [[69]] rfl rfl (aB.has _ _ (aq _ (aq _ ah)))) (fun _ hm=>by simp[keys] at hm;omega) (by simp) (by simp)) (fun v3 D3 zL jD=> ?_)
 obtain⟨rfl,jA⟩:=jD
 have kb:=Ext.came (D:= [(b1,Obj.cells #[.pointer none, .slice none 0 0] 236 (0,0))]) (Y:= [(b0,Obj.cells (aI r).toArray 149 (0,0)),(b2, .cells #[vs [69]] 9 (0,0))]) bN zL
 have zf:b0∉keys D3:=fun hm=>by
  rcases zL.new b0 hm with h| ⟨h,-⟩
  ·simp[keys] at h;omega
  exact Nat.lt_irrefl _ (ae h (by simp[keys]))
 simp only[List.flatten_cons,List.flatten_nil,List.append_nil,List.nil_append] at jA
 have rd0:aS w (D3++ [(b0,Obj.cells (aI r).toArray 149 (0,0)),(b2, .cells #[vs [69]] 9 (0,0))]) b0=some (.cells (aI r).toArray 149 (0,0)):=ad (by rw[gO zf];exact er _ _ _)
 refine ko @j5 ?_
 refine ky (aN @j5 @rd0) ?_
 refine Ow.buildSlice (e:=9) #[vs r.name] rfl rfl kR fun b4 lQ nW=> ?_
 have bC:=j9 (r.name.length:Int)
 have cp:j8 [r.name]=dB r.name:=by simp[j8]
 have htn: (dB r.name).length=(cE (eL r.name.length)).length+r.name.length:=by unfold dB;rw[List.length_append]
 have ZA:b1∈keys D3:=zL.all b1 (by simp[keys])
 have gb:=kb.app (o:= .cells #[vs r.name] 9 (0,0)) nW
 refine ko @j5 ?_
 refine Ow.callX (Y:= [(b0, .cells (aI r).toArray 149 (0,0)),(b2, .cells #[vs [69]] 9 (0,0)),(b4, .cells #[vs r.name] 9 (0,0))]) (by simp) rfl rfl call124 (fun w' aB hX hn=>Dr b1 D3 [69] _ b4 0 [r.name] _ _ _ w' jA hX hn (StrS.lit [r.name] rfl rfl (aB.has _ _ (dS _ ah))) (fun _ hm=>Nat.lt_irrefl _ (ae lQ (by rw[aZ];exact bQ _ hm))) (by rw[cp];simp only[List.length_cons,List.length_nil];omega) (by simp)) (fun v5 D5 qB nI=> ?_)
 obtain⟨rfl,og⟩:=nI
 rw[cp] at og
 have gc:=Ext.came (D:=D3) (Y:= [(b0,Obj.cells (aI r).toArray 149 (0,0)),(b2, .cells #[vs [69]] 9 (0,0)),(b4, .cells #[vs r.name] 9 (0,0))]) (by simpa using gb) qB
 have zg:b0∉keys D5:=fun hm=>by
  rcases qB.new b0 hm with h| ⟨h,-⟩
  ·exact zf h
  exact Nat.lt_irrefl _ (ae h (by simp[keys]))
 have rd5:aS w (D5++ [(b0,Obj.cells (aI r).toArray 149 (0,0)),(b2, .cells #[vs [69]] 9 (0,0)),(b4, .cells #[vs r.name] 9 (0,0))]) b0=some (.cells (aI r).toArray 149 (0,0)):=ad (by rw[gO zg];exact er _ _ _)
 refine ko @j5 ?_
 refine ky (aN @j5 @rd5) ?_
 refine Ow.buildSlice (e:=24) (a8 r.id.l) rfl rfl (xV r.id) fun b6 gQ fK=> ?_
 have i3:=gc.app (o:= .cells (a8 r.id.l) 24 (0,0)) fK
 have zZ: ∀w',w'.heap[b6]? =some (.cells (a8 r.id.l) 24 (0,0))→RowS 32 idLC id0 w' (vsl b6 0 1 1) [r.id] b6 0 (a8 r.id.l) 24 (0,0):=fun w' h=>RowS.sl rfl h (by
  intro k hk j hj
  obtain rfl:k=0:=by simpa using hk
  simp only[Nat.zero_mul,Nat.zero_add,List.getD_cons_zero]
  rw[←rU,List.getElem?_toArray])
 have nN:=EJ [r.id]
 refine ko @j5 ?_
 refine Ow.callX (Y:= [(b0, .cells (aI r).toArray 149 (0,0)),(b2, .cells #[vs [69]] 9 (0,0)),(b4, .cells #[vs r.name] 9 (0,0)),(b6, .cells (a8 r.id.l) 24 (0,0))]) (by simp) rfl rfl call125 (fun w' aB hX hn=>xK b1 D5 _ _ b6 0 [r.id] _ _ _ w' og hX hn (zZ w' (aB.has _ _ (dS _ ah))) (fun _ hm=>Nat.lt_irrefl _ (ae gQ (by rw[aZ];exact bQ _ hm))) (by simp only[List.length_append,List.length_cons,List.length_nil];omega)) (fun v7 D7 lL gE=> ?_)
 obtain⟨rfl,sG⟩:=gE
 have ip:=Ext.came (D:=D5) (Y:= [(b0,Obj.cells (aI r).toArray 149 (0,0)),(b2, .cells #[vs [69]] 9 (0,0)),(b4, .cells #[vs r.name] 9 (0,0)),(b6, .cells (a8 r.id.l) 24 (0,0))]) (by simpa using i3) lL
 have oq:=BldAt.app (Y:= [(b0,Obj.cells (aI r).toArray 149 (0,0)),(b2, .cells #[vs [69]] 9 (0,0)),(b4, .cells #[vs r.name] 9 (0,0)),(b6, .cells (a8 r.id.l) 24 (0,0))]) sG
 rw[show [69]++dB r.name++idsL [r.id]=bW r by simp[idsL,bW]] at oq
 have fE: (bW r).length=1+ (dB r.name).length+r.id.l.length:=by simp[bW];omega
 have SB:=r.id.h
 generalize D7++ [(b0,Obj.cells (aI r).toArray 149 (0,0)),(b2, .cells #[vs [69]] 9 (0,0)),(b4, .cells #[vs r.name] 9 (0,0)),(b6, .cells (a8 r.id.l) 24 (0,0))]=D8 at*
 refine ko @j5 ?_
 refine ky @j5 ?_
 refine Ow.callX (Y:= []) (by simp) rfl rfl call155 (fun w' aB hX hn=>Uy b1 D8 (bW r) w' (GlobC.ofE hG ip aB (by simp[keys])) (ip.not ZQ (by simp[keys])) oq hX hn oM) (fun v9 D9 io jE=> ?_)
 subst jE
 rw[List.append_nil]
 refine ko @j5 ?_
 refine ky @j5 ?_
 refine⟨_,(ke @j5), ?_⟩
 exact⟨ip.came0 io,rfl⟩
def OW (r:RefL): (aI r).toArray.extract 1 33=a8 r.id.l:=by
 show(aI r).toArray.extract 1 33=(r.id.l.map v8).toArray
 rw[List.extract_toArray]
 congr 1
 unfold aI
 rw[List.extract_eq_take_drop,List.drop_succ_cons,List.drop_zero,List.take_of_length_le (by simp[r.id.h])]
def Mj:Tryz.prog.stoodInHeld 149=false:=by kernel_rfl
def Mn:Tryz.prog.eqGuardType Tryz.prog.depth 149=false:=by kernel_rfl
def PQ:aM prog 9=some (false,1):=by kernel_rfl
def QS:aM prog 24=some (true,32):=by kernel_rfl
def Pi (r r':RefL):eqD prog 8 149 (.agg (aI r).toArray) (.agg (aI r').toArray)=some (r.name==r'.name&&r.id.l==r'.id.l):=by
 have hn:eqD prog 7 9 (vs r.name) (vs r'.name)=some (r.name==r'.name):=by
  unfold eqD
  rw[underlying9]
  simp only[vs,lx]
 have hi:eqD prog 7 24 (.agg (a8 r.id.l)) (.agg (a8 r'.id.l))=some (r.id.l==r'.id.l):=
  o7 (d:=5) underlying24 underlying5 ag5 _ _ r.id.h r'.id.h
 unfold eqD
 rw[underlying149]
 simp only
 rw[Mj]
 have p0: ∀ (r:RefL),Sx.jQ (false,1) (aI r).toArray 0=some (vs r.name):=fun r=>rfl
 have p1: ∀ (r:RefL),Sx.jQ (true,32) (aI r).toArray 1=some (.agg (a8 r.id.l)):=fun r=>by
  show some (Value.agg ((aI r).toArray.extract 1 33))=_
  rw[OW]
 simp only[Bool.false_eq_true, ↓reduceIte,BK,PQ,QS,qx,p0,p1,hn,hi]
 cases(r.name==r'.name)<;>cases(r.id.l==r'.id.l)<;>simp
def Qf (r r':RefL):ac prog .neq 149 (.agg (aI r).toArray) (.agg (aI r').toArray)=some (.bool (!(r.name==r'.name&&r.id.l==r'.id.l))):=by
 unfold ac eqX
 rw[Mn]
 simp[eM,Pi]
def keyR (r:RefL):List UInt8×List UInt8:=(r.name,r.id.l)
def jv (a b:List RefL):Bool:=a.map keyR==b.map keyR
def MW {a b:List RefL} {i:Nat} (ha:i<a.length) (hb:i<b.length) (h: (((a.getD i az).name==(b.getD i az).name)&& ((a.getD i az).id.l==(b.getD i az).id.l))=false):jv a b=false:=by
 unfold jv
 rw[beq_eq_false_iff_ne]
 intro e
 have:=congrArg (·[i]?) e
 simp only[List.getElem?_map,List.getElem?_eq_getElem ha,List.getElem?_eq_getElem hb,Option.map_some,Option.some.injEq,keyR,Prod.mk.injEq] at this
 rw[List.getD_eq_getElem?_getD,List.getD_eq_getElem?_getD,List.getElem?_eq_getElem ha,List.getElem?_eq_getElem hb] at h
 simp[this.1,this.2] at h
def KO {a b:List RefL} (hl:a.length=b.length) (h: ∀i,i<a.length→(((a.getD i az).name==(b.getD i az).name)&& ((a.getD i az).id.l==(b.getD i az).id.l))=true):jv a b=true:=by
 unfold jv
 rw[beq_iff_eq]
 apply List.ext_getElem?
 intro i
 rw[List.getElem?_map,List.getElem?_map]
 by_cases hi:i<a.length
 ·have sd:i<b.length:=by omega
  have:=h i hi
  rw[List.getD_eq_getElem?_getD,List.getD_eq_getElem?_getD,List.getElem?_eq_getElem hi,List.getElem?_eq_getElem sd] at this
  simp only[Option.getD_some,Bool.and_eq_true,beq_iff_eq] at this
  rw[List.getElem?_eq_getElem hi,List.getElem?_eq_getElem sd]
  simp[keyR,this.1,this.2]
 rw[List.getElem?_eq_none oM,List.getElem?_eq_none oM]
def mi:=aN (aN @bq (aN @iH @iG)) (aN @iF (aN @bl @Qf))
def Xs (x y:Value) (b1 o1 b2 o2:Nat) (l1 l2:List RefL) (a1 a2:Array Value) (E1 E2:TypeId) (f1 f2:Nat×Nat) (w:World) (h1:RowS 33 aI az w x l1 b1 o1 a1 E1 f1) (h2:RowS 33 aI az w y l2 b2 o2 a2 E2 f2) (pF:l1.length<1000000) (_hl2:l2.length<1000000):
  Rets prog 51 #[x,y] w (fun v D=>v= .bool (jv l1 l2)∧D= []):=by
 refine Rets.enterV func51 rfl (rs:= [.tmp 4]) results51 ntmps51 ?_
 refine kf ?_
 ((try with_reducible refine Cw.go [] ?_);(try simp(disch:=first|exact dD|fail) only[↓Sx.S0,Sx.S1,fx,mi,Nat.reduceAdd,Nat.reducePow,Int.reducePow,Nat.reduceBEq, ↓reduceIte,UInt8.reduceToNat,UInt16.reduceToNat,UInt32.reduceToNat,UInt64.reduceToNat,Int.reduceToNat,h1.len,h2.len]))
 by_cases eU:l1.length=l2.length
 ·((try with_reducible refine Cw.go [] ?_);(try simp(disch:=first|exact dD|fail) only[↓Sx.S0,Sx.S1,fx,mi,Nat.reduceAdd,Nat.reducePow,Int.reducePow,Nat.reduceBEq, ↓reduceIte,UInt8.reduceToNat,UInt16.reduceToNat,UInt32.reduceToNat,UInt64.reduceToNat,Int.reduceToNat,h1.len,h2.len]))
  refine Cw.loopG (G:=Nat) [11,12,13,14,17,18,19,20,21,22,23,24,25,4,15,16,5] (fun g=> [(5,vi g)]) (fun g=> []) (fun g=>g≤l1.length∧ ∀i,i<g→(((l1.getD i az).name==(l2.getD i az).name)&& ((l1.getD i az).id.l==(l2.getD i az).id.l))=true) (fun g=>l1.length - g) 0 rfl rfl ?_ ?_
  ·exact⟨by omega,fun i hi=>by omega⟩
  intro g j hg
  refine kv ?_
  obtain⟨nK,f5⟩:=hg
  by_cases aG:g<l1.length
  ·have ja:g<l2.length:=by omega
   have aP:=h1.has oM
   have ar:=h2.has oM
   have ld1:=h1.load di oM aG
   have ld2:=h2.load di oM ja
   ((try with_reducible refine Cw.go [] ?_);(try simp(disch:=first|exact dD|fail) only[↓Sx.S0,Sx.S1,fx,mi,Nat.reduceAdd,Nat.reducePow,Int.reducePow,Nat.reduceBEq, ↓reduceIte,UInt8.reduceToNat,UInt16.reduceToNat,UInt32.reduceToNat,UInt64.reduceToNat,Int.reduceToNat,h1.len]))
   refine Cw.regionS [b1,b2] [0,1,2,4,5,6,3,7,8] [] kR kR kR ?_
   simp only[cR, ↓cS, ↓bz, ↓cG, ↓cH,b_]
   refine Ow.goQ ?_
   simp(disch:=first|exact dD|fail) only[↓Sx.S0,Sx.S1,fx,mi,Nat.reduceAdd,Nat.reducePow,Int.reducePow,Nat.reduceBEq, ↓reduceIte,UInt8.reduceToNat,UInt16.reduceToNat,UInt32.reduceToNat,UInt64.reduceToNat,Int.reduceToNat,h1.idx,h2.idx,aP,ar,ld1,ld2]
   try with_reducible refine Ow.nil ?_
   cases hq: (((l1.getD g az).name==(l2.getD g az).name)&& ((l1.getD g az).id.l==(l2.getD g az).id.l))
   ·refine ky @mi ?_
    refine⟨_,(ke @mi),trivial, ?_⟩
    rw[MW aG ja hq];rfl
   refine ky @mi ?_
   refine Again.mk (g+1) oM ⟨by omega,fun i hi=> ?_⟩ rfl rfl
   by_cases AB:i=g
   ·rw[AB];exact hq
   exact f5 i oM
  obtain rfl:g=l1.length:=by omega
  ((try with_reducible refine Cw.go [] ?_);(try simp(disch:=first|exact dD|fail) only[↓Sx.S0,Sx.S1,fx,mi,Nat.reduceAdd,Nat.reducePow,Int.reducePow,Nat.reduceBEq, ↓reduceIte,UInt8.reduceToNat,UInt16.reduceToNat,UInt32.reduceToNat,UInt64.reduceToNat,Int.reduceToNat,h1.len]))
  rw[KO eU f5]
  refine⟨_,(ke @mi),trivial, ?_⟩
  rfl
 refine ky @mi ?_
 have:jv l1 l2=false:=by
  unfold jv
  rw[beq_eq_false_iff_ne]
  intro e
  exact eU (by simpa using congrArg List.length e)
 rw[this]
 refine⟨_,(ke @mi),trivial, ?_⟩
 rfl
end Go.Proofs
end
namespace Go.RefP
open Go Go.Sx
abbrev Pr:=List UInt8×List UInt8
def zp:Pr:=([],[])
def eE (z:List UInt8) (r:Pr) (m:aU):aU:=if r.2==z then delV r.1 (gz r.1 r.2 m) else gz r.1 r.2 m
def kQ (x:Pr):aU→Bool→aU
 | [],dn=>if dn then [] else [x]
 |p::r,dn=>if p.1==x.1 then kQ x r dn else if !dn&& !(ltB p.1 x.1||p.1==x.1) then x::p::kQ x r true else p::kQ x r dn
def setL (z:List UInt8) (l:aU) (x:Pr):aU:=kQ x l (x.2==z)
def Rising (l:aU):Prop:=l.Pairwise fun a b=>ltB a.1 b.1=true
def mw (m:aU):Prop:=(m.map Prod.fst).Nodup
def Rising.nd {l:aU} (h:Rising l):mw l:=by
 unfold mw List.Nodup
 rw[List.pairwise_map]
 exact List.Pairwise.imp (fun i7=>rp i7) h
def but (k:List UInt8) (m:aU):aU:=m.filter fun p=> !(p.1==k)
def EQ {k:List UInt8} {m:aU} (h:k∉m.map Prod.fst):but k m=m:=by
 unfold but
 refine List.filter_eq_self.2 fun p hp=> ?_
 have:p.1≠k:=fun e=>h (List.mem_map.2 ⟨p,hp,e⟩)
 simp[this]
def vq (k:List UInt8) (m:aU):k∉ (but k m).map Prod.fst:=by
 intro h
 obtain⟨p,hp,rfl⟩:=List.mem_map.1 h
 simp[but] at hp
theorem CL {k v:List UInt8}: ∀ {m:aU},mw m→(gz k v m).Perm ((k,v)::but k m)
 | [],_=>List.Perm.refl _
 |p::r,h=>by
  simp only[mw,List.map_cons,List.nodup_cons] at h
  unfold gz
  cases hk: (k==p.1)
  ·simp only[Bool.false_eq_true, ↓reduceIte]
   have bb: (p.1==k)=false:=by
    rw[beq_eq_false_iff_ne] at hk ⊢;exact fun e=>hk e.symm
   have ih:=CL (k:=k) (v:=v) (m:=r) h.2
   have:but k (p::r)=p::but k r:=by unfold but;rw[List.filter_cons];simp[bb]
   rw[this]
   exact(List.Perm.cons p ih).trans (List.Perm.swap _ _ _)
  simp only[↓reduceIte]
  have e:k=p.1:=by simpa using hk
  subst e
  have:but p.1 (p::r)=r:=by
   have h2:=EQ h.1
   unfold but at h2 ⊢;rw[List.filter_cons];simp[h2]
  rw[this]
def P3 {k v:List UInt8} {m:aU} (h:mw m):mw (gz k v m):=by
 have hp:=(CL (k:=k) (v:=v) h).map Prod.fst
 refine(List.Perm.nodup_iff hp).2 ?_
 simp only[List.map_cons,List.nodup_cons]
 refine⟨vq k m, ?_⟩
 exact List.Nodup.sublist (List.Sublist.map _ List.filter_sublist) h
theorem yH {k:List UInt8}: ∀ {m:aU},mw m→delV k m=but k m
 | [],_=>rfl
 |p::r,h=>by
  simp only[mw,List.map_cons,List.nodup_cons] at h
  unfold delV
  cases hk: (k==p.1)
  ·have bb: (p.1==k)=false:=by
    rw[beq_eq_false_iff_ne] at hk ⊢;exact fun e=>hk e.symm
   simp only[Bool.false_eq_true, ↓reduceIte,yH h.2]
   unfold but;rw[List.filter_cons];simp[bb]
  have e:k=p.1:=by simpa using hk
  subst e
  simp only[↓reduceIte]
  have h2:=EQ h.1
  unfold but at h2 ⊢;rw[List.filter_cons];simp[h2]
def OQ {k v:List UInt8} {m:aU} (h:mw m): (but k (gz k v m)).Perm (but k m):=by
 have hp:=(CL (k:=k) (v:=v) h).filter fun p=> !(p.1==k)
 have e1:List.filter (fun p=> !(p.1==k)) ((k,v)::but k m)=but k m:=by
  rw[List.filter_cons]
  simp only[beq_self_eq_true,Bool.not_true,Bool.false_eq_true, ↓reduceIte]
  exact EQ (vq k m)
 rw[e1] at hp
 exact hp
def Kq {z:List UInt8} {r:Pr} {m:aU} (h:mw m): (eE z r m).Perm (if r.2==z then but r.1 m else r::but r.1 m):=by
 unfold eE
 split
 ·rw[yH (P3 h)];exact OQ h
 exact CL h
theorem uZ (x:Pr): ∀ (l:aU),kQ x l true=but x.1 l
 | []=>rfl
 |p::r=>by
  unfold kQ
  cases h: (p.1==x.1)
  ·simp only[Bool.false_eq_true, ↓reduceIte,Bool.not_true,Bool.false_and,uZ x r]
   unfold but;rw[List.filter_cons];simp[h]
  simp only[↓reduceIte,uZ x r]
  unfold but;rw[List.filter_cons];simp[h]
theorem DS (x:Pr): ∀ (l:aU),(kQ x l false).Perm (x::but x.1 l)
 | []=>List.Perm.refl _
 |p::r=>by
  unfold kQ
  cases h: (p.1==x.1)
  ·have e:but x.1 (p::r)=p::but x.1 r:=by unfold but;rw[List.filter_cons];simp[h]
   simp only[Bool.false_eq_true, ↓reduceIte,Bool.not_false,Bool.true_and,Bool.or_false]
   rw[e]
   split
   ·rw[uZ]
   exact(List.Perm.cons p (DS x r)).trans (List.Perm.swap _ _ _)
  have e:but x.1 (p::r)=but x.1 r:=by unfold but;rw[List.filter_cons];simp[h]
  simp only[↓reduceIte]
  rw[e]
  exact DS x r
def LX (z:List UInt8) (l:aU) (x:Pr): (setL z l x).Perm (if x.2==z then but x.1 l else x::but x.1 l):=by
 unfold setL
 cases x.2==z
 ·exact DS x l
 rw[uZ];exact List.Perm.refl _
def Uk {k:List UInt8} {l:aU} (h:Rising l):Rising (but k l):=List.Pairwise.sublist List.filter_sublist h
def JO {x p:Pr} {l:aU} (h:p∈kQ x l false):p=x∨p∈l:=by
 have:=(DS x l).mem_iff.1 h
 rcases List.mem_cons.1 this with rfl|h2
 ·exact .inl rfl
 exact .inr (List.mem_filter.1 h2).1
theorem Th (x:Pr): ∀ {l:aU},Rising l→Rising (kQ x l false)
 | [],_=>List.pairwise_singleton _ _
 |p::r,h=>by
  have h':=List.pairwise_cons.1 h
  unfold kQ
  cases hk: (p.1==x.1)
  ·simp only[Bool.false_eq_true, ↓reduceIte,Bool.not_false,Bool.true_and,Bool.or_false]
   have aQ:p.1≠x.1:=by simpa using hk
   cases hl:ltB p.1 x.1
   ·have hx:=uc hl aQ
    simp only[Bool.not_false, ↓reduceIte]
    rw[uZ]
    refine List.pairwise_cons.2 ⟨?_,List.pairwise_cons.2 ⟨?_,Uk h'.2⟩⟩
    ·intro q hq
     rcases List.mem_cons.1 hq with rfl|hq
     ·exact hx
     exact tS hx (h'.1 q (List.mem_filter.1 hq).1)
    intro q hq
    exact h'.1 q (List.mem_filter.1 hq).1
   simp only[Bool.not_true,Bool.false_eq_true, ↓reduceIte]
   refine List.pairwise_cons.2 ⟨?_,Th x h'.2⟩
   intro q hq
   rcases JO hq with rfl|hq
   ·exact hl
   exact h'.1 q hq
  simp only[↓reduceIte]
  exact Th x h'.2
def Hk {z:List UInt8} {l:aU} {x:Pr} (h:Rising l):Rising (setL z l x):=by
 unfold setL
 cases x.2==z
 ·exact Th x h
 rw[uZ];exact Uk h
def Rel (m l:aU):Prop:=m.Perm l∧Rising l
theorem Rel.nd {m l:aU} (h:Rel m l):mw m:=(List.Perm.nodup_iff (h.1.map Prod.fst)).2 h.2.nd
def Rel.set {z:List UInt8} {m l:aU} {x:Pr} (h:Rel m l):Rel (eE z x m) (setL z l x):=by
 refine⟨?_,Hk h.2⟩
 have hb: (but x.1 m).Perm (but x.1 l):=h.1.filter _
 refine(Kq h.nd).trans (List.Perm.trans ?_ (LX z l x).symm)
 split
 ·exact hb
 exact List.Perm.cons _ hb
def fQ (nm:List UInt8→Bool) (z:List UInt8) (t:aU) (g:Nat):Bool:=
 nm (t.getD g zp).1&& !((t.getD g zp).2==z)&& (g==0||ltB (t.getD (g - 1) zp).1 (t.getD g zp).1)
def tabM (nm:List UInt8→Bool) (z:List UInt8) (t:aU):Nat→Option aU
 |0=>some []
 |g+1=>(tabM nm z t g).bind fun m=>if(fQ nm z t g&&decide ((eE z (t.getD g zp) m).length≤16))=true then some (eE z (t.getD g zp) m) else none
def fo (nm:List UInt8→Bool) (z:List UInt8) (l:aU) (m0:aU):Nat→Option aU
 |0=>some m0
 |g+1=>(fo nm z l m0 g).bind fun m=>if(nm (l.getD g zp).1&&decide ((eE z (l.getD g zp) m).length≤16))=true then some (eE z (l.getD g zp) m) else none
def ofM (nm:List UInt8→Bool) (z:List UInt8) (t l:aU) (k:Nat):Option aU:=(tabM nm z t t.length).bind fun m=>fo nm z l m k
def logL (nm:List UInt8→Bool) (z:List UInt8) (l:aU) (m0:aU):Nat→Option aU
 |0=>some m0
 |g+1=>(logL nm z l m0 g).bind fun m=>if(nm (l.getD g zp).1&&decide ((setL z m (l.getD g zp)).length≤16))=true then some (setL z m (l.getD g zp)) else none
def rH (nm:List UInt8→Bool) (z:List UInt8) (t:aU):Bool:=(List.range t.length).all (fQ nm z t)
def ofL (nm:List UInt8→Bool) (z:List UInt8) (t l:aU) (k:Nat):Option aU:=
 if t.length≤16∧l.length≤100∧rH nm z t=true then logL nm z l t k else none
def vk {nm:List UInt8→Bool} {z:List UInt8} {l m0:aU} {g:Nat} (h:fo nm z l m0 g=none): ∀k,g≤k→fo nm z l m0 k=none:=by
 intro k hk
 induction hk with
 |refl=>exact h
 |step _ ih=>unfold fo;rw[ih];rfl
def JY {nm:List UInt8→Bool} {z:List UInt8} {t:aU} {g:Nat} (h:tabM nm z t g=none): ∀k,g≤k→tabM nm z t k=none:=by
 intro k hk
 induction hk with
 |refl=>exact h
 |step _ ih=>unfold tabM;rw[ih];rfl
theorem Ey {nm:List UInt8→Bool} {z:List UInt8} {t:aU}: ∀ (g:Nat),g≤t.length→(∀i,i<g→fQ nm z t i=true)→Rising (t.take g)∧(0<g→ ∀p,p∈t.take (g - 1)→ltB p.1 (t.getD (g - 1) zp).1=true)
 |0,_,_=>⟨by simp[Rising],fun h=>by omega⟩
 |g+1,hg,h=>by
  have ih:=Ey (nm:=nm) (z:=z) (t:=t) g oM (fun i hi=>h i oM)
  have aG:g<t.length:=by omega
  have e:t.take (g+1)=t.take g++ [t.getD g zp]:=by
   rw[List.take_add_one,List.getElem?_eq_getElem aG,List.getD_eq_getElem?_getD,List.getElem?_eq_getElem aG];rfl
  have key: ∀p,p∈t.take g→ltB p.1 (t.getD g zp).1=true:=by
   intro p hp
   cases g with
   |zero=>simp at hp
   |succ k=>
    have hk:k<t.length:=by omega
    have h1:=h (k+1) oM
    unfold fQ at h1
    simp only[Bool.and_eq_true,Bool.or_eq_true,Nat.add_sub_cancel] at h1
    have h2:ltB (t.getD k zp).1 (t.getD (k+1) zp).1=true:=by
     rcases h1.2 with h3|h3
     ·simp at h3
     exact h3
    have e2:t.take (k+1)=t.take k++ [t.getD k zp]:=by
     rw[List.take_add_one,List.getElem?_eq_getElem hk,List.getD_eq_getElem?_getD,List.getElem?_eq_getElem hk];rfl
    rw[e2] at hp
    rcases List.mem_append.1 hp with hp|hp
    ·exact tS (ih.2 oM p hp) h2
    rw[List.mem_singleton.1 hp];exact h2
  refine⟨?_,fun _=>key⟩
  rw[e]
  refine List.pairwise_append.2 ⟨ih.1,List.pairwise_singleton _ _, ?_⟩
  intro a ha b hb
  rw[List.mem_singleton.1 hb]
  exact key a ha
theorem xl {k v:List UInt8}: ∀ {m:aU},k∉m.map Prod.fst→gz k v m=m++ [(k,v)]
 | [],_=>rfl
 |p::r,h=>by
  simp only[List.map_cons,List.mem_cons,not_or] at h
  unfold gz
  rw[if_neg (by simpa using h.1),xl h.2];rfl
theorem n_ {nm:List UInt8→Bool} {z:List UInt8} {t:aU}: ∀ (g:Nat),g≤t.length→tabM nm z t g=if g≤16∧(∀i,i<g→fQ nm z t i=true) then some (t.take g) else none
 |0,_=>by simp[tabM]
 |g+1,hg=>by
  have aG:g<t.length:=by omega
  have ih:=n_ (nm:=nm) (z:=z) (t:=t) g oM
  unfold tabM
  rw[ih]
  by_cases h:g≤16∧(∀i,i<g→fQ nm z t i=true)
  ·rw[if_pos h,Option.bind_some]
   cases ht:fQ nm z t g
   ·rw[Bool.false_and,if_neg (by simp),if_neg]
    intro h2;rw[h2.2 g oM] at ht;cases ht
   have c_: ∀i,i<g+1→fQ nm z t i=true:=by
    intro i hi
    by_cases e:i=g
    ·rw[e];exact ht
    exact h.2 i oM
   have hr:=Ey (nm:=nm) (z:=z) (t:=t) (g+1) hg c_
   have d_: (t.getD g zp).1∉ (t.take g).map Prod.fst:=by
    intro hm
    obtain⟨p,hp,e⟩:=List.mem_map.1 hm
    exact rp (hr.2 oM p hp) e
   have hz: ((t.getD g zp).2==z)=false:=by
    unfold fQ at ht
    simp only[Bool.and_eq_true,Bool.not_eq_true'] at ht
    exact ht.1.2
   have hs:eE z (t.getD g zp) (t.take g)=t.take (g+1):=by
    unfold eE
    rw[hz,if_neg (by simp),xl d_,List.take_add_one,List.getElem?_eq_getElem aG,List.getD_eq_getElem?_getD,List.getElem?_eq_getElem aG];rfl
   rw[hs,Bool.true_and]
   have hl: (t.take (g+1)).length=g+1:=by simp;omega
   rw[hl]
   by_cases h6:g+1≤16
   ·rw[if_pos (by simpa using h6),if_pos ⟨h6,c_⟩]
   rw[if_neg (by simpa using h6),if_neg (fun h2=>h6 h2.1)]
  rw[if_neg h,if_neg]
  ·rfl
  intro h2;exact h ⟨by omega,fun i hi=>h2.2 i oM⟩
theorem xp {nm:List UInt8→Bool} {z:List UInt8} {l m0 l0:aU} (h:Rel m0 l0): ∀ (k:Nat),(fo nm z l m0 k=none∧logL nm z l l0 k=none)∨ ∃m d,fo nm z l m0 k=some m∧logL nm z l l0 k=some d∧Rel m d
 |0=> .inr ⟨_,_,rfl,rfl,h⟩
 |k+1=>by
  unfold fo logL
  rcases xp h k with⟨h1,h2⟩ | ⟨m,d,h1,h2,hr⟩
  ·rw[h1,h2];exact .inl ⟨rfl,rfl⟩
  rw[h1,h2]
  simp only[Option.bind_some]
  have hs:Rel (eE z (l.getD k zp) m) (setL z d (l.getD k zp)):=hr.set
  rw[hs.1.length_eq]
  split
  ·exact .inr ⟨_,_,rfl,rfl,hs⟩
  exact .inl ⟨rfl,rfl⟩
def yX (nm:List UInt8→Bool) (z:List UInt8) (t l:aU) (hl:l.length≤100) (k:Nat):
  (ofM nm z t l k=none∧ofL nm z t l k=none)∨ ∃m d,ofM nm z t l k=some m∧ofL nm z t l k=some d∧Rel m d:=by
 unfold ofM ofL
 rw[n_ t.length (ag _)]
 have c_:rH nm z t=true↔ ∀i,i<t.length→fQ nm z t i=true:=by
  unfold rH;rw[List.all_eq_true];simp
 by_cases h:t.length≤16∧(∀i,i<t.length→fQ nm z t i=true)
 ·rw[if_pos h,if_pos ⟨h.1,hl,c_.2 h.2⟩,Option.bind_some,List.take_length]
  have hr:=(Ey t.length (ag _) h.2).1
  rw[List.take_length] at hr
  exact xp ⟨List.Perm.refl _,hr⟩ k
 rw[if_neg h,if_neg (fun h2=>h ⟨h2.1,c_.1 h2.2.2⟩)]
 exact .inl ⟨rfl,rfl⟩
def rD (nm:List UInt8→Bool) (z:List UInt8) (t l:aU):Bool:=(ofM nm z t l l.length).isSome&&decide (l.length≤100)
def oD (nm:List UInt8→Bool) (z:List UInt8) (t l:aU):Bool:=(ofL nm z t l l.length).isSome
def Mu (nm:List UInt8→Bool) (z:List UInt8) (t l:aU):rD nm z t l=oD nm z t l:=by
 unfold rD oD
 by_cases hl:l.length≤100
 ·rcases yX nm z t l hl l.length with⟨h1,h2⟩ | ⟨m,d,h1,h2,-⟩<;>rw[h1,h2]<;>simp[hl]
 rw[show ofL nm z t l l.length=none by unfold ofL;rw[if_neg (fun h=>hl h.2.1)]]
 simp[hl]
theorem EX {k v:List UInt8}: ∀ {m:aU} {p:Pr},p∈gz k v m→p.2=v∨p∈m
 | [],p,h=>by simp only[gz,List.mem_singleton] at h;exact .inl (by rw[h])
 |q::r,p,h=>by
  unfold gz at h
  split at h
  ·rcases List.mem_cons.1 h with rfl|h
   ·exact .inl rfl
   exact .inr (aq _ h)
  rcases List.mem_cons.1 h with rfl|h
  ·exact .inr ah
  rcases EX h with h|h
  ·exact .inl h
  exact .inr (aq _ h)
theorem xM {k:List UInt8}: ∀ {m:aU} {p:Pr},p∈delV k m→p∈m
 | [],_,h=>h
 |q::r,p,h=>by
  unfold delV at h
  split at h
  ·exact aq _ h
  rcases List.mem_cons.1 h with rfl|h
  ·exact ah
  exact aq _ (xM h)
def MV {z:List UInt8} {r p:Pr} {m:aU} (h:p∈eE z r m):p.2=r.2∨p∈m:=by
 unfold eE at h
 split at h
 ·exact EX (xM h)
 exact EX h
def AllLen (m:aU):Prop:= ∀p,p∈m→p.2.length=32
def AllLen.set {z:List UInt8} {r:Pr} {m:aU} (h:AllLen m) (hr:r.2.length=32):AllLen (eE z r m):=by
 intro p hp
 rcases MV hp with e|h2
 ·rw[e];exact hr
 exact h p h2
theorem xI {nm:List UInt8→Bool} {z:List UInt8} {t:aU} (ht: ∀g,g<t.length→(t.getD g zp).2.length=32): ∀ (g:Nat) (m:aU),g≤t.length→tabM nm z t g=some m→AllLen m
 |0,m,_,h=>by cases h;intro p hp;cases hp
 |g+1,m,hg,h=>by
  unfold tabM at h
  cases h1:tabM nm z t g with
  |none=>rw[h1] at h;cases h
  |some m1=>
   rw[h1,Option.bind_some] at h
   split at h
   ·cases h
    exact(xI ht g m1 oM h1).set (ht g oM)
   cases h
theorem ww {nm:List UInt8→Bool} {z:List UInt8} {l m0:aU} (hl: ∀g,g<l.length→(l.getD g zp).2.length=32) (h0:AllLen m0): ∀ (g:Nat) (m:aU),g≤l.length→fo nm z l m0 g=some m→AllLen m
 |0,m,_,h=>by cases h;exact h0
 |g+1,m,hg,h=>by
  unfold fo at h
  cases h1:fo nm z l m0 g with
  |none=>rw[h1] at h;cases h
  |some m1=>
   rw[h1,Option.bind_some] at h
   split at h
   ·cases h
    exact(ww hl h0 g m1 oM h1).set (hl g oM)
   cases h
def y4 {nm:List UInt8→Bool} {z:List UInt8} {t l:aU} {k:Nat} {m:aU} (ht: ∀g,g<t.length→(t.getD g zp).2.length=32) (hl: ∀g,g<l.length→(l.getD g zp).2.length=32) (hk:k≤l.length) (h:ofM nm z t l k=some m):AllLen m:=by
 unfold ofM at h
 cases h1:tabM nm z t t.length with
 |none=>rw[h1] at h;cases h
 |some m1=>
  rw[h1,Option.bind_some] at h
  exact ww hl (xI ht _ _ (ag _) h1) k m hk h
end Go.RefP
section
open Go Go.Proofs Go.Sx Go.RefP
namespace Go.Proofs
def mkId (l:List UInt8):IdL:=if h:l.length=32 then⟨l,h⟩ else id0
def rX {l:List UInt8} (h:l.length=32):mkId l=⟨l,h⟩:=by unfold mkId;rw[dif_pos h]
def gC (s:List UInt8) (a:Nat) (e:Int):RefL×Nat×Int:=
 (⟨(a_ s a e 32).1,mkId (idR s (a_ s a e 32).2.1 (a_ s a e 32).2.2).1⟩,(idR s (a_ s a e 32).2.1 (a_ s a e 32).2.2).2)
def y3 (s:List UInt8) (a:Nat) (e:Int) (ha:a≤s.length):oneR s a e ha=gC s a e:=by
 unfold oneR gC
 rw[rX (o0 (tV ha).2)]
def yA {s:List UInt8} {a:Nat} {e:Int} (ha:a≤s.length):a≤ (gC s a e).2.1∧(gC s a e).2.1≤s.length:=by
 have h1:=tV (e:=e) (most:=32) ha
 have h2:=PP (e:=(a_ s a e 32).2.2) h1.2
 unfold gC
 exact⟨by simp only;omega,h2.2⟩
def cW (s:List UInt8) (a:Nat) (e:Int):Nat→List RefL×Nat×Int
 |0=>([],a,e)
 |g+1=>((cW s a e g).1++ [(gC s (cW s a e g).2.1 (cW s a e g).2.2).1],(gC s (cW s a e g).2.1 (cW s a e g).2.2).2)
theorem xg {s:List UInt8} {a:Nat} {e:Int} (ha:a≤s.length): ∀g,a≤ (cW s a e g).2.1∧(cW s a e g).2.1≤s.length
 |0=>⟨ag _,ha⟩
 |g+1=>by
  have ih:=xg (e:=e) ha g
  have h:=yA (e:=(cW s a e g).2.2) ih.2
  unfold cW
  exact⟨by simp only;omega,h.2⟩
theorem uy (s:List UInt8) (a:Nat) (e:Int): ∀g,(cW s a e g).1.length=g
 |0=>rfl
 |g+1=>by unfold cW;simp[uy s a e g]
def endR (s:List UInt8) (a:Nat) (e:Int):Int:=if e≠0 then e else if(a:Int)<s.length then 5 else 0
def prs (l:List RefL):aU:=l.map fun r=>(r.name,r.id.l)
def g9 (l:List RefL): (prs l).length=l.length:=by simp[prs]
def m_ (l:List RefL) (g:Nat) (h:g<l.length): (prs l).getD g zp=((l.getD g az).name,(l.getD g az).id.l):=by
 unfold prs
 rw[List.getD_eq_getElem?_getD,List.getD_eq_getElem?_getD,List.getElem?_map,List.getElem?_eq_getElem h];rfl
def al (t l:List RefL):Bool:=rD bU z32 (prs t) (prs l)
def lI (s:List UInt8):Option (List RefL×Nat):=
 match bS s 0 0 [72] with
 | (none,_)=>none
 | (some c,at_,_)=>
  let n:=aV c 0 0 16
  let tb:=cW c n.2.1 n.2.2 n.1.toNat
  if endR c tb.2.1 tb.2.2=0∧al tb.1 []=true then some (tb.1,at_) else none
def gX (s:List UInt8) (tb:List RefL) (log:List RefL) (at_:Nat):Option (List RefL×Nat):=
 match bS s at_ 0 [69] with
 | (none,_)=>none
 | (some c,to,_)=>if endR c (gC c 0 0).2.1 (gC c 0 0).2.2=0∧al tb (log++ [(gC c 0 0).1])=true then some (log++ [(gC c 0 0).1],to) else none
def iJ (s:List UInt8) (tb:List RefL):Nat→List RefL→Nat→List RefL×Nat
 |0,log,at_=>(log,at_)
 |n+1,log,at_=>match gX s tb log at_ with
  |none=>(log,at_)
  |some p=>iJ s tb n p.1 p.2
def gv (s:List UInt8):Option (List RefL×List RefL×Nat):=(lI s).map fun h=>(h.1,iJ s h.1 101 [] h.2)
def E8 {t l:List RefL} (h:al t l=true):l.length≤100:=by
 unfold al rD at h
 rw[Bool.and_eq_true,decide_eq_true_eq,g9] at h
 exact h.2
def KQ {s:List UInt8} {tb log:List RefL} {at_:Nat} {p:List RefL×Nat} (h:gX s tb log at_=some p):p.1.length=log.length+1∧p.1.length≤100:=by
 unfold gX at h
 split at h
 ·cases h
 split at h
 ·rename_i h2
  cases h
  exact⟨by simp,E8 h2.2⟩
 cases h
theorem Uc (s:List UInt8) (tb:List RefL): ∀ (n m:Nat) (log:List RefL) (at_:Nat),101≤n+log.length→101≤m+log.length→log.length≤100→iJ s tb n log at_=iJ s tb m log at_
 |0,_,log,at_,h1,_,h3=>by omega
 |n+1,0,log,at_,_,h2,h3=>by omega
 |n+1,m+1,log,at_,h1,h2,h3=>by
  unfold iJ
  cases hn:gX s tb log at_ with
  |none=>rfl
  |some p=>
   have:=KQ hn
   exact Uc s tb n m p.1 p.2 oM oM this.2
def LY (l:List RefL) (k:Nat):prs (l.take k)=(prs l).take k:=by unfold prs;rw[List.map_take]
def rW (r:RefL) (m:aU):oB r m=eE z32 (r.name,r.id.l) m:=rfl
def pW (a b:Value) (E:TypeId) (n:Nat):ak (some (false,n)) (some (.cells #[a,b] E (0,0))) 0=some a:=(rfl)
def nb (a b:Value) (E:TypeId) (n:Nat):ak (some (false,n)) (some (.cells #[a,b] E (0,0))) 1=some b:=(rfl)
def im (l:List UInt8) (h:l.length=32):ac prog .eql 24 (.agg (a8 l)) (.agg (a8 z32))=some (.bool (l==z32)):=eqId l z32 ⟨h,by simp[z32]⟩
def Ta (s:List UInt8) (w:World) (hs:s.length<1099511627776):
  Rets prog 149 #[vs s] w (fun v D=>v= .bool (bU s)∧D= []):=FK s w hs
structure OG where
 g:Nat
 m:aU
 o:Obj
theorem wB {nm:List UInt8→Bool} {z:List UInt8} {l m0:aU} {n:Nat}: ∀k,k≤n→fo nm z (l.take n) m0 k=fo nm z l m0 k
 |0,_=>rfl
 |k+1,h=>by
  unfold fo
  rw[wB k oM]
  have: (l.take n).getD k zp=l.getD k zp:=by rw[List.getD_eq_getElem?_getD,List.getD_eq_getElem?_getD,List.getElem?_take_of_lt oM]
  rw[this]
def bu:=aN (aN (aN @bq (aN @iH @iG)) (aN @iF (aN @bl @mp))) (aN (aN @mn (aN @ig @im)) (aN (aN @pd @pX) (aN @pW @nb)))
def OfSRf (n:Nat) (t l:List RefL) (k:Nat) (v:Value) (D:aA):Prop:=
 match ofM bU z32 (prs t) (prs l) k with
 |some m=> ∃b o,v= .tuple #[vm b, .bool (decide (l.length≤100))]∧D= [(b,o)]∧MapR o m∧n≤b
 |none=>v= .tuple #[.map none, .bool false]∧New n D
def tU {nm:List UInt8→Bool} {z:List UInt8} {t m:aU} {g:Nat} (h:tabM nm z t g=some m):tabM nm z t (g+1)=if(fQ nm z t g&&decide ((eE z (t.getD g zp) m).length≤16))=true then some (eE z (t.getD g zp) m) else none:=by
 rw[tabM,h];rfl
def Dm {nm:List UInt8→Bool} {z:List UInt8} {l m0 m:aU} {g:Nat} (h:fo nm z l m0 g=some m):fo nm z l m0 (g+1)=if(nm (l.getD g zp).1&&decide ((eE z (l.getD g zp) m).length≤16))=true then some (eE z (l.getD g zp) m) else none:=by
 rw[fo,h];rfl
def OfSRf.tab {n:Nat} {t l:List RefL} {k g:Nat} (h:tabM bU z32 (prs t) (g+1)=none) (hg:g<t.length) {D:aA} (hD:New n D):OfSRf n t l k (.tuple #[.map none, .bool false]) D:=by
 unfold OfSRf ofM
 rw[JY h _ (by rw[g9];exact hg)]
 exact⟨rfl,hD⟩
def OfSRf.log {n:Nat} {t l:List RefL} {k g:Nat} {m:aU} (ht:tabM bU z32 (prs t) t.length=some m) (h:fo bU z32 (prs l) m (g+1)=none) (hg:g<k) {D:aA} (hD:New n D):OfSRf n t l k (.tuple #[.map none, .bool false]) D:=by
 unfold OfSRf ofM
 rw[g9,ht,Option.bind_some,vk h _ hg]
 exact⟨rfl,hD⟩
def OfSRf.new {n:Nat} {t l:List RefL} {k:Nat} {v:Value} {D:aA} (h:OfSRf n t l k v D):New n D:=by
 unfold OfSRf at h
 split at h
 ·obtain⟨b,o,-,rfl,-,hb⟩:=h
  exact⟨hb,trivial⟩
 exact h.2
def rR (vt vl:Value) (t l:List RefL) (k:Nat) (w:World) (ht:fB w vt t) (hl:fB w vl l) (cp:t.length<1000000) (eI:l.length<1000000) (hk:k≤l.length)
  (ci: ∀g,g<t.length→(t.getD g az).name.length<1099511627776) (bC: ∀g,g<l.length→(l.getD g az).name.length<1099511627776):
  Rets prog 89 #[.agg #[vt,vl],vi k] w (OfSRf w.heap.size t l k):=by
 refine Rets.enter func89 rfl (rs:= [.tmp 4, .tmp 5]) results89 ntmps89 ?_
 refine kf ?_
 obtain⟨b1,o1,a1,E1,f1,h1⟩:=ht.row
 refine kz [1000014] @bu ?_
 refine Ow.box rfl rfl fun bx gg bR=> ?_
 simp only[df,dC,dW,bI,List.nil_append,List.cons_append]
 refine Ow.go rfl ?_
 simp(disch:=first|exact dD|fail) only[↓Sx.S0,Sx.S1,fx,bu,Nat.reduceAdd,Nat.reducePow,Int.reducePow,Nat.reduceBEq, ↓reduceIte,UInt8.reduceToNat,UInt16.reduceToNat,UInt32.reduceToNat,UInt64.reduceToNat,Int.reduceToNat]
 refine ky @bu ?_
 refine Ow.makeMap rfl rfl fun bm o sR kC nO=> ?_
 obtain⟨hxm,-⟩:=sR
 rw[List.cons_append,List.nil_append]
 refine ko @bu ?_
 ((try with_reducible refine Cw.go [] ?_);(try simp(disch:=first|exact dD|fail) only[↓Sx.S0,Sx.S1,fx,bu,Nat.reduceAdd,Nat.reducePow,Int.reducePow,Nat.reduceBEq, ↓reduceIte,UInt8.reduceToNat,UInt16.reduceToNat,UInt32.reduceToNat,UInt64.reduceToNat,Int.reduceToNat,ht.len]))
 refine Cw.loopG (G:=OG) [16,17,18,19,8,7,20,21,22,23,24,25,26,27,28,29,30,31,32,33,34,35,36,37,38,39,40,41,42,43,44,45,46,47,48,49,50,51,4,5,52,15] (fun g=> [(15,vi g.g)]) (fun g=> [(bx, .cells #[vt,vl] 73 (0,0)),(bm,g.o)]) (fun g=>g.g≤t.length∧tabM bU z32 (prs t) g.g=some g.m∧MapR g.o g.m) (fun g=>t.length - g.g) ⟨0,[],o⟩ rfl rfl ?_ ?_
 ·exact⟨cC _,rfl,nO⟩
 intro g j hg
 refine kv ?_
 obtain⟨g,m,o⟩:=g
 simp only at hg ⊢
 obtain⟨gi,nM,dA⟩:=hg
 by_cases aG:g<t.length
 ·have aP:=h1.has oM
  have zj:=h1.lt oM
  have ld1:=h1.load di oM aG
  ((try with_reducible refine Cw.go [7] ?_);(try simp(disch:=first|exact dD|fail) only[↓Sx.S0,Sx.S1,fx,bu,Nat.reduceAdd,Nat.reducePow,Int.reducePow,Nat.reduceBEq, ↓reduceIte,UInt8.reduceToNat,UInt16.reduceToNat,UInt32.reduceToNat,UInt64.reduceToNat,Int.reduceToNat,ht.len,h1.idx,aP,ld1]))
  refine Ow.alloc rfl rfl lJ fun b5 iq fJ=> ?_
  simp only[bI,List.nil_append,List.cons_append]
  obtain⟨TY,Cr,-⟩:=iq
  refine ko @bu ?_
  refine ky @bu ?_
  have nN:=(t.getD g az).id.h
  have ce:=ci g aG
  have lV:=m_ t g aG
  generalize hr:t.getD g az=r at*
  refine Cw.regionS [bx,b1,b5] [0,1,2,3,4,5,7,6,8,9,10,11,12,13,14,16,17,21,15,18,19,20,22,23,24,25,26,27,28,29,30,31] [] kR kR kR ?_
  simp only[cR, ↓cS, ↓bz, ↓cG, ↓cH,b_]
  refine kq @bu ?_
  refine Ow.callFV rfl call149 (fun w' aB=>Ta r.name w' ce) ?_
  cases hn:bU r.name
  ·have cK:fQ bU z32 (prs t) g=false:=by unfold fQ;rw[lV];simp only[hn,Bool.false_and]
   refine kq @bu ?_
   try with_reducible refine Ow.nil ?_
   refine ky @bu ?_
   refine⟨_,(ke @bu), ?_⟩
   exact OfSRf.tab (by rw[tU nM,cK];rfl) aG ⟨bR,kC,fJ,trivial⟩
  refine kq @bu ?_
  refine Ow.build (.agg (a8 z32)) rfl kR ?_
  cases hz: (r.id.l==z32)
  ·by_cases h0:g=0
   ·have hd:decide ((0:Int)< (g:Int))=false:=by simp[h0]
    have cK:fQ bU z32 (prs t) g=true:=by unfold fQ;rw[lV];simp only[hn,hz,h0,beq_self_eq_true,Bool.true_or,Bool.not_false,Bool.and_self]
    refine kq (aN @bu (aN @hz @hd)) ?_
    refine Ow.soft rfl rfl rfl ?_
    refine Ow.callE rfl rfl call158 (by simp[keys]) (fun w' aB=>EY bm o m r w' (aB.has _ _ (aq _ ah)) dA) (fun v o' hS=> ?_)
    with_reducible refine Ow.nil ?_
    refine⟨fun b hb=>BX (by simp only[List.mem_cons,List.not_mem_nil,or_false] at hb;omega), ?_⟩
    refine kn ?_
    obtain⟨rfl,eJ⟩:=hS
    rw[rW] at eJ ⊢
    by_cases mD: (eE z32 (r.name,r.id.l) m).length≤16
    ·have eH:decide ((eE z32 (r.name,r.id.l) m).length≤16)=true:=by simpa using mD
     refine kq (aN @bu @eH) ?_
     try with_reducible refine Ow.nil ?_
     refine Cw.forgetN [(bx, .cells #[vt,vl] 73 (0,0)),(bm,o')] (by exact⟨bR,kC,fJ,trivial⟩) (by intro p hp;simp only[List.mem_cons,List.not_mem_nil,or_false] at hp ⊢;all_goals (first| (rcases hp with rfl|hp<;>simp_all) | (subst hp;simp) |simp_all)) (by simp[keys]<;>omega) ?_
     refine ky @bu ?_
     refine Again.mk ⟨g+1,eE z32 (r.name,r.id.l) m,o'⟩ (by simp only;omega) ⟨aG, ?_,eJ⟩ rfl rfl
     rw[tU nM,cK,lV,Bool.true_and,eH,if_pos rfl]
    have eH:decide ((eE z32 (r.name,r.id.l) m).length≤16)=false:=by simpa using mD
    refine kq (aN @bu @eH) ?_
    try with_reducible refine Ow.nil ?_
    refine ky @bu ?_
    refine⟨_,(ke @bu), ?_⟩
    exact OfSRf.tab (by rw[tU nM,lV,eH,Bool.and_false];rfl) aG ⟨bR,kC,fJ,trivial⟩
   have hd:decide ((0:Int)< (g:Int))=true:=by simp;omega
   have ld2:ak (some (false,1)) (some (.cells a1 E1 f1)) (o1+ (g - 1)*33)=some (vs (t.getD (g - 1) az).name):=h1.cell (j:=0) (n:=1) (show g - 1<t.length by omega) oM
   have uC:lD (.sl (true,33)) vt (some ((g:Int) - 1))=some (vp b1 (o1+ (g - 1)*33)):=by
    have:=h1.idx true (g - 1) oM
    rw[show((g - 1:Nat):Int)=(g:Int) - 1 by omega] at this
    exact this
   have Zz:=m_ t (g - 1) (show g - 1<t.length by omega)
   have A5: (g==0)=false:=by simpa using h0
   have cK:fQ bU z32 (prs t) g=ltB (t.getD (g - 1) az).name r.name:=by unfold fQ;rw[lV,Zz];simp only[hn,hz,A5,Bool.false_or,Bool.not_false,Bool.true_and]
   cases hq:Op.bytesLess (t.getD (g - 1) az).name r.name
   ·refine kq (aN @bu (aN @hz (aN @hd (aN @uC (aN @aP (aN @ld2 @hq)))))) ?_
    try with_reducible refine Ow.nil ?_
    refine ky @bu ?_
    refine⟨_,(ke @bu), ?_⟩
    exact OfSRf.tab (by rw[tU nM,cK,show ltB (t.getD (g - 1) az).name r.name=false from hq];rfl) aG ⟨bR,kC,fJ,trivial⟩
   refine kq (aN @bu (aN @hz (aN @hd (aN @uC (aN @aP (aN @ld2 @hq)))))) ?_
   refine Ow.soft rfl rfl rfl ?_
   refine Ow.callE rfl rfl call158 (by simp[keys]) (fun w' aB=>EY bm o m r w' (aB.has _ _ (aq _ ah)) dA) (fun v o' hS=> ?_)
   with_reducible refine Ow.nil ?_
   refine⟨fun b hb=>BX (by simp only[List.mem_cons,List.not_mem_nil,or_false] at hb;omega), ?_⟩
   refine kn ?_
   obtain⟨rfl,eJ⟩:=hS
   rw[rW] at eJ ⊢
   by_cases mD: (eE z32 (r.name,r.id.l) m).length≤16
   ·have eH:decide ((eE z32 (r.name,r.id.l) m).length≤16)=true:=by simpa using mD
    refine kq (aN @bu @eH) ?_
    try with_reducible refine Ow.nil ?_
    refine Cw.forgetN [(bx, .cells #[vt,vl] 73 (0,0)),(bm,o')] (by exact⟨bR,kC,fJ,trivial⟩) (by intro p hp;simp only[List.mem_cons,List.not_mem_nil,or_false] at hp ⊢;all_goals (first| (rcases hp with rfl|hp<;>simp_all) | (subst hp;simp) |simp_all)) (by simp[keys]<;>omega) ?_
    refine ky @bu ?_
    refine Again.mk ⟨g+1,eE z32 (r.name,r.id.l) m,o'⟩ (by simp only;omega) ⟨aG, ?_,eJ⟩ rfl rfl
    rw[tU nM,cK,lV,eH,Bool.and_true]
    exact if_pos hq
   have eH:decide ((eE z32 (r.name,r.id.l) m).length≤16)=false:=by simpa using mD
   refine kq (aN @bu @eH) ?_
   try with_reducible refine Ow.nil ?_
   refine ky @bu ?_
   refine⟨_,(ke @bu), ?_⟩
   exact OfSRf.tab (by rw[tU nM,lV,eH,Bool.and_false];rfl) aG ⟨bR,kC,fJ,trivial⟩
  have cK:fQ bU z32 (prs t) g=false:=by unfold fQ;rw[lV];simp only[hz,Bool.not_true,Bool.and_false,Bool.false_and]
  refine kq (aN @bu @hz) ?_
  try with_reducible refine Ow.nil ?_
  refine ky @bu ?_
  refine⟨_,(ke @bu), ?_⟩
  exact OfSRf.tab (by rw[tU nM,cK];rfl) aG ⟨bR,kC,fJ,trivial⟩
 obtain rfl:g=t.length:=by omega
 obtain⟨b2,o2,a2,E2,f2,h2⟩:=hl.row
 obtain⟨vl',cA,cJ,-⟩:=hl.take hk true
 obtain⟨b3,o3,a3,E3,f3,h3⟩:=cJ.row
 have lT: (l.take k).length=k:=by simp;omega
 have qS:=cJ.len
 rw[lT] at qS
 ((try with_reducible refine Cw.go [] ?_);(try simp(disch:=first|exact dD|fail) only[↓Sx.S0,Sx.S1,fx,bu,Nat.reduceAdd,Nat.reducePow,Int.reducePow,Nat.reduceBEq, ↓reduceIte,UInt8.reduceToNat,UInt16.reduceToNat,UInt32.reduceToNat,UInt64.reduceToNat,Int.reduceToNat,ht.len,hl.len,cA,qS]))
 refine Cw.loopG (G:=OG) [59,60,61,10,62,63,64,65,66,67,68,69,70,71,4,5,72,58] (fun g=> [(58,vi g.g)]) (fun g=> [(bx, .cells #[vt,vl] 73 (0,0)),(bm,g.o)]) (fun g=>g.g≤k∧fo bU z32 (prs l) m g.g=some g.m∧MapR g.o g.m) (fun g=>k - g.g) ⟨0,m,o⟩ rfl rfl ?_ ?_
 ·exact⟨cC _,rfl,dA⟩
 intro g j hg
 refine kv ?_
 obtain⟨g,mm,o⟩:=g
 simp only at hg ⊢
 obtain⟨ZT,pD,A6⟩:=hg
 by_cases ja:g<k
 ·have gd:=h3.has oM
  have ZC:=h3.lt oM
  have ld3:=h3.load di oM (show g< (l.take k).length by omega)
  have iz: (l.take k).getD g az=l.getD g az:=by rw[List.getD_eq_getElem?_getD,List.getD_eq_getElem?_getD,List.getElem?_take_of_lt ja]
  rw[iz] at ld3
  have SD:=h3.idx true g oM
  have nN:=(l.getD g az).id.h
  have ce:=bC g oM
  have lV:=m_ l g oM
  generalize hr:l.getD g az=r at*
  refine kz [13] (aN @bu (aN @SD (aN @gd @ld3))) ?_
  refine Ow.alloc rfl rfl lJ fun b5 iq fJ=> ?_
  simp only[bI,List.nil_append,List.cons_append]
  obtain⟨TY,Cr,-⟩:=iq
  refine ko @bu ?_
  refine ky @bu ?_
  refine Ow.callFV rfl call149 (fun w' aB=>Ta r.name w' ce) ?_
  cases hn:bU r.name
  ·refine ko @bu ?_
   try with_reducible refine Ow.nil ?_
   refine ky @bu ?_
   refine⟨_,(ke @bu), ?_⟩
   exact OfSRf.log nM (by rw[Dm pD,lV];simp only[hn,Bool.false_and,Bool.false_eq_true, ↓reduceIte]) ja ⟨bR,kC,fJ,trivial⟩
  refine ko @bu ?_
  refine Ow.callE rfl rfl call158 (by simp[keys]) (fun w' aB=>EY bm o mm r w' (aB.has _ _ (aq _ ah)) A6) (fun v o' hS=> ?_)
  refine kn ?_
  obtain⟨rfl,eJ⟩:=hS
  rw[rW] at eJ ⊢
  by_cases mD: (eE z32 (r.name,r.id.l) mm).length≤16
  ·have eH:decide ((eE z32 (r.name,r.id.l) mm).length≤16)=true:=by simpa using mD
   refine ko (aN @bu @eH) ?_
   try with_reducible refine Ow.nil ?_
   refine Cw.forgetN [(bx, .cells #[vt,vl] 73 (0,0)),(bm,o')] (by exact⟨bR,kC,fJ,trivial⟩) (by intro p hp;simp only[List.mem_cons,List.not_mem_nil,or_false] at hp ⊢;all_goals (first| (rcases hp with rfl|hp<;>simp_all) | (subst hp;simp) |simp_all)) (by simp[keys]<;>omega) ?_
   refine ky @bu ?_
   refine Again.mk ⟨g+1,eE z32 (r.name,r.id.l) mm,o'⟩ (by simp only;omega) ⟨ja, ?_,eJ⟩ rfl rfl
   rw[Dm pD,lV]
   simp only[hn,eH,Bool.and_true, ↓reduceIte]
  have eH:decide ((eE z32 (r.name,r.id.l) mm).length≤16)=false:=by simpa using mD
  refine ko (aN @bu @eH) ?_
  try with_reducible refine Ow.nil ?_
  refine ky @bu ?_
  refine⟨_,(ke @bu), ?_⟩
  exact OfSRf.log nM (by rw[Dm pD,lV];simp only[eH,Bool.and_false,Bool.false_eq_true, ↓reduceIte]) ja ⟨bR,kC,fJ,trivial⟩
 obtain rfl:g=k:=by omega
 ((try with_reducible refine Cw.go [1000014] ?_);(try simp(disch:=first|exact dD|fail) only[↓Sx.S0,Sx.S1,fx,bu,Nat.reduceAdd,Nat.reducePow,Int.reducePow,Nat.reduceBEq, ↓reduceIte,UInt8.reduceToNat,UInt16.reduceToNat,UInt32.reduceToNat,UInt64.reduceToNat,Int.reduceToNat,hl.len]))
 refine Cw.seq ?_
 refine Cw.regionS [bx] [0,1,5,2,3,4,6] [] kR kR kR ?_
 simp only[cR, ↓cS, ↓bz, ↓cG, ↓cH,b_]
 refine Ow.goQ ?_
 simp(disch:=first|exact dD|fail) only[↓Sx.S0,Sx.S1,fx,bu,Nat.reduceAdd,Nat.reducePow,Int.reducePow,Nat.reduceBEq, ↓reduceIte,UInt8.reduceToNat,UInt16.reduceToNat,UInt32.reduceToNat,UInt64.reduceToNat,Int.reduceToNat,hl.len]
 try with_reducible refine Ow.nil ?_
 refine Cw.forgetN [(bm,o)] (by exact⟨bR,kC,trivial⟩) (by intro p hp;simp only[List.mem_cons,List.not_mem_nil,or_false] at hp ⊢;all_goals (first| (rcases hp with rfl|hp<;>simp_all) | (subst hp;simp) |simp_all)) (by simp[keys]<;>omega) ?_
 refine ky @bu ?_
 refine⟨_,(ke @bu), ?_⟩
 unfold OfSRf ofM
 rw[g9,nM,Option.bind_some,pD]
 exact⟨bm,o,congrArg (fun b=>Value.tuple #[vm bm, .bool b]) (decide_eq_decide.2 oM),rfl,A6,kC⟩
def ep:=aN (aN (aN @bq (aN @iH @iG)) (aN (aN @iF @bl) (aN @mp @mn))) (aN (aN (aN @ig @im) (aN @pd @pX)) (aN (aN @pW @nb) (aN @tup2_0 @tup2_1)))
def jK (a b:Value) (E:TypeId):ak (some (true,2)) (some (.cells #[a,b] E (0,0))) 0=some (.agg #[a,b]):=uk _ E (0,0) 2 rfl
def gM (l:List RefL):Prop:= ∀g,g<l.length→(l.getD g az).name.length<1099511627776
def uU (vt vl:Value) (t l:List RefL) (w:World) (ht:fB w vt t) (hl:fB w vl l) (cp:t.length<1000000) (eI:l.length<1000000) (ci:gM t) (bC:gM l):
  Rets prog 88 #[.agg #[vt,vl]] w (fun v D=>v= .bool (al t l)∧D= []):=by
 unfold al rD
 rw[g9]
 refine Rets.enterV func88 rfl (rs:= [.tmp 2]) results88 ntmps88 ?_
 refine kf ?_
 refine ky @ep ?_
 refine Ow.box rfl rfl fun bx gg bR=> ?_
 simp only[df,dC,dW,bI,List.nil_append,List.cons_append]
 refine Ow.go rfl ?_
 simp(disch:=first|exact dD|fail) only[↓Sx.S0,Sx.S1,fx,ep,Nat.reduceAdd,Nat.reducePow,Int.reducePow,Nat.reduceBEq, ↓reduceIte,UInt8.reduceToNat,UInt16.reduceToNat,UInt32.reduceToNat,UInt64.reduceToNat,Int.reduceToNat]
 ((try with_reducible refine Cw.go [] ?_);(try simp(disch:=first|exact dD|fail) only[↓Sx.S0,Sx.S1,fx,ep,Nat.reduceAdd,Nat.reducePow,Int.reducePow,Nat.reduceBEq, ↓reduceIte,UInt8.reduceToNat,UInt16.reduceToNat,UInt32.reduceToNat,UInt64.reduceToNat,Int.reduceToNat,hl.len,jK]))
 refine Ow.callN rfl rfl call89 (S:=(fun B v D=>OfSRf B t l l.length v D)) (fun w' aB=>rR vt vl t l l.length w' (ht.oldN aB ⟨bR,trivial⟩) (hl.oldN aB ⟨bR,trivial⟩) cp eI (ag _) ci bC) (fun B v D h=>h.new) (fun B v D hA hB hS=> ?_)
 have d_:=hS.new
 unfold OfSRf at hS
 cases ho:ofM bU z32 (prs t) (prs l) l.length with
 |none=>
  rw[ho] at hS
  obtain⟨rfl,hD⟩:=hS
  refine ko @ep ?_
  refine ky @ep ?_
  refine⟨_,(ke @ep),⟨bR,d_.mono hB⟩, ?_⟩
  rfl
 |some m=>
  rw[ho] at hS
  obtain⟨b,o,rfl,rfl,hm,hb⟩:=hS
  refine ko @ep ?_
  refine ky @ep ?_
  refine⟨_,(ke @ep),⟨bR,Nat.le_trans hB hb,trivial⟩, ?_⟩
  simp[bw]
def xJ {m:aU} {n z:List UInt8} (h:AllLen m) (hz:z.length=32): (getV n z m).length=32:=by
 unfold getV
 cases hf:m.find? fun p=>n==p.1 with
 |none=>exact hz
 |some p=>exact h p (List.mem_of_find?_eq_some hf)
def C6 (l:List RefL): ∀g,g< (prs l).length→((prs l).getD g zp).2.length=32:=by
 intro g hg
 rw[g9] at hg
 rw[m_ l g hg]
 exact(l.getD g az).id.h
def jl (t l:List RefL) (n:List UInt8):List UInt8:=
 match ofM bU z32 (prs t) (prs l) l.length with
 |some m=>if l.length≤100 then getV n z32 m else z32
 |none=>z32
def Iy (vt vl:Value) (t l:List RefL) (n:List UInt8) (w:World) (ht:fB w vt t) (hl:fB w vl l) (cp:t.length<1000000) (eI:l.length<1000000) (ci:gM t) (bC:gM l):
  Rets prog 82 #[.agg #[vt,vl],vs n] w (fun v D=>v= .agg (a8 (jl t l n))∧D= []):=by
 refine Rets.enterV func82 rfl (rs:= [.cell 4 24]) results82 ntmps82 ?_
 refine kf ?_
 refine ky @ep ?_
 refine Ow.box rfl rfl fun bx gg bR=> ?_
 simp only[df,dC,dW,bI,List.nil_append,List.cons_append]
 refine Ow.go rfl ?_
 simp(disch:=first|exact dD|fail) only[↓Sx.S0,Sx.S1,fx,ep,Nat.reduceAdd,Nat.reducePow,Int.reducePow,Nat.reduceBEq, ↓reduceIte,UInt8.reduceToNat,UInt16.reduceToNat,UInt32.reduceToNat,UInt64.reduceToNat,Int.reduceToNat]
 have zrId:bL prog 24=some (.agg (a8 (List.replicate 32 0))):=zr24
 rw[show(List.replicate 32 (0:UInt8))=z32 from rfl] at zrId
 have tM:z32.length=32:=by simp[z32]
 refine Ow.alloc rfl rfl zrId fun b1 aP aY=> ?_
 simp only[bI,List.nil_append,List.cons_append]
 obtain⟨hx1,-⟩:=aP
 refine ko @ep ?_
 ((try with_reducible refine Cw.go [] ?_);(try simp(disch:=first|exact dD|fail) only[↓Sx.S0,Sx.S1,fx,ep,Nat.reduceAdd,Nat.reducePow,Int.reducePow,Nat.reduceBEq, ↓reduceIte,UInt8.reduceToNat,UInt16.reduceToNat,UInt32.reduceToNat,UInt64.reduceToNat,Int.reduceToNat,hl.len,jK]))
 refine Ow.callN rfl rfl call89 (S:=(fun B v D=>OfSRf B t l l.length v D)) (fun w' aB=>rR vt vl t l l.length w' (ht.oldN aB ⟨bR,aY,trivial⟩) (hl.oldN aB ⟨bR,aY,trivial⟩) cp eI (ag _) ci bC) (fun B v D h=>h.new) (fun B v D hA hB hS=> ?_)
 have d_:=hS.new
 unfold OfSRf at hS
 unfold jl
 cases ho:ofM bU z32 (prs t) (prs l) l.length with
 |none=>
  rw[ho] at hS
  obtain⟨rfl,hD⟩:=hS
  refine ko @ep ?_
  refine ky @ep ?_
  refine Ow.build (.agg (a8 z32)) rfl kR ?_
  refine ko @ep ?_
  refine ky @ep ?_
  refine⟨_,(ke @ep),⟨bR,aY,d_.mono hB⟩, ?_⟩
  rfl
 |some m=>
  rw[ho] at hS
  obtain⟨b,o,rfl,rfl,hm,hb⟩:=hS
  obtain⟨DI,h1b,-⟩:=hA
  have As:=Nat.le_trans hB hb
  by_cases kY:l.length≤100
  ·have hd:decide (l.length≤100)=true:=by simpa using kY
   refine ko @ep ?_
   refine ky (aN @ep @hd) ?_
   refine Ow.mapGet rfl rfl underlying162 underlying9 zrId rfl rfl (ad (by rw[r9 _ _ _ _ oM,r9 _ _ _ _ oM];exact er _ _ _)) hm ?_
   have gi:=xJ (n:=n) (y4 (C6 t) (C6 l) (by rw[g9];exact ag _) ho) tM
   refine ko @ep ?_
   refine ky @ep ?_
   refine⟨_,(ke @ep),⟨bR,aY,As,trivial⟩, ?_⟩
   exact congrArg (fun x=>Value.agg (a8 x)) (if_pos kY).symm
  have hd:decide (l.length≤100)=false:=by simpa using kY
  refine ko @ep ?_
  refine ky (aN @ep @hd) ?_
  refine Ow.build (.agg (a8 z32)) rfl kR ?_
  refine ko @ep ?_
  refine ky @ep ?_
  refine⟨_,(ke @ep),⟨bR,aY,As,trivial⟩, ?_⟩
  exact congrArg (fun x=>Value.agg (a8 x)) (if_neg kY).symm
def zrBk:bL prog 73=some (.agg #[.slice none 0 0, .slice none 0 0]):=id kR
def IU (l:List UInt8) (E:TypeId) (h:l.length=32):ak (some (true,32)) (some (.cells (a8 l) E (0,0))) 0=some (.agg (a8 l)):=C1 l E (0,0) 32 h
def ta (p q x y:Value) (E:TypeId) (hx:Value.oneCell' x=true) (hy:Value.oneCell' y=true):bM (some (true,2)) (some (.cells #[p,q] E (0,0))) 0 (.agg #[x,y])=some (.cells #[x,y] E (0,0)):=
 CJ 2 true #[x,y] #[p,q] E ⟨rfl,rfl⟩ (by simp[hx,hy])
def En (p q:Value) (E:TypeId):bM (some (true,2)) (some (.cells #[p,q] E (0,0))) 0 (.agg #[.slice none 0 0, .slice none 0 0])=some (.cells #[.slice none 0 0, .slice none 0 0] E (0,0)):=ta _ _ _ _ E rfl rfl
def AddS (_n:Nat) (t l:List RefL) (nm:List UInt8) (id:IdL) (v:Value) (D:aA):Prop:=
 if al t l=true∧bU nm=true then
  (if al t (l++ [⟨nm,id⟩])=true then∃vt vl,v= .tuple #[.agg #[vt,vl],vs (ai (bW ⟨nm,id⟩)),vi 0]∧GrI D 149 33 vt t.length (t.map aI).flatten∧GrI D 149 33 vl (l.length+1) ((l++ [(⟨nm,id⟩:RefL)]).map aI).flatten
  else v= .tuple #[.agg #[.slice none 0 0, .slice none 0 0],vs [],vi 18])
 else v= .tuple #[.agg #[.slice none 0 0, .slice none 0 0],vs [],vi 1]
def AddS.arg {n:Nat} {t l:List RefL} {nm:List UInt8} {id:IdL} {D:aA} (h: ¬ (al t l=true∧bU nm=true)):AddS n t l nm id (.tuple #[.agg #[.slice none 0 0, .slice none 0 0],vs [],vi 1]) D:=by
 unfold AddS;rw[if_neg h]
def AddS.full {n:Nat} {t l:List RefL} {nm:List UInt8} {id:IdL} {D:aA} (h:al t l=true∧bU nm=true) (h2:al t (l++ [(⟨nm,id⟩:RefL)])=false):AddS n t l nm id (.tuple #[.agg #[.slice none 0 0, .slice none 0 0],vs [],vi 18]) D:=by
 unfold AddS;rw[if_pos h,if_neg (by rw[h2];simp)]
def AddS.ok {n:Nat} {t l:List RefL} {nm:List UInt8} {id:IdL} {D:aA} {vt vl:Value} (h:al t l=true∧bU nm=true) (h2:al t (l++ [(⟨nm,id⟩:RefL)])=true) (h3:GrI D 149 33 vt t.length (t.map aI).flatten) (h4:GrI D 149 33 vl (l.length+1) ((l++ [(⟨nm,id⟩:RefL)]).map aI).flatten):
  AddS n t l nm id (.tuple #[.agg #[vt,vl],vs (ai (bW ⟨nm,id⟩)),vi 0]) D:=by
 unfold AddS;rw[if_pos h,if_pos h2];exact⟨vt,vl,rfl,h3,h4⟩
def Bd (x y:Value) (hx:x.cells= #[x]) (hy:y.cells= #[y]):iL (fX prog 73) (bL prog 73) [(0,x),(1,y)]=some (.agg #[x,y]):=by
 have hp:fX prog 73=some [(0,1),(1,1)]:=id kR
 rw[hp,zrBk]
 simp[iL,Sx.fillV,hx,hy,dY]
def ur (r:RefL):ny prog 71 1 [(0, .agg (aI r).toArray)]=some (149,(aI r).toArray):=
 K0 underlying71 (id kR) lJ (by decide) (di r)
def newE {z:Obj} {n:Nat} {E:aA} {p:Nat→Prop} (h:E= []∨ ∃b,E= [(b,z)]∧n≤b∧p b):New n E:=by
 rcases h with rfl| ⟨b,rfl,hb,-⟩
 ·trivial
 exact⟨hb,trivial⟩
structure AG where
 D1:aA
 D2:aA
 v1:Value
 v2:Value
 b7:Nat
def dG:=aN (aN (aN (aN @bq @iH) (aN @iG @iF)) (aN (aN @bl @mp) (aN @mn @ig))) (aN (aN (aN @im @pd) (aN @pX @pW)) (aN (aN @nb @jK) (aN @tup2_0 (aN @tup2_1 @En))))
def Ms (vt vl:Value) (t l:List RefL) (nm:List UInt8) (id:IdL) (w:World) (hG:GlobC w) (ht:fB w vt t) (hl:fB w vl l) (cp:t.length<1000) (eI:l.length<1000) (ci:gM t) (bC:gM l) (ce:nm.length<1000000):
  Rets prog 83 #[.agg #[vt,vl],vs nm, .agg (a8 id.l)] w (XS w [] (AddS w.heap.size t l nm id)):=by
 have nN:=id.h
 have iy: (4:Nat)<w.heap.size:=by obtain⟨e,f,h⟩:=hG;exact(Array.getElem?_eq_some_iff.1 h).1
 refine Rets.enterX func83 rfl (rs:= [.cell 6 73, .tmp 7, .tmp 8]) results83 ntmps83 (fun p hp=>by cases hp) (by simp[keys]) ?_
 refine kf ?_
 refine kz [5] @dG ?_
 refine Ow.box rfl rfl fun bx gg bR=> ?_
 simp only[df,dC,dW,bI,List.nil_append,List.cons_append]
 refine Ow.go rfl ?_
 simp(disch:=first|exact dD|fail) only[↓Sx.S0,Sx.S1,fx,dG,Nat.reduceAdd,Nat.reducePow,Int.reducePow,Nat.reduceBEq, ↓reduceIte,UInt8.reduceToNat,UInt16.reduceToNat,UInt32.reduceToNat,UInt64.reduceToNat,Int.reduceToNat]
 refine Ow.box rfl rfl fun bi u9 jG=> ?_
 simp only[df,dC,dW,bI,List.nil_append,List.cons_append]
 refine Ow.go rfl ?_
 simp(disch:=first|exact dD|fail) only[↓Sx.S0,Sx.S1,fx,dG,Nat.reduceAdd,Nat.reducePow,Int.reducePow,Nat.reduceBEq, ↓reduceIte,UInt8.reduceToNat,UInt16.reduceToNat,UInt32.reduceToNat,UInt64.reduceToNat,Int.reduceToNat]
 obtain⟨hxi,-⟩:=u9
 refine Ow.alloc rfl rfl zrBk fun br dy g6=> ?_
 simp only[bI,List.nil_append,List.cons_append]
 obtain⟨hxr,hir,-⟩:=dy
 refine ko @dG ?_
 refine ky @dG ?_
 refine Ow.callFV rfl call88 (fun w' aB=>uU vt vl t l w' (ht.oldN aB ⟨bR,jG,g6,trivial⟩) (hl.oldN aB ⟨bR,jG,g6,trivial⟩) oM oM ci bC) ?_
 cases hr:al t l
 ·refine ko @dG ?_
  refine ky @dG ?_
  refine Ow.build (.agg #[.slice none 0 0, .slice none 0 0]) rfl kR ?_
  refine ko @dG ?_
  refine ky @dG ?_
  refine⟨_,(ke @dG), ?_⟩
  refine⟨Ext.of_new ⟨bR,jG,g6,trivial⟩, ?_⟩
  exact AddS.arg (by simp[hr])
 refine ko @dG ?_
 refine Ow.callFV rfl call149 (fun w' aB=>Ta nm w' oM) ?_
 cases hn:bU nm
 ·refine ko @dG ?_
  refine ky @dG ?_
  refine Ow.build (.agg #[.slice none 0 0, .slice none 0 0]) rfl kR ?_
  refine ko @dG ?_
  refine ky @dG ?_
  refine⟨_,(ke @dG), ?_⟩
  refine⟨Ext.of_new ⟨bR,jG,g6,trivial⟩, ?_⟩
  exact AddS.arg (by simp[hn])
 refine ko @dG ?_
 refine ky @dG ?_
 refine Ow.build _ rfl (Ee nm id) ?_
 refine ko @dG ?_
 refine Ow.alloc rfl rfl lJ fun b9 nJ jh=> ?_
 simp only[bI,List.nil_append,List.cons_append]
 obtain⟨hx9,hi9,hr9,-⟩:=nJ
 generalize hR: (⟨nm,id⟩:RefL)=r
 refine ko @dG ?_
 refine ky @dG ?_
 refine Cw.regionD [bx,b9] [11] 10 10 73 11 _ rfl kR kR rfl kR zrBk (fun hD=> ?_)
 simp only[List.replicate_succ,List.replicate_zero]
 refine OwD.run [0,3,1,4,6] [true,true,false,true,true,false,true,false,false,false,false,false] 6 rfl hD kR fun k hk=> ?_
 simp only[cR, ↓cS, ↓bz, ↓cG, ↓cH,b_]
 simp(disch:=first|exact dD|fail) only[↓Sx.S0,Sx.S1,fx,dG,Nat.reduceAdd,Nat.reducePow,Int.reducePow,Nat.reduceBEq, ↓reduceIte,UInt8.reduceToNat,UInt16.reduceToNat,UInt32.reduceToNat,UInt64.reduceToNat,Int.reduceToNat,Md.next_sofnil,Md.next_sofnil]
 (with_reducible refine hk _ _ _ ?_);clear hk k
 generalize zQ: [(bx,Obj.cells #[vt,vl] 73 (0,0)),(bi,Obj.cells (a8 id.l) 24 (0,0)),(br,Obj.cells #[Value.slice none 0 0,Value.slice none 0 0] 73 (0,0)),(b9,Obj.cells (aI r).toArray 149 (0,0))]=L0
 have lN:New w.heap.size L0:=by rw[←zQ];exact⟨bR,jG,g6,jh,trivial⟩
 have hkx:bx∈keys L0:=by rw[←zQ];simp[keys]
 have mR:b9∈keys L0:=by rw[←zQ];simp[keys]
 have eU: ∀c,c∈keys L0→c≤b9:=by
  rw[←zQ];intro c hc;simp only[keys,List.map_cons,List.map_nil,List.mem_cons,List.not_mem_nil,or_false] at hc;omega
 have mH: ∀r,r∈ [bx,b9]→r∈keys L0:=by
  intro r hr;simp only[List.mem_cons,List.not_mem_nil,or_false] at hr;rcases hr with rfl|rfl<;>assumption
 refine OwD.via (G:=AG) (fun g=> [Value.agg #[vt,vl],vs nm,Value.agg (a8 id.l),vp bx 0,undef,vp bi 0,vp br 0,vs [],vi 0,vp b9 0,undef,Value.agg #[vt,vl],Value.bool true,Value.bool false,Value.bool false,vs nm,Value.bool true,Value.bool false,Value.bool false,undef,vs nm,Value.agg (a8 id.l),Value.agg (aI r).toArray,vp bx 0,vt,g.v1,vp bx 1,vl,g.v2,Value.agg (aI r).toArray,vsl g.b7 0 1 1,undef,undef,undef,undef,undef,undef,undef,undef,undef]) (fun g=>L0++g.D1++g.D2++ [(g.b7,Obj.cells (aI r).toArray 149 (0,0))]) (fun g=>New (b9+1) g.D1∧New (b9+1) g.D2∧b9<g.b7∧Gr g.D1 149 33 g.v1 t.length (t.map aI).flatten∧Gr g.D2 149 33 g.v2 l.length (l.map aI).flatten) 3 [true,true,true,true,true,true,true,true,false,false,false,false] (fun key=> ?_) (fun g hg=> ?_)
 ·refine OwD.two 2 7 _ _ hD rfl rfl kR (fun E hE=> ?_) (fun E hE=> ?_)
  ·have lM:New w.heap.size E:=newE hE
   refine Ow.callC rfl rfl call81 (fun w' aB=>pf vt t w' (ht.oldN aB (lN.app lM)) oM) (fun B1 v1 D1 eR dv dT d8=> ?_)
   have CZ:New (b9+1) D1:=dT.mono (ae eR (by simp[aZ,mR]))
   with_reducible refine Ow.nil ?_
   refine⟨_,pb,ju (fun r hr=>by simp[aZ,mH r hr]), ?_⟩
   simp only[List.set_cons_zero,List.set_cons_succ,gN,fN,fO]
   refine OwD.two 5 7 _ _ hD rfl rfl kR (fun E hE=> ?_) (fun E hE=> ?_)
   ·have lM:New w.heap.size E:=newE hE
    refine Ow.callC rfl rfl call81 (fun w' aB=>pf vl l w' (hl.oldN aB ((lN.app (dT.mono dv)).app lM)) oM) (fun B2 v2 D2 cU cX d7 an=> ?_)
    have zR:New (b9+1) D2:=d7.mono (ae cU (by simp[aZ,mR]))
    with_reducible refine Ow.nil ?_
    refine⟨_,pb,ju (fun r hr=>by simp[aZ,mH r hr]), ?_⟩
    simp only[List.set_cons_zero,List.set_cons_succ,gN,fN,fO]
    refine OwD.soft 7 _ hD rfl kR (fun E hE=> ?_)
    refine Ow.buildSlice (e:=149) (aI r).toArray rfl rfl (ur r) fun b7 gf gp=> ?_
    have zS:b9<b7:=ae gf (by simp[aZ,mR])
    with_reducible refine Ow.nil ?_
    refine⟨_,pb,ju (fun r hr=>by simp[aZ,mH r hr]), ?_⟩
    simp only[List.set_cons_zero,List.set_cons_succ,gN,fN,fO]
    exact key ⟨D1,D2,v1,v2,b7⟩ _ _ ⟨CZ,zR,zS,d8,an⟩ rfl pM
   have lM:New w.heap.size E:=newE hE
   refine Ow.buildSlice (e:=149) (aI r).toArray rfl rfl (ur r) fun b7 gf gp=> ?_
   have zS:b9<b7:=ae gf (by simp[aZ,mR])
   with_reducible refine Ow.nil ?_
   refine⟨_,pb,ju (fun r hr=>by simp[aZ,mH r hr]), ?_⟩
   simp only[List.set_cons_zero,List.set_cons_succ,gN,fN,fO]
   refine OwD.soft 5 _ hD rfl kR (fun E hE=> ?_)
   have lM:New w.heap.size E:=newE hE
   refine Ow.callC rfl rfl call81 (fun w' aB=>pf vl l w' (hl.oldN aB (((lN.app (dT.mono dv)).app (show New w.heap.size [(b7,Obj.cells (aI r).toArray 149 (0,0))] from⟨gp,trivial⟩)).app lM)) oM) (fun B2 v2 D2 cU cX d7 an=> ?_)
   have zR:New (b9+1) D2:=d7.mono (ae cU (by simp[aZ,mR]))
   with_reducible refine Ow.nil ?_
   refine⟨_,pb,ju (fun r hr=>by simp[aZ,mH r hr]), ?_⟩
   simp only[List.set_cons_zero,List.set_cons_succ,gN,fN,fO]
   exact key ⟨D1,D2,v1,v2,b7⟩ _ _ ⟨CZ,zR,zS,d8,an⟩ rfl pM
  have lM:New w.heap.size E:=newE hE
  refine Ow.buildSlice (e:=149) (aI r).toArray rfl rfl (ur r) fun b7 gf gp=> ?_
  have zS:b9<b7:=ae gf (by simp[aZ,mR])
  with_reducible refine Ow.nil ?_
  refine⟨_,pb,ju (fun r hr=>by simp[aZ,mH r hr]), ?_⟩
  simp only[List.set_cons_zero,List.set_cons_succ,gN,fN,fO]
  refine OwD.soft 2 _ hD rfl kR (fun E hE=> ?_)
  have lM:New w.heap.size E:=newE hE
  refine Ow.callC rfl rfl call81 (fun w' aB=>pf vt t w' (ht.oldN aB ((lN.app (show New w.heap.size [(b7,Obj.cells (aI r).toArray 149 (0,0))] from⟨gp,trivial⟩)).app lM)) oM) (fun B1 v1 D1 eR dv dT d8=> ?_)
  have CZ:New (b9+1) D1:=dT.mono (ae eR (by simp[aZ,mR]))
  with_reducible refine Ow.nil ?_
  refine⟨_,pb,ju (fun r hr=>by simp[aZ,mH r hr]), ?_⟩
  simp only[List.set_cons_zero,List.set_cons_succ,gN,fN,fO]
  refine OwD.soft 5 _ hD rfl kR (fun E hE=> ?_)
  have lM:New w.heap.size E:=newE hE
  refine Ow.callC rfl rfl call81 (fun w' aB=>pf vl l w' (hl.oldN aB (((lN.app (show New w.heap.size [(b7,Obj.cells (aI r).toArray 149 (0,0))] from⟨gp,trivial⟩)).app (dT.mono dv)).app lM)) oM) (fun B2 v2 D2 cU cX d7 an=> ?_)
  have zR:New (b9+1) D2:=d7.mono (ae cU (by simp[aZ,mR]))
  with_reducible refine Ow.nil ?_
  refine⟨_,pb,ju (fun r hr=>by simp[aZ,mH r hr]), ?_⟩
  simp only[List.set_cons_zero,List.set_cons_succ,gN,fN,fO]
  exact key ⟨D1,D2,v1,v2,b7⟩ _ _ ⟨CZ,zR,zS,d8,an⟩ rfl pM
 obtain⟨D1,D2,v1,v2,b7⟩:=g
 obtain⟨uG,j',gf,sc,qK⟩:=hg
 simp only at uG j' gf sc qK ⊢
 refine OwD.soft 8 _ hD rfl kR (fun E hE=> ?_)
 have lM:=newE hE
 refine Ow.permL (M:=D2++ (L0++D1++ [(b7,Obj.cells (aI r).toArray 149 (0,0))]++E)) pM ?_
 refine Ow.appendX (e:=149) (k:=1) (new:=aI r) (X:=D2) v2 rfl rfl rfl rfl underlying71 ag149 kR lJ (by rw[ig,List.size_toArray,di]) underlying71 (by intro k h;cases h) qK (fun w' aB=>AppX.one1 (aB.has b7 (.cells (aI r).toArray 149 (0,0)) (by simp)) (di r) (uu r)) oM oM (fun B v3 D3 e_ jA co pE mQ cJ=> ?_)
 have VP:b9<B:=ae e_ (by simp[aZ,mR])
 have sr:New (b9+1) D3:=New.of_le fun c hc=>by
  rcases mQ c hc with h|h
  ·exact j'.le c h
  omega
 have Z0: ∀r,r∈ [bx,b9]→r∉keys D3:=fun r hr hm=>by have:=sr.le r hm;have:=eU r (mH r hr);omega
 with_reducible refine Ow.nil ?_
 refine⟨D3++ (L0++D1++ [(b7,Obj.cells (aI r).toArray 149 (0,0))]),pM,fun r hr=> ?_, ?_⟩
 ·have h0:=mH r hr
  rw[BC (Z0 r hr),tR (by simp[aZ,h0]),tR h0,tR (by simp[aZ,h0]),tR (by simp[aZ,h0]),tR h0]
 simp only[List.set_cons_zero,List.set_cons_succ,gN,fN,fO]
 refine OwD.soft 9 _ hD rfl kR (fun E2 bO=> ?_)
 refine Ow.build (.agg #[v1,v3]) rfl (Bd v1 v3 sc.cell.2 co.cell.2) ?_
 with_reducible refine Ow.nil ?_
 refine⟨D3++ (L0++D1++ [(b7,Obj.cells (aI r).toArray 149 (0,0))]),List.Perm.refl _,fun _ _=>rfl, ?_⟩
 simp only[List.set_cons_zero,List.set_cons_succ,gN,fN,fO]
 refine OwD.real [11] rfl hD kR kR kR kR (fun r hr=> .inl (by simp[aZ,mH r hr])) ?_
 simp only[cR, ↓cS, ↓bz, ↓cG, ↓cH,b_]
 intro b10 tK iT
 simp only[fN,fO]
 refine Ow.store rfl rfl rfl (L':=(D3++ (L0++D1++ [(b7,Obj.cells (aI r).toArray 149 (0,0))]))++ [(b10,Obj.cells #[v1,v3] 73 (0,0))]) ?_ ?_
 ·simp only[df,dC,dW]
  rw[ag73,BP,Eu iT,bI,ta _ _ _ _ _ sc.cell.1 co.cell.1,vA,Dw iT]
  exact []
 subst zQ
 refine kq @dG ?_
 refine Cw.permL (M:= [(bx,Obj.cells #[vt,vl] 73 (0,0)),(bi,Obj.cells (a8 id.l) 24 (0,0)),(br,Obj.cells #[Value.slice none 0 0,Value.slice none 0 0] 73 (0,0)),(b9,Obj.cells (aI r).toArray 149 (0,0)),(b10,Obj.cells #[v1,v3] 73 (0,0)),(b7,Obj.cells (aI r).toArray 149 (0,0))]++ (D1++D3)) pM ?_
 simp only[List.cons_append,List.nil_append]
 have iX:w.heap.size≤b7:=by omega
 have Si:=uG.mono (show w.heap.size≤b9+1 by omega)
 have Sj:=sr.mono (show w.heap.size≤b9+1 by omega)
 have Sl:=Si.app Sj
 have zh:bx≠b10∧bi≠b10∧br≠b10∧b9≠b10:=by
  simp only[aZ,List.mem_append,not_or] at iT
  obtain⟨-,⟨h0,-⟩,-⟩:=iT
  simp only[keys,List.map_cons,List.map_nil,List.mem_cons,List.not_mem_nil,or_false,not_or] at h0
  obtain⟨h1,h2,h3,h4⟩:=h0
  exact⟨Ne.symm h1,Ne.symm h2,Ne.symm h3,Ne.symm h4⟩
 obtain⟨Au,ZW,hr10,Yd⟩:=zh
 have dL: (l.map aI).flatten++aI r=((l++ [r]).map aI).flatten:=by simp
 rw[dL] at co
 have A7:Gr D3 149 33 v3 (l.length+1) ((l++ [r]).map aI).flatten:= .inl co
 have qY:r.name.length<1000000:=by rw[←hR];exact ce
 have lW:gM (l++ [r]):=by
  intro g hg
  by_cases aG:g<l.length
  ·have:=bC g aG
   rwa [List.getD_eq_getElem?_getD,List.getElem?_append_left aG,←List.getD_eq_getElem?_getD]
  have:g=l.length:=by simp at hg;omega
  subst this
  rw[List.getD_eq_getElem?_getD,List.getElem?_append_right (ag _)]
  simp;omega
 refine ky (aN @dG @jK) ?_
 refine Ow.callFV rfl call88 (fun w' aB=>uU v1 v3 t (l++ [r]) w' (sc.slM (fun b o hm=>aB.has b o (by simp[hm])) rfl rfl di) (A7.slM (fun b o hm=>aB.has b o (by simp[hm])) (by simp) rfl di) oM (by simp;omega) ci lW) ?_
 cases gn:al t (l++ [r])
 ·refine ko @dG ?_
  refine ky @dG ?_
  refine Ow.build (.agg #[.slice none 0 0, .slice none 0 0]) rfl kR ?_
  refine ko @dG ?_
  refine ky @dG ?_
  refine⟨_,(ke @dG), ?_⟩
  refine⟨Ext.of_new ⟨bR,jG,g6,jh,tK,iX,Sl⟩, ?_⟩
  exact AddS.full ⟨hr,hn⟩ (by rw[hR];exact gn)
 refine ko @dG ?_
 refine ky @dG ?_
 refine Cw.regionO [0,1,2,3,4,5] [3] rfl kR kR ?_
 simp only[cR, ↓cS, ↓bz, ↓cG, ↓cH,b_]
 refine kq (aN @dG @jK) ?_
 refine Ow.callFV rfl call150 (fun w' aB=>(WO r w' (GlobC.of hG aB (New.not (L:=(bx,Obj.cells #[vt,vl] 73 (0,0)):: (bi,Obj.cells (a8 id.l) 24 (0,0)):: (br,Obj.cells #[Value.slice none 0 0,Value.slice none 0 0] 73 (0,0)):: (b9,Obj.cells (aI r).toArray 149 (0,0)):: (b10,Obj.cells #[v1,v3] 73 (0,0)):: (b7,Obj.cells (aI r).toArray 149 (0,0)):: (D1++D3)) ⟨bR,jG,g6,jh,tK,iX,Sl⟩ iy)) qY).quiet) ?_
 have bH:=ta (.slice none 0 0) (.slice none 0 0) v1 v3 73 sc.cell.1 co.cell.1
 refine Ow.store rfl rfl rfl (ke (aN @dG @bH)) ?_
 refine kq @dG ?_
 try with_reducible refine Ow.nil ?_
 refine ky @dG ?_
 refine⟨_,(ke @dG), ?_⟩
 refine⟨Ext.of_new ⟨bR,jG,g6,jh,tK,iX,Sl⟩, ?_⟩
 have A2:=AddS.ok (n:=w.heap.size) (D:=(bx,Obj.cells #[vt,vl] 73 (0,0)):: (bi,Obj.cells (a8 id.l) 24 (0,0)):: (br,Obj.cells #[v1,v3] 73 (0,0)):: (b9,Obj.cells (aI r).toArray 149 (0,0)):: (b10,Obj.cells #[v1,v3] 73 (0,0)):: (b7,Obj.cells (aI r).toArray 149 (0,0)):: (D1++D3)) ⟨hr,hn⟩ (by rw[hR];exact gn) (sc.i fun p hp=>by simp[hp]) (by rw[hR];exact A7.i fun p hp=>by simp[hp])
 rw[hR] at A2
 exact A2
def QE (id:IdL): ∀k,k< [id].length→ ∀j,j<32→(a8 id.l)[0+k*32+j]? =(idLC ([id].getD k id0))[j]? :=by
 intro k hk j hj
 obtain rfl:k=0:=by simpa using hk
 simp only[Nat.zero_mul,Nat.zero_add,List.getD_cons_zero]
 rw[←rU,List.getElem?_toArray]
def refB (r:RefL):List UInt8:=dB r.name++r.id.l
def eG (t:List RefL):List UInt8:=(t.map refB).flatten
def dP (t:List RefL):List UInt8:= [72]++cE (eL t.length)++eG t
def be (l:List RefL):List UInt8:=(l.map fun r=>ai (bW r)).flatten
def aO (t l:List RefL):List UInt8:=ai (dP t)++be l
def SmallN (l:List RefL):Prop:= ∀g,g<l.length→(l.getD g az).name.length<1000
def SmallN.short {l:List RefL} (h:SmallN l):gM l:=fun g hg=>Nat.lt_trans (h g hg) oM
def EO {r:RefL} (h:r.name.length<1000): (refB r).length<1100:=by
 have:=j9 (r.name.length:Int)
 have:=r.id.h
 simp only[refB,dB,List.length_append];omega
def Bq (t:List RefL) (g:Nat) (h:g<t.length):t.take (g+1)=t.take g++ [t.getD g az]:=by
 rw[List.take_add_one,List.getElem?_eq_getElem h,List.getD_eq_getElem?_getD,List.getElem?_eq_getElem h];rfl
def wi (t:List RefL) (g:Nat) (h:g<t.length):eG (t.take (g+1))=eG (t.take g)++refB (t.getD g az):=by
 unfold eG
 rw[Bq t g h,List.map_append,List.flatten_append];simp only[List.map_cons,List.map_nil,List.flatten_cons,List.flatten_nil,List.append_nil]
def CE (t:List RefL) (g:Nat) (h:g<t.length):be (t.take (g+1))=be (t.take g)++ai (bW (t.getD g az)):=by
 unfold be
 rw[Bq t g h,List.map_append,List.flatten_append];simp only[List.map_cons,List.map_nil,List.flatten_cons,List.flatten_nil,List.append_nil]
theorem vS {t:List RefL} (h:SmallN t): ∀g,g≤t.length→(eG (t.take g)).length≤g*1100
 |0,_=>by simp[eG]
 |g+1,hg=>by
  rw[wi t g hg,List.length_append]
  have:=vS h g oM
  have:=EO (h g hg)
  omega
def xY {r:RefL} (h:r.name.length<1000): (ai (bW r)).length<1200:=by
 have h1:=j9 (r.name.length:Int)
 have h2:=r.id.h
 have h3:=j9 ((eY (bW r)).length:Int)
 have h4:=r8 (bW r)
 simp only[ai,dB,List.length_append] at h3 ⊢
 rw[h4] at h3 ⊢
 simp only[bW,dB,List.length_append,List.length_cons,List.length_nil] at h3 ⊢
 omega
theorem EI {t:List RefL} (h:SmallN t): ∀g,g≤t.length→(be (t.take g)).length≤g*1200
 |0,_=>by simp[be]
 |g+1,hg=>by
  rw[CE t g hg,List.length_append]
  have:=EI h g oM
  have:=xY (h g hg)
  omega
def uj {w0:World} {L X D:aA} (hC:Came w0 L X D) {b:Nat} (hb:b∈keys L) (hX:b∉keys X):b∉keys D:=fun hm=>by
 rcases hC.new b hm with h| ⟨h,-⟩
 ·exact hX h
 exact Nat.lt_irrefl _ (ae h hb)
def vD {w0:World} {L X D:aA} (hC:Came w0 L X D) (hX:New w0.heap.size X):New w0.heap.size D:=New.of_le fun c hc=>by
 rcases hC.new c hc with h| ⟨-,h⟩
 ·exact hX.le c h
 exact h
def dQ:=aN (aN (aN (aN @bq @iH) (aN @iG @iF)) (aN (aN @bl @mp) (aN @mn @ig))) (aN (aN (aN @im @pd) (aN @pX @pW)) (aN (aN @nb @jK) (aN @tup2_0 @tup2_1)))
def Ul (vt vl:Value) (t l:List RefL) (w:World) (hG:GlobC w) (ht:fB w vt t) (hl:fB w vl l) (cp:t.length<1000) (eI:l.length<1000) (ci:SmallN t) (bC:SmallN l):
  Rets prog 86 #[.agg #[vt,vl]] w (fun v D=>v=(if al t l=true then .tuple #[vs (aO t l),vi 0] else .tuple #[vs [],vi 1])∧D= []):=by
 have iy: (4:Nat)<w.heap.size:=by obtain⟨e,f,h⟩:=hG;exact(Array.getElem?_eq_some_iff.1 h).1
 refine Rets.enterV func86 rfl (rs:= [.tmp 2, .tmp 3]) results86 ntmps86 ?_
 refine kf ?_
 refine ky @dQ ?_
 refine Ow.box rfl rfl fun bx gg bR=> ?_
 simp only[df,dC,dW,bI,List.nil_append,List.cons_append]
 refine Ow.go rfl ?_
 simp(disch:=first|exact dD|fail) only[↓Sx.S0,Sx.S1,fx,dQ,Nat.reduceAdd,Nat.reducePow,Int.reducePow,Nat.reduceBEq, ↓reduceIte,UInt8.reduceToNat,UInt16.reduceToNat,UInt32.reduceToNat,UInt64.reduceToNat,Int.reduceToNat]
 refine ky (aN @dQ @jK) ?_
 refine Ow.callFV rfl call88 (fun w' aB=>uU vt vl t l w' (ht.oldN aB ⟨bR,trivial⟩) (hl.oldN aB ⟨bR,trivial⟩) oM oM ci.short bC.short) ?_
 cases hr:al t l
 ·refine ko @dQ ?_
  refine ky @dQ ?_
  refine⟨_,(ke @dQ),⟨bR,trivial⟩, ?_⟩
  rfl
 refine ko @dQ ?_
 refine ky @dQ ?_
 refine Ow.alloc rfl rfl zr236 fun b4 lQ nW=> ?_
 obtain⟨hx4,-⟩:=lQ
 refine ko @dQ ?_
 refine Ow.permL (M:= [(b4, .cells #[.pointer none, .slice none 0 0] 236 (0,0))]++ [(bx, .cells #[vt,vl] 73 (0,0))]) pM ?_
 rw[List.cons_append,List.nil_append]
 have hZ:BldAt b4 [] [(b4, .cells #[.pointer none, .slice none 0 0] 236 (0,0))]:=BldAt.zero b4 (er _ _ _)
 refine ky @dQ ?_
 refine Ow.buildSlice (e:=9) #[vs [72]] rfl rfl kR fun b5 iq fJ=> ?_
 obtain⟨h45,TY,-⟩:=iq
 refine ko @dQ ?_
 refine Ow.callX (Y:= [(bx, .cells #[vt,vl] 73 (0,0)),(b5, .cells #[vs [72]] 9 (0,0))]) (by simp) rfl rfl call154 (fun w' aB hX hn=>C0 b4 [(b4, .cells #[.pointer none, .slice none 0 0] 236 (0,0))] [] _ b5 0 [[72]] _ _ _ w' hZ hX hn (StrS.lit [[72]] rfl rfl (aB.has _ _ (aq _ (aq _ ah)))) (fun _ hm=>by simp[keys] at hm;omega) (by simp) (by simp)) (fun v6 D6 CY zZ=> ?_)
 obtain⟨rfl,ol⟩:=zZ
 simp only[List.flatten_cons,List.flatten_nil,List.append_nil,List.nil_append] at ol
 have TZ:bx∉keys D6:=uj CY (by simp[keys]) (by simp[keys];omega)
 have RM:New w.heap.size D6:=vD CY ⟨nW,trivial⟩
 have rd6:aS w (D6++ [(bx, .cells #[vt,vl] 73 (0,0)),(b5, .cells #[vs [72]] 9 (0,0))]) bx=some (.cells #[vt,vl] 73 (0,0)):=ad (by rw[gO TZ];exact er _ _ _)
 refine ko @dQ ?_
 ((try with_reducible refine Cw.go [] ?_);(try simp(disch:=first|exact dD|fail) only[↓Sx.S0,Sx.S1,fx,dQ,Nat.reduceAdd,Nat.reducePow,Int.reducePow,Nat.reduceBEq, ↓reduceIte,UInt8.reduceToNat,UInt16.reduceToNat,UInt32.reduceToNat,UInt64.reduceToNat,Int.reduceToNat,rd6,ht.len]))
 refine Ow.buildSlice (e:=3) #[vi t.length] rfl rfl kR fun b7 gf gp=> ?_
 refine ko @dQ ?_
 refine Ow.callX (Y:= [(bx, .cells #[vt,vl] 73 (0,0)),(b5, .cells #[vs [72]] 9 (0,0)),(b7, .cells #[vi t.length] 3 (0,0))]) (by simp) rfl rfl call123 (fun w' aB hX hn=>T' b4 D6 _ _ b7 0 [(t.length:Int)] _ _ _ w' ol hX hn (OneS.lit [(t.length:Int)] rfl rfl (aB.has _ _ (dS _ ah))) (fun _ hm=>Nat.lt_irrefl _ (ae gf (by rw[aZ];exact bQ _ hm))) (by simp)) (fun v8 D8 zM za=> ?_)
 obtain⟨rfl,oq⟩:=za
 rw[wE] at oq
 have hx7:bx<b7:=ae gf (by simp[aZ,keys])
 have WL:bx∉keys D8:=uj zM (by simp[aZ,keys]) TZ
 have u3:New w.heap.size D8:=vD zM RM
 have rd8:aS w (D8++ [(bx, .cells #[vt,vl] 73 (0,0)),(b5, .cells #[vs [72]] 9 (0,0)),(b7, .cells #[vi t.length] 3 (0,0))]) bx=some (.cells #[vt,vl] 73 (0,0)):=ad (by rw[gO WL];exact er _ _ _)
 refine ko @dQ ?_
 ((try with_reducible refine Cw.go [] ?_);(try simp(disch:=first|exact dD|fail) only[↓Sx.S0,Sx.S1,fx,dQ,Nat.reduceAdd,Nat.reducePow,Int.reducePow,Nat.reduceBEq, ↓reduceIte,UInt8.reduceToNat,UInt16.reduceToNat,UInt32.reduceToNat,UInt64.reduceToNat,Int.reduceToNat,rd8,ht.len]))
 refine Cw.permL (M:=(D8++ [(b5, .cells #[vs [72]] 9 (0,0)),(b7, .cells #[vi t.length] 3 (0,0))])++ [(bx, .cells #[vt,vl] 73 (0,0))]) pM ?_
 obtain⟨b1,o1,a1,E1,f1,h1⟩:=ht.row
 refine Cw.loopG (G:=WG) [24,25,26,6,27,28,29,30,31,32,33,34,35,23] (fun g=> [(23,vi g.g)]) (fun g=>g.D++ [(bx, .cells #[vt,vl] 73 (0,0))]) (fun g=>g.g≤t.length∧New w.heap.size g.D∧bx∉keys g.D∧BldAt b4 ([72]++cE (eL t.length)++eG (t.take g.g)) g.D) (fun g=>t.length - g.g) ⟨0,D8++ [(b5, .cells #[vs [72]] 9 (0,0)),(b7, .cells #[vi t.length] 3 (0,0))]⟩ rfl rfl ?_ ?_
 ·exact⟨cC _,u3.app ⟨fJ,gp,trivial⟩,by intro hm;rw[aZ] at hm;exact(List.mem_append.1 hm).elim WL (fun h=>by simp[keys] at h;omega),by simpa [eG] using BldAt.app oq⟩
 intro g j hg
 refine kv ?_
 obtain⟨g,D⟩:=g
 simp only at hg ⊢
 obtain⟨nK,hN,WM,iN⟩:=hg
 by_cases aG:g<t.length
 ·have aP:=h1.has oM
  have zj:=h1.lt oM
  have ld1:=h1.load di oM aG
  have Yw:New w.heap.size (D++ [(bx, .cells #[vt,vl] 73 (0,0))]):=hN.app ⟨bR,trivial⟩
  have rd1:aS w (D++ [(bx, .cells #[vt,vl] 73 (0,0))]) b1=some (.cells a1 E1 f1):=by rw[lA (Yw.not zj)];exact aP
  have ce:=ci g aG
  have qc:=wi t g aG
  have cp:=vS ci g nK
  generalize DA:t.getD g az=r at*
  ((try with_reducible refine Cw.go [11] ?_);(try simp(disch:=first|exact dD|fail) only[↓Sx.S0,Sx.S1,fx,dQ,Nat.reduceAdd,Nat.reducePow,Int.reducePow,Nat.reduceBEq, ↓reduceIte,UInt8.reduceToNat,UInt16.reduceToNat,UInt32.reduceToNat,UInt64.reduceToNat,Int.reduceToNat,h1.idx,rd1,ld1]))
  refine Ow.alloc rfl rfl lJ fun b6 gQ fK=> ?_
  simp only[bI,List.nil_append,List.cons_append]
  have TZ:bx<b6:=ae gQ (by simp[aZ,keys])
  have lk6: ∀o,Sx.look (D++ [(bx,Obj.cells #[vt,vl] 73 (0,0))]++ [(b6,o)]) b6=some o:=fun o=>iE gQ
  have st6: ∀o x,setB (D++ [(bx,Obj.cells #[vt,vl] 73 (0,0))]++ [(b6,o)]) b6 x=D++ [(bx,Obj.cells #[vt,vl] 73 (0,0))]++ [(b6,x)]:=fun o x=>un gQ
  have rr6: ∀o,aS w (D++ [(bx,Obj.cells #[vt,vl] 73 (0,0))]++ [(b6,o)]) b6=some o:=fun o=>ad (lk6 o)
  refine ko (aN @dQ (aN @lk6 (aN @st6 @lC))) ?_
  refine ky (aN @dQ (aN @lk6 (aN @st6 (aN @rr6 @lC)))) ?_
  refine Ow.buildSlice (e:=9) #[vs r.name] rfl rfl kR fun b9 nJ jh=> ?_
  have bC:=j9 (r.name.length:Int)
  have W8:j8 [r.name]=dB r.name:=by simp[j8]
  have htn: (dB r.name).length=(cE (eL r.name.length)).length+r.name.length:=by unfold dB;rw[List.length_append]
  have Sp:=j9 (t.length:Int)
  rw[List.append_assoc,List.append_assoc]
  simp only[List.cons_append,List.nil_append]
  refine ko @dQ ?_
  refine Ow.callX (Y:= [(bx,Obj.cells #[vt,vl] 73 (0,0)),(b6, .cells (aI r).toArray 149 (0,0)),(b9, .cells #[vs r.name] 9 (0,0))]) (by simp) rfl rfl call124 (fun w' aB hX hn=>Dr b4 D _ _ b9 0 [r.name] _ _ _ w' iN hX hn (StrS.lit [r.name] rfl rfl (aB.has _ _ (dS _ (aq _ (aq _ ah))))) (fun _ hm=>Nat.lt_irrefl _ (ae nJ (by simp[aZ,hm]))) (by rw[W8];simp only[List.length_append,List.length_cons,List.length_nil];omega) (by simp)) (fun v10 D10 sH RV=> ?_)
  obtain⟨rfl,zI⟩:=RV
  rw[W8] at zI
  have Au:bx∉keys D10:=uj sH (by simp[aZ,keys]) WM
  have R9:b6∉keys D10:=uj sH (by simp[aZ,keys]) (fun hm=>Nat.lt_irrefl _ (ae gQ (by simp[aZ,hm])))
  have RF:New w.heap.size D10:=vD sH hN
  have rd10:aS w (D10++ [(bx,Obj.cells #[vt,vl] 73 (0,0)),(b6, .cells (aI r).toArray 149 (0,0)),(b9, .cells #[vs r.name] 9 (0,0))]) b6=some (.cells (aI r).toArray 149 (0,0)):=ad (by rw[gO R9,r9 _ _ _ _ oM];exact er _ _ _)
  refine ko @dQ ?_
  refine ky (aN @dQ @rd10) ?_
  refine Ow.buildSlice (e:=24) (a8 r.id.l) rfl rfl (xV r.id) fun b11 p9 me=> ?_
  have nN:=EJ [r.id]
  have SB:=r.id.h
  have SA:idsL [r.id]=r.id.l:=by simp[idsL]
  have hx9:bx<b9:=ae nJ (by simp[aZ,keys])
  have hx11:bx<b11:=ae p9 (by simp[aZ,keys])
  rw[List.append_assoc]
  simp only[List.cons_append,List.nil_append]
  refine ko @dQ ?_
  refine Ow.callX (Y:= [(bx,Obj.cells #[vt,vl] 73 (0,0)),(b6, .cells (aI r).toArray 149 (0,0)),(b9, .cells #[vs r.name] 9 (0,0)),(b11, .cells (a8 r.id.l) 24 (0,0))]) (by simp) rfl rfl call125 (fun w' aB hX hn=>xK b4 D10 _ _ b11 0 [r.id] _ _ _ w' zI hX hn (RowS.sl rfl (aB.has b11 (.cells (a8 r.id.l) 24 (0,0)) (dS _ (aq _ (aq _ (aq _ ah))))) (QE r.id)) (fun _ hm=>Nat.lt_irrefl _ (ae p9 (by simp[aZ,hm]))) (by simp only[List.length_append,List.length_cons,List.length_nil];omega)) (fun v12 D12 zJ RW=> ?_)
  obtain⟨rfl,sF⟩:=RW
  rw[SA] at sF
  have TW:bx∉keys D12:=uj zJ (by simp[aZ,keys]) Au
  have mE:New w.heap.size D12:=vD zJ RF
  refine ko @dQ ?_
  try with_reducible refine Ow.nil ?_
  refine Cw.permL (M:=(D12++ [(b6, .cells (aI r).toArray 149 (0,0)),(b9, .cells #[vs r.name] 9 (0,0)),(b11, .cells (a8 r.id.l) 24 (0,0))])++ [(bx, .cells #[vt,vl] 73 (0,0))]) pM ?_
  refine ky @dQ ?_
  refine Again.mk (WG.mk (g+1) (D12++ [(b6, .cells (aI r).toArray 149 (0,0)),(b9, .cells #[vs r.name] 9 (0,0)),(b11, .cells (a8 r.id.l) 24 (0,0))])) (by show t.length - (g+1)<t.length - g;omega) ⟨by show g+1≤t.length;omega,mE.app ⟨fK,jh,me,trivial⟩, ?_, ?_⟩ rfl rfl
  ·intro hm;rw[aZ] at hm;exact(List.mem_append.1 hm).elim TW (fun h=>by simp[keys] at h;omega)
  show BldAt b4 ([72]++cE (eL t.length)++eG (t.take (g+1))) _
  rw[qc,refB]
  simp only[List.append_assoc] at sF ⊢
  exact BldAt.app sF
 obtain rfl:g=t.length:=by omega
 have cp:=vS ci t.length (ag _)
 rw[List.take_length] at cp iN
 have Sp:=j9 (t.length:Int)
 refine ky @dQ ?_
 refine Ow.callX (Y:= [(bx,Obj.cells #[vt,vl] 73 (0,0))]) (by simp) rfl rfl call155 (fun w' aB hX hn=>Uy b4 D _ w' (GlobC.of hG aB (New.not (L:=D++ [(bx,Obj.cells #[vt,vl] 73 (0,0))]) (hN.app ⟨bR,trivial⟩) iy)) (hN.not iy) iN hX hn (by simp only[List.length_append,List.length_cons,List.length_nil];omega)) (fun v13 D13 zK RX=> ?_)
 have zY:v13=vs (ai (dP t)):=RX
 subst zY
 have iv: (ai (dP t)).length<1200000:=by
  have h3:=j9 ((eY (dP t)).length:Int)
  have h4:=r8 (dP t)
  simp only[ai,dB,List.length_append]
  rw[h4] at h3 ⊢
  simp only[dP,List.length_append,List.length_cons,List.length_nil] at h3 ⊢
  omega
 have bG: ∀x,ai (dP t)++x=ai (dP t)++x:=fun _=>rfl
 generalize Yr:ai (dP t)=hd at*
 have TX:bx∉keys D13:=uj zK (by simp[aZ,keys]) WM
 have RI:New w.heap.size D13:=vD zK hN
 have rd13:aS w (D13++ [(bx, .cells #[vt,vl] 73 (0,0))]) bx=some (.cells #[vt,vl] 73 (0,0)):=ad (by rw[gO TX];exact er _ _ _)
 refine ko @dQ ?_
 ((try with_reducible refine Cw.go [] ?_);(try simp(disch:=first|exact dD|fail) only[↓Sx.S0,Sx.S1,fx,dQ,Nat.reduceAdd,Nat.reducePow,Int.reducePow,Nat.reduceBEq, ↓reduceIte,UInt8.reduceToNat,UInt16.reduceToNat,UInt32.reduceToNat,UInt64.reduceToNat,Int.reduceToNat,rd13,hl.len]))
 obtain⟨b2,o2,a2,E2,f2,h2⟩:=hl.row
 rw[show hd=hd++be (l.take 0) by simp[be]]
 refine Cw.loopG (G:=WG) [41,42,43,9,44,45,46,47,7,48,40] (fun g=> [(40,vi g.g),(7,vs (hd++be (l.take g.g)))]) (fun g=>g.D) (fun g=>g.g≤l.length∧New w.heap.size g.D) (fun g=>l.length - g.g) ⟨0,D13++ [(bx, .cells #[vt,vl] 73 (0,0))]⟩ rfl rfl ?_ ?_
 ·exact⟨cC _,RI.app ⟨bR,trivial⟩⟩
 intro g j hg
 refine kv ?_
 obtain⟨g,D⟩:=g
 simp only at hg ⊢
 obtain⟨nK,hN⟩:=hg
 have Zi:=EI bC g nK
 by_cases aG:g<l.length
 ·have ar:=h2.has oM
  have zk:=h2.lt oM
  have ld2:=h2.load di oM aG
  have rd2:aS w D b2=some (.cells a2 E2 f2):=by rw[lA (hN.not zk)];exact ar
  have ce:=bC g aG
  have qc:=CE l g aG
  have pN:=xY ce
  generalize DA:l.getD g az=r at*
  ((try with_reducible refine Cw.go [17] ?_);(try simp(disch:=first|exact dD|fail) only[↓Sx.S0,Sx.S1,fx,dQ,Nat.reduceAdd,Nat.reducePow,Int.reducePow,Nat.reduceBEq, ↓reduceIte,UInt8.reduceToNat,UInt16.reduceToNat,UInt32.reduceToNat,UInt64.reduceToNat,Int.reduceToNat,h2.idx,rd2,ld2]))
  refine Ow.alloc rfl rfl lJ fun b9 nJ jh=> ?_
  simp only[bI,List.nil_append,List.cons_append]
  have lk9: ∀o,Sx.look (D++ [(b9,o)]) b9=some o:=fun o=>iE nJ
  have st9: ∀o x,setB (D++ [(b9,o)]) b9 x=D++ [(b9,x)]:=fun o x=>un nJ
  have rr9: ∀o,aS w (D++ [(b9,o)]) b9=some o:=fun o=>ad (lk9 o)
  refine ko (aN @dQ (aN @lk9 (aN @st9 @lC))) ?_
  refine ky (aN @dQ @rr9) ?_
  refine Ow.callFV rfl call150 (fun w' aB=>(WO r w' (GlobC.of hG aB (New.not (L:=D++ [(b9,Obj.cells (aI r).toArray 149 (0,0))]) (hN.app ⟨jh,trivial⟩) iy)) oM).quiet) ?_
  refine ko @dQ ?_
  refine ky @dQ ?_
  refine Again.mk (WG.mk (g+1) (D++ [(b9,Obj.cells (aI r).toArray 149 (0,0))])) (by show l.length - (g+1)<l.length - g;omega) ⟨by show g+1≤l.length;omega,hN.app ⟨jh,trivial⟩⟩ rfl ?_
  rw[qc,←List.append_assoc]
  rfl
 obtain rfl:g=l.length:=by omega
 refine ky @dQ ?_
 refine⟨_,(ke @dQ),hN, ?_⟩
 (rw[List.take_length];simp only[aO,Yr, ↓reduceIte];rfl)
def bB:=aN (aN (aN (aN @bq @iH) (aN @iG @iF)) (aN (aN @bl @mp) (aN @mn @ig))) (aN (aN (aN @im @pd) (aN @pX @pW)) (aN (aN @nb @jK) (aN @tup2_0 (aN @tup2_1 @En))))
def Mr (w:World):Rets prog 167 #[.pointer none] w (fun v D=>v=vi 3∧D= []):=by
 refine Rets.enterV func167 rfl (rs:= [.tmp 2]) results167 ntmps167 ?_
 refine kf ?_
 refine ky @bB ?_
 refine Ow.callFV rfl call218 (fun w' aB=>xL w') ?_
 refine ko @bB ?_
 refine ky @bB ?_
 refine⟨_,(ke @bB),trivial, ?_⟩
 rfl
def HK (m:Int) (w:World):Rets prog 165 #[.pointer none,vi m] w (fun v D=>v=vi 0∧D= []):=by
 refine Rets.enterV func165 rfl (rs:= [.tmp 4]) results165 ntmps165 ?_
 refine kf ?_
 refine ky @bB ?_
 refine Cw.scopeS ?_
 refine ky @bB ?_
 refine Ow.callFV rfl call218 (fun w' aB=>xL w') ?_
 refine ko @bB ?_
 refine ky @bB ?_
 refine⟨_,(ke @bB),trivial, ?_⟩
 rfl
theorem Uj (most:Int): ∀ (l:List UInt8) (k n m k':Nat),cB most l k n= .ok (m,k')→(m:Int)≤most
 | [],_,_,_,_,h=>by simp[cB] at h
 |c::r,k,n,m,k',h=>by
  unfold cB at h
  split at h
  ·split at h
   ·cases h
   exact Uj most r _ _ _ _ h
  split at h
  ·cases h
  split at h
  ·rename_i hh
   cases h
   exact hh.2
  cases h
def JK {s:List UInt8} {a:Nat} {e most:Int} (h0:0≤most):0≤ (aV s a e most).1∧(aV s a e most).1≤most:=by
 unfold aV
 split
 ·exact⟨Int.le_refl 0,h0⟩
 split
 ·rename_i n k h
  exact⟨Int.natCast_nonneg _,Uj most _ _ _ _ _ h⟩
 exact⟨Int.le_refl 0,h0⟩
def El {s:List UInt8} {a:Nat} {e:Int} (hs:s.length<1099511627776): (gC s a e).1.name.length<1099511627776:=Ei (e:=e) (most:=32) hs
theorem V1 {s:List UInt8} {a:Nat} {e:Int} (hs:s.length<1099511627776): ∀g,gM (cW s a e g).1
 |0=>fun g hg=>by simp[cW] at hg
 |g+1=>by
  intro i hi
  rw[uy] at hi
  unfold cW
  simp only
  by_cases aG:i<g
  ·rw[List.getD_eq_getElem?_getD,List.getElem?_append_left (by rw[uy];exact aG),←List.getD_eq_getElem?_getD]
   exact V1 hs g i (by rw[uy];exact aG)
  have:i=(cW s a e g).1.length:=by rw[uy];omega
  subst this
  rw[List.getD_eq_getElem?_getD,List.getElem?_append_right (ag _)]
  simp only[Nat.sub_self,List.getElem?_cons_zero,Option.getD_some]
  exact El hs
def nz (s:List UInt8) (v:Value) (D:aA):Prop:=
 match gv s with
 |some (tb,log,at_)=> ∃vt vl,v= .tuple #[.agg #[vt,vl],vi at_,vi 0]∧GrI D 149 33 vt tb.length (tb.map aI).flatten∧GrI D 149 33 vl log.length (log.map aI).flatten
 |none=>v= .tuple #[.agg #[.slice none 0 0, .slice none 0 0],vi 0,vi 2]
theorem Eg {b:Nat} {x:Obj}: ∀ {D L:aA},b∉keys D→setB (D++L) b x=D++setB L b x
 | [],_,_=>rfl
 | (c,y)::r,L,h=>by
  simp only[keys,List.map_cons,List.mem_cons,not_or] at h
  rw[List.cons_append,tg _ _ _ _ _ (Ne.symm h.1),Eg (by simpa [keys] using h.2)];rfl
def UJ (b:Nat) (s:List UInt8) (a:Nat) (e:Int) (w:World) (ho:w.heap[b]? =some (.cells #[vs s,vi a,vi e] 314 (0,0))):
  Rets prog 167 #[vp b 0] w (fun v D=>v=vi (endR s a e)∧D= []):=JP b s a e w ho
def IG {l:List RefL} {r:RefL} (h:gM l) (hr:r.name.length<1099511627776):gM (l++ [r]):=by
 intro g hg
 by_cases aG:g<l.length
 ·have:=h g aG
  rwa [List.getD_eq_getElem?_getD,List.getElem?_append_left aG,←List.getD_eq_getElem?_getD]
 have:g=l.length:=by simp at hg;omega
 subst this
 rw[List.getD_eq_getElem?_getD,List.getElem?_append_right (ag _)]
 simpa using hr
def K4 {s:List UInt8} (h: (bS s 0 0 [72]).1=none):gv s=none:=by
 unfold gv lI
 generalize bS s 0 0 [72]=p at h ⊢
 obtain⟨o,q⟩:=p
 simp only at h
 subst h
 rfl
def wc {s c:List UInt8} (h: (bS s 0 0 [72]).1=some c):
  lI s=if endR c (cW c (aV c 0 0 16).2.1 (aV c 0 0 16).2.2 (aV c 0 0 16).1.toNat).2.1 (cW c (aV c 0 0 16).2.1 (aV c 0 0 16).2.2 (aV c 0 0 16).1.toNat).2.2=0∧al (cW c (aV c 0 0 16).2.1 (aV c 0 0 16).2.2 (aV c 0 0 16).1.toNat).1 []=true then some ((cW c (aV c 0 0 16).2.1 (aV c 0 0 16).2.2 (aV c 0 0 16).1.toNat).1,(bS s 0 0 [72]).2.1) else none:=by
 unfold lI
 generalize bS s 0 0 [72]=p at h ⊢
 obtain⟨o,a,e⟩:=p
 simp only at h
 subst h
 rfl
def y5 {s:List UInt8} (h:lI s=none):gv s=none:=by unfold gv;rw[h];rfl
def yV {s:List UInt8} {a:Nat} {e:Int} {p:List UInt8} (ha:a≤s.length):a≤ (bS s a e p).2.1∧(bS s a e p).2.1≤s.length:=tV ha
def w3 {s:List UInt8} {tb log:List RefL} {at_:Nat} (h: (bS s at_ 0 [69]).1=none):gX s tb log at_=none:=by
 unfold gX
 generalize bS s at_ 0 [69]=p at h ⊢
 obtain⟨o,q⟩:=p
 simp only at h
 subst h
 rfl
def wu {s:List UInt8} {tb log:List RefL} {at_:Nat} {c:List UInt8} (h: (bS s at_ 0 [69]).1=some c):
  gX s tb log at_=if endR c (gC c 0 0).2.1 (gC c 0 0).2.2=0∧al tb (log++ [(gC c 0 0).1])=true then some (log++ [(gC c 0 0).1],(bS s at_ 0 [69]).2.1) else none:=by
 unfold gX
 generalize bS s at_ 0 [69]=p at h ⊢
 obtain⟨o,a,e⟩:=p
 simp only at h
 subst h
 rfl
def Em {s:List UInt8} {tb log:List RefL} {at_ a0:Nat} (hh:lI s=some (tb,a0)) (hl: ∀k,101≤k+log.length→iJ s tb k log at_=iJ s tb 101 [] a0) (hn:gX s tb log at_=none):gv s=some (tb,log,at_):=by
 unfold gv
 rw[hh,Option.map_some,←hl 101 oM]
 unfold iJ
 rw[hn]
structure RG where
 lab:Nat
 br:Nat
 b6:Nat
 b7:Nat
 vt:Value
 vl:Value
 x:Value
 y:Value
 tb:List RefL
 log:List RefL
 at_:Nat
 D:aA
structure HG where
 g:Nat
 vt:Value
 D:aA
def bkO (x y:Value):Obj:= .cells #[x,y] 73 (0,0)
def rdO (s:List UInt8) (a e:Int):Obj:= .cells #[vs s,vi a,vi e] 314 (0,0)
def nlV:Value:= .slice none 0 0
def RJ (s:List UInt8) (n b2:Nat) (g:RG):Prop:=
 (g.lab=1∧n≤g.br∧n≤g.b6∧n≤g.b7∧b2≠g.br∧b2≠g.b6∧b2≠g.b7∧g.br≠g.b6∧g.br≠g.b7∧g.b6≠g.b7∧New n g.D∧
  GrI g.D 149 33 g.vt g.tb.length (g.tb.map aI).flatten∧GrI g.D 149 33 g.vl g.log.length (g.log.map aI).flatten∧
  Value.oneCell' g.x=true∧Value.oneCell' g.y=true∧gM g.tb∧gM g.log∧g.tb.length<1000∧g.log.length≤100∧g.at_≤s.length∧
  ∃a0,lI s=some (g.tb,a0)∧ ∀k,101≤k+g.log.length→iJ s g.tb k g.log g.at_=iJ s g.tb 101 [] a0)∨
 (g.lab=2∧n≤g.b6∧b2≠g.b6∧New n g.D∧
  GrI g.D 149 33 g.vt g.tb.length (g.tb.map aI).flatten∧GrI g.D 149 33 g.vl g.log.length (g.log.map aI).flatten∧gv s=some (g.tb,g.log,g.at_))∨
 (g.lab=0∧New n g.D∧gv s=none)
def RH (s:List UInt8) (b2:Nat) (g:RG):aA:=
 match g.lab with
 |1=>(b2,bkO nlV nlV):: (g.br,rdO s g.at_ 0):: (g.b6,bkO g.vt g.vl):: (g.b7,bkO g.x g.y)::g.D
 |2=>(b2,bkO nlV nlV):: (g.b6,bkO g.vt g.vl)::g.D
 |_=>(b2,bkO nlV nlV)::g.D
def RSl (g:RG):List (Nat×Value):=
 match g.lab with
 |1=> [(5,vp g.br 0),(6,vp g.b6 0),(7,vp g.b7 0)]
 |2=> [(6,vp g.b6 0),(8,vi g.at_)]
 |_=> []
def RL (g:RG):Nat:=
 match g.lab with
 |1=>1
 |2=>2
 |_=>0
def tf {D:aA} {E:TypeId} {m n:Nat} {v:Value} {cs:List Value} (h:GrI D E m v n cs):Value.oneCell' v=true∧v.cells= #[v]:=by
 obtain⟨X,-,h⟩:=h;exact h.cell
def H8 (s:List UInt8) (w:World) (hG:GlobC w) (hs:s.length<1000000):
  Rets prog 95 #[vs s] w (XS w [] (nz s)):=by
 have iy: (4:Nat)<w.heap.size:=by obtain⟨e,f,h⟩:=hG;exact(Array.getElem?_eq_some_iff.1 h).1
 refine Rets.enterX func95 rfl (rs:= [.cell 2 73, .tmp 3, .tmp 4]) results95 ntmps95 (fun p hp=>by cases hp) (by simp[keys]) ?_
 refine kf ?_
 refine ky @bB ?_
 refine Ow.alloc rfl rfl zrBk fun b2 ar eW=> ?_
 simp only[bI,List.nil_append,List.cons_append]
 refine ko @bB ?_
 refine ky @bB ?_
 refine Cw.scopeL (G:=RG) (fun g=>RL g) [10,11,5,6,7,8,12,13,9,14,15,16,17,18,19,20,21,22,23,24,25,26,27,28,29,30,31,32,33,34,35,36,37,38,39,40,41,42,43,44,45,46,47,48,49,50,51,52,53,54,55,56,57,58,59,60,3,4,61] (fun g=>RSl g) (fun g=>RH s b2 g) (fun g=>RJ s w.heap.size b2 g) (fun g=>(if g.lab=1 then 102 - g.log.length else 0)) ?_ ?_ ?_
 ·intro g
  unfold RL
  split<;>rfl
 ·intro g j hg
  rcases hg with hg|hg|hg
  ·obtain⟨lab,br,b6,b7,vt,vl,x,y,tb,log,at_,D⟩:=g
   obtain⟨i_,hg⟩:=hg
   simp only at i_
   subst i_
   simp only[RL,RSl,RH] at hg ⊢
   obtain⟨g6,fK,gp,YX,qA,CX,pL,nR,VI,hN,iz,gi,hox,hoy,bH,cA,cp,eI,u7,a0,lS,lU⟩:=hg
   simp only[bkO,rdO,nlV]
   simp only[gq,fi,Bool.or_false,Bool.false_or,Bool.or_true,Bool.true_or,Nat.reduceBEq,beq_self_eq_true, ↓reduceIte,Bool.false_eq_true]
   refine kv ?_
   try with_reducible refine tP ?_
   refine kz [14] @bB ?_
   refine Ow.callFV rfl call168 (fun w' aB=>xA br s at_ 0 w' (aB.has _ _ (aq _ ah))) ?_
   refine ko @bB ?_
   refine ky @bB ?_
   refine Ow.permL (M:= [(br, .cells #[vs s,vi at_,vi 0] 314 (0,0))]++ ((b2, .cells #[.slice none 0 0, .slice none 0 0] 73 (0,0)):: (b6, .cells #[vt,vl] 73 (0,0)):: (b7, .cells #[x,y] 73 (0,0))::D)) pM ?_
   refine Ow.callX (Y:=((b2, .cells #[.slice none 0 0, .slice none 0 0] 73 (0,0)):: (b6, .cells #[vt,vl] 73 (0,0)):: (b7, .cells #[x,y] 73 (0,0))::D)) (by simp) rfl rfl call164 (fun w' aB hX hn=>U9 br s at_ 0 [69] w' (GlobC.of hG aB (New.not (L:= [(br, .cells #[vs s,vi at_,vi 0] 314 (0,0))]++ ((b2, .cells #[.slice none 0 0, .slice none 0 0] 73 (0,0)):: (b6, .cells #[vt,vl] 73 (0,0)):: (b7, .cells #[x,y] 73 (0,0))::D)) (by exact⟨g6,eW,fK,gp,hN⟩) iy)) oM u7 oM (hX _ ah)) (fun v1 D1 nG d8=> ?_)
   rcases d8 with⟨pG,rfl,rfl⟩ | ⟨b',c,hc,rfl,dI,aQ,rfl⟩
   ·refine Ow.permL (M:=(b2, .cells #[.slice none 0 0, .slice none 0 0] 73 (0,0)):: (b6, .cells #[vt,vl] 73 (0,0)):: (br, .cells #[vs s,vi (bS s at_ 0 [69]).2.1,vi (bS s at_ 0 [69]).2.2] 314 (0,0)):: (b7, .cells #[x,y] 73 (0,0))::D) pM ?_
    refine ko @bB ?_
    refine ky (aN @bB @l_) ?_
    refine Jump.mk ⟨2,br,b6,b7,vt,vl,x,y,tb,log,at_,(br, .cells #[vs s,vi (bS s at_ 0 [69]).2.1,vi (bS s at_ 0 [69]).2.2] 314 (0,0)):: (b7, .cells #[x,y] 73 (0,0))::D⟩ rfl (by show 0<102 - log.length;omega) (.inr (.inl ⟨rfl,fK,qA,⟨g6,gp,hN⟩,iz.mono fun p hp=>by simp[hp],gi.mono fun p hp=>by simp[hp], ?_⟩)) rfl rfl
    exact Em lS lU (w3 pG)
   have Re:b2<b'∧br<b'∧b6<b'∧b7<b':=by
    rcases nG.new b' (by simp[keys]) with h| ⟨h,-⟩
    ·simp[keys] at h;omega
    obtain⟨q1,q2,q3,q4,-⟩:=h
    exact⟨q2,q1,q3,q4⟩
   obtain⟨YW,qX,Ya,Yb⟩:=Re
   have pC:=xu oM hc
   have uA:=x6 hc
   rw[uA]
   have si:=yV (p:= [69]) (e:=0) u7
   generalize DC: (bS s at_ 0 [69]).2.1=to at*
   refine ko @bB ?_
   refine ky (aN @bB @nilR) ?_
   refine Cw.regionS [b6] [0,2,5,1,3,4,6,7,8,9,10] [10] kR kR kR ?_
   simp only[cR, ↓cS, ↓bz, ↓cG, ↓cH,b_]
   refine kq @bB ?_
   refine Ow.soft rfl rfl rfl ?_
   refine Ow.callC rfl rfl call81 (fun w' aB=>pf vl log w' (GrI.slV (gi.mono (fun p hp=>by simp[hp])) aB rfl rfl di) oM) (fun B1 v3 Dc eR dv dT jD=> ?_)
   have VN:=eR
   try simp only[List.cons_append,List.nil_append] at VN
   obtain⟨qr,qb,q2,q6,q7,-⟩:=VN
   with_reducible refine Ow.nil ?_
   refine⟨ju (by simp[keys]), ?_⟩
   try simp only[List.cons_append,List.nil_append]
   refine Ow.soft rfl rfl rfl ?_
   refine Ow.callM rfl rfl call166 (by simp[keys]) (fun w' aB=>x7 b' c 0 0 w' (cC _) oM (aB.has _ _ (aq _ ah))) ?_
   with_reducible refine Ow.nil ?_
   refine⟨fun b hb=>BX (by simp only[List.mem_cons,List.not_mem_nil,or_false] at hb;omega), ?_⟩
   rw[y3]
   have dM:=El (s:=c) (a:=0) (e:=0) pC
   have dL:=yA (s:=c) (a:=0) (e:=0) (cC _)
   have cg:=wu (tb:=tb) (log:=log) hc
   rw[DC] at cg
   generalize gC c 0 0=rr at*
   obtain⟨r,ra,re⟩:=rr
   simp only at dM dL cg ⊢
   refine kn ?_
   try simp only[List.cons_append,List.nil_append]
   refine Ow.soft rfl rfl rfl ?_
   refine Ow.buildSlice (e:=149) (aI r).toArray rfl rfl (ur r) fun b8 iS qi=> ?_
   have h68:b6<b8:=ae iS (by simp[keys])
   have h78:b7<b8:=ae iS (by simp[keys])
   have VH:b2<b8:=ae iS (by simp[keys])
   have W3:br<b8:=ae iS (by simp[keys])
   have Rd:b'<b8:=ae iS (by simp[keys])
   with_reducible refine Ow.nil ?_
   refine⟨ju (by simp[keys]), ?_⟩
   try simp only[List.cons_append,List.nil_append]
   refine Ow.soft rfl rfl rfl ?_
   refine Ow.permL (M:=Dc++ (((br, .cells #[vs s,vi to,vi 0] 314 (0,0)):: (b', .cells #[vs c,vi ra,vi re] 314 (0,0)):: (b2, .cells #[.slice none 0 0, .slice none 0 0] 73 (0,0)):: (b6, .cells #[vt,vl] 73 (0,0)):: (b7, .cells #[x,y] 73 (0,0))::D)++ [(b8, .cells (aI r).toArray 149 (0,0))])) pM ?_
   refine Ow.appendX (e:=149) (k:=1) (new:=aI r) (X:=Dc) v3 rfl rfl rfl rfl underlying71 ag149 kR lJ (by rw[ig,List.size_toArray,di]) underlying71 (by intro k h;cases h) jD (fun w' aB=>AppX.one1 (aB.has b8 (.cells (aI r).toArray 149 (0,0)) (by simp)) (di r) (uu r)) oM oM (fun B v4 D4 gP nF co pE mQ cJ=> ?_)
   have oq:b8<B:=ae gP (by simp[aZ,keys])
   have AW: ∀q,q<B1→q<B→q∉keys D4:=fun q h1 h2 hm=>by
    rcases mQ q hm with h|h
    ·have:=dT.le q h;omega
    omega
   have oe:=AW b6 q6 oM
   have VJ:=AW b7 q7 oM
   with_reducible refine Ow.nil ?_
   refine⟨fun q hq=> ?_, ?_⟩
   ·rw[List.mem_singleton] at hq
    subst hq
    rw[BC oe]
    simp(disch:=omega) only[List.cons_append,List.nil_append,mo,BD]
   try simp only[List.cons_append,List.nil_append]
   refine Ow.build (.agg #[vt,v4]) rfl (Bd vt v4 (tf iz).2 co.cell.2) ?_
   have f_:pY (aM prog 73) (D4++ (((br, .cells #[vs s,vi to,vi 0] 314 (0,0)):: (b', .cells #[vs c,vi ra,vi re] 314 (0,0)):: (b2, .cells #[.slice none 0 0, .slice none 0 0] 73 (0,0)):: (b6, .cells #[vt,vl] 73 (0,0)):: (b7, .cells #[x,y] 73 (0,0))::D)++ [(b8, .cells (aI r).toArray 149 (0,0))])) (vp b7 0) (.agg #[vt,v4])=some (D4++ (((br, .cells #[vs s,vi to,vi 0] 314 (0,0)):: (b', .cells #[vs c,vi ra,vi re] 314 (0,0)):: (b2, .cells #[.slice none 0 0, .slice none 0 0] 73 (0,0)):: (b6, .cells #[vt,vl] 73 (0,0)):: (b7, .cells #[vt,v4] 73 (0,0))::D)++ [(b8, .cells (aI r).toArray 149 (0,0))])):=by
    rw[ag73,BP,gO VJ]
    simp(disch:=omega) only[List.cons_append,er,r9]
    rw[ta _ _ _ _ _ (tf iz).1 co.cell.1,vA,Eg VJ]
    simp(disch:=omega) only[l7,tg]
   refine Ow.store rfl rfl rfl f_ ?_
   refine kq @bB ?_
   refine Cw.permL (M:=(b2, .cells #[.slice none 0 0, .slice none 0 0] 73 (0,0)):: (br, .cells #[vs s,vi to,vi 0] 314 (0,0)):: (b6, .cells #[vt,vl] 73 (0,0)):: (b7, .cells #[vt,v4] 73 (0,0)):: (b', .cells #[vs c,vi ra,vi re] 314 (0,0)):: (b8, .cells (aI r).toArray 149 (0,0)):: (D++D4)) pM ?_
   try simp only[gN,wH,fN,fO]
   have kg:New w.heap.size (D++D4):=hN.app (New.of_le fun q hq=>by
    rcases mQ q hq with h|h
    ·have:=dT.le q h;omega
    omega)
   have VW:New w.heap.size ((br, .cells #[vs s,vi to,vi 0] 314 (0,0)):: (b7, .cells #[vt,v4] 73 (0,0)):: (b', .cells #[vs c,vi ra,vi re] 314 (0,0)):: (b8, .cells (aI r).toArray 149 (0,0)):: (D++D4)):=⟨g6,gp,oM,qi,kg⟩
   have Rw: (log.map aI).flatten++aI r=((log++ [r]).map aI).flatten:=by simp
   rw[Rw] at co
   have A8:Gr D4 149 33 v4 (log.length+1) ((log++ [r]).map aI).flatten:= .inl co
   have Al:gM (log++ [r]):=IG cA dM
   refine ky @bB ?_
   refine Ow.callFV rfl call167 (fun w' aB=>UJ b' c ra re w' (aB.has _ _ (by simp))) ?_
   by_cases he:endR c ra re=0
   ·have hb: (endR c ra re !=0)=false:=by simp[he]
    refine ko (aN @bB @hb) ?_
    refine ky (aN @bB @jK) ?_
    refine Ow.callFV rfl call88 (fun w' aB=>uU vt v4 tb (log++ [r]) w' (GrI.slV (iz.mono (fun p hp=>by simp[hp])) aB rfl rfl di) (A8.slM (fun b o hm=>aB.has b o (by simp[hm])) (by simp) rfl di) oM (by simp;omega) bH Al) ?_
    cases hr:al tb (log++ [r])
    ·refine Ow.permL (M:=(b2, .cells #[.slice none 0 0, .slice none 0 0] 73 (0,0)):: (b6, .cells #[vt,vl] 73 (0,0)):: ((br, .cells #[vs s,vi to,vi 0] 314 (0,0)):: (b7, .cells #[vt,v4] 73 (0,0)):: (b', .cells #[vs c,vi ra,vi re] 314 (0,0)):: (b8, .cells (aI r).toArray 149 (0,0)):: (D++D4))) pM ?_
     refine ko @bB ?_
     refine ky @bB ?_
     refine Jump.mk ⟨2,br,b6,b7,vt,vl,x,y,tb,log,at_,((br, .cells #[vs s,vi to,vi 0] 314 (0,0)):: (b7, .cells #[vt,v4] 73 (0,0)):: (b', .cells #[vs c,vi ra,vi re] 314 (0,0)):: (b8, .cells (aI r).toArray 149 (0,0)):: (D++D4))⟩ rfl (by show 0<102 - log.length;omega) (.inr (.inl ⟨rfl,fK,qA,VW,iz.mono fun p hp=>by simp[hp],gi.mono fun p hp=>by simp[hp], ?_⟩)) rfl rfl
     exact Em lS lU (by rw[cg,if_neg (by simp[hr])])
    rw[if_pos ⟨he,hr⟩] at cg
    have SV:=E8 hr
    have tF:=ta vt vl vt v4 73 (tf iz).1 co.cell.1
    refine ko @bB ?_
    refine ky (aN @bB (aN @jK @tF)) ?_
    have A9:GrI ((b', .cells #[vs c,vi ra,vi re] 314 (0,0)):: (b8, .cells (aI r).toArray 149 (0,0)):: (D++D4)) 149 33 v4 (log++ [r]).length ((log++ [r]).map aI).flatten:=by
     rw[List.length_append];exact A8.i fun p hp=>by simp[hp]
    refine Jump.mk ⟨1,br,b6,b7,vt,v4,vt,v4,tb,log++ [r],to,(b', .cells #[vs c,vi ra,vi re] 314 (0,0)):: (b8, .cells (aI r).toArray 149 (0,0)):: (D++D4)⟩ rfl (by show 102 - (log++ [r]).length<102 - log.length;rw[List.length_append,List.length_singleton];omega) (.inl ⟨rfl,g6,fK,gp,YX,qA,CX,pL,nR,VI,⟨oM,qi,kg⟩,iz.mono fun p hp=>by simp[hp],A9,(tf iz).1,co.cell.1,bH,Al,cp,SV,si.2,a0,lS, ?_⟩) rfl rfl
    intro k hk
    simp only at hk ⊢
    rw[List.length_append,List.length_singleton] at hk
    rw[←lU (k+1) oM,iJ,cg]
   have hb: (endR c ra re !=0)=true:=by simpa using he
   refine Ow.permL (M:=(b2, .cells #[.slice none 0 0, .slice none 0 0] 73 (0,0)):: (b6, .cells #[vt,vl] 73 (0,0)):: ((br, .cells #[vs s,vi to,vi 0] 314 (0,0)):: (b7, .cells #[vt,v4] 73 (0,0)):: (b', .cells #[vs c,vi ra,vi re] 314 (0,0)):: (b8, .cells (aI r).toArray 149 (0,0)):: (D++D4))) pM ?_
   refine ko (aN @bB @hb) ?_
   refine ky @bB ?_
   refine Jump.mk ⟨2,br,b6,b7,vt,vl,x,y,tb,log,at_,((br, .cells #[vs s,vi to,vi 0] 314 (0,0)):: (b7, .cells #[vt,v4] 73 (0,0)):: (b', .cells #[vs c,vi ra,vi re] 314 (0,0)):: (b8, .cells (aI r).toArray 149 (0,0)):: (D++D4))⟩ rfl (by show 0<102 - log.length;omega) (.inr (.inl ⟨rfl,fK,qA,VW,iz.mono fun p hp=>by simp[hp],gi.mono fun p hp=>by simp[hp], ?_⟩)) rfl rfl
   exact Em lS lU (by rw[cg,if_neg (fun h=>he h.1)])
  ·obtain⟨lab,br,b6,b7,vt,vl,x,y,tb,log,at_,D⟩:=g
   obtain⟨i_,hg⟩:=hg
   simp only at i_
   subst i_
   simp only[RL,RSl,RH] at hg ⊢
   obtain⟨fK,qA,hN,iz,gi,bG⟩:=hg
   simp only[bkO,rdO,nlV]
   simp only[gq,fi,Bool.or_false,Bool.false_or,Bool.or_true,Bool.true_or,Nat.reduceBEq,beq_self_eq_true, ↓reduceIte,Bool.false_eq_true]
   refine kv ?_
   try with_reducible refine tP ?_
   have TM:=ta (.slice none 0 0) (.slice none 0 0) vt vl 73 (tf iz).1 (tf gi).1
   refine ky (aN @bB (aN @jK @TM)) ?_
   refine⟨_,(ke @bB), ?_⟩
   refine⟨Ext.of_new ⟨eW,fK,hN⟩, ?_⟩
   unfold nz
   rw[bG]
   exact⟨vt,vl,rfl,iz.mono fun p hp=>by simp[hp],gi.mono fun p hp=>by simp[hp]⟩
  obtain⟨lab,br,b6,b7,vt,vl,x,y,tb,log,at_,D⟩:=g
  obtain⟨i_,hg⟩:=hg
  simp only at i_
  subst i_
  simp only[RL,RSl,RH] at hg ⊢
  obtain⟨hN,bG⟩:=hg
  simp only[bkO,rdO,nlV]
  simp only[gq,fi,Bool.or_false,Bool.false_or,Bool.or_true,Bool.true_or,Nat.reduceBEq,beq_self_eq_true, ↓reduceIte,Bool.false_eq_true]
  refine kv ?_
  try with_reducible refine tP ?_
  refine ky @bB ?_
  refine Ow.build (.agg #[.slice none 0 0, .slice none 0 0]) rfl kR ?_
  refine ko @bB ?_
  refine ky @bB ?_
  refine⟨_,(ke @bB), ?_⟩
  refine⟨Ext.of_new ⟨eW,hN⟩, ?_⟩
  unfold nz
  rw[bG];rfl
 intro key
 repeat ((try with_reducible refine Cw.go [999999] ?_);(simp(disch:=first|exact dD|fail) only[↓Sx.S0,Sx.S1,fx,bB,Nat.reduceAdd,Nat.reducePow,Int.reducePow,Nat.reduceBEq, ↓reduceIte,UInt8.reduceToNat,UInt16.reduceToNat,UInt32.reduceToNat,UInt64.reduceToNat,Int.reduceToNat]))
 refine Ow.callF rfl rfl call147 (S:=fun B v D=> ∃b',B≤b'∧v=vp b' 0∧D= [(b', .cells #[vs s,vi 0,vi 0] 314 (0,0))]) (fun w' aB=>vw s w') ?_
 rintro B v D i7 hB ⟨br,dy,rfl,rfl⟩
 obtain⟨h2B,-⟩:=i7
 refine⟨_,Mrg.fresh (by intro q hq;simp only[keys,List.map_cons,List.map_nil,List.mem_singleton] at hq;omega), ?_⟩
 simp only[List.cons_append,List.nil_append]
 refine ko @bB ?_
 repeat ((try with_reducible refine Cw.go [999999] ?_);(simp(disch:=first|exact dD|fail) only[↓Sx.S0,Sx.S1,fx,bB,Nat.reduceAdd,Nat.reducePow,Int.reducePow,Nat.reduceBEq, ↓reduceIte,UInt8.reduceToNat,UInt16.reduceToNat,UInt32.reduceToNat,UInt64.reduceToNat,Int.reduceToNat]))
 refine Ow.alloc rfl rfl zrBk fun b6 gQ fK=> ?_
 simp only[bI,List.nil_append,List.cons_append]
 obtain⟨qA,pL,-⟩:=gQ
 refine ko @bB ?_
 refine Ow.alloc rfl rfl zrBk fun b7 gf gp=> ?_
 simp only[bI,List.nil_append,List.cons_append]
 obtain⟨CX,nR,VI,-⟩:=gf
 refine ko @bB ?_
 repeat ((try with_reducible refine Cw.go [999999] ?_);(simp(disch:=first|exact dD|fail) only[↓Sx.S0,Sx.S1,fx,bB,Nat.reduceAdd,Nat.reducePow,Int.reducePow,Nat.reduceBEq, ↓reduceIte,UInt8.reduceToNat,UInt16.reduceToNat,UInt32.reduceToNat,UInt64.reduceToNat,Int.reduceToNat]))
 refine Ow.permL (M:= [(br, .cells #[vs s,vi 0,vi 0] 314 (0,0))]++ [(b2, .cells #[.slice none 0 0, .slice none 0 0] 73 (0,0)),(b6, .cells #[.slice none 0 0, .slice none 0 0] 73 (0,0)),(b7, .cells #[.slice none 0 0, .slice none 0 0] 73 (0,0))]) pM ?_
 refine Ow.callX (Y:= [(b2, .cells #[.slice none 0 0, .slice none 0 0] 73 (0,0)),(b6, .cells #[.slice none 0 0, .slice none 0 0] 73 (0,0)),(b7, .cells #[.slice none 0 0, .slice none 0 0] 73 (0,0))]) (by simp) rfl rfl call164 (fun w' aB hX hn=>U9 br s 0 0 [72] w' (GlobC.of hG aB (New.not (L:= [(br, .cells #[vs s,vi 0,vi 0] 314 (0,0))]++ [(b2, .cells #[.slice none 0 0, .slice none 0 0] 73 (0,0)),(b6, .cells #[.slice none 0 0, .slice none 0 0] 73 (0,0)),(b7, .cells #[.slice none 0 0, .slice none 0 0] 73 (0,0))]) (by exact⟨oM,eW,fK,gp,trivial⟩) iy)) oM (cC _) oM (hX _ ah)) (fun v1 D1 nG d8=> ?_)
 rcases d8 with⟨pG,rfl,rfl⟩ | ⟨b',c,hc,rfl,dI,aQ,rfl⟩
 ·refine ko @bB ?_
  repeat ((try with_reducible refine Cw.go [999999] ?_);(simp(disch:=first|exact dD|fail) only[↓Sx.S0,Sx.S1,fx,bB,Nat.reduceAdd,Nat.reducePow,Int.reducePow,Nat.reduceBEq, ↓reduceIte,UInt8.reduceToNat,UInt16.reduceToNat,UInt32.reduceToNat,UInt64.reduceToNat,Int.reduceToNat]))
  refine Ow.callFV rfl call165 (fun w' aB=>HK 16 w') ?_
  refine ko @bB ?_
  repeat ((try with_reducible refine Cw.go [999999] ?_);(simp(disch:=first|exact dD|fail) only[↓Sx.S0,Sx.S1,fx,bB,Nat.reduceAdd,Nat.reducePow,Int.reducePow,Nat.reduceBEq, ↓reduceIte,UInt8.reduceToNat,UInt16.reduceToNat,UInt32.reduceToNat,UInt64.reduceToNat,Int.reduceToNat]))
  refine Cw.loopG (G:=Unit) [17,18,19,20,21,22,23,24,25,16] (fun g=> [(16,vi 0)]) (fun g=> [(br, .cells #[vs s,vi (bS s 0 0 [72]).2.1,vi (bS s 0 0 [72]).2.2] 314 (0,0)),(b2, .cells #[.slice none 0 0, .slice none 0 0] 73 (0,0)),(b6, .cells #[.slice none 0 0, .slice none 0 0] 73 (0,0)),(b7, .cells #[.slice none 0 0, .slice none 0 0] 73 (0,0))]) (fun g=>True) (fun g=>0) () rfl rfl ?_ ?_
  ·trivial
  intro g j hg
  refine kv ?_
  repeat ((try with_reducible refine Cw.go [999999] ?_);(simp(disch:=first|exact dD|fail) only[↓Sx.S0,Sx.S1,fx,bB,Nat.reduceAdd,Nat.reducePow,Int.reducePow,Nat.reduceBEq, ↓reduceIte,UInt8.reduceToNat,UInt16.reduceToNat,UInt32.reduceToNat,UInt64.reduceToNat,Int.reduceToNat]))
  have R6: ((3:Int) !=0)=true:=rfl
  refine Ow.callFV rfl call167 (fun w' aB=>Mr w') ?_
  refine Ow.permL (M:=(b2, .cells #[.slice none 0 0, .slice none 0 0] 73 (0,0)):: [(br, .cells #[vs s,vi (bS s 0 0 [72]).2.1,vi (bS s 0 0 [72]).2.2] 314 (0,0)),(b6, .cells #[.slice none 0 0, .slice none 0 0] 73 (0,0)),(b7, .cells #[.slice none 0 0, .slice none 0 0] 73 (0,0))]) pM ?_
  refine ko (aN @bB @R6) ?_
  repeat ((try with_reducible refine Cw.go [999999] ?_);(simp(disch:=first|exact dD|fail) only[↓Sx.S0,Sx.S1,fx,bB,Nat.reduceAdd,Nat.reducePow,Int.reducePow,Nat.reduceBEq, ↓reduceIte,UInt8.reduceToNat,UInt16.reduceToNat,UInt32.reduceToNat,UInt64.reduceToNat,Int.reduceToNat]))
  exact Jump.mk ⟨0,br,b6,b7,nlV,nlV,nlV,nlV,[],[],0,[(br, .cells #[vs s,vi (bS s 0 0 [72]).2.1,vi (bS s 0 0 [72]).2.2] 314 (0,0)),(b6, .cells #[.slice none 0 0, .slice none 0 0] 73 (0,0)),(b7, .cells #[.slice none 0 0, .slice none 0 0] 73 (0,0))]⟩ rfl trivial (.inr (.inr ⟨rfl,⟨oM,fK,gp,trivial⟩,K4 pG⟩)) rfl rfl
 have Re:b2<b'∧br<b'∧b6<b'∧b7<b':=by
  rcases nG.new b' (by simp[keys]) with h| ⟨h,-⟩
  ·simp[keys] at h;omega
  obtain⟨q1,q2,q3,q4,-⟩:=h
  exact⟨q2,q1,q3,q4⟩
 obtain⟨YW,qX,Ya,Yb⟩:=Re
 have pC:=xu oM hc
 have uA:=x6 hc
 have lS:=wc hc
 rw[uA]
 have si:=yV (s:=s) (a:=0) (p:= [72]) (e:=0) (cC _)
 generalize DC: (bS s 0 0 [72]).2.1=to at*
 simp only[List.cons_append,List.nil_append]
 refine ko @bB ?_
 repeat ((try with_reducible refine Cw.go [999999] ?_);(simp(disch:=first|exact dD|fail) only[↓Sx.S0,Sx.S1,fx,bB,Nat.reduceAdd,Nat.reducePow,Int.reducePow,Nat.reduceBEq, ↓reduceIte,UInt8.reduceToNat,UInt16.reduceToNat,UInt32.reduceToNat,UInt64.reduceToNat,Int.reduceToNat]))
 refine Ow.callM rfl rfl call165 (by simp[keys]) (fun w' aB=>U5 b' c 0 0 16 w' (cC _) oM (aB.has _ _ (aq _ ah))) ?_
 have ce:=JK (s:=c) (a:=0) (e:=0) (most:=16) oM
 have AU:=tk (s:=c) (a:=0) (e:=0) (most:=16) (cC _)
 generalize aV c 0 0 16=nn at*
 obtain⟨n1,na,ne⟩:=nn
 simp only at ce AU lS ⊢
 obtain⟨k,rfl⟩:=Int.eq_ofNat_of_zero_le ce.1
 have Zd:k≤16:=by omega
 refine kn ?_
 refine ko @bB ?_
 repeat ((try with_reducible refine Cw.go [999999] ?_);(simp(disch:=first|exact dD|fail) only[↓Sx.S0,Sx.S1,fx,bB,Nat.reduceAdd,Nat.reducePow,Int.reducePow,Nat.reduceBEq, ↓reduceIte,UInt8.reduceToNat,UInt16.reduceToNat,UInt32.reduceToNat,UInt64.reduceToNat,Int.reduceToNat]))
 refine Cw.permL (M:=(b', .cells #[vs c,vi na,vi ne] 314 (0,0)):: (b6, .cells #[.slice none 0 0, .slice none 0 0] 73 (0,0)):: (br, .cells #[vs s,vi to,vi 0] 314 (0,0)):: (b2, .cells #[.slice none 0 0, .slice none 0 0] 73 (0,0)):: (b7, .cells #[.slice none 0 0, .slice none 0 0] 73 (0,0)):: []) pM ?_
 refine Cw.loopG (G:=HG) [17,18,19,20,21,22,23,24,25,16] (fun g=> [(16,vi g.g)]) (fun g=>(b', .cells #[vs c,vi (cW c na ne g.g).2.1,vi (cW c na ne g.g).2.2] 314 (0,0)):: (b6, .cells #[g.vt, .slice none 0 0] 73 (0,0)):: (br, .cells #[vs s,vi to,vi 0] 314 (0,0)):: (b2, .cells #[.slice none 0 0, .slice none 0 0] 73 (0,0)):: (b7, .cells #[.slice none 0 0, .slice none 0 0] 73 (0,0))::g.D) (fun g=>g.g≤k∧New (b'+1) g.D∧Gr g.D 149 33 g.vt g.g ((cW c na ne g.g).1.map aI).flatten) (fun g=>k - g.g) ⟨0, .slice none 0 0,[]⟩ rfl rfl ?_ ?_
 ·exact⟨cC _,trivial,Gr.nl⟩
 intro g j hg
 refine kv ?_
 obtain⟨g,vt,D⟩:=g
 simp only at hg ⊢
 obtain⟨hgk,kg,i4⟩:=hg
 have Ai:=xg (e:=ne) AU.2 g
 by_cases aG:g<k
 ·repeat ((try with_reducible refine Cw.go [999999] ?_);(simp(disch:=first|exact dD|fail) only[↓Sx.S0,Sx.S1,fx,bB,Nat.reduceAdd,Nat.reducePow,Int.reducePow,Nat.reduceBEq, ↓reduceIte,UInt8.reduceToNat,UInt16.reduceToNat,UInt32.reduceToNat,UInt64.reduceToNat,Int.reduceToNat]))
  refine Cw.regionS [b6] [0,2,1,3,4,5,6,7] [7] kR kR kR ?_
  simp only[cR, ↓cS, ↓bz, ↓cG, ↓cH,b_]
  refine kq @bB ?_
  refine Ow.soft rfl rfl rfl ?_
  refine Ow.callM rfl rfl call166 (by simp[keys]) (fun w' aB=>x7 b' c (cW c na ne g).2.1 (cW c na ne g).2.2 w' Ai.2 oM (aB.has _ _ ah)) ?_
  with_reducible refine Ow.nil ?_
  refine⟨fun b hb=>BX (by simp only[List.mem_cons,List.not_mem_nil,or_false] at hb;omega), ?_⟩
  rw[y3]
  have dM:=El (s:=c) (a:=(cW c na ne g).2.1) (e:=(cW c na ne g).2.2) pC
  have uL:cW c na ne (g+1)=((cW c na ne g).1++ [(gC c (cW c na ne g).2.1 (cW c na ne g).2.2).1],(gC c (cW c na ne g).2.1 (cW c na ne g).2.2).2):=rfl
  generalize gC c (cW c na ne g).2.1 (cW c na ne g).2.2=rr at*
  obtain⟨r,ra,re⟩:=rr
  simp only at dM uL ⊢
  refine kn ?_
  refine Ow.soft rfl rfl rfl ?_
  refine Ow.buildSlice (e:=149) (aI r).toArray rfl rfl (ur r) fun b8 iS qi=> ?_
  have Rd:b'<b8:=ae iS (by simp[keys])
  with_reducible refine Ow.nil ?_
  refine⟨ju (by simp[keys]), ?_⟩
  try simp only[List.cons_append,List.nil_append]
  refine Ow.soft rfl rfl rfl ?_
  refine Ow.permL (M:=D++ ((b', .cells #[vs c,vi ra,vi re] 314 (0,0)):: (b6, .cells #[vt, .slice none 0 0] 73 (0,0)):: (br, .cells #[vs s,vi to,vi 0] 314 (0,0)):: (b2, .cells #[.slice none 0 0, .slice none 0 0] 73 (0,0)):: (b7, .cells #[.slice none 0 0, .slice none 0 0] 73 (0,0)):: [(b8, .cells (aI r).toArray 149 (0,0))])) pM ?_
  refine Ow.appendX (e:=149) (k:=1) (new:=aI r) (X:=D) vt rfl rfl rfl rfl underlying71 ag149 kR lJ (by rw[ig,List.size_toArray,di]) underlying71 (by intro k h;cases h) i4 (fun w' aB=>AppX.one1 (aB.has b8 (.cells (aI r).toArray 149 (0,0)) (by simp)) (di r) (uu r)) oM oM (fun B v4 D4 gP nF co pE mQ cJ=> ?_)
  have oq:b'<B:=ae gP (by simp[aZ,keys])
  have mG:New (b'+1) D4:=New.of_le fun q hq=>by
   rcases mQ q hq with h|h
   ·exact kg.le q h
   omega
  have oe:b6∉keys D4:=mG.not oM
  with_reducible refine Ow.nil ?_
  refine⟨fun q hq=> ?_, ?_⟩
  ·rw[List.mem_singleton] at hq
   subst hq
   rw[BC oe]
   simp(disch:=omega) only[List.cons_append,List.nil_append,mo,BD]
  try simp only[List.cons_append,List.nil_append]
  have tF:pY (aM prog 71) (D4++ ((b', .cells #[vs c,vi ra,vi re] 314 (0,0)):: (b6, .cells #[vt, .slice none 0 0] 73 (0,0)):: (br, .cells #[vs s,vi to,vi 0] 314 (0,0)):: (b2, .cells #[.slice none 0 0, .slice none 0 0] 73 (0,0)):: (b7, .cells #[.slice none 0 0, .slice none 0 0] 73 (0,0)):: [(b8, .cells (aI r).toArray 149 (0,0))])) (vp b6 0) v4=some (D4++ ((b', .cells #[vs c,vi ra,vi re] 314 (0,0)):: (b6, .cells #[v4, .slice none 0 0] 73 (0,0)):: (br, .cells #[vs s,vi to,vi 0] 314 (0,0)):: (b2, .cells #[.slice none 0 0, .slice none 0 0] 73 (0,0)):: (b7, .cells #[.slice none 0 0, .slice none 0 0] 73 (0,0)):: [(b8, .cells (aI r).toArray 149 (0,0))])):=by
   rw[ag71,BP,gO oe]
   simp(disch:=omega) only[er,r9]
   rw[w_ _ _ _ _ co.cell,vA,Eg oe]
   simp(disch:=omega) only[l7,tg]
  refine kq @bB ?_
  refine Ow.store rfl rfl rfl tF ?_
  try with_reducible refine Ow.nil ?_
  refine Cw.permL (M:=(b', .cells #[vs c,vi ra,vi re] 314 (0,0)):: (b6, .cells #[v4, .slice none 0 0] 73 (0,0)):: (br, .cells #[vs s,vi to,vi 0] 314 (0,0)):: (b2, .cells #[.slice none 0 0, .slice none 0 0] 73 (0,0)):: (b7, .cells #[.slice none 0 0, .slice none 0 0] 73 (0,0)):: (D4++ [(b8, .cells (aI r).toArray 149 (0,0))])) pM ?_
  repeat ((try with_reducible refine Cw.go [999999] ?_);(simp(disch:=first|exact dD|fail) only[↓Sx.S0,Sx.S1,fx,bB,Nat.reduceAdd,Nat.reducePow,Int.reducePow,Nat.reduceBEq, ↓reduceIte,UInt8.reduceToNat,UInt16.reduceToNat,UInt32.reduceToNat,UInt64.reduceToNat,Int.reduceToNat]))
  refine Again.mk (HG.mk (g+1) v4 (D4++ [(b8, .cells (aI r).toArray 149 (0,0))])) (by show k - (g+1)<k - g;omega) ⟨by show g+1≤k;omega,mG.app ⟨by omega,trivial⟩, ?_⟩ ?_ rfl
  ·show Gr (D4++ [(b8, .cells (aI r).toArray 149 (0,0))]) 149 33 v4 (g+1) ((cW c na ne (g+1)).1.map aI).flatten
   rw[uL]
   have e: (((cW c na ne g).1++ [r]).map aI).flatten=((cW c na ne g).1.map aI).flatten++aI r:=by simp
   rw[e]
   exact Gr.app (.inl co)
  simp only[uL]
 obtain rfl:g=k:=by omega
 have tD:=V1 (a:=na) (e:=ne) pC g
 have qT:=uy c na ne g
 rw[Int.toNat_natCast] at lS
 generalize cW c na ne g=tt at*
 obtain⟨tb,ra,re⟩:=tt
 simp only at lS tD qT i4 Ai ⊢
 have VX:New w.heap.size ((br, .cells #[vs s,vi to,vi 0] 314 (0,0)):: (b', .cells #[vs c,vi ra,vi re] 314 (0,0)):: (b6, .cells #[vt, .slice none 0 0] 73 (0,0)):: (b7, .cells #[.slice none 0 0, .slice none 0 0] 73 (0,0))::D):=⟨by omega,by omega,by omega,by omega,kg.mono oM⟩
 rw[←qT] at i4
 repeat ((try with_reducible refine Cw.go [999999] ?_);(simp(disch:=first|exact dD|fail) only[↓Sx.S0,Sx.S1,fx,bB,Nat.reduceAdd,Nat.reducePow,Int.reducePow,Nat.reduceBEq, ↓reduceIte,UInt8.reduceToNat,UInt16.reduceToNat,UInt32.reduceToNat,UInt64.reduceToNat,Int.reduceToNat]))
 refine Ow.callFV rfl call167 (fun w' aB=>UJ b' c ra re w' (aB.has _ _ ah)) ?_
 by_cases he:endR c ra re=0
 ·have hb: (endR c ra re !=0)=false:=by simp[he]
  refine ko (aN @bB @hb) ?_
  repeat ((try with_reducible refine Cw.go [999999] ?_);(simp(disch:=first|exact dD|fail) only[↓Sx.S0,Sx.S1,fx,bB,Nat.reduceAdd,Nat.reducePow,Int.reducePow,Nat.reduceBEq, ↓reduceIte,UInt8.reduceToNat,UInt16.reduceToNat,UInt32.reduceToNat,UInt64.reduceToNat,Int.reduceToNat,jK]))
  refine Ow.callFV rfl call88 (fun w' aB=>uU vt (.slice none 0 0) tb [] w' (i4.slM (fun b o hm=>aB.has b o (by simp[hm])) rfl rfl di) (SlV.nil w') oM (by simp) tD (fun g hg=>by simp at hg)) ?_
  cases hr:al tb []
  ·refine Ow.permL (M:=(b2, .cells #[.slice none 0 0, .slice none 0 0] 73 (0,0)):: ((br, .cells #[vs s,vi to,vi 0] 314 (0,0)):: (b', .cells #[vs c,vi ra,vi re] 314 (0,0)):: (b6, .cells #[vt, .slice none 0 0] 73 (0,0)):: (b7, .cells #[.slice none 0 0, .slice none 0 0] 73 (0,0))::D)) pM ?_
   refine ko @bB ?_
   repeat ((try with_reducible refine Cw.go [999999] ?_);(simp(disch:=first|exact dD|fail) only[↓Sx.S0,Sx.S1,fx,bB,Nat.reduceAdd,Nat.reducePow,Int.reducePow,Nat.reduceBEq, ↓reduceIte,UInt8.reduceToNat,UInt16.reduceToNat,UInt32.reduceToNat,UInt64.reduceToNat,Int.reduceToNat]))
   exact Jump.mk ⟨0,br,b6,b7,nlV,nlV,nlV,nlV,[],[],0,((br, .cells #[vs s,vi to,vi 0] 314 (0,0)):: (b', .cells #[vs c,vi ra,vi re] 314 (0,0)):: (b6, .cells #[vt, .slice none 0 0] 73 (0,0)):: (b7, .cells #[.slice none 0 0, .slice none 0 0] 73 (0,0))::D)⟩ rfl trivial (.inr (.inr ⟨rfl,VX,y5 (by rw[lS,if_neg (by simp[hr])])⟩)) rfl rfl
  rw[if_pos ⟨he,hr⟩] at lS
  refine Ow.permL (M:=(b2, .cells #[.slice none 0 0, .slice none 0 0] 73 (0,0)):: (br, .cells #[vs s,vi to,vi 0] 314 (0,0)):: (b6, .cells #[vt, .slice none 0 0] 73 (0,0)):: (b7, .cells #[.slice none 0 0, .slice none 0 0] 73 (0,0)):: ((b', .cells #[vs c,vi ra,vi re] 314 (0,0))::D)) pM ?_
  refine ko @bB ?_
  have key0:=fun f'=>key (⟨1,br,b6,b7,vt, .slice none 0 0, .slice none 0 0, .slice none 0 0,tb,[],to,((b', .cells #[vs c,vi ra,vi re] 314 (0,0))::D)⟩) f'
  simp only[gq,fi,Bool.or_false,Bool.false_or,Bool.or_true,Bool.true_or,Nat.reduceBEq,beq_self_eq_true, ↓reduceIte,Bool.false_eq_true] at key0
  clear key
  repeat ((try with_reducible refine Cw.go [999999] ?_);(simp(disch:=first|exact dD|fail) only[↓Sx.S0,Sx.S1,fx,bB,Nat.reduceAdd,Nat.reducePow,Int.reducePow,Nat.reduceBEq, ↓reduceIte,UInt8.reduceToNat,UInt16.reduceToNat,UInt32.reduceToNat,UInt64.reduceToNat,Int.reduceToNat]))
  refine Cw.label ?_
  refine key0 _ (.inl ⟨rfl,(by simp only;omega),fK,gp,(by simp only;omega),(by simp only;omega),(by simp only;omega),(by simp only;omega),(by simp only;omega),(by simp only;omega),⟨by omega,kg.mono oM⟩,i4.i fun p hp=>by simp[hp],Gr.nl.i (X:= []) fun p hp=>(by cases hp),rfl,rfl,tD,fun g hg=>(by simp at hg),by simp only;omega,by simp,si.2,to,lS, ?_⟩) ?_
  ·intro k hk
   exact Uc s tb k 101 [] to (by simpa using hk) (by simp) (by simp)
  rfl
 have hb: (endR c ra re !=0)=true:=by simpa using he
 refine Ow.permL (M:=(b2, .cells #[.slice none 0 0, .slice none 0 0] 73 (0,0)):: ((br, .cells #[vs s,vi to,vi 0] 314 (0,0)):: (b', .cells #[vs c,vi ra,vi re] 314 (0,0)):: (b6, .cells #[vt, .slice none 0 0] 73 (0,0)):: (b7, .cells #[.slice none 0 0, .slice none 0 0] 73 (0,0))::D)) pM ?_
 refine ko (aN @bB @hb) ?_
 repeat ((try with_reducible refine Cw.go [999999] ?_);(simp(disch:=first|exact dD|fail) only[↓Sx.S0,Sx.S1,fx,bB,Nat.reduceAdd,Nat.reducePow,Int.reducePow,Nat.reduceBEq, ↓reduceIte,UInt8.reduceToNat,UInt16.reduceToNat,UInt32.reduceToNat,UInt64.reduceToNat,Int.reduceToNat]))
 exact Jump.mk ⟨0,br,b6,b7,nlV,nlV,nlV,nlV,[],[],0,((br, .cells #[vs s,vi to,vi 0] 314 (0,0)):: (b', .cells #[vs c,vi ra,vi re] 314 (0,0)):: (b6, .cells #[vt, .slice none 0 0] 73 (0,0)):: (b7, .cells #[.slice none 0 0, .slice none 0 0] 73 (0,0))::D)⟩ rfl trivial (.inr (.inr ⟨rfl,VX,y5 (by rw[lS,if_neg (fun h=>he h.1)])⟩)) rfl rfl
end Go.Proofs
end
section
open Go Go.Proofs Go.Sx Go.StP
namespace Go.Proofs
def aH:List UInt8:= [98,111,111,107]
structure BkL where
 t:List RefL
 l:List RefL
 n:Nat
def dE (S:DiskL):List UInt8×Nat×DiskL:=
 if(cj S aJ aH).2=6 then(aO [] [],au S aJ aH (aO [] []) false) else((cj S aJ aH).1,(cj S aJ aH).2,S)
def endB (S:DiskL) (s:List UInt8) (p:List RefL×List RefL×Nat):Option BkL×Nat×DiskL:=
 let q:Nat×DiskL:=if p.2.2<s.length then au S aJ aH (s.take p.2.2) false else(0,S)
 if q.1≠0 then(none,q) else
 if(bF q.2 aJ aH).2≠0 then(none,(bF q.2 aJ aH).2,(bF q.2 aJ aH).1) else(some ⟨p.1,p.2.1,p.2.1.length⟩,0,(bF q.2 aJ aH).1)
def ct (S:DiskL):Option BkL×Nat×DiskL:=
 if(dE S).2.1≠0 then(none,(dE S).2) else match gv (dE S).1 with
  |none=>(none,17,(dE S).2.2)
  |some p=>endB (dE S).2.2 (dE S).1 p
structure BoA (bo:Nat) (G:DkG) (S:DiskL) (N:Nat) (B:BkL) (vt vl:Value) (D K X:aA):Prop where
 perm:X.Perm ((bo, .cells #[vp G.bd 0,vt,vl,vi (B.n:Nat)] 151 (0,0)):: (D++K))
 D:DkA D G S N
 t:GrI K 149 33 vt B.t.length (B.t.map aI).flatten
 l:GrI K 149 33 vl B.l.length (B.l.map aI).flatten
def BoP (bo bd:Nat) (S:DiskL) (N:Nat) (B:BkL) (X:aA):Prop:= ∃G vt vl D K,G.bd=bd∧BoA bo G S N B vt vl D K X
def DkA.perm {X Y:aA} {G:DkG} {S:DiskL} {N:Nat} (h:DkA X G S N) (hn: (keys X).Nodup) (hp:X.Perm Y):DkA Y G S N:=⟨h.P.mono fun _b _o hl=>ql (((hp.map Prod.fst).nodup_iff).1 hn) (hp.mem_iff.1 (cQ hl)),h.H,h.B⟩
def DkA.app {X Y:aA} {G:DkG} {S:DiskL} {N:Nat} (h:DkA X G S N):DkA (X++Y) G S N:=⟨h.P.mono fun _b _o hl=>cT hl,h.H,h.B⟩
def DkA.le {X:aA} {G:DkG} {S:DiskL} {N M:Nat} (h:DkA X G S N) (hN:N≤M):DkA X G S M:=⟨h.P,h.H,h.B.mono hN⟩
end Go.Proofs
end
section
open Go Go.Proofs Go.Sx Go.StP Go.RefP
namespace Go.Proofs
def oP (a b c d:Value) (n:Nat) (E:TypeId) (fz:Nat×Nat):ak (some (false,n)) (some (.cells #[a,b,c,d] E fz)) 0=some a:=(rfl)
def oY (a b c d:Value) (n:Nat) (E:TypeId) (fz:Nat×Nat):ak (some (false,n)) (some (.cells #[a,b,c,d] E fz)) 1=some b:=(rfl)
def oK (a b c d:Value) (n:Nat) (E:TypeId) (fz:Nat×Nat):ak (some (false,n)) (some (.cells #[a,b,c,d] E fz)) 2=some c:=(rfl)
def oR (a b c d:Value) (n:Nat) (E:TypeId) (fz:Nat×Nat):ak (some (false,n)) (some (.cells #[a,b,c,d] E fz)) 3=some d:=(rfl)
def oX (a b c d:Value) (E:TypeId) (fz:Nat×Nat):ak (some (true,2)) (some (.cells #[a,b,c,d] E fz)) 1=some (.agg #[b,c]):=(rfl)
def m6 (a b c d:Value) (n:Int) (E:TypeId):bM (some (false,1)) (some (.cells #[a,b,c,d] E (0,0))) 3 (vi n)=some (.cells #[a,b,c,vi n] E (0,0)):=by
 have h:Value.oneCell' (vi n)=true∧(vi n).cells= #[vi n]:=⟨rfl,rfl⟩
 simp[bM,h,dY]
def zA (a b c d x y:Value) (E:TypeId) (hx:Value.oneCell' x=true) (hy:Value.oneCell' y=true):bM (some (true,2)) (some (.cells #[a,b,c,d] E (0,0))) 1 (.agg #[x,y])=some (.cells #[a,x,y,d] E (0,0)):=by
 simp[bM,hx,hy,dY,bI]
def kW (b o:Nat):ac prog .eql 69 (vp b o) (.pointer none)=some (.bool false):=by
 simp[ac,eqX,eM,eX,underlying69,vp]
def iZ {D:aA} {E:TypeId} {m n:Nat} {v:Value} {cs:List Value} (h:GrI D E m v n cs):Value.oneCell' v=true∧v.cells= #[v]:=by
 obtain⟨X,-,h⟩:=h;exact h.cell
def tz {D:aA} {E:TypeId} {m n:Nat} {v:Value} {cs:List Value} (h:GrI D E m v n cs) (x:Bool×Nat):eF (.sl x) v=some (vi n):=by
 obtain⟨X,-,h⟩:=h;exact h.len x
def eN {D:aA} {v:Value} {l:List RefL} {w:World} (h:GrI D 149 33 v l.length (l.map aI).flatten) (hD: ∀b o,(b,o)∈D→w.heap[b]? =some o):fB w v l:=by
 obtain⟨X,hX,h⟩:=h
 exact h.slM (fun b o hm=>hD b o (hX _ hm)) rfl rfl di
def eu (S:DiskL) (B:BkL):Nat×DiskL×BkL:=if(bF S aJ aH).2≠0 then((bF S aJ aH).2,(bF S aJ aH).1,B) else(0,(bF S aJ aH).1,{B with n:=B.l.length})
def kV (n:Nat): ((n:Int) !=0)=decide (n≠0):=by
 rw[Bool.eq_iff_iff,bne_iff_ne,decide_eq_true_eq];omega
def fM:=aN (aN (aN @bq @bl) (aN @Sx.tup2_0 (aN @Sx.tup2_1 @oP))) (aN (aN @oY (aN @oK @oR)) (aN @oX (aN @m6 @kW)))
def DR (bo bd:Nat) (S:DiskL) (N:Nat) (B:BkL) (X:aA) (w:World) (hX: ∀p,p∈X→w.heap[p.1]? =some p.2) (hn: (keys X).Nodup) (hP:BoP bo bd S N B X):
  Rets prog 42 #[vp bo 0] w (XS w X (fun v D=>v=vi ((eu S B).1:Nat)∧BoP bo bd (eu S B).2.1 N (eu S B).2.2 D)):=by
 obtain⟨G,vt,vl,D,K,rfl,hA⟩:=hP
 have fZ:Ext w X (D++ ((bo,Obj.cells #[vp G.bd 0,vt,vl,vi (B.n:Nat)] 151 (0,0))::K)):=(Ext.refl w X).perm ((hA.perm.trans pM).symm)
 refine Rets.enterX func42 rfl (rs:= [.tmp 2]) results42 ntmps42 hX hn ?_
 refine kf ?_
 refine Cw.permL hA.perm.symm ?_
 refine ky @fM ?_
 refine Ow.permL (M:=D++ ((bo, .cells #[vp G.bd 0,vt,vl,vi (B.n:Nat)] 151 (0,0))::K)) pM ?_
 refine Ow.callX (X:=D) (Y:=(bo, .cells #[vp G.bd 0,vt,vl,vi (B.n:Nat)] 151 (0,0))::K) rfl rfl rfl call85 (fun w' aB ab aX=>Uh D G S aJ aH w' ab aX hA.D.P (by decide)) (fun v2 D2 RA an=> ?_)
 obtain⟨rfl,cd⟩:=an
 have cU:DkA D2 G (bF S aJ aH).1 N:=⟨cd,KA hA.D.H _ _,Le hA.D.B _ _⟩
 have bO:=fZ.came RA
 refine Ow.permL (M:=(bo, .cells #[vp G.bd 0,vt,vl,vi (B.n:Nat)] 151 (0,0)):: (D2++K)) pM ?_
 have fH: ((bo,Obj.cells #[vp G.bd 0,vt,vl,vi (B.n:Nat)] 151 (0,0)):: (D2++K)).Perm (D2++ ((bo, .cells #[vp G.bd 0,vt,vl,vi (B.n:Nat)] 151 (0,0))::K)):=pM
 have aQ:=kV (bF S aJ aH).2
 have lnl:=tz hA.l
 unfold eu
 by_cases h0: (bF S aJ aH).2=0
 ·rw[if_neg (by simpa using h0)]
  rw[i1 (by simpa using h0)] at aQ
  refine ko (aN @fM @aQ) ?_
  refine ky (aN @fM (aN @aQ @lnl)) ?_
  refine⟨_,(ke @fM), ?_⟩
  have kb:Ext w X ((bo, .cells #[vp G.bd 0,vt,vl,vi (B.l.length:Nat)] 151 (0,0)):: (D2++K)):=(bO.perm fH).keys rfl
  exact⟨kb,rfl,G,vt,vl,D2,K,rfl,⟨List.Perm.refl _,cU,hA.t,hA.l⟩⟩
 rw[if_pos h0]
 rw[dR h0] at aQ
 refine ko (aN @fM @aQ) ?_
 refine ky (aN @fM @aQ) ?_
 refine⟨_,(ke @fM), ?_⟩
 exact⟨bO.perm fH,rfl,G,vt,vl,D2,K,rfl,⟨List.Perm.refl _,cU,hA.t,hA.l⟩⟩
def BoW (w:World) (bo bd:Nat) (B:BkL):Prop:= ∃vt vl,w.heap[bo]? =some (.cells #[vp bd 0,vt,vl,vi (B.n:Nat)] 151 (0,0))∧fB w vt B.t∧fB w vl B.l
def BoP.W {w:World} {bo bd:Nat} {S:DiskL} {N:Nat} {B:BkL} {X:aA} (h:BoP bo bd S N B X) (hX: ∀b o,(b,o)∈X→w.heap[b]? =some o):BoW w bo bd B:=by
 obtain⟨G,vt,vl,D,K,rfl,hA⟩:=h
 have hp: ∀b o,(b,o)∈ ((bo,Obj.cells #[vp G.bd 0,vt,vl,vi (B.n:Nat)] 151 (0,0)):: (D++K))→w.heap[b]? =some o:=fun b o hm=>hX b o (hA.perm.mem_iff.2 hm)
 exact⟨vt,vl,hp _ _ ah,eN hA.t fun b o hm=>hp b o (aq _ (dS _ hm)),eN hA.l fun b o hm=>hp b o (aq _ (dS _ hm))⟩
theorem BoW.oldN {w w':World} {L:aA} {bo bd:Nat} {B:BkL} (h:BoW w bo bd B) (hw:Hp w L w') (hN:New w.heap.size L):BoW w' bo bd B:=by
 obtain⟨vt,vl,hb,ht,hl⟩:=h
 have fD:=(Array.getElem?_eq_some_iff.1 hb).1
 exact⟨vt,vl,(hw.old _ fD (hN.not fD)).trans hb,ht.oldN hw hN,hl.oldN hw hN⟩
def Dd (bo bd:Nat) (B:BkL) (w:World) (hW:BoW w bo bd B):Rets prog 43 #[vp bo 0] w (fun v D=>v=vi (B.n:Nat)∧D= []):=by
 obtain⟨vt,vl,hb,-,-⟩:=hW
 have fD:=(Array.getElem?_eq_some_iff.1 hb).1
 refine Rets.enterV func43 rfl (rs:= [.tmp 2]) results43 ntmps43 ?_
 refine kf ?_
 refine ky (aN @fM @hb) ?_
 refine⟨_,(ke @fM),trivial, ?_⟩
 rfl
def nC:bL prog 73=some (.agg #[.slice none 0 0, .slice none 0 0]):=id kR
def Kc:iL (fX prog 73) (bL prog 73) []=some (.agg #[.slice none 0 0, .slice none 0 0]):=id kR
def mh (a b x y:Value) (E:TypeId) (hx:Value.oneCell' x=true) (hy:Value.oneCell' y=true):bM (some (true,2)) (some (.cells #[a,b] E (0,0))) 0 (.agg #[x,y])=some (.cells #[x,y] E (0,0)):=by
 simp[bM,hx,hy,dY,bI]
def ua (a b:Value) (E:TypeId):ak (some (true,2)) (some (.cells #[a,b] E (0,0))) 0=some (.agg #[a,b]):=(rfl)
def DQ (bo bd:Nat) (B:BkL) (w:World) (hW:BoW w bo bd B) (cp:B.t.length<1000000) (eI:B.l.length<1000000):Rets prog 39 #[vp bo 0] w (XS w [] (fun v D=> ∃vt vl,v= .agg #[vt,vl]∧GrI D 149 33 vt B.t.length (B.t.map aI).flatten∧GrI D 149 33 vl B.l.length (B.l.map aI).flatten)):=by
 obtain⟨vt,vl,hb,ht,hl⟩:=hW
 have fD:=(Array.getElem?_eq_some_iff.1 hb).1
 refine Rets.enterX func39 rfl (rs:= [.cell 2 73]) results39 ntmps39 (fun p hp=>by cases hp) (by simp[keys]) ?_
 refine kf ?_
 refine ky @fM ?_
 refine Ow.alloc rfl rfl nC fun b2 ar eW=> ?_
 simp only[bI,List.nil_append,List.cons_append]
 have d7:New w.heap.size [(b2,Obj.cells #[.slice none 0 0, .slice none 0 0] 73 (0,0))]:=⟨eW,trivial⟩
 have r1: ∀L:aA,New w.heap.size L→aS w L bo=some (.cells #[vp bd 0,vt,vl,vi (B.n:Nat)] 151 (0,0)):=fun L hL=>by rw[lA (hL.not fD)];exact hb
 have r2:=r1 _ d7
 refine ko @fM ?_
 refine ky @fM ?_
 refine Cw.regionG [bo] [13] 14 kR rfl ?_
 simp only[List.replicate_succ,List.replicate_zero]
 refine OwG.run [0,1,2,3,4,6,7,8,9,10] [true,true,true,true,true,false,true,true,true,true,true,false,false,false] 4 rfl kR kR fun k hk=> ?_
 simp only[cR, ↓cS, ↓bz, ↓cG, ↓cH,b_]
 simp(disch:=first|exact dD|fail) only[↓Sx.S0,Sx.S1,fx,fM,Nat.reduceAdd,Nat.reducePow,Int.reducePow,Nat.reduceBEq, ↓reduceIte,UInt8.reduceToNat,UInt16.reduceToNat,UInt32.reduceToNat,UInt64.reduceToNat,Int.reduceToNat,Md.next_sofnil,r2]
 (with_reducible refine hk _ _ _ ?_);clear hk k
 refine OwG.one 5 _ kR rfl ?_
 refine Ow.callC rfl rfl call81 (fun w' aB=>pf vt B.t w' (ht.oldN aB d7) cp) (fun B1 v1 D1 eR dv dT d8=> ?_)
 have kc:=dT.mono dv
 have mE:=d7.app kc
 have r3:=r1 _ mE
 with_reducible refine Ow.nil ?_
 refine⟨(fun r hr=>by rw[List.mem_singleton.1 hr];exact r3.trans r2.symm), ?_⟩
 simp only[List.set_cons_zero,List.set_cons_succ,gN,fN,fO]
 refine OwG.one 11 _ kR rfl ?_
 refine Ow.callC rfl rfl call81 (fun w' aB=>pf vl B.l w' (hl.oldN aB mE) eI) (fun B4 v4 D4 gP nF mG bE=> ?_)
 have zU:=mG.mono nF
 have RK:=mE.app zU
 have r4:=r1 _ RK
 with_reducible refine Ow.nil ?_
 refine⟨(fun r hr=>by rw[List.mem_singleton.1 hr];exact r4.trans r3.symm), ?_⟩
 simp only[List.set_cons_zero,List.set_cons_succ,gN,fN,fO]
 refine OwG.rest [12,13] rfl kR kR ?_
 simp only[cR, ↓cS, ↓bz, ↓cG, ↓cH,b_]
 refine kq @fM ?_
 refine Ow.build (.agg #[v1,v4]) rfl (Bd v1 v4 d8.cell.2 bE.cell.2) ?_
 have stz:=mh (.slice none 0 0) (.slice none 0 0) v1 v4 73 d8.cell.1 bE.cell.1
 refine kq @fM ?_
 refine Ow.store rfl rfl rfl (ke (aN @fM @stz)) ?_
 refine ko @fM ?_
 refine ky (aN @fM @ua) ?_
 refine⟨_,(ke @fM), ?_⟩
 exact⟨Ext.of_new ⟨eW,kc.app zU⟩,v1,v4,rfl,d8.i fun p hp=>aq _ (bQ _ hp),bE.i fun p hp=>aq _ (dS _ hp)⟩
def E7 (t l:List RefL) (n:List UInt8): (jl t l n).length=32:=by
 have tM:z32.length=32:=by simp[z32]
 unfold jl
 cases ho:ofM bU z32 (prs t) (prs l) l.length with
 |none=>exact tM
 |some m=>
  simp only
  split
  ·exact xJ (n:=n) (y4 (C6 t) (C6 l) (by rw[g9];exact ag _) ho) tM
  exact tM
def DO (bo bd:Nat) (B:BkL) (n:List UInt8) (w:World) (hW:BoW w bo bd B) (cp:B.t.length<1000000) (eI:B.l.length<1000000) (ci:gM B.t) (bC:gM B.l):Rets prog 40 #[vp bo 0,vs n] w (XS w [] (fun v _D=>v= .agg (a8 (jl B.t B.l n)))):=by
 have Cb:=hW
 obtain⟨vt,vl,hb,ht,hl⟩:=hW
 have fD:=(Array.getElem?_eq_some_iff.1 hb).1
 refine Rets.enterX func40 rfl (rs:= [.cell 4 24]) results40 ntmps40 (fun p hp=>by cases hp) (by simp[keys]) ?_
 refine kf ?_
 refine ky @fM ?_
 refine Ow.alloc rfl rfl zr24 fun b2 ar eW=> ?_
 simp only[bI,List.nil_append,List.cons_append]
 refine ko @fM ?_
 have qh:=E7 B.t B.l n
 have tM: (List.replicate 32 (0:UInt8)).length=32:=rfl
 refine Ow.callC rfl rfl call39 (fun w' aB=>DQ bo bd B w' (Cb.oldN aB ⟨eW,trivial⟩) cp eI) (fun B1 v1 D1 eR dv dT d8=> ?_)
 obtain⟨va,vb,rfl,km,jX⟩:=d8
 refine ko @fM ?_
 refine Ow.callFV rfl call82 (fun w' aB=>Iy va vb B.t B.l n w' (eN km fun b o hm=>aB.has b o (aq _ hm)) (eN jX fun b o hm=>aB.has b o (aq _ hm)) cp eI ci bC) ?_
 refine ko @fM ?_
 refine ky @fM ?_
 refine⟨_,(ke @fM), ?_⟩
 exact⟨Ext.of_new ⟨eW,dT.mono dv⟩,rfl⟩
def yU:al [] []=true:=by rfl
def KY (b o:Nat) (x y:Value):iL (fX prog 151) (bL prog 151) [(0,vp b o),(1, .agg #[x,y])]=some (.agg #[vp b o,x,y,vi 0]):=by
 rw[show fX prog 151=some [(0,1),(1,2),(3,1)] from id kR,show bL prog 151=some (.agg #[.pointer none, .slice none 0 0, .slice none 0 0,vi 0]) from id kR]
 have h: (vp b o).cells= #[vp b o]:=rfl
 simp[iL,Sx.fillV,h,bI,dY]
def NewS (bd:Nat) (R:Option BkL×Nat×DiskL) (N:Nat) (v:Value) (D:aA):Prop:=
 match R.1 with
 |none=>v= .tuple #[.pointer none,vi (R.2.1:Nat)]∧ ∃G,G.bd=bd∧DkA D G R.2.2 N
 |some B=> ∃bo,v= .tuple #[vp bo 0,vi 0]∧BoP bo bd R.2.2 N B D
def mv {w w':World} {X L:aA} (h:GlobC w) (hE:Ext w X L) (hw:Hp w L w') (hn: (4:Nat)∉keys X):GlobC w':=h.ofE hE hw hn
def CB: (aO [] []).length≤1000:=by decide+kernel
def BoP.dk {bo bd:Nat} {S:DiskL} {N:Nat} {B:BkL} {X:aA} (h:BoP bo bd S N B X) (hn: (keys X).Nodup): ∃G,G.bd=bd∧DkA X G S N:=by
 obtain⟨G,vt,vl,D,K,hG,hA⟩:=h
 refine⟨G,hG,DkA.perm (X:=D++ ((bo, .cells #[vp G.bd 0,vt,vl,vi (B.n:Nat)] 151 (0,0))::K)) hA.D.app ?_ ((hA.perm.trans pM).symm)⟩
 exact(((hA.perm.trans pM).map Prod.fst).nodup_iff).1 hn
def ji {w:World} {X D E:aA} (h:Ext w X D) (hN:New w.heap.size E):Ext w X (D++E):=⟨fun c hc=>by
  rw[aZ] at hc
  exact(List.mem_append.1 hc).elim (h.new c) fun hc=> .inr (hN.le c hc),fun c hc=>by rw[aZ];exact bQ _ (h.all c hc)⟩
structure BnG where
 s:List UInt8
 e:Nat
 S:DiskL
 G:DkG
 X:aA
def dO:=aN (aN (aN @bq (aN @bl @Sx.tup2_0)) (aN (aN @Sx.tup2_1 @tup3_0) (aN @tup3_1 @tup3_2))) (aN (aN @oP (aN @oY @oK)) (aN (aN @oR @oX) (aN @m6 @ua)))
def DZ (X:aA) (G:DkG) (S:DiskL) (N:Nat) (w:World) (hX: ∀p,p∈X→w.heap[p.1]? =some p.2) (hn: (keys X).Nodup) (hA:DkA X G S N) (hN:N<600000) (hC:GlobC w) (qO: (4:Nat)∉keys X) (hs: (cj S aJ aH).1.length<1000000):
  Rets prog 50 #[vp G.bd 0] w (XS w X (NewS G.bd (ct S) (N+84))):=by
 have hE:=Ext.refl w X
 refine Rets.enterX func50 rfl (rs:= [.tmp 2, .tmp 3]) results50 ntmps50 hX hn ?_
 refine kf ?_
 refine kz [1000002,1000010] @dO ?_
 refine Ow.callFV rfl call94 (fun w' aB=>Ud w' G S aJ aH (hA.P.world aB) (by decide)) ?_
 refine ko @dO ?_
 refine Cw.cutO (G:=BnG) [4,5,17,18,19,20,21,22,23,24,25,26] (fun g=> [(4,vs g.s),(5,vi (g.e:Nat))]) (fun g=>g.X) (fun g=>Ext w X g.X∧g.G.bd=G.bd∧DkA g.X g.G g.S (N+42)∧dE S=(g.s,g.e,g.S)∧g.s.length<1000000) ?_ ?_
 ·by_cases h6: (cj S aJ aH).2=6
  ·have e6: (((cj S aJ aH).2:Nat):Int)=6:=by rw[h6];rfl
   have d6: ((((cj S aJ aH).2:Nat):Int)==6)=true:=by rw[e6];rfl
   refine ky (aN @dO @d6) ?_
   refine Ow.build (.agg #[.slice none 0 0, .slice none 0 0]) rfl Kc ?_
   refine ko @dO ?_
   refine Ow.callFV rfl call86 (fun w' aB=>Ul (.slice none 0 0) (.slice none 0 0) [] [] w' (mv hC hE aB qO) (SlV.nil w') (SlV.nil w') (by decide) (by decide) (fun g hg=>absurd hg (Nat.not_lt_zero g)) (fun g hg=>absurd hg (Nat.not_lt_zero g))) ?_
   rw[if_pos yU]
   refine ko @dO ?_
   refine ky @dO ?_
   refine Ow.callX (X:=X) (Y:= []) (List.append_nil _).symm rfl rfl call87 (fun w' aB ab aX=>EF X G S N aJ aH (aO [] []) w' ab aX hA oM (by decide) (by have:=CB;omega)) (fun v1 D1 nG d8=> ?_)
   rw[List.append_nil]
   obtain⟨rfl,G1,aP,eR⟩:=d8
   refine ko @dO ?_
   exact CutO.mk ⟨aO [] [],(au S aJ aH (aO [] []) false).1,(au S aJ aH (aO [] []) false).2,G1,D1⟩ ⟨hE.came0 nG,aP,eR,by unfold dE;rw[if_pos h6],by have:=CB;show(aO [] []).length<_;omega⟩ rfl rfl
  have d6: ((((cj S aJ aH).2:Nat):Int)==6)=false:=beq_eq_false_iff_ne.2 oM
  refine ky (aN @dO @d6) ?_
  exact CutO.mk ⟨(cj S aJ aH).1,(cj S aJ aH).2,S,G,X⟩ ⟨hE,rfl,hA.le oM,by unfold dE;rw[if_neg h6],hs⟩ rfl rfl
 intro g j hg
 refine kv ?_
 clear hX hn hA hE
 obtain⟨s,e,S1,G1,X1⟩:=g
 simp only at hg ⊢
 obtain⟨hE,zO,hA,Rg,cA⟩:=hg
 rw[←zO]
 clear zO
 have aQ:=kV e
 unfold ct
 rw[Rg]
 simp only
 by_cases he:e=0
 ·rw[if_neg (by simpa using he)]
  rw[i1 (by simpa using he)] at aQ
  refine kz [1000010] (aN @dO @aQ) ?_
  refine Ow.callC rfl rfl call95 (fun w' aB=>H8 s w' (mv hC hE aB qO) cA) (fun B2 v2 D2 cU cX d7 an=> ?_)
  have zT:=d7.mono cX
  unfold nz at an
  cases hr:gv s with
  |none=>
   rw[hr] at an
   subst an
   refine ko @dO ?_
   refine Ow.alloc rfl rfl nC fun b6 gQ fK=> ?_
   simp only[bI,List.nil_append,List.cons_append]
   have k6:=fun o=>iE (o:=o) gQ
   have s6:=fun o x=>un (o:=o) (x:=x) gQ
   have stz:=mh (.slice none 0 0) (.slice none 0 0) (.slice none 0 0) (.slice none 0 0) 73 rfl rfl
   have e2: ((2:Int) !=0)=true:=rfl
   refine ko (aN @dO (aN @k6 (aN @s6 (aN @stz @lC)))) ?_
   refine kz [1000010] (aN @dO @e2) ?_
   refine⟨_,(ke @dO), ?_⟩
   exact⟨(ji (ji hE zT) ⟨fK,trivial⟩),rfl,G1,rfl,(hA.le oM).app.app⟩
  |some p=>
   obtain⟨tb,log,at_⟩:=p
   rw[hr] at an
   obtain⟨vt,vl,rfl,iz,gi⟩:=an
   refine ko @dO ?_
   refine Ow.alloc rfl rfl nC fun b6 gQ fK=> ?_
   simp only[bI,List.nil_append,List.cons_append]
   have k6:=fun o=>iE (o:=o) gQ
   have s6:=fun o x=>un (o:=o) (x:=x) gQ
   have stz:=mh (.slice none 0 0) (.slice none 0 0) vt vl 73 (iZ iz).1 (iZ gi).1
   have e2: ((0:Int) !=0)=false:=rfl
   refine ko (aN @dO (aN @k6 (aN @s6 (aN @stz @lC)))) ?_
   refine kz [1000010] (aN @dO @e2) ?_
   have RM:New w.heap.size (D2++ [(b6,Obj.cells #[vt,vl] 73 (0,0))]):=zT.app ⟨fK,trivial⟩
   refine Cw.permL (M:=X1++ (D2++ [(b6, .cells #[vt,vl] 73 (0,0))])) pM ?_
   have i3:Ext w X (X1++ (D2++ [(b6,Obj.cells #[vt,vl] 73 (0,0))])):=ji hE RM
   refine Cw.cutO (G:=BnG) [9,38,39,40,41,42,43,44,45,46,47,48,49] (fun g=> []) (fun g=>g.X++ (D2++ [(b6, .cells #[vt,vl] 73 (0,0))])) (fun g=>Ext w X (g.X++ (D2++ [(b6,Obj.cells #[vt,vl] 73 (0,0))]))∧g.G.bd=G1.bd∧DkA g.X g.G g.S (N+84)∧(if at_<s.length then au S1 aJ aH (s.take at_) false else(0,S1))=(0,g.S)) ?_ ?_
   ·by_cases u7:at_<s.length
    ·have dat:decide ((at_:Int)< (s.length:Int))=true:=dR oM
     have cp: (s.take at_).length<1000000:=by rw[List.length_take];omega
     refine ky (aN @dO @dat) ?_
     refine Ow.callX (X:=X1) (Y:=D2++ [(b6, .cells #[vt,vl] 73 (0,0))]) rfl rfl rfl call87 (fun w' aB ab aX=>EF X1 G1 S1 (N+42) aJ aH (s.take at_) w' ab aX hA oM (by decide) oM) (fun v7 D7 lL gE=> ?_)
     obtain⟨q,C_⟩: ∃q,q=au S1 aJ aH (s.take at_) false:=⟨_,rfl⟩
     rw[←C_] at gE
     have he:q.1≠0→endB S1 s (tb,log,at_)=(none,q):=fun h0=>by
      unfold endB
      simp only[if_pos u7]
      rw[←C_,if_pos h0]
     have hJ: (if at_<s.length then au S1 aJ aH (s.take at_) false else(0,S1))=q:=by rw[if_pos u7,C_]
     clear C_
     obtain⟨qe,qs⟩:=q
     obtain⟨rfl,G7,gf,kZ⟩:=gE
     simp only at he kZ ⊢
     have ip:=i3.came lL
     have iX:=kV qe
     by_cases h0:qe=0
     ·rw[i1 (by simpa using h0)] at iX
      refine ko (aN @dO @iX) ?_
      refine ky (aN @dO @iX) ?_
      exact CutO.mk ⟨[],0,qs,G7,D7⟩ ⟨ip,gf,kZ,by rw[hJ,h0]⟩ rfl rfl
     rw[dR h0] at iX
     refine ko (aN @dO @iX) ?_
     refine ky (aN @dO @iX) ?_
     refine⟨_,(ke @dO), ?_⟩
     refine⟨ip, ?_⟩
     rw[he h0]
     exact⟨rfl,G7,gf,kZ.app⟩
    have dat:decide ((at_:Int)< (s.length:Int))=false:=i1 oM
    refine ky (aN @dO @dat) ?_
    exact CutO.mk ⟨[],0,S1,G1,X1⟩ ⟨i3,rfl,hA.le oM,by rw[if_neg u7]⟩ rfl rfl
   intro g j hg
   refine kv ?_
   clear hE i3 hA
   obtain⟨s3,e3,S3,G3,X3⟩:=g
   simp only at hg ⊢
   obtain⟨hE,zO,hA,hq⟩:=hg
   rw[←zO]
   clear zO
   have ZK:endB S1 s (tb,log,at_)=if(bF S3 aJ aH).2≠0 then(none,(bF S3 aJ aH).2,(bF S3 aJ aH).1) else(some ⟨tb,log,log.length⟩,0,(bF S3 aJ aH).1):=by
    unfold endB
    simp only[hq]
    rw[if_neg (by simp)]
   rw[ZK]
   refine Cw.world fun wz gV=> ?_
   have r6:aS w (X3++ (D2++ [(b6,Obj.cells #[vt,vl] 73 (0,0))])) b6=some (.cells #[vt,vl] 73 (0,0)):=ad (ql gV.nodup (by simp))
   clear gV wz
   refine ky (aN @dO @r6) ?_
   refine Ow.build (.agg #[vp G3.bd 0,vt,vl,vi 0]) rfl (KY G3.bd 0 vt vl) ?_
   refine ko @dO ?_
   refine Ow.box rfl rfl fun bo ee hwo=> ?_
   simp only[df,dC,dW,bI]
   refine Ow.permL (M:=(bo, .cells #[vp G3.bd 0,vt,vl,vi 0] 151 (0,0)):: (X3++ (D2++ [(b6, .cells #[vt,vl] 73 (0,0))]))) pM ?_
   have Yl:Ext w X ((bo, .cells #[vp G3.bd 0,vt,vl,vi 0] 151 (0,0)):: (X3++ (D2++ [(b6, .cells #[vt,vl] 73 (0,0))]))):=(ji hE (E:= [(bo,Obj.cells #[vp G3.bd 0,vt,vl,vi 0] 151 (0,0))]) ⟨hwo,trivial⟩).perm pM
   have Y_:BoP bo G3.bd S3 (N+84) ⟨tb,log,0⟩ ((bo, .cells #[vp G3.bd 0,vt,vl,vi 0] 151 (0,0)):: (X3++ (D2++ [(b6, .cells #[vt,vl] 73 (0,0))]))):=⟨G3,vt,vl,X3,D2++ [(b6, .cells #[vt,vl] 73 (0,0))],rfl,⟨List.Perm.refl _,hA,iz.mono fun p hp=>bQ _ hp,gi.mono fun p hp=>bQ _ hp⟩⟩
   generalize (bo,Obj.cells #[vp G3.bd 0,vt,vl,vi 0] 151 (0,0)):: (X3++ (D2++ [(b6, .cells #[vt,vl] 73 (0,0))]))=L0 at*
   refine ko @dO ?_
   refine ky @dO ?_
   refine Ow.callX (X:=L0) (Y:= []) (List.append_nil _).symm rfl rfl call42 (fun w' aB ab aX=>DR bo G3.bd S3 (N+84) ⟨tb,log,0⟩ L0 w' ab aX Y_) (fun v5 D5 qB nI=> ?_)
   rw[List.append_nil]
   have gc:=Yl.came0 qB
   by_cases h5: (bF S3 aJ aH).2=0
   ·have TG:eu S3 ⟨tb,log,0⟩=(0,(bF S3 aJ aH).1,⟨tb,log,log.length⟩):=by
     unfold eu
     rw[if_neg (by simpa using h5)]
    rw[TG] at nI
    obtain⟨rfl,jB⟩:=nI
    rw[if_neg (by simpa using h5)]
    have e0: (((0:Nat):Int) !=0)=false:=rfl
    refine ko (aN @dO @e0) ?_
    refine ky (aN @dO @e0) ?_
    refine⟨_,(ke @dO), ?_⟩
    exact⟨gc,bo,rfl,jB⟩
   have TG:eu S3 ⟨tb,log,0⟩=((bF S3 aJ aH).2,(bF S3 aJ aH).1,⟨tb,log,0⟩):=by
    unfold eu
    rw[if_pos h5]
   rw[TG] at nI
   obtain⟨rfl,jB⟩:=nI
   rw[if_pos h5]
   refine Ow.world fun wz gV=> ?_
   have Sn:=gV.nodup
   clear gV wz
   have jc:=kV (bF S3 aJ aH).2
   rw[dR h5] at jc
   refine ko (aN @dO @jc) ?_
   refine ky (aN @dO @jc) ?_
   refine⟨_,(ke @dO), ?_⟩
   exact⟨gc,rfl,jB.dk Sn⟩
 rw[if_pos he]
 rw[dR he] at aQ
 refine kz [1000010] (aN @dO @aQ) ?_
 refine⟨_,(ke @dO), ?_⟩
 exact⟨hE,rfl,G1,rfl,hA.le oM⟩
def fR (S:DiskL) (B:BkL) (nm:List UInt8) (old id:IdL):Nat×DiskL×BkL:=
 if jl B.t B.l nm≠old.l then(12,S,B) else
 if¬ (al B.t B.l=true∧bU nm=true) then(1,S,B) else
 if al B.t (B.l++ [⟨nm,id⟩])=false then(18,S,B) else
 if(bD S aJ aH (ai (bW ⟨nm,id⟩))).2≠0 then((bD S aJ aH (ai (bW ⟨nm,id⟩))).2,(bD S aJ aH (ai (bW ⟨nm,id⟩))).1,B) else
 (0,(bD S aJ aH (ai (bW ⟨nm,id⟩))).1,{B with l:=B.l++ [⟨nm,id⟩]})
def Qh (l l':List UInt8) (h:l.length=32∧l'.length=32):ac prog .neq 24 (.agg (a8 l)) (.agg (a8 l'))=some (.bool (!(l==l'))):=
 Ln underlying24 underlying5 ag5 kR l l' h
def DkA.app2 {X X':aA} {G G':DkG} {S:DiskL} {N:Nat} {nm s:List UInt8} (h:DkA X G S N) (hP:DkP X' G' (bD S aJ nm s).1):DkA X' G' (bD S aJ nm s).1 N:=⟨hP,Fv h.H _ _ _,J1 h.B _ _ _⟩
def AddS.form {n:Nat} {t l:List RefL} {nm:List UInt8} {id:IdL} {v:Value} {D:aA} (h:AddS n t l nm id v D): ∃va vb s,∃e:Nat,v= .tuple #[.agg #[va,vb],vs s,vi (e:Nat)]∧Value.oneCell' va=true∧Value.oneCell' vb=true∧
  ((¬ (al t l=true∧bU nm=true)∧e=1)∨((al t l=true∧bU nm=true)∧al t (l++ [⟨nm,id⟩])=false∧e=18)∨
   ((al t l=true∧bU nm=true)∧al t (l++ [⟨nm,id⟩])=true∧e=0∧s=ai (bW ⟨nm,id⟩)∧GrI D 149 33 va t.length (t.map aI).flatten∧GrI D 149 33 vb (l++ [(⟨nm,id⟩:RefL)]).length ((l++ [(⟨nm,id⟩:RefL)]).map aI).flatten)):=by
 unfold AddS at h
 by_cases hr:al t l=true∧bU nm=true
 ·rw[if_pos hr] at h
  by_cases h2:al t (l++ [⟨nm,id⟩])=true
  ·rw[if_pos h2] at h
   obtain⟨vt,vl,rfl,h3,h4⟩:=h
   exact⟨vt,vl,_,0,rfl,(iZ h3).1,(iZ h4).1, .inr (.inr ⟨hr,h2,rfl,rfl,h3,by rw[List.length_append];exact h4⟩)⟩
  rw[if_neg h2] at h
  exact⟨_,_,_,18,h,rfl,rfl, .inr (.inl ⟨hr,by simpa using h2,rfl⟩)⟩
 rw[if_neg hr] at h
 exact⟨_,_,_,1,h,rfl,rfl, .inl ⟨hr,rfl⟩⟩
def KB {r:RefL} (h:r.name.length<1000000): (ai (bW r)).length<1001000:=by
 have h1:=j9 (r.name.length:Int)
 have h2:=r.id.h
 have h3:=j9 ((eY (bW r)).length:Int)
 have h4:=r8 (bW r)
 simp only[ai,dB,List.length_append] at h3 ⊢
 rw[h4] at h3 ⊢
 simp only[bW,dB,List.length_append,List.length_cons,List.length_nil] at h3 ⊢
 omega
def Qp {n:Nat} {E:aA} {o:Obj} {Q:Nat→Prop} (h:E= []∨ ∃b,E= [(b,o)]∧n≤b∧Q b):New n E:=by
 rcases h with rfl| ⟨b,rfl,h,-⟩
 ·trivial
 exact⟨h,trivial⟩
def fL:=aN (aN (aN (aN @bq @bl) (aN @Sx.tup2_0 @Sx.tup2_1)) (aN (aN @tup3_0 @tup3_1) (aN @tup3_2 @oP))) (aN (aN (aN @oY @oK) (aN @oR @oX)) (aN (aN @m6 @ua) (aN @Mz (aN @Qh @kW))))
def DP (bo bd:Nat) (S:DiskL) (N:Nat) (B:BkL) (nm:List UInt8) (old id:IdL) (X:aA) (w:World) (hX: ∀p,p∈X→w.heap[p.1]? =some p.2) (hn: (keys X).Nodup) (hP:BoP bo bd S N B X) (hN:N<600000) (hC:GlobC w) (qO: (4:Nat)∉keys X)
  (cp:B.t.length<1000) (eI:B.l.length<1000) (ci:gM B.t) (bC:gM B.l) (ce:nm.length<1000000):
  Rets prog 41 #[vp bo 0,vs nm, .agg (a8 old.l), .agg (a8 id.l)] w (XS w X (fun v D=>v=vi ((fR S B nm old id).1:Nat)∧BoP bo bd (fR S B nm old id).2.1 N (fR S B nm old id).2.2 D)):=by
 have jV:=hP
 obtain⟨G,vt,vl,D,K,rfl,hA⟩:=hP
 have fw:=old.h
 have S9:=id.h
 have qh:=E7 B.t B.l nm
 have iY:X.Perm (D++ ((bo,Obj.cells #[vp G.bd 0,vt,vl,vi (B.n:Nat)] 151 (0,0))::K)):=hA.perm.trans pM
 refine Rets.enterX func41 rfl (rs:= [.tmp 8]) results41 ntmps41 hX hn ?_
 refine kf ?_
 refine ky @fL ?_
 refine Ow.box rfl rfl fun b6 gQ fK=> ?_
 simp only[df,dC,dW,bI]
 refine ko @fL ?_
 refine Ow.box rfl rfl fun b7 gf gp=> ?_
 simp only[df,dC,dW,bI]
 have V': (X++ [(b6,Obj.cells (a8 old.l) 24 (0,0))]++ [(b7,Obj.cells (a8 id.l) 24 (0,0))]).Perm ((b7, .cells (a8 id.l) 24 (0,0)):: (b6, .cells (a8 old.l) 24 (0,0)):: (bo, .cells #[vp G.bd 0,vt,vl,vi (B.n:Nat)] 151 (0,0)):: (D++K)):=((hA.perm.append_right _).append_right _).trans pM
 refine Ow.permL V'.symm ?_
 refine Ow.world fun wz gV=> ?_
 have ay:=gV.nodup
 clear gV wz
 have aQ:b7≠b6∧b7≠bo∧b6≠bo∧b7∉keys K∧b6∉keys K∧b7∉keys D∧b6∉keys D:=by
  simp only[keys,List.map_cons,List.map_append,List.nodup_cons,List.mem_cons,List.mem_append,not_or] at ay ⊢
  exact⟨ay.1.1,ay.1.2.1,ay.2.1.1,ay.1.2.2.2,ay.2.1.2.2,ay.1.2.2.1,ay.2.1.2.1⟩
 obtain⟨uG,j',sr,hn4,jc,hn6,iX⟩:=aQ
 refine ko @fL ?_
 refine ky @fL ?_
 have Yz: ∀w' L',Hp w L' w'→(∀p,p∈ ((bo,Obj.cells #[vp G.bd 0,vt,vl,vi (B.n:Nat)] 151 (0,0)):: (D++K))→p∈L')→BoW w' bo G.bd B:=fun w' L' aB zP=>jV.W fun b o hm=>aB.has b o (zP _ (hA.perm.mem_iff.1 hm))
 unfold fR
 refine Cw.regionS [b6] [0,1,3,2,4,5] [] kR kR kR ?_
 simp only[cR, ↓cS, ↓bz, ↓cG, ↓cH,b_]
 refine kq @fL ?_
 refine Ow.soft rfl rfl rfl ?_
 refine Ow.callC rfl rfl call40 (fun w' aB=>DO bo G.bd B nm w' (Yz w' _ aB (fun p hp=>aq _ (aq _ hp))) oM oM ci bC) (fun B1 v1 D1 eR dv dT d8=> ?_)
 subst d8
 have kc:=dT.mono dv
 with_reducible refine Ow.nil ?_
 refine⟨ju (fun b hb=>by rw[List.mem_singleton.1 hb];simp[keys]), ?_⟩
 have eU: (jl B.t B.l nm).length=32∧old.l.length=32:=⟨qh,fw⟩
 refine kq @fL ?_
 have fZ:Ext w X ((b7, .cells (a8 id.l) 24 (0,0)):: (b6, .cells (a8 old.l) 24 (0,0)):: (bo, .cells #[vp G.bd 0,vt,vl,vi (B.n:Nat)] 151 (0,0)):: (D++K)):=(ji (ji (Ext.refl w X) (E:= [(b6,Obj.cells (a8 old.l) 24 (0,0))]) ⟨fK,trivial⟩) (E:= [(b7,Obj.cells (a8 id.l) 24 (0,0))]) ⟨gp,trivial⟩).perm V'.symm
 have bN:=ji fZ kc
 by_cases DF:jl B.t B.l nm=old.l
 ·have hb: (!(jl B.t B.l nm==old.l))=false:=by rw[DF];simp
  rw[if_neg (by simpa using DF)]
  refine ky (aN @fL @hb) ?_
  have bO:Ext w X ((b7, .cells (a8 id.l) 24 (0,0)):: (b6, .cells (a8 old.l) 24 (0,0)):: (bo, .cells #[vp G.bd 0,vt,vl,vi (B.n:Nat)] 151 (0,0)):: (D++K++D1)):=bN.perm pM
  have Vq: (b7,Obj.cells (a8 id.l) 24 (0,0))∈ (b7,Obj.cells (a8 id.l) 24 (0,0)):: (b6, .cells (a8 old.l) 24 (0,0)):: (bo, .cells #[vp G.bd 0,vt,vl,vi (B.n:Nat)] 151 (0,0)):: (D++K++D1):=by simp
  have mW: (bo,Obj.cells #[vp G.bd 0,vt,vl,vi (B.n:Nat)] 151 (0,0))∈ (b7,Obj.cells (a8 id.l) 24 (0,0)):: (b6, .cells (a8 old.l) 24 (0,0)):: (bo, .cells #[vp G.bd 0,vt,vl,vi (B.n:Nat)] 151 (0,0)):: (D++K++D1):=by simp
  have Zj: ∀p,p∈K→p∈ (b7,Obj.cells (a8 id.l) 24 (0,0)):: (b6, .cells (a8 old.l) 24 (0,0)):: (bo, .cells #[vp G.bd 0,vt,vl,vi (B.n:Nat)] 151 (0,0)):: (D++K++D1):=fun p hp=>by simp[hp]
  have T0: ((b7,Obj.cells (a8 id.l) 24 (0,0)):: (b6, .cells (a8 old.l) 24 (0,0)):: (bo, .cells #[vp G.bd 0,vt,vl,vi (B.n:Nat)] 151 (0,0)):: (D++K++D1)).Perm ((bo, .cells #[vp G.bd 0,vt,vl,vi (B.n:Nat)] 151 (0,0)):: (D++ (K++ ((b7, .cells (a8 id.l) 24 (0,0)):: (b6, .cells (a8 old.l) 24 (0,0))::D1)))):=pM
  refine Cw.world fun wz gV=> ?_
  have AT:=gV.nodup
  clear gV wz
  generalize (b7,Obj.cells (a8 id.l) 24 (0,0)):: (b6, .cells (a8 old.l) 24 (0,0)):: (bo, .cells #[vp G.bd 0,vt,vl,vi (B.n:Nat)] 151 (0,0)):: (D++K++D1)=L0 at*
  have r7:aS w L0 b7=some (.cells (a8 id.l) 24 (0,0)):=ad (ql AT Vq)
  have ro:aS w L0 bo=some (.cells #[vp G.bd 0,vt,vl,vi (B.n:Nat)] 151 (0,0)):=ad (ql AT mW)
  have Vk:b7∈keys L0:=List.mem_map_of_mem Vq
  have Cq:bo∈keys L0:=List.mem_map_of_mem mW
  refine Cw.regionD [bo,b7] [12] 11 9 73 14 _ rfl kR kR rfl kR nC (fun hD=> ?_)
  simp only[List.replicate_succ,List.replicate_zero]
  refine OwD.run [0,1,2,3,4,5] [true,true,true,true,true,true,false,false,false,false,false,false,false,false,false] 8 rfl hD kR fun k hk=> ?_
  simp only[cR, ↓cS, ↓bz, ↓cG, ↓cH,b_]
  simp(disch:=first|exact dD|fail) only[↓Sx.S0,Sx.S1,fx,fL,Nat.reduceAdd,Nat.reducePow,Int.reducePow,Nat.reduceBEq, ↓reduceIte,UInt8.reduceToNat,UInt16.reduceToNat,UInt32.reduceToNat,UInt64.reduceToNat,Int.reduceToNat,Md.next_sofnil,ro,r7]
  (with_reducible refine hk _ _ _ ?_);clear hk k
  refine OwD.soft 6 _ hD rfl kR (fun E i3=> ?_)
  have Yj:=ji bO (Qp i3)
  have Vr: ∀p,p∈K→p∈L0++E:=fun p hp=>bQ _ (Zj p hp)
  refine Ow.callC rfl rfl call83 (fun w' aB=>Ms vt vl B.t B.l nm id w' (mv hC Yj aB qO) (eN hA.t fun b o hm=>aB.has b o (Vr _ hm)) (eN hA.l fun b o hm=>aB.has b o (Vr _ hm)) cp eI ci bC ce) (fun B3 v3 D3 e_ jA iP jD=> ?_)
  have ow:=iP.mono jA
  obtain⟨va,vb,s,e,rfl,sx,Vt,eS⟩:=AddS.form (n:=0) jD
  with_reducible refine Ow.nil ?_
  refine⟨_,pb,ju (fun r hr=>by simp only[List.mem_cons,List.not_mem_nil,or_false] at hr;rcases hr with rfl|rfl;exact Cq;exact Vk), ?_⟩
  simp only[List.set_cons_zero,List.set_cons_succ,gN,fN,fO]
  refine OwD.run [7,8,9,10] [true,true,true,true,true,true,true,true,true,true,true,false,false,false,false] 3 rfl hD kR fun k hk=> ?_
  simp only[cR, ↓cS, ↓bz, ↓cG, ↓cH,b_]
  simp(disch:=first|exact dD|fail) only[↓Sx.S0,Sx.S1,fx,fL,Nat.reduceAdd,Nat.reducePow,Int.reducePow,Nat.reduceBEq, ↓reduceIte,UInt8.reduceToNat,UInt16.reduceToNat,UInt32.reduceToNat,UInt64.reduceToNat,Int.reduceToNat,Md.next_sofnil,tup3_0,tup3_1,tup3_2]
  (with_reducible refine hk _ _ _ ?_);clear hk k
  refine OwD.real [12,13,14] rfl hD kR kR kR kR (fun r hr=>by simp only[List.mem_cons,List.not_mem_nil,or_false] at hr;rw[aZ];rcases hr with rfl|rfl;exact .inl (bQ _ Cq);exact .inl (bQ _ Vk)) ?_
  simp only[cR, ↓cS, ↓bz, ↓cG, ↓cH,b_]
  intro b9 jh iT
  simp only[fN,fO]
  refine Ow.store rfl rfl rfl (L':=L0++D3++ [(b9, .cells #[va,vb] 73 (0,0))]) ?_ ?_
  ·simp only[df,dC,dW]
   have bH:bM (some (true,2)) (some (Obj.cells (Value.cells (.agg #[.slice none 0 0, .slice none 0 0])) 73 (0,0))) 0 (.agg #[va,vb])=some (.cells #[va,vb] 73 (0,0)):=by
    rw[bI];exact mh _ _ _ _ _ sx Vt
   rw[ag73,BP,Eu iT,bH,vA,Dw iT]
   exact []
  have sz: (L0++D3++ [(b9,Obj.cells #[va,vb] 73 (0,0))]).Perm ((bo, .cells #[vp G.bd 0,vt,vl,vi (B.n:Nat)] 151 (0,0)):: (b9, .cells #[va,vb] 73 (0,0)):: (D++ (K++ (((b7, .cells (a8 id.l) 24 (0,0)):: (b6, .cells (a8 old.l) 24 (0,0))::D1)++D3)))):=((T0.append_right _).append_right _).trans pM
  have jz:=(ji (ji bO ow) (E:= [(b9,Obj.cells #[va,vb] 73 (0,0))]) ⟨jh,trivial⟩).perm sz.symm
  have Rx: ∀p,p∈D3→p∈ ((b7,Obj.cells (a8 id.l) 24 (0,0)):: (b6, .cells (a8 old.l) 24 (0,0))::D1)++D3:=fun p hp=>dS _ hp
  generalize ((b7,Obj.cells (a8 id.l) 24 (0,0)):: (b6, .cells (a8 old.l) 24 (0,0))::D1)++D3=R0 at sz jz Rx
  have nJ:bo≠b9:=fun e=>iT (by rw[aZ];exact bQ _ (e▸Cq))
  have ro9:aS w (L0++D3++ [(b9,Obj.cells #[va,vb] 73 (0,0))]) bo=some (.cells #[vp G.bd 0,vt,vl,vi (B.n:Nat)] 151 (0,0)):=by
   rw[List.append_assoc,tR Cq];exact ro
  rcases eS with⟨hr,rfl⟩ | ⟨hr,h2,rfl⟩ | ⟨hr,h2,rfl,rfl,km,jX⟩
  ·have e1: (((1:Nat):Int) !=0)=true:=rfl
   rw[if_pos hr]
   refine ko (aN @fL @e1) ?_
   refine ky (aN @fL @e1) ?_
   refine⟨_,(ke @fL), ?_⟩
   exact⟨jz.perm sz,rfl,G,vt,vl,D,(b9, .cells #[va,vb] 73 (0,0)):: (K++R0),rfl,⟨sz.trans pM,hA.D,hA.t.mono fun p hp=>aq _ (bQ _ hp),hA.l.mono fun p hp=>aq _ (bQ _ hp)⟩⟩
  ·have e1: (((18:Nat):Int) !=0)=true:=rfl
   rw[if_neg (by simpa using hr),if_pos h2]
   refine ko (aN @fL @e1) ?_
   refine ky (aN @fL @e1) ?_
   refine⟨_,(ke @fL), ?_⟩
   exact⟨jz.perm sz,rfl,G,vt,vl,D,(b9, .cells #[va,vb] 73 (0,0)):: (K++R0),rfl,⟨sz.trans pM,hA.D,hA.t.mono fun p hp=>aq _ (bQ _ hp),hA.l.mono fun p hp=>aq _ (bQ _ hp)⟩⟩
  have e1: (((0:Nat):Int) !=0)=false:=rfl
  rw[if_neg (by simpa using hr),if_neg (by rw[h2];decide)]
  refine ko (aN @fL (aN @e1 @ro9)) ?_
  refine ky (aN @fL (aN @e1 @ro9)) ?_
  have s_: (D++ ((bo,Obj.cells #[vp G.bd 0,vt,vl,vi (B.n:Nat)] 151 (0,0)):: (b9, .cells #[va,vb] 73 (0,0)):: (K++R0))).Perm ((bo, .cells #[vp G.bd 0,vt,vl,vi (B.n:Nat)] 151 (0,0)):: (b9, .cells #[va,vb] 73 (0,0)):: (D++ (K++R0))):=pM
  refine Ow.permL (s_.trans sz.symm) ?_
  have pN:=KB (r:=⟨nm,id⟩) ce
  refine Ow.callX (X:=D) (Y:=(bo, .cells #[vp G.bd 0,vt,vl,vi (B.n:Nat)] 151 (0,0)):: (b9, .cells #[va,vb] 73 (0,0)):: (K++R0)) rfl rfl rfl call84 (fun w' aB ab aX=>U3 D G S aJ aH (ai (bW ⟨nm,id⟩)) w' ab aX hA.D.P (by decide) oM (hA.D.used oM)) (fun v5 D5 qB nI=> ?_)
  obtain⟨rfl,jB⟩:=nI
  have VL:=hA.D.app2 jB
  have gc:=(jz.perm s_).came qB
  have uH: (D5++ ((bo,Obj.cells #[vp G.bd 0,vt,vl,vi (B.n:Nat)] 151 (0,0)):: (b9, .cells #[va,vb] 73 (0,0)):: (K++R0))).Perm ((bo, .cells #[vp G.bd 0,vt,vl,vi (B.n:Nat)] 151 (0,0)):: (b9, .cells #[va,vb] 73 (0,0)):: (D5++ (K++R0))):=pM
  refine Ow.permL uH.symm ?_
  have i3:=gc.perm uH.symm
  have jc:=kV (bD S aJ aH (ai (bW ⟨nm,id⟩))).2
  by_cases h0: (bD S aJ aH (ai (bW ⟨nm,id⟩))).2=0
  ·rw[if_neg (by simpa using h0)]
   rw[i1 (by simpa using h0)] at jc
   have st:=zA (vp G.bd 0) vt vl (vi (B.n:Nat)) va vb 151 sx Vt
   refine ko (aN @fL @jc) ?_
   refine ky (aN @fL (aN @jc @st)) ?_
   refine⟨_,(ke @fL), ?_⟩
   have ip:Ext w X ((bo, .cells #[vp G.bd 0,va,vb,vi (B.n:Nat)] 151 (0,0)):: (b9, .cells #[va,vb] 73 (0,0)):: (D5++ (K++R0))):=i3.keys rfl
   exact⟨ip,rfl,G,va,vb,D5,(b9, .cells #[va,vb] 73 (0,0)):: (K++R0),rfl,⟨pM,VL,km.mono fun p hp=>aq _ (dS _ (Rx p hp)),jX.mono fun p hp=>aq _ (dS _ (Rx p hp))⟩⟩
  rw[if_pos h0]
  rw[dR h0] at jc
  refine ko (aN @fL @jc) ?_
  refine ky (aN @fL @jc) ?_
  refine⟨_,(ke @fL), ?_⟩
  exact⟨i3,rfl,G,vt,vl,D5,(b9, .cells #[va,vb] 73 (0,0)):: (K++R0),rfl,⟨pM,VL,hA.t.mono fun p hp=>aq _ (bQ _ hp),hA.l.mono fun p hp=>aq _ (bQ _ hp)⟩⟩
 have hb: (!(jl B.t B.l nm==old.l))=true:=by simpa using DF
 rw[if_pos DF]
 refine ky (aN @fL @hb) ?_
 refine⟨_,(ke @fL), ?_⟩
 exact⟨bN,rfl,G,vt,vl,D,K++ ((b7, .cells (a8 id.l) 24 (0,0)):: (b6, .cells (a8 old.l) 24 (0,0))::D1),rfl,⟨pM,hA.D,hA.t.mono fun p hp=>bQ _ hp,hA.l.mono fun p hp=>bQ _ hp⟩⟩
def mainN:List UInt8:= [109,97,105,110]
def idO (k:UInt8):IdL:=⟨k::List.replicate 31 0,rfl⟩
def ka0:DiskL:=cq 1000
def ka1:DiskL:=(ct ka0).2.2
def kb1:BkL:=⟨[],[],0⟩
def ka2:DiskL:=(fR ka1 kb1 mainN (idO 0) (idO 1)).2.1
def kb2:BkL:=⟨[],[⟨mainN,idO 1⟩],0⟩
def ka3:DiskL:=(eu ka2 kb2).2.1
def kb3:BkL:=⟨[],[⟨mainN,idO 1⟩],1⟩
def ka4:DiskL:=bc ka3 []
def QF: (cj ka0 aJ aH).1.length<1000000:=by decide+kernel
def QM: (ct ka0).1=some kb1:=by kernel_rfl
def Q7:fR ka1 kb1 mainN (idO 0) (idO 1)=(0,ka2,kb2):=by kernel_rfl
def R2:eu ka2 kb2=(0,ka3,kb3):=by kernel_rfl
def Qi:fR ka3 kb3 mainN (idO 0) (idO 2)=(12,ka3,kb3):=by kernel_rfl
def Q8: (cj ka4 aJ aH).1.length<1000000:=by decide+kernel
def Qg: (ct ka4).1=some kb3:=by kernel_rfl
def QH:jl [] [⟨mainN,idO 1⟩] mainN=(idO 1).l:=by kernel_rfl
def yL:iL (fX prog 24) (bL prog 24) []=some (.agg (a8 (idO 0).l)):=id kR
def yD:iL (fX prog 24) (bL prog 24) [(0,v8 1)]=some (.agg (a8 (idO 1).l)):=id kR
def PH:iL (fX prog 24) (bL prog 24) [(0,v8 2)]=some (.agg (a8 (idO 2).l)):=id kR
theorem NewS.some {bd:Nat} {R:Option BkL×Nat×DiskL} {N:Nat} {v:Value} {D:aA} {B:BkL} (h:R.1=some B) (hS:NewS bd R N v D): ∃bo,v= .tuple #[vp bo 0,vi 0]∧BoP bo bd R.2.2 N B D:=by
 unfold NewS at hS;rw[h] at hS;exact hS
def gY {w:World} {L:aA} (h:GlobC w) (hn:New w.heap.size L): (4:Nat)∉keys L:=by
 obtain⟨e,f,h⟩:=h
 exact hn.not (Array.getElem?_eq_some_iff.1 h).1
def o8:gM []:=fun g hg=>absurd hg (Nat.not_lt_zero g)
def yf:gM [⟨mainN,idO 1⟩]:=fun g hg=>by
 obtain rfl:g=0:=by simpa using hg
 show mainN.length<_
 decide
def QD:ac prog .eql 24 (.agg (a8 (idO 1).l)) (.agg (a8 (idO 1).l))=some (.bool true):=by
 rw[eqId _ _ ⟨(idO 1).h,(idO 1).h⟩];simp
def gB:=aN (aN (aN @bq @bl) (aN @Sx.tup2_0 @Sx.tup2_1)) (aN (aN @tup3_0 @tup3_1) (aN @tup3_2 @kW))
def tO (w:World) (hG:n8 w) (hC:GlobC w):Rets prog 36 #[] w (fun v D=>v= .bool true∧D= []):=by
 refine Rets.enterV func36 rfl (rs:= [.tmp 0]) results36 ntmps36 ?_
 refine kf ?_
 refine ky @gB ?_
 refine Ow.callC rfl rfl call80 (fun w' aB=>vr 1000 w' (by decide) (lX hG aB trivial)) (fun B0 v0 D0 iM u2 lN zX=> ?_)
 obtain⟨G0,rfl,jV⟩:=zX
 rw[List.nil_append]
 have fZ:Ext w [] D0:=Ext.of_new (lN.mono u2)
 have iM:DkA D0 G0 ka0 0:=⟨jV,xa 1000,yE 1000⟩
 refine ko @gB ?_
 refine ky @gB ?_
 refine Ow.callX (X:=D0) (Y:= []) (List.append_nil _).symm rfl rfl call50 (fun w' aB ab aX=>DZ D0 G0 ka0 0 w' ab aX iM oM (mv hC fZ aB (by simp[keys])) (gY hC fZ.new0) QF) (fun v1 D1 nG d8=> ?_)
 rw[List.append_nil]
 have bN:=fZ.came0 nG
 obtain⟨bo,rfl,aj⟩:=d8.some QM
 replace aj:BoP bo G0.bd ka1 84 kb1 D1:=aj
 have e0: ((0:Int) !=0)=false:=rfl
 refine ko (aN @gB @e0) ?_
 refine ky (aN @gB @e0) ?_
 refine Ow.build (.agg (a8 (idO 0).l)) rfl yL ?_
 refine ko @gB ?_
 refine Ow.build (.agg (a8 (idO 1).l)) rfl yD ?_
 refine ko @gB ?_
 refine Ow.callX (X:=D1) (Y:= []) (List.append_nil _).symm rfl rfl call41 (fun w' aB ab aX=>DP bo G0.bd ka1 84 kb1 mainN (idO 0) (idO 1) D1 w' ab aX aj oM (mv hC bN aB (by simp[keys])) (gY hC bN.new0) (by decide) (by decide) o8 o8 (by decide)) (fun v2 D2 RA an=> ?_)
 rw[List.append_nil]
 have bO:=bN.came0 RA
 rw[Q7] at an
 obtain⟨rfl,cd⟩:=an
 refine ko @gB ?_
 refine Ow.callX (X:=D2) (Y:= []) (List.append_nil _).symm rfl rfl call42 (fun w' aB ab aX=>DR bo G0.bd ka2 84 kb2 D2 w' ab aX cd) (fun v3 D3 zL jD=> ?_)
 rw[List.append_nil]
 have kb:=bO.came0 zL
 rw[R2] at jD
 obtain⟨rfl,nH⟩:=jD
 refine ko @gB ?_
 refine ky @gB ?_
 refine Ow.build (.agg (a8 (idO 0).l)) rfl yL ?_
 refine ko @gB ?_
 refine Ow.build (.agg (a8 (idO 2).l)) rfl PH ?_
 refine ko @gB ?_
 refine Ow.callX (X:=D3) (Y:= []) (List.append_nil _).symm rfl rfl call41 (fun w' aB ab aX=>DP bo G0.bd ka3 84 kb3 mainN (idO 0) (idO 2) D3 w' ab aX nH oM (mv hC kb aB (by simp[keys])) (gY hC kb.new0) (by decide) (by decide) o8 yf (by decide)) (fun v4 D4 dH bE=> ?_)
 rw[List.append_nil]
 have gb:=kb.came0 dH
 rw[Qi] at bE
 obtain⟨rfl,G4,vt,vl,D,K,lQ,gP⟩:=bE
 have Vy:D4.Perm (D++ ((bo,Obj.cells #[vp G4.bd 0,vt,vl,vi (kb3.n:Nat)] 151 (0,0))::K)):=gP.perm.trans pM
 have gc:=gb.perm Vy.symm
 have iQ:=gc.new0
 rw[←lQ]
 refine ko @gB ?_
 refine ky @gB ?_
 refine Ow.permL Vy.symm ?_
 refine Ow.callX (X:=D) (Y:=(bo, .cells #[vp G4.bd 0,vt,vl,vi (kb3.n:Nat)] 151 (0,0))::K) rfl rfl rfl call49 (fun w' aB ab aX=>Tm D G4 ka3 (.slice none 0 0) [] w' ab aX gP.D.P (lX hG aB iQ) (fun h=>EP hG iQ (by rw[aZ];exact bQ _ h)) ((DT (q:=(ka3,[])) gP.D.B 3).b oM) (.inl (SlV.nil w')) (fun h=>absurd rfl h) (by decide) (fun k hk=>⟨(gP.D.H k).2,gP.D.pend oM k hk⟩)) (fun v6 D6 CY zZ=> ?_)
 obtain⟨G6,gQ,qF⟩:=zZ
 have i3:=gc.came CY
 have Ye:DkA D6 G6 ka4 84:=⟨qF,EE gP.D.H _,wA gP.D.B _⟩
 rw[←gQ] at i3 ⊢
 have RC:Ext w [] D6:=⟨fun c hc=>i3.new c (by rw[aZ];exact bQ _ hc),fun c hc=>by cases hc⟩
 refine ko @gB ?_
 refine ky @gB ?_
 refine Ow.callX (X:=D6) (Y:=(bo, .cells #[vp G6.bd 0,vt,vl,vi (kb3.n:Nat)] 151 (0,0))::K) rfl rfl rfl call50 (fun w' aB ab aX=>DZ D6 G6 ka4 84 w' ab aX Ye oM (mv hC i3 aB (by simp[keys])) (gY hC RC.new0) Q8) (fun v7 D7 lL gE=> ?_)
 have ip:=i3.came lL
 obtain⟨bo2,rfl,qG⟩:=gE.some Qg
 have lO:=ip.new0
 have Z3: ∀w' L',Hp w L' w'→(∀p,p∈ ((bo,Obj.cells #[vp G6.bd 0,vt,vl,vi (kb3.n:Nat)] 151 (0,0))::K)→p∈L')→BoW w' bo G6.bd kb3:=fun w' L' aB zP=>⟨vt,vl,aB.has _ _ (zP _ ah),eN gP.t fun b o hm=>aB.has b o (zP _ (aq _ hm)),eN gP.l fun b o hm=>aB.has b o (zP _ (aq _ hm))⟩
 have c0: (((0:Nat):Int)==0)=true:=rfl
 have c1: (((12:Nat):Int)==12)=true:=rfl
 have c2: ((0:Int)==0)=true:=rfl
 have c3: (((1:Nat):Int)==1)=true:=rfl
 refine ko (aN @gB (aN @c0 (aN @c1 @c2))) ?_
 refine ky (aN @gB (aN @c0 (aN @c1 @c2))) ?_
 refine Ow.callC rfl rfl call40 (fun w' aB=>DO bo2 G6.bd kb3 mainN w' (qG.W fun b o hm=>aB.has b o (bQ _ hm)) (by decide) (by decide) o8 yf) (fun B8 v8 D8 hA8 oq u3 za=> ?_)
 subst za
 rw[show jl kb3.t kb3.l mainN=(idO 1).l from QH]
 refine ko (aN @gB (aN @c0 (aN @c1 @c2))) ?_
 refine Ow.build (.agg (a8 (idO 1).l)) rfl yD ?_
 refine ko (aN @gB (aN @QD (aN @c0 (aN @c1 @c2)))) ?_
 refine Ow.callFV rfl call43 (fun w' aB=>Dd bo G6.bd kb3 w' (Z3 w' _ aB (fun p hp=>by simp only[List.mem_append];exact .inl (.inr hp)))) ?_
 have c4: (((kb3.n:Nat):Int)==1)=true:=rfl
 refine ko (aN @gB @c4) ?_
 refine ky (aN @gB @c4) ?_
 refine⟨_,(ke @gB),lO.app (u3.mono oq), ?_⟩
 rfl
end Go.Proofs
end
section
open Go Go.Proofs Go.Sx Go.RefP
namespace Go.Proofs
def lK (x:RefL):List RefL→Bool→List RefL
 | [],dn=>if dn then [] else [x]
 |p::r,dn=>if p.name==x.name then lK x r dn else if !dn&& !(ltB p.name x.name||p.name==x.name) then x::p::lK x r true else p::lK x r dn
def setR (l:List RefL) (x:RefL):List RefL:=lK x l (x.id.l==z32)
theorem CS (x:RefL): ∀ (l:List RefL) (dn:Bool),prs (lK x l dn)=kQ (x.name,x.id.l) (prs l) dn
 | [],dn=>by cases dn<;>rfl
 |p::r,dn=>by
  unfold lK
  have e:prs (p::r)=(p.name,p.id.l)::prs r:=rfl
  rw[e,kQ]
  simp only
  split
  ·exact CS x r dn
  split
  ·show _::_::prs _=_
   rw[CS x r true]
  show _::prs _=_
  rw[CS x r dn]
def MP (l:List RefL) (x:RefL):prs (setR l x)=setL z32 (prs l) (x.name,x.id.l):=CS x l _
def Qc (a b:List UInt8): (Op.bytesLess a b||a==b)= !(ltB b a):=by
 cases h:ltB b a
 ·cases h2: (a==b)
  ·have aQ:a≠b:=by simpa using h2
   have:ltB a b=true:=uc h (fun e=>aQ e.symm)
   show(ltB a b||false)=true
   rw[this];rfl
  simp
 have h1:ltB a b=false:=wa h
 have h2: (a==b)=false:=by
  rw[beq_eq_false_iff_ne];exact fun e=>rp h e.symm
 show(ltB a b||_)=false
 rw[h1,h2];rfl
def ey (l t:List RefL):Nat→Option (List RefL)
 |0=>some t
 |g+1=>(ey l t g).bind fun m=>if(bU (l.getD g az).name&&decide ((setR m (l.getD g az)).length≤16))=true then some (setR m (l.getD g az)) else none
def rK (t:List RefL):Bool:=rH bU z32 (prs t)
def fj (t l:List RefL) (k:Nat):Option (List RefL):=if t.length≤16∧l.length≤100∧rK t=true then ey l t k else none
theorem xQ (l t:List RefL): ∀k,k≤l.length→(ey l t k).map prs=logL bU z32 (prs l) (prs t) k
 |0,_=>rfl
 |k+1,hk=>by
  have ih:=xQ l t k oM
  unfold ey logL
  rw[←ih]
  cases ey l t k with
  |none=>rfl
  |some m=>
   simp only[Option.bind_some,Option.map_some]
   rw[m_ l k hk,←MP,g9]
   split<;>rfl
def xS (t l:List RefL) (k:Nat) (hk:k≤l.length): (fj t l k).map prs=ofL bU z32 (prs t) (prs l) k:=by
 unfold fj ofL
 rw[g9,g9]
 by_cases h:t.length≤16∧l.length≤100∧rK t=true
 ·rw[if_pos h,if_pos (show _∧_∧rH bU z32 (prs t)=true from h)];exact xQ l t k hk
 rw[if_neg h,if_neg (show¬ (_∧_∧rH bU z32 (prs t)=true) from h)];rfl
def Du (t l:List RefL): (fj t l l.length).isSome=al t l:=by
 unfold al
 rw[Mu,RefP.oD,g9,←xS t l l.length (ag _)]
 cases fj t l l.length<;>rfl
def LL {l t:List RefL} {g:Nat} (h:ey l t g=none): ∀k,g≤k→ey l t k=none:=by
 intro k hk
 induction hk with
 |refl=>exact h
 |step _ ih=>unfold ey;rw[ih];rfl
def Ua (t:List RefL):rK t=true↔ ∀i,i<t.length→fQ bU z32 (prs t) i=true:=by
 unfold rK rH;rw[List.all_eq_true,g9];simp
def ValsS (t l:List RefL) (k:Nat) (v:Value) (D:aA):Prop:=
 match fj t l k with
 |some ls=> ∃x,v= .tuple #[x, .bool true]∧GrI D 149 33 x ls.length (ls.map aI).flatten
 |none=>v= .tuple #[.slice none 0 0, .bool false]
def ValsS.no {t l:List RefL} {k:Nat} {D:aA} (h:fj t l k=none):ValsS t l k (.tuple #[.slice none 0 0, .bool false]) D:=by unfold ValsS;rw[h]
def lZ:=aN (aN (aN (aN @bq @iH) (aN @iG (aN @iF @bl))) (aN (aN @mp @mn) (aN @ig (aN @im @pd)))) (aN (aN (aN @pX @pW) (aN @nb (aN @jK @tup2_0))) (aN (aN @tup2_1 (aN @vV @vP)) (aN @vF (aN @BH @BQ))))
def uR (x y:Value) (l1 l2:List RefL) (w:World) (h1:fB w x l1) (h2:fB w y l2) (pF:l1.length<1000000) (gR:l2.length<1000000):
  Rets prog 51 #[x,y] w (fun v D=>v= .bool (jv l1 l2)∧D= []):=by
 obtain⟨b1,o1,a1,E1,f1,r1⟩:=h1.row
 obtain⟨b2,o2,a2,E2,f2,r2⟩:=h2.row
 exact Xs x y b1 o1 b2 o2 l1 l2 a1 a2 E1 E2 f1 f2 w r1 r2 pF gR
def wQ (vt vl ut ul:Value) (t l t2 l2:List RefL) (w:World) (ht:fB w vt t) (hl:fB w vl l) (jf:fB w ut t2) (gR:fB w ul l2) (h1:t.length<1000000) (h2:l.length<1000000) (h3:t2.length<1000000) (h4:l2.length<1000000):
  Rets prog 38 #[.agg #[vt,vl], .agg #[ut,ul]] w (fun v D=>v= .bool (jv t t2&&jv l l2)∧D= []):=by
 refine Rets.enterV func38 rfl (rs:= [.tmp 4]) results38 ntmps38 ?_
 refine kf ?_
 refine ky @lZ ?_
 refine Ow.box rfl rfl fun bx gg bR=> ?_
 simp only[df,dC,dW,bI,List.nil_append,List.cons_append]
 refine Ow.go rfl ?_
 simp(disch:=first|exact dD|fail) only[↓Sx.S0,Sx.S1,fx,lZ,Nat.reduceAdd,Nat.reducePow,Int.reducePow,Nat.reduceBEq, ↓reduceIte,UInt8.reduceToNat,UInt16.reduceToNat,UInt32.reduceToNat,UInt64.reduceToNat,Int.reduceToNat]
 refine Ow.box rfl rfl fun by_ ZE uP=> ?_
 simp only[df,dC,dW,bI,List.nil_append,List.cons_append]
 refine Ow.go rfl ?_
 simp(disch:=first|exact dD|fail) only[↓Sx.S0,Sx.S1,fx,lZ,Nat.reduceAdd,Nat.reducePow,Int.reducePow,Nat.reduceBEq, ↓reduceIte,UInt8.reduceToNat,UInt16.reduceToNat,UInt32.reduceToNat,UInt64.reduceToNat,Int.reduceToNat]
 obtain⟨Av,-⟩:=ZE
 refine ky @lZ ?_
 refine Ow.callFV rfl call51 (fun w' aB=>uR vt ut t t2 w' (ht.oldN aB ⟨bR,uP,trivial⟩) (jf.oldN aB ⟨bR,uP,trivial⟩) h1 h3) ?_
 cases jv t t2
 ·refine ko @lZ ?_
  refine ky @lZ ?_
  refine⟨_,(ke @lZ),⟨bR,uP,trivial⟩, ?_⟩
  rfl
 refine ko @lZ ?_
 refine ky @lZ ?_
 refine Ow.callFV rfl call51 (fun w' aB=>uR vl ul l l2 w' (hl.oldN aB ⟨bR,uP,trivial⟩) (gR.oldN aB ⟨bR,uP,trivial⟩) h2 h4) ?_
 refine ko @lZ ?_
 refine ky @lZ ?_
 refine⟨_,(ke @lZ),⟨bR,uP,trivial⟩, ?_⟩
 rfl
end Go.Proofs
end
section
open Go Go.Proofs Go.Sx Go.StP Go.RefP
namespace Go.Proofs
structure AtL where
 kind:Int
 n:Int
 name:List UInt8
 id:IdL
 wrong:Bool
 picks:PkL
def atC (r:AtL):List Value:= [vi r.kind]++ ([vi r.n]++ ([vs r.name]++ (r.id.l.map v8++ ([Value.bool r.wrong]++ ([r.picks.v])))))
def at0:AtL:=⟨0,0,[],id0,false,pk0⟩
def vK (r:AtL): (atC r).length=37:=by simp[atC,r.id.h]
def Bc (r:AtL):Value.cells (.agg (atC r).toArray)=(atC r).toArray:=bI _
def Nt (r:AtL): (atC r).all Value.oneCell'=true:=by
 unfold atC
 simp only[List.all_append,List.all_cons,List.all_nil,Pk,Bool.and_true,Bool.true_and]
 rw[r.picks.h.1];rfl
def zrAt:bL prog 67=some (.agg (atC at0).toArray):=id kR
def PN (r:AtL):atC r=([]:List Value)++ (([vi r.kind])++ ([vi r.n]++ ([vs r.name]++ (r.id.l.map v8++ ([Value.bool r.wrong]++ ([r.picks.v])))))):=by
 unfold atC;simp only[List.append_assoc,List.nil_append,List.append_nil]
def Br (r:AtL) (n:Nat) (E:TypeId) (fz:Nat×Nat):ak (some (false,n)) (some (.cells (atC r).toArray E fz)) 0=some (vi r.kind):=by
 rw[PN];exact vT _ _ _ n E fz (by simp)
def Pu (r:AtL):atC r=(([vi r.kind]))++ (([vi r.n])++ ([vs r.name]++ (r.id.l.map v8++ ([Value.bool r.wrong]++ ([r.picks.v]))))):=by
 unfold atC;simp only[List.append_assoc,List.nil_append,List.append_nil]
def Bz (r:AtL) (n:Nat) (E:TypeId) (fz:Nat×Nat):ak (some (false,n)) (some (.cells (atC r).toArray E fz)) 1=some (vi r.n):=by
 rw[Pu];exact vT _ _ _ n E fz (by simp)
def OX (r:AtL):atC r=(([vi r.kind])++ ([vi r.n]))++ (([vs r.name])++ (r.id.l.map v8++ ([Value.bool r.wrong]++ ([r.picks.v])))):=by
 unfold atC;simp only[List.append_assoc,List.nil_append,List.append_nil]
def Bl (r:AtL) (n:Nat) (E:TypeId) (fz:Nat×Nat):ak (some (false,n)) (some (.cells (atC r).toArray E fz)) 2=some (vs r.name):=by
 rw[OX];exact vT _ _ _ n E fz (by simp)
def Pa (r:AtL):atC r=(([vi r.kind])++ ([vi r.n])++ ([vs r.name]))++ ((r.id.l.map v8)++ ([Value.bool r.wrong]++ ([r.picks.v]))):=by
 unfold atC;simp only[List.append_assoc,List.nil_append,List.append_nil]
def Bm (r:AtL) (E:TypeId) (fz:Nat×Nat):ak (some (true,32)) (some (.cells (atC r).toArray E fz)) 3=some (Value.agg (a8 r.id.l)):=by
 rw[Pa,NC _ _ _ E fz (by simp) (by simp[r.id.h])];rfl
def Pl (r:AtL):atC r=(([vi r.kind])++ ([vi r.n])++ ([vs r.name])++ (r.id.l.map v8))++ (([Value.bool r.wrong])++ ([r.picks.v])):=by
 unfold atC;simp only[List.append_assoc,List.nil_append,List.append_nil]
def By (r:AtL) (n:Nat) (E:TypeId) (fz:Nat×Nat):ak (some (false,n)) (some (.cells (atC r).toArray E fz)) 35=some (Value.bool r.wrong):=by
 rw[Pl];exact vT _ _ _ n E fz (by simp[r.id.h])
def QV (r:AtL):atC r=(([vi r.kind])++ ([vi r.n])++ ([vs r.name])++ (r.id.l.map v8)++ ([Value.bool r.wrong]))++ (([r.picks.v])++ (([]:List Value))):=by
 unfold atC;simp only[List.append_assoc,List.nil_append,List.append_nil]
def Bx (r:AtL) (n:Nat) (E:TypeId) (fz:Nat×Nat):ak (some (false,n)) (some (.cells (atC r).toArray E fz)) 36=some (r.picks.v):=by
 rw[QV];exact vT _ _ _ n E fz (by simp[r.id.h])
def C7 (r:AtL) (E:TypeId) (fz:Nat×Nat):ak (some (true,37)) (some (.cells (atC r).toArray E fz)) 0=some (.agg (atC r).toArray):=uk _ E fz 37 (by rw[List.size_toArray,vK])
def Lh (old:Array Value) (r:AtL) (a:Bool) (E:TypeId) (h:old.size=37):bM (some (a,37)) (some (.cells old E (0,0))) 0 (.agg (atC r).toArray)=some (.cells (atC r).toArray E (0,0)):=HT _ a old E (vK r) (Nt r) h
def JT (r r':AtL) (a:Bool) (E:TypeId):bM (some (a,37)) (some (.cells (atC r').toArray E (0,0))) 0 (.agg (atC r).toArray)=some (.cells (atC r).toArray E (0,0)):=Lh _ r a E (by rw[List.size_toArray,vK])
def Px {w:World} {v:Value} {l:List AtL} {b off:Nat} {arr:Array Value} {E:TypeId} {fz:Nat×Nat} (h:RowS 37 atC at0 w v l b off arr E fz) {k:Nat} (hk:k<l.length):ak (some (true,37)) (some (.cells arr E fz)) (off+k*37)=some (.agg (atC (l.getD k at0)).toArray):=RowS.load h vK oM hk
def rI (a:AtL):Bool:=decide (100<a.name.length) ||decide (100<a.picks.l.length)
def w4 {a:AtL} (h:rI a=false):a.name.length≤100∧a.picks.l.length≤100:=by
 unfold rI at h
 simp only[Bool.or_eq_false_iff,decide_eq_false_iff_not] at h
 omega
def u0:=aN (aN (aN @bq @bl) (aN @C7 (aN @Br @Bz))) (aN (aN @Bl @Bm) (aN @By (aN @Bx @Bc)))
def Uz (a:AtL) (w:World) (ha:PkS w a.picks.v a.picks.l):Rets prog 37 #[.agg (atC a).toArray] w (fun v D=>v= .bool (rI a)∧D= []):=by
 have lnp:=ha.len
 refine Rets.enterV func37 rfl (rs:= [.tmp 2]) results37 ntmps37 ?_
 refine kf ?_
 refine kz [1] @u0 ?_
 refine Ow.box rfl rfl fun b1 aP aY=> ?_
 simp only[df,dC,dW,bI,List.nil_append,List.cons_append]
 refine Ow.go rfl ?_
 simp(disch:=first|exact dD|fail) only[↓Sx.S0,Sx.S1,fx,u0,Nat.reduceAdd,Nat.reducePow,Int.reducePow,Nat.reduceBEq, ↓reduceIte,UInt8.reduceToNat,UInt16.reduceToNat,UInt32.reduceToNat,UInt64.reduceToNat,Int.reduceToNat]
 unfold rI
 cases h1:decide ((100:Int)< (a.name.length:Int)) with
 |true=>
  refine ky (aN @u0 @h1) ?_
  refine⟨_,(ke @u0),⟨aY,trivial⟩, ?_⟩
  (rw[dR (show 100<a.name.length by have:=of_decide_eq_true h1;omega)];rfl)
 |false=>
  have g1:decide (100<a.name.length)=false:=i1 (by have:=of_decide_eq_false h1;omega)
  have g4:decide (100<a.picks.l.length)=decide ((100:Int)< (a.picks.l.length:Int)):=by
   congr 1
   rw[eq_iff_iff];omega
  refine ky (aN @u0 (aN @h1 @lnp)) ?_
  refine⟨_,(ke @u0),⟨aY,trivial⟩, ?_⟩
  (rw[g1,g4];rfl)
end Go.Proofs
end
section
open Go Go.Proofs Go.Sx Go.RefP
namespace Go.Proofs
def my (a b:List UInt8):Int:=if ltB a b=true then -1 else if ltB b a=true then 1 else 0
def PV (a:List UInt8) (w:World):Calls prog 190 #[vs a] w fun e w'=>e= .returned (.bool false)∧w'=w:=by
 unfold vs
 go_enter func190,ntmps190
 go_wp2
 go_ret
 exact⟨by simp,rfl⟩
def Kg (a b:List UInt8) (w:World):Calls prog 122 #[vs a,vs b] w fun e w'=>e= .returned (.int .i64 (my a b))∧w'=w:=by
 have e7: ∀args w,(callFunc 190 args).run prog w= .ok (.enter 190 args) w:=call190
 unfold vs
 go_enter func122,ntmps122
 go_wp2_with (go_at_call 190;refine(PV _ _).mono ?_;rintro e w' ⟨rfl,hw⟩;rw[hw])
 ·go_ret
  refine⟨?_,rfl⟩
  unfold my ltB
  rw[if_pos (by assumption)]
  rfl
 rw[show(binOp .gtr 9 (Value.string {data:=a.toArray}) (Value.string {data:=b.toArray})).run prog w= .ok (.bool (ltB b a)) w by have h:=xD (P:=prog) (t:=9) w (wF a b);rw[Qc,Bool.not_not] at h;exact h]
 go_wp2
 ·go_ret
  refine⟨?_,rfl⟩
  rename_i h1 _ _ h2
  unfold my
  rw[if_neg (by unfold ltB;simp_all),if_pos (by simp_all)]
  rfl
 go_ret
 refine⟨?_,rfl⟩
 unfold my
 rw[if_neg (by unfold ltB;simp_all),if_neg (by simp_all)]
 rfl
def Gz (x y:RefL) (W:World):Calls prog 160 #[.agg (aI x).toArray, .agg (aI y).toArray] W fun e w'=>e= .returned (.int .i64 (my x.name y.name))∧ ∃q os',w'=Go.Sort.grow (W.drewN q) os':=by
 have ki:=fun W'=>Kg x.name y.name W'
 obtain⟨cx,ZG⟩: ∃cx,aI x=vs x.name::cx:=⟨_,rfl⟩
 obtain⟨cy,ZH⟩: ∃cy,aI y=vs y.name::cy:=⟨_,rfl⟩
 rw[ZG,ZH]
 generalize my x.name y.name=r at ki ⊢
 generalize vs x.name=a at ki ⊢
 generalize vs y.name=b at ki ⊢
 go_enter func160,ntmps160
 go_wp2_with (go_at_call 122;refine(ki _).mono ?_;rintro e w' ⟨rfl,rfl⟩)
 go_ret
 exact⟨rfl,0,_,by rw[Go.Sort.alloc_eq_grow,Go.Sort.alloc_eq_grow,Go.Sort.grow_grow];rfl⟩
end Go.Proofs
end
namespace Go.Sx
open Go Go.Proofs Go.Shelf Go.Sort
section
variable {α:Type} [Inhabited α] {enc:α→List Value} {k:Nat}
theorem EG (hk: ∀x,(enc x).length=k): ∀ (l:List α) (t:Nat),t<l.length*k→(l.map enc).flatten[t]? =some ((enc l[t / k]!)[t%k]!)
 | [],t,h=>by simp at h
 |x::r,t,h=>by
  have k0:0<k:=by
   rcases Nat.eq_zero_or_pos k with h0|h0
   ·subst h0;simp at h
   exact h0
  rw[List.map_cons,List.flatten_cons]
  by_cases ht:t<k
  ·rw[List.getElem?_append_left (by rw[hk];exact ht),Nat.div_eq_of_lt ht,Nat.mod_eq_of_lt ht]
   simp only[List.getElem!_cons_zero]
   rw[getElem!_pos (enc x) t (by rw[hk];exact ht),List.getElem?_eq_getElem]
  obtain⟨u,rfl⟩: ∃u,t=k+u:=⟨t - k,by omega⟩
  have hl: (x::r).length*k=r.length*k+k:=by rw[List.length_cons,Nat.add_mul,Nat.one_mul]
  rw[List.getElem?_append_right (by rw[hk];omega),hk,Nat.add_sub_cancel_left,EG hk r u oM]
  rw[Nat.add_div_left u k0,Nat.add_mod_left]
  simp
def xC (hk: ∀x,(enc x).length=k) (l:List α):flatK enc k l.toArray=(l.map enc).flatten.toArray:=by
 have hl: (l.map enc).flatten.length=l.length*k:=by
  induction l with
  |nil=>simp
  |cons x r ih=>rw[List.map_cons,List.flatten_cons,List.length_append,ih,hk,List.length_cons,Nat.add_mul,Nat.one_mul];omega
 apply Array.ext
 ·rw[size_flatK,List.size_toArray,List.size_toArray,hl]
 intro t h1 h2
 rw[size_flatK,List.size_toArray] at h1
 have h:=EG hk l t h1
 have h3:=get_flatK enc k l.toArray t (by rw[List.size_toArray];exact h1)
 rw[getElem!_pos _ t (by rw[size_flatK,List.size_toArray];exact h1)] at h3
 rw[h3]
 have h4: (l.map enc).flatten.toArray[t]? =some ((enc l[t / k]!)[t%k]!):=by rw[List.getElem?_toArray];exact h
 rw[Array.getElem?_eq_getElem h2] at h4
 have:=Option.some.inj h4
 rw[this]
 simp
def GX {F F' rest:List Value} (h:F.length=F'.length):putCells id 0 F'.toArray (F++rest).toArray=(F'++rest).toArray:=by
 unfold putCells
 apply Array.ext
 ·simp[h]
 intro t h1 h2
 simp only[Array.getElem_mapIdx,List.getElem_toArray,List.size_toArray,cC,true_and,Nat.zero_add,Nat.sub_zero,id]
 split
 ·rename_i ht
  rw[getElem!_pos _ t (by simpa using ht),List.getElem_toArray,List.getElem_append_left ht]
 rename_i ht
 rw[List.getElem_append_right oM,List.getElem_append_right oM]
 simp only[h]
def K8 {P:Program} {ρ:Ren} (L:SlLaysF0.n6 P ρ) (aE: ∀w,(isAgg (ρ.t 24)).run P w= .ok true w) (zE: ∀w,(Go.sizeOf (ρ.t 24)).run P w= .ok k w) (hk: ∀x,(enc x).length=k) (h1: ∀x,∀v∈enc x,v.oneCell'=true) (cf:α→α→Int) (hO:SWO (ltOf cf)) (g:FuncId)
  (eg: ∀args w,(callFunc g args).run P w= .ok (.enter g args) w) (Ro: ∀x y W,Calls P g #[.agg (enc x).toArray, .agg (enc y).toArray] W fun e w'=>e= .returned (.int .i64 (cf x y))∧ ∃q os',w'=grow (W.drewN q) os')
  {w:World} {b c:Nat} {E:TypeId} {l:List α} {rest:List Value} (hb:w.heap[b]? =some (.cells ((l.map enc).flatten++rest).toArray E (0,0))) (e8:l.length<4611686018427387904):
  Rets P (ρ.f 6) #[vsl b 0 l.length c, .func (.func g) #[] #[]] w (fun v D=> ∃o,D= [(b,o)]∧v= .tuple #[]∧ ∃l':List α,l'.Perm l∧l'.Pairwise (fun x y=>ltOf cf y x=false)∧o= .cells ((l'.map enc).flatten++rest).toArray E (0,0)):=by
 have fD:=(Array.getElem?_eq_some_iff.1 hb).1
 have hH:HoldsK enc k w b 0 l.toArray:=by
  unfold HoldsK Holds
  intro t ht
  rw[size_flatK,List.size_toArray] at ht
  rw[get_flatK _ _ _ _ (by rw[List.size_toArray];exact ht)]
  have h:=EG hk l t ht
  have aG:=(List.getElem?_eq_some_iff.1 h).1
  refine⟨?_, ?_⟩
  ·simp only[World.cell?,hb,Option.isSome_none,Bool.false_eq_true, ↓reduceIte,Nat.zero_add,List.getElem?_toArray,id]
   rw[List.getElem?_append_left aG,h];simp
  simp only[World.frozen?,hb];simp
 have ki:=AnyQ.slices_SortFunc L k aE zE enc hk h1 cf hO g #[] b 0 c l.toArray w eg (fun m os dk _ x y=>Ro x y _) hH fD (by rw[List.size_toArray];exact e8)
 refine Calls.mono ki ?_
 rintro e w' ⟨rfl,d',n,os,hp,hs,rfl⟩
 obtain⟨l',rfl⟩: ∃l':List α,d'=l'.toArray:=⟨d'.toList,by simp⟩
 obtain⟨hz,-,hp⟩:=hp
 rw[List.size_toArray,List.size_toArray] at hz
 have dL: ∀m:List α,(m.map enc).flatten.length=m.length*k:=fun m=>by
  have:=congrArg Array.size (xC (enc:=enc) hk m)
  rw[size_flatK,List.size_toArray,List.size_toArray] at this
  exact this.symm
 have Zs: (sortWorldK enc k w b 0 n l'.toArray os).heap[b]? =some (.cells ((l'.map enc).flatten++rest).toArray E (0,0)):=by
  show((w.heap.modify b (onCells (putCells id 0 (flatK enc k l'.toArray))))++os)[b]? =_
  rw[Array.getElem?_append_left (by rw[Array.size_modify];exact fD),Array.getElem?_modify,if_pos rfl,hb,xC hk,Option.map_some]
  simp only[onCells]
  rw[GX (by rw[dL,dL,hz])]
 refine⟨.tuple #[],[(b,_)],rfl,⟨?_,by simp[keys], ?_, ?_,rfl,rfl,rfl⟩,_,rfl,rfl,l', ?_, ?_,rfl⟩
 ·intro b' o' hm
  simp only[List.mem_singleton,Prod.mk.injEq] at hm
  rw[hm.1,hm.2];exact Zs
 ·intro b' dI hn
  have aQ:b≠b':=fun h=>hn (by simp[keys,h])
  show((w.heap.modify b (onCells (putCells id 0 (flatK enc k l'.toArray))))++os)[b']? =_
  rw[Array.getElem?_append_left (by rw[Array.size_modify];exact dI),Array.getElem?_modify,if_neg aQ]
 ·show w.heap.size≤ ((w.heap.modify b (onCells (putCells id 0 (flatK enc k l'.toArray))))++os).size
  rw[Array.size_append,Array.size_modify];omega
 ·have h2:List.take l.length l'=l':=List.take_of_length_le oM
  rw[←h2]
  simpa using hp
 rw[List.pairwise_iff_getElem]
 intro i j hi hj kr
 have:=hs i j (cC _) kr (by rw[List.size_toArray];omega)
 simpa [hi,hj] using this
def Kx {P:Program} {ρ:Ren} (L:SlLaysF0.n6 P ρ) (p:Option Addr) (c:Nat) (fv:Value) (w:World):Rets P (ρ.f 6) #[.slice p 0 c,fv] w (fun v D=>v= .tuple #[]∧D= []):=
 Calls.mono (AnyF.slices_SortFunc_none L p c fv w) fun _ _ ⟨he,hw⟩=>⟨_,[],he,by rw[hw];exact Hp.refl w,rfl,rfl⟩
end
end Go.Sx
section
namespace Go.Proofs
open Go Go.Shelf
def sortRef_ren:Go.Shelf.Ren:=⟨fun|6=>159|15=>212|14=>211|28=>249|29=>250|20=>241|21=>242|22=>243|23=>244|24=>245|25=>246|26=>247|27=>248|46=>281|47=>282|48=>283|49=>284|50=>285|57=>310|n=>n,fun|22=>71|24=>149|25=>274|3=>3|39=>253|0=>0|53=>250|55=>296|4=>4|46=>352|45=>351|50=>356|5=>5|9=>9|66=>382|70=>386|76=>403|77=>404|n=>n,fun|n=>n⟩
def sortRef:Go.Proofs.SlLaysF0.n6 prog sortRef_ren:={
 mixed:=by kernel_rfl
 f6:=⟨Tryz.f159.name,by decide,Tryz.func159.trans (congrArg some kR)⟩
 f14:=⟨Tryz.f211.name,by decide,Tryz.func211.trans (congrArg some kR)⟩
 f15:=Tryz.func212.trans (congrArg some kR)
 f20:=⟨Tryz.f241.name,by decide,Tryz.func241.trans (congrArg some kR)⟩
 f21:=⟨Tryz.f242.name,by decide,Tryz.func242.trans (congrArg some kR)⟩
 f22:=⟨Tryz.f243.name,by decide,Tryz.func243.trans (congrArg some kR)⟩
 f23:=⟨Tryz.f244.name,by decide,Tryz.func244.trans (congrArg some kR)⟩
 f24:=⟨Tryz.f245.name,by decide,Tryz.func245.trans (congrArg some kR)⟩
 f25:=⟨Tryz.f246.name,by decide,Tryz.func246.trans (congrArg some kR)⟩
 f26:=⟨Tryz.f247.name,by decide,Tryz.func247.trans (congrArg some kR)⟩
 f27:=⟨Tryz.f248.name,by decide,Tryz.func248.trans (congrArg some kR)⟩
 f28:=Tryz.func249.trans (congrArg some kR)
 f29:=Tryz.func250.trans (congrArg some kR)
 f46:=⟨Tryz.f281.name,by decide,Tryz.func281.trans (congrArg some kR)⟩
 f47:=Tryz.func282.trans (congrArg some kR)
 f48:=Tryz.func283.trans (congrArg some kR)
 f49:=⟨Tryz.f284.name,by decide,Tryz.func284.trans (congrArg some kR)⟩
 f50:=⟨Tryz.f285.name,by decide,Tryz.func285.trans (congrArg some kR)⟩
 f57:=⟨Tryz.f310.name,by decide,Tryz.func310.trans (congrArg some kR)⟩
 t0:=underlying0
 a0:=isAgg0
 z0:=sizeOf0
 v0:=zeroValue0
 t3:=underlying3
 a3:=isAgg3
 z3:=sizeOf3
 v3:=zeroValue3
 t4:=underlying4
 a4:=isAgg4
 z4:=sizeOf4
 v4:=zeroValue4
 t5:=underlying5
 a5:=isAgg5
 z5:=sizeOf5
 v5:=zeroValue5
 t9:=underlying9
 a9:=isAgg9
 z9:=sizeOf9
 v9:=zeroValue9
 t22:=underlying71
 a22:=isAgg71
 z22:=sizeOf71
 v22:=zeroValue71
 t25:=underlying274
 a25:=isAgg274
 z25:=sizeOf274
 v25:=zeroValue274
 t39:=underlying253
 a39:=isAgg253
 z39:=sizeOf253
 v39:=zeroValue253
 t45:=underlying351
 a45:=isAgg351
 z45:=sizeOf351
 v45:=zeroValue351
 t46:=underlying352
 a46:=isAgg352
 z46:=sizeOf352
 v46:=zeroValue352
 t50:=underlying356
 a50:=isAgg356
 z50:=sizeOf356
 v50:=zeroValue356
 t53:=underlying250
 a53:=isAgg250
 z53:=sizeOf250
 v53:=zeroValue250
 t55:=underlying296
 a55:=isAgg296
 z55:=sizeOf296
 v55:=zeroValue296
 t66:=underlying382
 a66:=isAgg382
 z66:=sizeOf382
 v66:=zeroValue382
 t70:=underlying386
 a70:=isAgg386
 z70:=sizeOf386
 v70:=zeroValue386
 t76:=underlying403
 a76:=isAgg403
 z76:=sizeOf403
 v76:=zeroValue403
 t77:=underlying404
 a77:=isAgg404
 z77:=sizeOf404
 v77:=zeroValue404}
end Go.Proofs
end
section
open Go Go.Proofs Go.Sx Go.RefP Go.Shelf Go.Sort
namespace Go.Proofs
def N8 (a b:List UInt8):my a b<0↔ltB a b=true:=by
 unfold my
 split
 ·simp[*]
 split<;>simp[*]
def oZ (x y:RefL):ltOf (fun x y:RefL=>my x.name y.name) x y=ltB x.name y.name:=by
 unfold ltOf
 rw[Bool.eq_iff_iff,decide_eq_true_eq,N8]
def QZ:SWO (ltOf fun x y:RefL=>my x.name y.name) where
 irrefl x:=by rw[oZ];exact BF x.name
 trans x y z h1 h2:=by rw[oZ] at*;exact tS h1 h2
 ntrans x y z h1 h2:=by
  rw[oZ] at*
  cases h:ltB x.name z.name
  ·rfl
  by_cases Av:x.name=y.name
  ·rw[Av,h2] at h;cases h
  rw[tS (uc h1 fun e=>Av e) h] at h2
  cases h2
def Im (x:RefL): ∀v∈aI x,v.oneCell'=true:=fun v hv=>List.all_eq_true.1 (uu x) v hv
def Fh {b c:Nat} {l:List RefL} {rest:List Value} {E:TypeId} (w:World) (hb:w.heap[b]? =some (.cells ((l.map aI).flatten++rest).toArray E (0,0))) (e8:l.length<4611686018427387904):
  Rets prog 159 #[vsl b 0 l.length c, .func (.func 160) #[] #[]] w
   (fun v D=> ∃o,D= [(b,o)]∧v= .tuple #[]∧ ∃l':List RefL,l'.Perm l∧l'.Pairwise (fun x y=>ltB y.name x.name=false)∧o= .cells ((l'.map aI).flatten++rest).toArray E (0,0)):=by
 have h:= @K8 RefL ⟨az⟩ aI 33 prog sortRef_ren sortRef isAgg149 sizeOf149 di Im (fun x y=>my x.name y.name) QZ 160 call160 Gz w b c E l rest hb e8
 refine Rets.mono h ?_
 rintro v D ⟨o,rfl,rfl,l',hp,hs,rfl⟩
 exact⟨_,rfl,rfl,l',hp,hs.imp fun{x y} h=>(oZ y x).symm.trans h,rfl⟩
def U0 (p:Option Addr) (c:Nat) (fv:Value) (w:World):Rets prog 159 #[.slice p 0 c,fv] w (fun v D=>v= .tuple #[]∧D= []):=
 @Kx prog sortRef_ren sortRef p c fv w
end Go.Proofs
end
