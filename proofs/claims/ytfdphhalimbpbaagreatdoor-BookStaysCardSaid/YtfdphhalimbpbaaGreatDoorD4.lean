/-
  Part 4 of the walk: contracts of the functions that the law reaches, and the calculus they stand on.
  No conditions.
-/
import Derived.Test.YtfdphhalimbpbaaGreatDoorD3
import Derived.ProofKit
import Derived.OpenShut
import Derived.WideKeyArgs
import Derived.ChangeSame
import Derived.ChangeMaps5
import Derived.Lib.LaidTab
import Derived.SliceStrings
import Derived.DataReads
import Derived.Deep.Strs
set_option maxRecDepth 10000
set_option maxHeartbeats 4000000
set_option linter.unusedSimpArgs false
set_option linter.defProp false
open Go.Proofs.Tryz
section
open Go Go.Proofs Go.Sx Go.RefP
namespace Go.Proofs
theorem y1: ∀ {a b:List RefL},prs a=prs b→a=b
 | [],[],_=>rfl
 | [],_::_,h=>by cases h
 |_::_,[],h=>by cases h
 | ⟨n,i,hi⟩::a,⟨n2,i2,hi2⟩::b,h=>by
  unfold prs at h
  simp only[List.map_cons,List.cons.injEq,Prod.mk.injEq] at h
  obtain⟨⟨rfl,rfl⟩,h⟩:=h
  rw[y1 (show prs a=prs b from h)]
theorem UV: ∀ {a b:aU},Rising a→Rising b→a.Perm b→a=b
 | [],b,_,_,h=>(List.Perm.nil_eq h)
 |x::a,[],_,_,h=>by have:=h.length_eq;simp at this
 |x::a,y::b,ha,hb,h=>by
  have Av:x=y:=by
   rcases List.mem_cons.1 (h.mem_iff.1 (ah (a:=x) (l:=a))) with e|e
   ·exact e
   rcases List.mem_cons.1 (h.mem_iff.2 (ah (a:=y) (l:=b))) with e2|e2
   ·exact e2.symm
   have h1:=(List.pairwise_cons.1 ha).1 y e2
   have h2:=(List.pairwise_cons.1 hb).1 x e
   rw[wa h1] at h2;cases h2
  subst Av
  rw[UV (List.pairwise_cons.1 ha).2 (List.pairwise_cons.1 hb).2 ((List.perm_cons x).1 h)]
def I6 {o l' ls:List RefL} {m:aU} (ho: (prs o).Perm m) (hr:Rel m (prs ls)) (hp:l'.Perm o) (hs:l'.Pairwise (fun x y=>ltB y.name x.name=false)):l'=ls:=by
 have h1: (prs l').Perm (prs ls):=((hp.map _).trans ho).trans hr.1
 refine y1 (UV ?_ hr.2 h1)
 have ay: ((prs l').map Prod.fst).Nodup:=((h1.map Prod.fst).nodup_iff).2 hr.2.nd
 unfold prs at ay ⊢
 rw[List.map_map] at ay
 unfold Rising
 rw[List.pairwise_map]
 have aQ:l'.Pairwise (fun x y=>x.name≠y.name):=List.pairwise_map.1 ay
 refine(hs.and aQ).imp ?_
 rintro x y ⟨ha,hb⟩
 exact uc ha fun e=>hb e.symm
def toR (p:List UInt8×List UInt8):RefL:=⟨p.1,mkId p.2⟩
def Pq {p:List UInt8×List UInt8} (h:p.2.length=32): (toR p).name=p.1∧(toR p).id.l=p.2:=by
 unfold toR;exact⟨rfl,by show(mkId p.2).l=p.2;rw[rX h]⟩
def tp1 (a:Value): (#[a]:Array Value)[0]? =some a:=rfl
def tp3 (a b c:Value): (#[a,b,c]:Array Value)[0]? =some a:=rfl
structure LG where
 v:Value
 o:List RefL
 D:aA
 it:Obj
 lf:aU
def fV:=aN (aN (aN (aN @bq @iH) (aN @iG @iF)) (aN (aN @bl @mp) (aN @mn (aN @ig @im)))) (aN (aN (aN @pd @pX) (aN @pW @nb)) (aN (aN @jK @tup2_0) (aN @tup2_1 (aN @tp1 @tp3))))
def LQ (b:Nat) (om:Obj) (m:aU) (ls:List RefL) (w:World) (ho:w.heap[b]? =some om) (hm:MapR om m) (hr:Rel m (prs ls)) (aR:ls.length<1000):
  Rets prog 90 #[vm b] w (XS w [] (fun v D=>GrI D 149 33 v ls.length (ls.map aI).flatten)):=by
 have fD:=(Array.getElem?_eq_some_iff.1 ho).1
 have jb:m.length=ls.length:=by rw[hr.1.length_eq,g9]
 have S9: ∀p,p∈m→p.2.length=32:=fun p hp=>by
  have h1:=(hr.1.mem_iff).1 hp
  unfold prs at h1
  obtain⟨r,-,rfl⟩:=List.mem_map.1 h1
  exact r.id.h
 have zrId:bL prog 24=some (.agg (a8 (List.replicate 32 0))):=zr24
 rw[show(List.replicate 32 (0:UInt8))=z32 from rfl] at zrId
 refine Rets.enterX func90 rfl (rs:= [.tmp 2]) results90 ntmps90 (fun p hp=>by cases hp) (by simp[keys]) ?_
 refine kf ?_
 refine ky @fV ?_
 refine Ow.rangeMap rfl rfl underlying162 rfl ho hm fun bi oi u9 jG hI=> ?_
 refine ko @fV ?_
 refine ky @fV ?_
 refine Cw.loopG (G:=LG) [8,9,10,11,12,5,4,13,14,15,16,17,18,3] (fun g=> [(3,g.v)]) (fun g=>(bi,g.it)::g.D) (fun g=>New (bi+1) g.D∧Gr g.D 149 33 g.v g.o.length (g.o.map aI).flatten∧ItR g.it b om m (prs g.o) g.lf∧g.o.length+g.lf.length=m.length) (fun g=>g.lf.length) ⟨.slice none 0 0,[],[],oi,m⟩ rfl rfl ?_ ?_
 ·exact⟨trivial,Gr.nl,hI,by simp⟩
 intro g j hg
 refine kv ?_
 obtain⟨v,o,D,it,lf⟩:=g
 simp only at hg ⊢
 obtain⟨kg,i4,hI,Zt⟩:=hg
 have Yg:b∉keys D:=kg.not oM
 have rdm: ∀x,aS w ((bi,x)::D) b=some om:=fun x=>by
  rw[BD _ _ _ _ _ oM,lA Yg];exact ho
 refine ky @fV ?_
 refine Ow.nextMap rfl rfl rfl (er _ _ _) (rdm _) hI (fun gS=> ?_) (fun p it' lf' mS iO=> ?_)
 ·subst gS
  have Zu: (prs o).Perm m:=by
   obtain⟨es,clock,ds,-,-,-,-,-,-,gm⟩:=hI
   rw[List.append_nil] at gm;exact gm
  have AZ:o.length=ls.length:=by simp at Zt;omega
  have qj:o.length=0→o= []∧ls= []:=fun h=>⟨List.length_eq_zero_iff.1 h,List.length_eq_zero_iff.1 oM⟩
  refine ko @fV ?_
  refine ky @fV ?_
  rcases i4 with co| ⟨h0,-,b0,rfl,cJ⟩
  ·generalize eS: (o.map aI).flatten=cs at co
   generalize hn:o.length=n at co
   cases co with
   |nl=>
    refine Ow.callFV rfl call159 (fun w' aB=>U0 none 0 _ w') ?_
    refine ko @fV ?_
    refine ky @fV ?_
    refine⟨_,(ke @fV), ?_⟩
    obtain⟨-,rfl⟩:=qj hn
    exact⟨Ext.of_new ⟨jG,kg.mono oM⟩,(Gr.nl (L:= [])).i fun q hq=>by cases hq⟩
   | @at_ b0 _ c _ rest hl h1 h2 h3 h4=>
    subst hn
    subst eS
    have AF:bi+1≤b0:=kg.le _ (bX hl)
    refine Ow.callE rfl rfl call159 (aq _ (bX hl)) (fun w' aB=>Fh (c:=c) w' (aB.has _ _ (aq _ (cQ hl))) oM) (fun v1 o1 hS=> ?_)
    obtain⟨rfl,l',hp,hs,rfl⟩:=hS
    obtain rfl:=I6 Zu hr hp hs
    refine kn ?_
    refine ko @fV ?_
    refine ky @fV ?_
    refine⟨_,(ke @fV), ?_⟩
    refine⟨Ext.of_new ⟨jG,New.of_le fun q hq=>by rw[ni] at hq;have:=kg.le q hq;omega⟩, ?_⟩
    refine Gr.i (X:=setB D b0 (.cells ((l'.map aI).flatten++rest).toArray 149 (0,0))) (.inl ?_) fun q hq=>aq _ hq
    show Buf _ 149 33 (vsl b0 0 o.length c) l'.length _
    rw[AZ]
    refine Buf.at_ (iI hl) ?_ ?_ oM h4
    ·rw[ET di]
    rw[h2,AZ]
  obtain⟨rfl,rfl⟩:=qj h0
  refine Ow.callFV rfl call159 (fun w' aB=>U0 (some ⟨b0,0,none⟩) 0 _ w') ?_
  refine ko @fV ?_
  refine ky @fV ?_
  refine⟨_,(ke @fV), ?_⟩
  exact⟨Ext.of_new ⟨jG,kg.mono oM⟩,Gr.i (X:=D) (.inr ⟨rfl,rfl,b0,rfl,cJ⟩) fun q hq=>aq _ hq⟩
 refine kn ?_
 refine ko @fV ?_
 refine ky @fV ?_
 refine Ow.entryMap rfl rfl rfl (mo _ _ _ _) (rdm _) iO ?_
 refine ko @fV ?_
 refine ky @fV ?_
 refine Ow.alloc rfl rfl zrId fun b5 iq fJ=> ?_
 simp only[bI,List.nil_append,List.cons_append]
 have S_:p.2.length=32:=by
  obtain⟨es,clock,ds,-,-,-,-,-,-,gm⟩:=iO
  exact S9 p ((gm.mem_iff).1 (by simp))
 obtain⟨jc,R'⟩:=Pq S_
 have TY:bi<b5:=ae iq (by simp[keys])
 have hD5:b5∉keys D:=fun h=>by have:=ae iq (b:=b5) (by simp[keys] at h ⊢;simp[h]);omega
 have W1:prs (o++ [toR p])=prs o++ [p]:=by
  unfold prs
  rw[List.map_append,List.map_cons,List.map_nil]
  show _++ [((toR p).name,(toR p).id.l)]=_
  rw[jc,R']
 rw[←jc,←R']
 rw[←W1] at iO
 clear W1 jc R'
 refine Ow.permL (M:=(bi,it'):: (b5,Obj.cells (a8 z32) 24 (0,0))::D) pM ?_
 have nN:=(toR p).id.h
 have bH:bM (some (true,32)) (some (.cells (a8 z32) 24 (0,0))) 0 (.agg (a8 (toR p).id.l))=some (.cells (a8 (toR p).id.l) 24 (0,0)):=UC 32 true _ _ _ ⟨nN,by simp[a8,z32]⟩
 have jY:=IU (toR p).id.l 24 nN
 refine ko (aN @fV @bH) ?_
 refine ky (aN @fV @jY) ?_
 refine Ow.build _ rfl (Ee (toR p).name (toR p).id) ?_
 refine ko @fV ?_
 refine ky @fV ?_
 generalize toR p=r at*
 refine Ow.buildSlice (e:=149) (aI r).toArray rfl rfl (ur r) fun b9 nJ hwb9=> ?_
 have hxb9:bi<b9:=ae nJ (by simp[keys])
 refine Ow.permL (M:=D++ ((bi,it'):: (b5,Obj.cells (a8 r.id.l) 24 (0,0)):: [(b9,Obj.cells (aI r).toArray 149 (0,0))])) pM ?_
 refine Ow.appendX (e:=149) (k:=1) (new:=aI r) (X:=D) v rfl rfl rfl rfl underlying71 ag149 kR lJ (by rw[ig,List.size_toArray,di]) underlying71 (by intro k h;cases h) i4 (fun w' aB=>AppX.one1 (aB.has b9 (.cells (aI r).toArray 149 (0,0)) (by simp)) (di r) (uu r)) oM oM (fun B3 v3 D3 e_ jA zt Zc SF Zh=> ?_)
 have hxB3:bi<B3:=ae e_ (by simp[aZ,keys])
 have oy:New (bi+1) D3:=New.of_le fun q hq=>by
  rcases SF q hq with h|h
  ·exact kg.le q h
  omega
 refine Ow.permL (M:=(bi,it'):: (D3++ [(b5,Obj.cells (a8 r.id.l) 24 (0,0)),(b9,Obj.cells (aI r).toArray 149 (0,0))])) pM ?_
 have RE:Gr (D3++ [(b5,Obj.cells (a8 r.id.l) 24 (0,0)),(b9,Obj.cells (aI r).toArray 149 (0,0))]) 149 33 v3 _ _:=Gr.app (.inl zt)
 have RR:New (bi+1) (D3++ [(b5,Obj.cells (a8 r.id.l) 24 (0,0)),(b9,Obj.cells (aI r).toArray 149 (0,0))]):=oy.app ⟨by omega,by omega,trivial⟩
 generalize D3++ [(b5,Obj.cells (a8 r.id.l) 24 (0,0)),(b9,Obj.cells (aI r).toArray 149 (0,0))]=E3 at*
 refine ko @fV ?_
 refine ky @fV ?_
 refine Again.mk (LG.mk v3 (o++ [r]) E3 it' lf') (by show lf'.length<lf.length;omega) ⟨RR, ?_,iO,by show(o++ [r]).length+lf'.length=m.length;simp;omega⟩ rfl rfl
 show Gr E3 149 33 v3 (o++ [r]).length ((o++ [r]).map aI).flatten
 simpa using RE
def tq {t l:List RefL} {k:Nat} {ls:List RefL} (h:fj t l k=some ls):t.length≤16∧l.length≤100∧rK t=true∧ey l t k=some ls:=by
 unfold fj at h
 split at h
 ·rename_i hc;exact⟨hc.1,hc.2.1,hc.2.2,h⟩
 cases h
theorem xR {l t:List RefL} (ht:t.length≤16): ∀ (k:Nat) (ls:List RefL),ey l t k=some ls→ls.length≤16
 |0,ls,h=>by
  unfold ey at h
  cases h;exact ht
 |k+1,ls,h=>by
  unfold ey at h
  cases hm:ey l t k with
  |none=>rw[hm] at h;cases h
  |some m=>
   rw[hm,Option.bind_some] at h
   split at h
   ·rename_i hc
    cases h
    simp only[Bool.and_eq_true,decide_eq_true_eq] at hc
    exact hc.2
   cases h
def ri {t l:List RefL} (h:al t l=true) {k:Nat} (hk:k≤l.length):
  ∃m ls,ofM bU z32 (prs t) (prs l) k=some m∧fj t l k=some ls∧Rel m (prs ls)∧ls.length≤16∧l.length≤100:=by
 rw[←Du] at h
 cases hv:fj t l l.length with
 |none=>rw[hv] at h;cases h
 |some le=>
  obtain⟨h1,h2,h3,h4⟩:=tq hv
  cases hg:ey l t k with
  |none=>rw[LL hg _ hk] at h4;cases h4
  |some ls=>
   have WE:fj t l k=some ls:=by unfold fj;rw[if_pos ⟨h1,h2,h3⟩];exact hg
   have hp:=xS t l k hk
   rw[WE] at hp
   rcases yX bU z32 (prs t) (prs l) (by rw[g9];exact h2) k with⟨-,hn⟩ | ⟨m,d,hm,hd,hr⟩
   ·rw[hn] at hp;cases hp
   rw[hd] at hp
   cases hp
   exact⟨m,ls,hm,WE,hr,xR h1 k ls hg,h2⟩
def dN (n:Nat) (keep:Int):Nat:=((n:Int) - max 0 (min keep n)).toNat
def Ba (n:Nat) (keep:Int):dN n keep≤n:=by unfold dN;omega
def N5 (n:Nat) (keep:Int): (n:Int) - max 0 (min keep n)=(dN n keep:Nat):=by unfold dN;omega
def Q0 (n keep:Int): (if(if n<keep then n else keep)>0 then(if n<keep then n else keep) else 0)=max 0 (min keep n):=by
 split<;>split<;>omega
def m5 (t l:List RefL) (keep:Int) (v:Value) (D:aA):Prop:=
 if al t l=true then∃vt vl ls,fj t l (dN l.length keep)=some ls∧v= .tuple #[.agg #[vt,vl],vi 0]∧GrI D 149 33 vt ls.length (ls.map aI).flatten∧GrI D 149 33 vl (l.drop (dN l.length keep)).length ((l.drop (dN l.length keep)).map aI).flatten
 else v= .tuple #[.agg #[.slice none 0 0, .slice none 0 0],vi 1]
def fg:=aN (aN (aN (aN @bq @iH) (aN @iG @iF)) (aN (aN @bl @mp) (aN @mn @ig))) (aN (aN (aN @im @pd) (aN @pX @pW)) (aN (aN @nb @jK) (aN @tup2_0 (aN @tup2_1 @En))))
def vZ (vt vl:Value) (t l:List RefL) (keep:Int) (w:World) (ht:fB w vt t) (hl:fB w vl l) (cp:t.length<1000) (eI:l.length<1000) (ci:gM t) (bC:gM l):
  Rets prog 46 #[.agg #[vt,vl],vi keep] w (XS w [] (m5 t l keep)):=by
 refine Rets.enterX func46 rfl (rs:= [.cell 4 73, .tmp 5]) results46 ntmps46 (fun p hp=>by cases hp) (by simp[keys]) ?_
 refine kf ?_
 refine kz [5] @fg ?_
 refine Ow.box rfl rfl fun bx gg bR=> ?_
 simp only[df,dC,dW,bI,List.nil_append,List.cons_append]
 refine Ow.go rfl ?_
 simp(disch:=first|exact dD|fail) only[↓Sx.S0,Sx.S1,fx,fg,Nat.reduceAdd,Nat.reducePow,Int.reducePow,Nat.reduceBEq, ↓reduceIte,UInt8.reduceToNat,UInt16.reduceToNat,UInt32.reduceToNat,UInt64.reduceToNat,Int.reduceToNat]
 refine Ow.alloc rfl rfl zrBk fun br dy g6=> ?_
 simp only[bI,List.nil_append,List.cons_append]
 obtain⟨hxr,-⟩:=dy
 refine ko @fg ?_
 refine ky @fg ?_
 refine Ow.callFV rfl call88 (fun w' aB=>uU vt vl t l w' (ht.oldN aB ⟨bR,g6,trivial⟩) (hl.oldN aB ⟨bR,g6,trivial⟩) oM oM ci bC) ?_
 cases hr:al t l
 ·refine ko @fg ?_
  refine ky @fg ?_
  refine Ow.build (.agg #[.slice none 0 0, .slice none 0 0]) rfl kR ?_
  refine ko @fg ?_
  refine ky @fg ?_
  refine⟨_,(ke @fg), ?_⟩
  refine⟨Ext.of_new ⟨bR,g6,trivial⟩, ?_⟩
  unfold m5
  rw[if_neg (by rw[hr];simp)]
  rfl
 refine ko @fg ?_
 ((try with_reducible refine Cw.go [] ?_);(try simp(disch:=first|exact dD|fail) only[↓Sx.S0,Sx.S1,fx,fg,Nat.reduceAdd,Nat.reducePow,Int.reducePow,Nat.reduceBEq, ↓reduceIte,UInt8.reduceToNat,UInt16.reduceToNat,UInt32.reduceToNat,UInt64.reduceToNat,Int.reduceToNat,hl.len]))
 refine Ow.minI rfl rfl rfl ?_
 refine ko @fg ?_
 refine Ow.maxI (a:=0) rfl rfl rfl ?_
 rw[Q0]
 refine ko @fg ?_
 have hk:=Ba l.length keep
 obtain⟨m,ls,hm,hv,tB,sm,qR⟩:=ri hr hk
 rw[N5]
 refine ky (aN @fg @jK) ?_
 refine Ow.callN rfl rfl call89 (S:=(fun B v D=>OfSRf B t l (dN l.length keep) v D)) (fun w' aB=>rR vt vl t l (dN l.length keep) w' (ht.oldN aB ⟨bR,g6,trivial⟩) (hl.oldN aB ⟨bR,g6,trivial⟩) oM oM hk ci bC) (fun B v D h=>h.new) (fun B v D hA hB hS=> ?_)
 unfold OfSRf at hS
 rw[hm] at hS
 obtain⟨bm,om,rfl,rfl,kw,VR⟩:=hS
 have hxm:bx<bm:=Nat.lt_of_lt_of_le (ae hA (by simp[keys])) VR
 have pO:br<bm:=Nat.lt_of_lt_of_le (ae hA (by simp[keys])) VR
 generalize Cp:dN l.length keep=k at*
 refine ko @fg ?_
 refine ky @fg ?_
 obtain⟨vd,WD,jY,-⟩:=SlV.dropE hl hk true
 refine Cw.regionS [bx] [0,2,4,3,5,1,6,7,8,9] [8] kR kR kR ?_
 simp only[cR, ↓cS, ↓bz, ↓cG, ↓cH,b_]
 refine Ow.goQ ?_
 simp(disch:=first|exact dD|fail) only[↓Sx.S0,Sx.S1,fx,fg,Nat.reduceAdd,Nat.reducePow,Int.reducePow,Nat.reduceBEq, ↓reduceIte,UInt8.reduceToNat,UInt16.reduceToNat,UInt32.reduceToNat,UInt64.reduceToNat,Int.reduceToNat,ix71,WD]
 refine Ow.soft rfl rfl rfl ?_
 refine Ow.callC rfl rfl call90 (fun w' aB=>LQ bm om m ls w' (aB.has _ _ (by simp)) kw tB oM) (fun B1 v1 D1 eR dv dT d8=> ?_)
 have pE:bm<B1:=ae eR (by simp[keys])
 have hx1:bx<B1:=ae eR (by simp[keys])
 have k7:br<B1:=ae eR (by simp[keys])
 have uG:New (w.heap.size) D1:=dT.mono oM
 with_reducible refine Ow.nil ?_
 refine⟨by intro b hb;simp only[List.mem_cons,List.not_mem_nil,or_false] at hb;(try subst hb);simp only[List.cons_append,mo], ?_⟩
 refine Ow.goQ ?_
 simp(disch:=first|exact dD|fail) only[↓Sx.S0,Sx.S1,fx,fg,Nat.reduceAdd,Nat.reducePow,Int.reducePow,Nat.reduceBEq, ↓reduceIte,UInt8.reduceToNat,UInt16.reduceToNat,UInt32.reduceToNat,UInt64.reduceToNat,Int.reduceToNat,ix71,WD]
 refine Ow.soft rfl rfl rfl ?_
 have iv: (l.drop k).length<1000:=by rw[List.length_drop];omega
 refine Ow.callC rfl rfl call81 (fun w' aB=>pf vd (l.drop k) w' (SlV.oldN jY aB ⟨bR,g6,by omega,uG⟩) oM) (fun B2 v2 D2 cU cX d7 an=> ?_)
 have j':New (w.heap.size) D2:=d7.mono oM
 with_reducible refine Ow.nil ?_
 refine⟨by intro b hb;simp only[List.mem_cons,List.not_mem_nil,or_false] at hb;(try subst hb);simp only[List.cons_append,mo], ?_⟩
 refine kq @fg ?_
 have cV:=tf d8
 have d9:=an.cell
 refine Ow.build (.agg #[v1,v2]) rfl (Bd v1 v2 cV.2 d9.2) ?_
 refine kq @fg ?_
 have bH:=ta (.slice none 0 0) (.slice none 0 0) v1 v2 73 cV.1 d9.1
 refine Ow.store rfl rfl rfl (ke (aN @fg @bH)) ?_
 refine kq @fg ?_
 try with_reducible refine Ow.nil ?_
 refine ky @fg ?_
 refine⟨_,(ke @fg), ?_⟩
 refine⟨Ext.of_new ⟨bR,g6,by omega,uG.app j'⟩, ?_⟩
 unfold m5
 rw[if_pos hr,Cp]
 refine⟨v1,v2,ls,hv,rfl,d8.mono fun q hq=> ?_,an.i fun q hq=> ?_⟩
 ·simp[hq]
 simp[hq]
end Go.Proofs
end
section
open Go Go.Proofs Go.Sx Go.StP Go.RefP
namespace Go.Proofs
def li (t l:List RefL):List UInt8:=if al t l=true then aO t l else []
def ew (S:DiskL) (B:BkL) (keep:Int):Nat×DiskL×BkL:=
 if al B.t B.l=true then match fj B.t B.l (dN B.l.length keep) with
  |some ls=>if(au S aJ aH (li ls (B.l.drop (dN B.l.length keep))) false).1≠0 then((au S aJ aH (li ls (B.l.drop (dN B.l.length keep))) false).1,(au S aJ aH (li ls (B.l.drop (dN B.l.length keep))) false).2,B)
   else(0,(au S aJ aH (li ls (B.l.drop (dN B.l.length keep))) false).2,⟨ls,B.l.drop (dN B.l.length keep),(B.l.drop (dN B.l.length keep)).length⟩)
  |none=>(1,S,B)
 else(1,S,B)
def Gs (vt vl:Value) (t l:List RefL) (w:World) (hC:GlobC w) (ht:fB w vt t) (hl:fB w vl l) (cp:t.length<1000) (eI:l.length<1000) (ci:SmallN t) (bC:SmallN l):
  Rets prog 86 #[.agg #[vt,vl]] w (fun v D=>v= .tuple #[vs (li t l),vi (if al t l=true then 0 else 1)]∧D= []):=by
 refine Calls.mono (Ul vt vl t l w hC ht hl cp eI ci bC) ?_
 rintro e w' ⟨v,D,he,hp,hv,hD⟩
 refine⟨v,D,he,hp, ?_,hD⟩
 rw[hv]
 unfold li
 by_cases h:al t l=true
 ·rw[if_pos h,if_pos h,if_pos h]
 rw[if_neg h,if_neg h,if_neg h]
def BR {l:List RefL} (h: ∀r,r∈l→r.name.length<1000):SmallN l:=fun _g hg=>h _ (StP.getD_mem hg)
def SmallN.mem {l:List RefL} (h:SmallN l) {r:RefL} (hr:r∈l):r.name.length<1000:=by
 obtain⟨k,hk,rfl⟩:=StP.mem_getD (z:=az) hr
 exact h k hk
theorem CQ {x r:RefL}: ∀ {l:List RefL} {dn:Bool},r∈lK x l dn→r=x∨r∈l
 | [],dn,h=>by
  unfold lK at h
  cases dn
  ·exact .inl (List.mem_singleton.1 h)
  cases h
 |p::l,dn,h=>by
  unfold lK at h
  split at h
  ·exact(CQ h).imp id (aq _)
  split at h
  ·rcases List.mem_cons.1 h with h|h
   ·exact .inl h
   rcases List.mem_cons.1 h with h|h
   ·exact .inr (h▸ah)
   exact(CQ h).imp id (aq _)
  rcases List.mem_cons.1 h with h|h
  ·exact .inr (h▸ah)
  exact(CQ h).imp id (aq _)
theorem x9 {l t:List RefL}: ∀ {k:Nat} {ls:List RefL},k≤l.length→ey l t k=some ls→ ∀r,r∈ls→r∈t∨r∈l
 |0,ls,_,h,r,hr=>by
  unfold ey at h
  cases h;exact .inl hr
 |k+1,ls,hk,h,r,hr=>by
  unfold ey at h
  cases hm:ey l t k with
  |none=>rw[hm] at h;cases h
  |some m=>
   rw[hm,Option.bind_some] at h
   split at h
   ·cases h
    rcases CQ hr with h|h
    ·exact .inr (h▸StP.getD_mem oM)
    exact x9 oM hm r h
   cases h
def EC {t l:List RefL} {k:Nat} {ls:List RefL} (hk:k≤l.length) (h:fj t l k=some ls) (ht:SmallN t) (hl:SmallN l):SmallN ls∧ls.length≤16:=by
 obtain⟨h1,h2,h3,h4⟩:=tq h
 exact⟨BR fun r hr=>(x9 hk h4 r hr).elim ht.mem hl.mem,xR h1 k ls h4⟩
def Tz (l:List UInt8): (ai l).length≤l.length+100:=by
 have h3:=j9 ((eY l).length:Int)
 have h4:=r8 l
 simp only[ai,dB,List.length_append]
 omega
def pu {t l:List RefL} (ht:t.length≤16) (hl:l.length≤100) (ci:SmallN t) (bC:SmallN l): (aO t l).length≤150000:=by
 have h1:=vS ci t.length (ag _)
 have h2:=EI bC l.length (ag _)
 rw[List.take_length] at h1 h2
 have h3:=Tz (dP t)
 have h4:=j9 (t.length:Int)
 have h5: (dP t).length=1+ (cE (eL t.length)).length+ (eG t).length:=by
  unfold dP;simp only[List.length_append,List.length_cons,List.length_nil]
 unfold aO
 rw[List.length_append]
 omega
def Hx {t l:List RefL} (ht:t.length≤16) (hl:l.length≤100) (ci:SmallN t) (bC:SmallN l): (li t l).length≤150000:=by
 unfold li
 split
 ·exact pu ht hl ci bC
 exact cC _
def gL:=aN (aN (aN @bq (aN @bl @Sx.tup2_0)) (aN (aN @Sx.tup2_1 @tup3_0) (aN @tup3_1 @tup3_2))) (aN (aN (aN @oP @oY) (aN @oK @oR)) (aN (aN @oX @m6) (aN @ua @kW)))
def Uw (bo bd:Nat) (S:DiskL) (N:Nat) (B:BkL) (keep:Int) (X:aA) (w:World) (hX: ∀p,p∈X→w.heap[p.1]? =some p.2) (hn: (keys X).Nodup) (hP:BoP bo bd S N B X) (hN:N<600000) (hC:GlobC w) (qO: (4:Nat)∉keys X)
  (cp:B.t.length<1000) (eI:B.l.length<1000) (ci:SmallN B.t) (bC:SmallN B.l):
  Rets prog 44 #[vp bo 0,vi keep] w (XS w X (fun v D=>v=vi ((ew S B keep).1:Nat)∧BoP bo bd (ew S B keep).2.1 (N+42) (ew S B keep).2.2 D)):=by
 obtain⟨G,vt,vl,D,K,rfl,hA⟩:=hP
 have fZ:Ext w X ((bo,Obj.cells #[vp G.bd 0,vt,vl,vi (B.n:Nat)] 151 (0,0)):: (D++K)):=(Ext.refl w X).perm hA.perm.symm
 refine Rets.enterX func44 rfl (rs:= [.tmp 4]) results44 ntmps44 hX hn ?_
 refine kf ?_
 refine Cw.permL hA.perm.symm ?_
 refine ky @gL ?_
 refine Ow.callC rfl rfl call46 (fun w' aB=>vZ vt vl B.t B.l keep w' (eN hA.t fun b o hm=>aB.has b o (aq _ (dS _ hm))) (eN hA.l fun b o hm=>aB.has b o (aq _ (dS _ hm))) cp eI ci.short bC.short) (fun B1 v1 D1 eR dv dT d8=> ?_)
 have kc:=dT.mono dv
 have bN:=ji fZ kc
 unfold m5 at d8
 unfold ew
 by_cases hr:al B.t B.l=true
 ·rw[if_pos hr] at d8 ⊢
  obtain⟨va,vb,ls,bJ,rfl,km,jX⟩:=d8
  rw[bJ]
  simp only
  have e0: ((0:Int) !=0)=false:=rfl
  have lT:=Ba B.l.length keep
  obtain⟨cA,SP⟩:=EC lT bJ ci bC
  have W5:SmallN (B.l.drop (dN B.l.length keep)):=BR fun r hr=>bC.mem (List.mem_of_mem_drop hr)
  have qR:=(tq bJ).2.1
  have iv: (B.l.drop (dN B.l.length keep)).length≤100:=by rw[List.length_drop];omega
  have fD:=Hx SP iv cA W5
  generalize B.l.drop (dN B.l.length keep)=dl at*
  have stz:=mh (.slice none 0 0) (.slice none 0 0) va vb 73 (iZ km).1 (iZ jX).1
  refine ko @gL ?_
  refine Ow.alloc rfl rfl nC fun b5 iq fJ=> ?_
  simp only[bI,List.nil_append,List.cons_append]
  have Rc:bo<b5:=ae iq (by simp[keys])
  refine Ow.permL (M:=(b5, .cells #[.slice none 0 0, .slice none 0 0] 73 (0,0)):: (bo, .cells #[vp G.bd 0,vt,vl,vi (B.n:Nat)] 151 (0,0)):: (D++ (K++D1))) pM ?_
  have gc:Ext w X ((b5, .cells #[va,vb] 73 (0,0)):: (bo, .cells #[vp G.bd 0,vt,vl,vi (B.n:Nat)] 151 (0,0)):: (D++ (K++D1))):=(ji bN (E:= [(b5,Obj.cells #[va,vb] 73 (0,0))]) ⟨fJ,trivial⟩).perm pM
  refine ko (aN @gL @stz) ?_
  refine ky (aN @gL (aN @e0 @stz)) ?_
  refine Ow.callFV rfl call86 (fun w' aB=>Gs va vb ls dl w' (mv hC gc aB qO) (eN km fun b o hm=>aB.has b o (by simp[hm])) (eN jX fun b o hm=>aB.has b o (by simp[hm])) oM oM cA W5) ?_
  refine ko @gL ?_
  refine ky @gL ?_
  have s_: ((b5,Obj.cells #[va,vb] 73 (0,0)):: (bo, .cells #[vp G.bd 0,vt,vl,vi (B.n:Nat)] 151 (0,0)):: (D++ (K++D1))).Perm (D++ ((bo, .cells #[vp G.bd 0,vt,vl,vi (B.n:Nat)] 151 (0,0)):: (b5, .cells #[va,vb] 73 (0,0)):: (K++D1))):=pM
  refine Ow.permL s_.symm ?_
  refine Ow.callX (X:=D) (Y:=(bo, .cells #[vp G.bd 0,vt,vl,vi (B.n:Nat)] 151 (0,0)):: (b5, .cells #[va,vb] 73 (0,0)):: (K++D1)) rfl rfl rfl call87 (fun w' aB ab aX=>EF D G S N aJ aH (li ls dl) w' ab aX hA.D oM (by decide) oM) (fun v7 D7 lL gE=> ?_)
  have ip:=(gc.perm s_.symm).came lL
  have uH: (D7++ ((bo,Obj.cells #[vp G.bd 0,vt,vl,vi (B.n:Nat)] 151 (0,0)):: (b5, .cells #[va,vb] 73 (0,0)):: (K++D1))).Perm ((bo, .cells #[vp G.bd 0,vt,vl,vi (B.n:Nat)] 151 (0,0)):: (b5, .cells #[va,vb] 73 (0,0)):: (D7++ (K++D1))):=pM
  have jU:=ip.perm uH.symm
  generalize au S aJ aH (li ls dl) false=q at*
  obtain⟨qe,qs⟩:=q
  obtain⟨rfl,G7,gf,kZ⟩:=gE
  rw[←gf] at jU uH ⊢
  have iX:=kV qe
  refine Ow.permL (uH.symm) ?_
  simp only at kZ ⊢
  by_cases h0:qe=0
  ·rw[if_neg (show¬qe≠0 by simpa using h0)]
   rw[i1 (by simpa using h0)] at iX
   have lnb:=tz jX
   have sb1:=zA (vp G7.bd 0) vt vl (vi (B.n:Nat)) va vb 151 (iZ km).1 (iZ jX).1
   have sb2:=m6 (vp G7.bd 0) va vb (vi (B.n:Nat)) (dl.length:Nat) 151
   refine ko (aN @gL @iX) ?_
   refine ky (aN @gL @iX) ?_
   refine Cw.regionG [b5] [11] 12 kR rfl ?_
   simp only[List.replicate_succ,List.replicate_zero]
   refine OwG.run [0,1,2,3,4,5,6,7] [true,true,true,true,true,true,true,true,false,false,false,false] 4 rfl kR kR fun k hk=> ?_
   simp only[cR, ↓cS, ↓bz, ↓cG, ↓cH,b_]
   simp(disch:=first|exact dD|fail) only[↓Sx.S0,Sx.S1,fx,gL,Nat.reduceAdd,Nat.reducePow,Int.reducePow,Nat.reduceBEq, ↓reduceIte,UInt8.reduceToNat,UInt16.reduceToNat,UInt32.reduceToNat,UInt64.reduceToNat,Int.reduceToNat,Md.next_sofnil,lnb,ua,nb]
   (with_reducible refine hk _ _ _ ?_);clear hk k
   refine OwG.one 8 _ kR rfl ?_
   refine ko (aN @gL @sb1) ?_
   have r5: ∀o,aS w ((bo,o):: (b5, .cells #[va,vb] 73 (0,0)):: (D7++ (K++D1))) b5=some (.cells #[va,vb] 73 (0,0)):=fun o=>by rw[BD _ _ _ _ _ oM];exact mo _ _ _ _
   refine⟨fun r hr=>by rw[List.mem_singleton.1 hr];exact(r5 _).trans (r5 _).symm, ?_⟩
   simp only[List.set_cons_zero,List.set_cons_succ]
   refine OwG.rest [9,10,11] rfl kR kR ?_
   simp only[cR, ↓cS, ↓bz, ↓cG, ↓cH,b_]
   refine kq @gL ?_
   refine Ow.store rfl rfl rfl (ke (aN @gL @sb2)) ?_
   refine ko @gL ?_
   refine ky @gL ?_
   refine⟨_,(ke @gL), ?_⟩
   have jz:Ext w X ((bo, .cells #[vp G7.bd 0,va,vb,vi (dl.length:Nat)] 151 (0,0)):: (b5, .cells #[va,vb] 73 (0,0)):: (D7++ (K++D1))):=jU.keys rfl
   exact⟨jz,rfl,G7,va,vb,D7,(b5, .cells #[va,vb] 73 (0,0)):: (K++D1),rfl,⟨pM,kZ,km.mono fun p hp=>aq _ (dS _ hp),jX.mono fun p hp=>aq _ (dS _ hp)⟩⟩
  rw[if_pos h0]
  rw[dR h0] at iX
  refine ko (aN @gL @iX) ?_
  refine ky (aN @gL @iX) ?_
  refine⟨_,(ke @gL), ?_⟩
  exact⟨jU,rfl,G7,vt,vl,D7,(b5, .cells #[va,vb] 73 (0,0)):: (K++D1),rfl,⟨pM,kZ,hA.t.mono fun p hp=>aq _ (bQ _ hp),hA.l.mono fun p hp=>aq _ (bQ _ hp)⟩⟩
 rw[if_neg hr] at d8 ⊢
 subst d8
 have e1: ((1:Int) !=0)=true:=rfl
 have stz:=mh (.slice none 0 0) (.slice none 0 0) (.slice none 0 0) (.slice none 0 0) 73 rfl rfl
 refine ko @gL ?_
 refine Ow.alloc rfl rfl nC fun b5 iq fJ=> ?_
 simp only[bI,List.nil_append,List.cons_append]
 have Rc:bo<b5:=ae iq (by simp[keys])
 refine Ow.permL (M:=(b5, .cells #[.slice none 0 0, .slice none 0 0] 73 (0,0)):: (bo, .cells #[vp G.bd 0,vt,vl,vi (B.n:Nat)] 151 (0,0)):: (D++ (K++D1))) pM ?_
 have gc:Ext w X ((b5, .cells #[.slice none 0 0, .slice none 0 0] 73 (0,0)):: (bo, .cells #[vp G.bd 0,vt,vl,vi (B.n:Nat)] 151 (0,0)):: (D++ (K++D1))):=(ji bN (E:= [(b5,Obj.cells #[.slice none 0 0, .slice none 0 0] 73 (0,0))]) ⟨fJ,trivial⟩).perm pM
 refine ko (aN @gL @stz) ?_
 refine ky (aN @gL (aN @e1 @stz)) ?_
 refine⟨_,(ke @gL), ?_⟩
 exact⟨gc,rfl,G,vt,vl,D,(b5, .cells #[.slice none 0 0, .slice none 0 0] 73 (0,0)):: (K++D1),rfl,⟨pM,hA.D.le oM,hA.t.mono fun p hp=>aq _ (bQ _ hp),hA.l.mono fun p hp=>aq _ (bQ _ hp)⟩⟩
theorem Ug (most:Int): ∀ (l:List UInt8) (k a:Nat) {n q:Nat},cB most l k a= .ok (n,q)→ ∀m,q≤k+m→cB most (l.take m) k a= .ok (n,q)
 | [],k,a,n,q,h,m,hm=>by
  unfold cB at h;cases h
 |x::l,k,a,n,q,h,m,hm=>by
  have aG:=(vR most (x::l) k a n q h).1
  obtain⟨m,rfl⟩: ∃m',m=m'+1:=⟨m - 1,by omega⟩
  rw[List.take_succ_cons]
  unfold cB at h ⊢
  by_cases h1:128≤x.toNat
  ·rw[if_pos h1] at h ⊢
   by_cases h2:k+1=6
   ·rw[if_pos h2] at h;cases h
   rw[if_neg h2] at h ⊢
   exact Ug most l (k+1) _ h m oM
  rw[if_neg h1] at h ⊢
  exact h
theorem vY (most:Int): ∀ (l:List UInt8) (k a:Nat) {x:Nat},cB most l k a= .error x→0<x
 | [],k,a,x,h=>by
  unfold cB at h;cases h;decide
 |c::l,k,a,x,h=>by
  unfold cB at h
  split at h
  ·split at h
   ·cases h;decide
   exact vY most l _ _ h
  split at h
  ·cases h;decide
  split at h
  ·cases h
  cases h;decide
def Kp {s:List UInt8} {a:Nat} {most:Int} (h: (aV s a 0 most).2.2=0):a< (aV s a 0 most).2.1∧(aV s a 0 most).2.1≤s.length∧ ∀m,(aV s a 0 most).2.1≤m→aV (s.take m) a 0 most=aV s a 0 most:=by
 cases hg:cB most (s.drop a) 0 0 with
 |error x=>
  rw[tY rfl hg] at h
  have hx: (x:Int)=0:=h
  exfalso
  have:=vY most (s.drop a) 0 0 hg
  omega
 |ok p=>
  obtain⟨n,k⟩:=p
  rw[vH rfl hg]
  obtain⟨h1,h2⟩:=vR most _ _ _ _ _ hg
  rw[List.length_drop] at h2
  refine⟨by show a<a+k;omega,by show a+k≤s.length;omega,fun m hm=> ?_⟩
  have hm:a+k≤m:=hm
  refine vH rfl ?_
  rw[List.drop_take]
  exact Ug most _ 0 0 hg (m - a) oM
def Kk {s:List UInt8} {a:Nat} {n:Int} (h: (ck s a 0 n).2.2=0):a≤ (ck s a 0 n).2.1∧(a≤s.length→(ck s a 0 n).2.1≤s.length)∧ ∀m,(ck s a 0 n).2.1≤m→ck (s.take m) a 0 n=ck s a 0 n:=by
 unfold ck at h ⊢
 simp only[ne_eq,not_true_eq_false, ↓reduceIte] at h ⊢
 by_cases h1:n<0
 ·rw[if_pos h1] at h;cases h
 rw[if_neg h1] at h ⊢
 by_cases h2: (s.length:Int) - a<n
 ·rw[if_pos h2] at h;cases h
 rw[if_neg h2]
 refine⟨by show a≤a+n.toNat;omega,fun ha=>by show a+n.toNat≤s.length;omega,fun m hm=> ?_⟩
 have hm:a+n.toNat≤m:=hm
 rw[if_neg h1,if_neg (by rw[List.length_take];omega)]
 simp only[Prod.mk.injEq,and_true]
 rw[List.drop_take,List.take_take,Nat.min_eq_left oM]
def IL {s:List UInt8} {a:Nat} {most:Int} (h: (a_ s a 0 most).2.2=0):a< (a_ s a 0 most).2.1∧(a_ s a 0 most).2.1≤s.length∧ ∀m,(a_ s a 0 most).2.1≤m→a_ (s.take m) a 0 most=a_ s a 0 most:=by
 unfold a_ at h ⊢
 simp only at h ⊢
 by_cases hq: (ck s (aV s a 0 most).2.1 (aV s a 0 most).2.2 (aV s a 0 most).1).2.2≠0
 ·rw[if_pos hq] at h;exact absurd h hq
 rw[if_neg hq]
 have qW: (ck s (aV s a 0 most).2.1 (aV s a 0 most).2.2 (aV s a 0 most).1).2.2=0:=Classical.not_not.1 hq
 have he: (aV s a 0 most).2.2=0:=by
  by_cases he: (aV s a 0 most).2.2=0
  ·exact he
  unfold ck at qW
  rw[if_pos he] at qW
  exact absurd qW he
 obtain⟨n1,n2,n3⟩:=Kp he
 rw[he] at qW ⊢
 obtain⟨r1,r2,r3⟩:=Kk qW
 refine⟨by omega,r2 n2,fun m hm=> ?_⟩
 have e1:=n3 m oM
 have e2:=r3 m hm
 rw[e1,he,e2,if_neg (by rw[qW];simp)]
def wk {s:List UInt8} {a:Nat} {p c:List UInt8} {to:Nat} {e:Int} (h:bS s a 0 p=(some c,to,e)):a<to∧to≤s.length∧e=0∧ ∀m,to≤m→bS (s.take m) a 0 p=bS s a 0 p:=by
 have h0:=h
 unfold bS at h
 simp only[Prod.mk.injEq] at h
 obtain⟨h1,h2⟩:=h
 split at h1
 ·rename_i hc
  obtain⟨t1,t2,t3⟩:=IL hc.2.2
  have ht: (a_ s a 0 65536).2.1=to:=by rw[h2]
  have nV: (a_ s a 0 65536).2.2=e:=by rw[h2]
  rw[ht] at t1 t2 t3
  refine⟨t1,t2,nV.symm.trans hc.2.2,fun m hm=> ?_⟩
  unfold bS
  rw[t3 m hm]
 cases h1
def KZ {s:List UInt8} {t:List RefL} {a:Nat} (h:lI s=some (t,a)):0<a∧a≤s.length∧al t []=true∧ ∀m,a≤m→lI (s.take m)=some (t,a):=by
 have h0:=h
 unfold lI at h
 cases hr:bS s 0 0 [72] with
 |mk o q=>
  obtain⟨to,e⟩:=q
  rw[hr] at h
  cases o with
  |none=>cases h
  |some c=>
   simp only at h
   split at h
   ·rename_i hc
    cases h
    obtain⟨r1,r2,-,r4⟩:=wk hr
    refine⟨r1,r2,hc.2,fun m hm=> ?_⟩
    unfold lI
    rw[r4 m hm,hr]
    simp only
    rw[if_pos hc]
   cases h
def wJ {s:List UInt8} {tb log l2:List RefL} {a a2:Nat} (h:gX s tb log a=some (l2,a2)):a<a2∧a2≤s.length∧al tb l2=true∧ ∀m,a2≤m→gX (s.take m) tb log a=some (l2,a2):=by
 unfold gX at h
 cases hr:bS s a 0 [69] with
 |mk o q=>
  obtain⟨to,e⟩:=q
  rw[hr] at h
  cases o with
  |none=>cases h
  |some c=>
   simp only at h
   split at h
   ·rename_i hc
    cases h
    obtain⟨r1,r2,-,r4⟩:=wk hr
    refine⟨r1,r2,hc.2,fun m hm=> ?_⟩
    unfold gX
    rw[r4 m hm,hr]
    simp only
    rw[if_pos hc]
   cases h
def M6 {s:List UInt8} {tb log:List RefL} {a:Nat} (h:s.length≤a):gX s tb log a=none:=by
 cases hn:gX s tb log a with
 |none=>rfl
 |some p=>
  obtain⟨l2,a2⟩:=p
  obtain⟨h1,h2,-⟩:=wJ hn
  omega
theorem wh {s:List UInt8} {tb:List RefL}: ∀ (n:Nat) {log l2:List RefL} {a a2:Nat},iJ s tb n log a=(l2,a2)→a≤s.length→al tb log=true→a≤a2∧a2≤s.length∧al tb l2=true∧iJ (s.take a2) tb n log a=(l2,a2)
 |0,log,l2,a,a2,h,ha,hr=>by
  unfold iJ at h ⊢
  cases h
  exact⟨ag _,ha,hr,rfl⟩
 |n+1,log,l2,a,a2,h,ha,hr=>by
  unfold iJ at h
  cases hn:gX s tb log a with
  |none=>
   rw[hn] at h
   cases h
   refine⟨ag _,ha,hr, ?_⟩
   unfold iJ
   rw[M6 (by rw[List.length_take];omega)]
  |some p=>
   obtain⟨l3,a3⟩:=p
   rw[hn] at h
   obtain⟨h1,h2,h3,h4⟩:=wJ hn
   obtain⟨g1,g2,g3,g4⟩:=wh n h h2 h3
   refine⟨by omega,g2,g3, ?_⟩
   unfold iJ
   rw[h4 a2 g1]
   exact g4
def KC {s:List UInt8} {t l:List RefL} {a:Nat} (h:gv s=some (t,l,a)):a≤s.length∧al t l=true∧gv (s.take a)=some (t,l,a):=by
 unfold gv at h
 cases hh:lI s with
 |none=>rw[hh] at h;cases h
 |some q=>
  obtain⟨t1,a1⟩:=q
  rw[hh] at h
  simp only[Option.map_some,Option.some.injEq,Prod.mk.injEq] at h
  obtain⟨rfl,h⟩:=h
  obtain⟨k1,k2,k3,k4⟩:=KZ hh
  obtain⟨g1,g2,g3,g4⟩:=wh 101 h k2 k3
  refine⟨g2,g3, ?_⟩
  unfold gv
  rw[k4 a g1]
  simp only[Option.map_some]
  rw[g4]
end Go.Proofs
end
section
open Go Go.Proofs Go.Sx Go.StP
namespace Go.Proofs
def F3 {l:NmL} {s:List UInt8} (h: ∀p,p∈l→p.1≠s):aL l s=none:=by
 cases hf:aL l s with
 |none=>rfl
 |some n=>exact absurd rfl (h _ (gJ hf))
def WQ (l:NmL) (s:List UInt8):aL (eD l s) s=none:=F3 fun _ hp=>(mem_wipe.1 hp).2
def BZ {l:NmL} (h:SrtN l) (x:List UInt8×Nat):aL (fm l x) x.1=some x.2:=vE (Bw x h).nodup (mem_put.2 (.inl rfl))
def nX {S:DiskL} (hc:dh S) {dir:List UInt8} {k:Nat} (hk:av dir=some k) (names:List (List UInt8)):cF S dir names=if names.all cN=false then 1 else 0:=by
 unfold cF
 rw[hk,hc.1]
 cases names.all cN<;>simp
def ug {S:DiskL} {k:Nat} {x d:List UInt8} (h:aa S k x=some d): ∃n,aL (S.dir k).seen x=some n∧(aF S n).data=d:=by
 unfold aa at h
 cases hf:aL (S.dir k).seen x with
 |none=>rw[hf] at h;cases h
 |some n=>rw[hf] at h;exact⟨n,rfl,Option.some.inj h⟩
def Ko {S:DiskL} {k:Nat} {x:List UInt8} (h:aa S k x=none):aL (S.dir k).seen x=none:=by
 unfold aa at h
 cases hf:aL (S.dir k).seen x with
 |none=>rfl
 |some n=>rw[hf] at h;cases h
def jw {S:DiskL} {dir:List UInt8} {k:Nat} (hk:av dir=some k) (x:List UInt8):atD S dir x=aL (S.dir k).seen x:=by
 unfold atD
 rw[hk];rfl
def rB {S:DiskL} (hc:dh S) {dir:List UInt8} {k:Nat} (hk:av dir=some k) {x:List UInt8} (hf:cN x=true):cj S dir x=match aa S k x with|none=>([],6) |some d=>(d,0):=by
 have h0:cF S dir [x]=0:=by rw[nX hc hk,if_neg (by simp[hf])]
 unfold cj
 rw[if_neg (by rw[h0];simp)]
 have h1: ((av dir).bind fun k=>aL (S.dir k).seen x)=aL (S.dir k).seen x:=by rw[hk];rfl
 rw[h1]
 unfold aa
 cases aL (S.dir k).seen x<;>rfl
def BS {S:DiskL} {dir x:List UInt8} (h:av dir=none∨cN x=false):cj S dir x=([],1):=by
 have h0:cF S dir [x]=1:=by
  unfold cF
  rw[if_pos]
  rcases h with h|h
  ·exact .inl h
  right;simp[h]
 unfold cj
 rw[if_pos (by rw[h0];simp),h0]
section
variable {S:DiskL} {dir x:List UInt8} {k:Nat}
def Tx (hg:GoodS S) (hc:dh S) (hk:av dir=some k) (hf:cN x=true) (hv:aa S k x=none): (cI S dir x).2=0∧aa (cI S dir x).1 k x=some []:=by
 have h0:cF S dir [x]=0:=by rw[nX hc hk,if_neg (by simp[hf])]
 have am:=(cw hk).1
 unfold cI
 rw[if_neg (by rw[h0];simp),jw hk,Ko hv]
 simp only
 rw[pr hc,if_neg (by simp),hk]
 refine⟨rfl, ?_⟩
 show(aL ((cL (eP S d4) k ⟨0,x,[],S.files.length⟩).dir k).seen x).map _=_
 rw[qu,if_pos rfl]
 show(aL (fm (S.dir k).seen (x,S.files.length)) x).map _=_
 rw[BZ (hg.srt k am) (x,S.files.length)]
 show some (aF (eP S d4) S.files.length).data=_
 rw[CO];rfl
def U' (hc:dh S) (hk:av dir=some k) (hf:cN x=true) {d:List UInt8} (hv:aa S k x=some d): (fA S dir x).2=0∧aa (fA S dir x).1 k x=none:=by
 have h0:cF S dir [x]=0:=by rw[nX hc hk,if_neg (by simp[hf])]
 obtain⟨n,hn,-⟩:=ug hv
 unfold fA
 rw[if_neg (by rw[h0];simp),jw hk,hn]
 simp only
 rw[pr hc,if_neg (by simp),hk]
 refine⟨rfl, ?_⟩
 show(aL ((cL S k ⟨2,x,[],0⟩).dir k).seen x).map _=_
 rw[qu,if_pos rfl]
 show(aL (eD (S.dir k).seen x) x).map _=_
 rw[WQ];rfl
def V3 (hg:GoodS S) (hc:dh S) (hk:av dir=some k) (hf:cN x=true) {d:List UInt8} (hv:aa S k x=some d) (s:List UInt8): ((bD S dir x s).2=8∧(bD S dir x s).1=S)∨((bD S dir x s).2=0∧aa (bD S dir x s).1 k x=some (d++s)):=by
 have h0:cF S dir [x]=0:=by rw[nX hc hk,if_neg (by simp[hf])]
 obtain⟨n,hn,hd⟩:=ug hv
 have bC:=hg.lt k (cw hk).1 _ (gJ hn)
 unfold bD
 rw[if_neg (by rw[h0];simp),jw hk,hn]
 simp only
 by_cases dL:jx S n s=true
 ·rw[if_pos dL];exact .inl ⟨rfl,rfl⟩
 rw[if_neg dL,pr hc,if_neg (by simp)]
 refine .inr ⟨rfl, ?_⟩
 show(aL (S.dir k).seen x).map (fun m=>(aF (en S n _) m).data)=_
 rw[hn]
 show some (aF (en S n _) n).data=_
 rw[kE _ _ bC,if_pos rfl,←hd]
def CK (hg:GoodS S) (hc:dh S) (hk:av dir=some k) (hf:cN x=true) {d:List UInt8} (hv:aa S k x=some d): (bF S dir x).2=0∧aa (bF S dir x).1 k x=some d:=by
 have h0:cF S dir [x]=0:=by rw[nX hc hk,if_neg (by simp[hf])]
 obtain⟨n,hn,hd⟩:=ug hv
 have bC:=hg.lt k (cw hk).1 _ (gJ hn)
 unfold bF
 rw[if_neg (by rw[h0];simp),jw hk,hn]
 simp only
 rw[pr hc,if_neg (by simp)]
 refine⟨rfl, ?_⟩
 show(aL (S.dir k).seen x).map (fun m=>(aF (en S n _) m).data)=_
 rw[hn]
 show some (aF (en S n _) n).data=_
 rw[kE _ _ bC,if_pos rfl,←hd]
def Tv (hc:dh S) (hk:av dir=some k): (eb S dir).2=0∧ ∀j y,aa (eb S dir).1 j y=aa S j y:=by
 have h0:cF S dir []=0:=by rw[nX hc hk,if_neg (by simp)]
 unfold eb
 rw[if_neg (by rw[h0];simp),pr hc,if_neg (by simp),hk]
 refine⟨rfl,fun j y=> ?_⟩
 unfold aa
 show(aL ((jN S k).dir j).seen y).map _=_
 rw[uv];rfl
def V0 (hg:GoodS S) (hc:dh S) (hk:av dir=some k) (hf:cN x=true) {y:List UInt8} (hy:cN y=true) (aQ:x≠y) {d:List UInt8} (hv:aa S k x=some d): (cm S dir x y).2=0∧aa (cm S dir x y).1 k y=some d∧aa (cm S dir x y).1 k x=none:=by
 have h0:cF S dir [x,y]=0:=by rw[nX hc hk,if_neg (by simp[hf,hy])]
 obtain⟨n,hn,hd⟩:=ug hv
 have am:=(cw hk).1
 unfold cm
 rw[if_neg (by rw[h0];simp),jw hk,hn]
 simp only
 rw[if_neg aQ,pr hc,if_neg (by simp),hk]
 have hs: ((cL S k ⟨1,x,y,0⟩).dir k).seen=fm (eD (S.dir k).seen x) (y,n):=by
  rw[qu,if_pos rfl]
  show fm (eD (S.dir k).seen x) (y,(aL (S.dir k).seen x).getD 0)=_
  rw[hn];rfl
 refine⟨rfl, ?_, ?_⟩
 ·show(aL ((cL S k ⟨1,x,y,0⟩).dir k).seen y).map _=_
  rw[hs,BZ (BU _ (hg.srt k am)) (y,n)]
  exact congrArg some hd
 show(aL ((cL S k ⟨1,x,y,0⟩).dir k).seen x).map _=_
 rw[hs,EH (x:=(y,n)) (Ne.symm aQ),WQ];rfl
def J3 (hc:dh S) (hk:av dir=some k) {y:List UInt8} (hy:cN y=false):cm S dir x y=(S,1):=by
 have h0:cF S dir [x,y]=1:=by rw[nX hc hk,if_pos (by simp[hy])]
 unfold cm
 rw[if_pos (by rw[h0];simp),h0]
def It (h:av dir=none∨cN x=false):cI S dir x=(S,1):=by
 have h0:cF S dir [x]=1:=by
  unfold cF
  rw[if_pos]
  rcases h with h|h
  ·exact .inl h
  right;simp[h]
 unfold cI
 rw[if_pos (by rw[h0];simp),h0]
end
def O9 (k:Nat) (t:TkL) (S:DiskL): ∃kind s e,StepD S kind t.dir (aD t.name) s (phT k t S).S e∧(kind=4→s=t.name):=by
 unfold phT
 split
 ·unfold jn
  split
  ·exact⟨0,[],1, .same 1 (.inl (by decide)),fun h=>by cases h⟩
  exact⟨5,[],_,pV S _ _ _,fun h=>by cases h⟩
 ·exact⟨0,[],_,Az S _ _ _,fun h=>by cases h⟩
 ·exact⟨1,t.data,_,qn S _ _ _,fun h=>by cases h⟩
 ·unfold jS
  split
  ·exact⟨0,[],1, .same 1 (.inl (by decide)),fun h=>by cases h⟩
  exact⟨2,[],_,tT S _ _ _,fun h=>by cases h⟩
 ·exact⟨4,t.name,_,Ax S _ _ _,fun _=>rfl⟩
 unfold rO
 split
 ·exact⟨0,[],1, .same 1 (.inl (by decide)),fun h=>by cases h⟩
 exact⟨3,[],_,U1 S _ (aD t.name) [],fun h=>by cases h⟩
def Jd (r:PhR): ∃e,StepD r.S 5 r.t.dir (aD r.t.name) [] (cu r).S e:=by
 unfold cu
 split
 ·exact⟨_,pV r.S _ _ _⟩
 exact⟨1, .same 1 (.inl (by decide))⟩
theorem t_ (Q:DiskL→Prop) (dir nm:List UInt8) (hQ: ∀ (S S':DiskL) (kind:Int) (s:List UInt8) (e:Nat),Q S→StepD S kind dir (aD nm) s S' e→(kind=4→s=nm)→Q S'):
  ∀ (f:Nat) (t:TkL) (S:DiskL),t.dir=dir→t.name=nm→Q S→Q (phG f t S).2
 |0,_,_,_,_,h=>h
 |f+1,t,S,hd,hn,h=>by
  obtain⟨kind,s,e,h1,h2⟩:=O9 t.next t S
  rw[hd,hn] at h1
  rw[hn] at h2
  have h3:=hQ _ _ _ _ _ h h1 h2
  obtain⟨d1,d2,-⟩:=m9 t.next t S
  unfold phG
  split
  ·obtain⟨e',h4⟩:=Jd (phT t.next t S)
   rw[d1,d2,hd,hn] at h4
   exact hQ _ _ _ _ _ h3 h4 fun h=>by cases h
  split
  ·exact h3
  obtain⟨f1,f2,-⟩:=CC t.next t S
  exact t_ Q dir nm hQ f _ _ (f1.trans hd) (f2.trans hn) h3
structure OthS (S S':DiskL) (dir nm:List UInt8):Prop where
 good:GoodS S'
 view: ∀j,j<3→ ∀x,OthN dir nm j x→aa S' j x=aa S j x
def yO {S:DiskL} (hg:GoodS S) (dir nm data:List UInt8) (light:Bool):OthS S (au S dir nm data light).2 dir nm:=
 t_ (fun S'=>OthS S S' dir nm) dir nm (fun A B kind s e hA bH h4=>⟨kH hA.good bH,fun j hj x hx=>(Dl hA.good bH hj fun hd=>⟨(hx hd).2,fun h=>by rw[h4 h];exact(hx hd).1⟩).trans (hA.view j hj x hx)⟩) 6 (tk0 dir nm data light) S rfl rfl ⟨hg,fun _ _ _ _=>rfl⟩
def Bf {S:DiskL} (hc:dh S) (dir nm data:List UInt8) (light:Bool):dh (au S dir nm data light).2:=
 t_ dh dir nm (fun _ _ _ _ _ hA bH _=>la hA bH) 6 (tk0 dir nm data light) S rfl rfl hc
def gZ {f:Nat} {t t':TkL} {S:DiskL} {r:PhR} (hr:phT t.next t S=r) (he:r.e=0) (hn:ga (nxT r)=false) (ht:fe r=t'):phG (f+1) t S=phG f t' r.S:=by
 conv=>lhs;unfold phG
 rw[hr,if_neg (by rw[he];simp),if_neg (by rw[hn];simp),ht]
def l8 {f:Nat} {t:TkL} {S:DiskL} {r:PhR} (hr:phT t.next t S=r) (he:r.e≠0):phG (f+1) t S=((cu r).e,(cu r).S):=by
 unfold phG
 rw[hr,if_pos he]
def C3 {f:Nat} {t:TkL} {S:DiskL} {r:PhR} (hr:phT t.next t S=r) (he:r.e=0) (hn:ga (nxT r)=true):phG (f+1) t S=(0,r.S):=by
 unfold phG
 rw[hr,if_neg (by rw[he];simp),if_pos hn]
def tkN (dir nm data:List UInt8) (light:Bool) (n:Nat) (made:Bool):TkL:=⟨dir,nm,data,light,n,made,false⟩
def Om {S:DiskL} {dir nm:List UInt8} (data:List UInt8) (light:Bool) (h:av dir=none∨cN (aD nm)=false):au S dir nm data light=(1,S):=by
 have h0:phT 0 (tk0 dir nm data light) S=⟨false,0,tk0 dir nm data light,S⟩:=by
  show jn _ S=_
  unfold jn
  have hr:=BS (S:=S) (dir:=dir) (x:=aD nm) h
  rw[if_pos (by show(cj S dir (aD nm)).2≠0;rw[hr];simp)]
 have h1:phT 1 (tkN dir nm data light 1 false) S=⟨true,1,tkN dir nm data light 1 false,S⟩:=by
  show vI _ S=_
  have hr:=It (S:=S) (dir:=dir) (x:=aD nm) h
  unfold vI
  show PhR.mk true (cI S dir (aD nm)).2 {tkN dir nm data light 1 false with made:=(cI S dir (aD nm)).2==0} (cI S dir (aD nm)).1=_
  rw[hr];rfl
 unfold au
 rw[gZ (t':=tkN dir nm data light 1 false) h0 rfl (by cases light<;>rfl) (by cases light<;>rfl),l8 h1 (by simp)]
 rfl
def NO {S:DiskL} (hg:GoodS S) (hc:dh S) {dir nm:List UInt8} {k:Nat} (hk:av dir=some k) (hf:cN (aD nm)=true) (data:List UInt8) (light:Bool):
  (∃S',au S dir nm data light=(8,S')∧ ∀x,x≠aD nm→aa S' k x=aa S k x)∨
  (∃S',au S dir nm data light=phG 2 (tkN dir nm data light 4 true) S'∧GoodS S'∧dh S'∧aa S' k (aD nm)=some data∧ ∀x,x≠aD nm→aa S' k x=aa S k x):=by
 have hd:gD k=dir:=(cw hk).2.symm
 have am:=(cw hk).1
 have other: ∀ {A B:DiskL} {kind:Int} {s:List UInt8} {e:Nat},GoodS A→StepD A kind dir (aD nm) s B e→kind≠4→ ∀x,x≠aD nm→aa B k x=aa A k x:=fun hA bH h4 x hx=>Dl hA bH am fun _=>⟨hx,fun h=>absurd h h4⟩
 obtain⟨S1,h0,g1,c1,v1,o1⟩: ∃S1,(∃b,phT 0 (tk0 dir nm data light) S=⟨b,0,tk0 dir nm data light,S1⟩)∧GoodS S1∧dh S1∧aa S1 k (aD nm)=none∧ ∀x,x≠aD nm→aa S1 k x=aa S k x:=by
  have hr:=rB hc hk hf
  show∃S1,(∃b,jn (tk0 dir nm data light) S=_)∧_
  unfold jn
  cases hv:aa S k (aD nm) with
  |none=>
   rw[hv] at hr
   exact⟨S,⟨false,by rw[if_pos (by show(cj S dir (aD nm)).2≠0;rw[hr];simp)]⟩,hg,hc,hv,fun _ _=>rfl⟩
  |some d=>
   rw[hv] at hr
   obtain⟨r1,r2⟩:=U' hc hk hf hv
   have st:=pV S dir (aD nm) []
   refine⟨(fA S dir (aD nm)).1,⟨true, ?_⟩,kH hg st,la hc st,r2,other hg st (by decide)⟩
   rw[if_neg (by show¬ (cj S dir (aD nm)).2≠0;rw[hr];simp)]
   show PhR.mk true (fA S dir (aD nm)).2 _ _=_
   rw[r1];rfl
 obtain⟨b0,h0⟩:=h0
 obtain⟨r1,r2⟩:=Tx g1 c1 hk hf v1
 have st2:=Az S1 dir (aD nm) []
 have g2:=kH g1 st2
 have c2:=la c1 st2
 have o2:=other g1 st2 (by decide)
 have h1:phT 1 (tkN dir nm data light 1 false) S1=⟨true,0,tkN dir nm data light 1 true,(cI S1 dir (aD nm)).1⟩:=by
  show PhR.mk true (cI S1 dir (aD nm)).2 {tkN dir nm data light 1 false with made:=(cI S1 dir (aD nm)).2==0} _=_
  rw[r1];rfl
 generalize (cI S1 dir (aD nm)).1=S2 at*
 have st3:=qn S2 dir (aD nm) data
 have g3:=kH g2 st3
 have c3:=la c2 st3
 have o3:=other g2 st3 (by decide)
 have h2:phT 2 (tkN dir nm data light 2 true) S2=⟨true,(bD S2 dir (aD nm) data).2,tkN dir nm data light 2 true,(bD S2 dir (aD nm) data).1⟩:=rfl
 have hp:au S dir nm data light=phG 4 (tkN dir nm data light 2 true) S2:=by
  unfold au
  rw[gZ (t':=tkN dir nm data light 1 false) h0 rfl (by cases light<;>rfl) (by cases light<;>rfl),gZ (t':=tkN dir nm data light 2 true) h1 rfl (by cases light<;>rfl) (by cases light<;>rfl)]
 rcases V3 g2 c2 hk hf r2 data with⟨a1,a2⟩ | ⟨a1,a2⟩
 ·left
  have st4:=pV S2 dir (aD nm) []
  refine⟨(fA S2 dir (aD nm)).1, ?_,fun x hx=>(other g2 st4 (by decide) x hx).trans ((o2 x hx).trans (o1 x hx))⟩
  rw[hp,l8 h2 (by show(bD S2 dir (aD nm) data).2≠0;rw[a1];simp)]
  unfold cu
  rw[if_pos ⟨rfl,by show(bD S2 dir (aD nm) data).2≠9;rw[a1];simp⟩]
  show((bD S2 dir (aD nm) data).2,(fA (bD S2 dir (aD nm) data).1 dir (aD nm)).1)=_
  rw[a1,a2]
 right
 rw[List.nil_append] at a2
 rw[hp,gZ (t':=tkN dir nm data light 3 true) h2 a1 (by cases light<;>rfl) (by cases light<;>rfl)]
 show∃S',phG 3 _ (bD S2 dir (aD nm) data).1=_∧_
 generalize (bD S2 dir (aD nm) data).1=S3 at*
 have o3': ∀x,x≠aD nm→aa S3 k x=aa S k x:=fun x hx=>(o3 x hx).trans ((o2 x hx).trans (o1 x hx))
 cases light with
 |true=>
  have h3:phT 3 (tkN dir nm data true 3 true) S3=⟨false,0,tkN dir nm data true 3 true,S3⟩:=rfl
  exact⟨S3,by rw[gZ (t':=tkN dir nm data true 4 true) h3 rfl rfl rfl],g3,c3,a2,o3'⟩
 |false=>
  obtain⟨s1,s2⟩:=CK g3 c3 hk hf a2
  have st5:=tT S3 dir (aD nm) []
  have h3:phT 3 (tkN dir nm data false 3 true) S3=⟨true,0,tkN dir nm data false 3 true,(bF S3 dir (aD nm)).1⟩:=by
   show PhR.mk true (bF S3 dir (aD nm)).2 _ _=_
   rw[s1];rfl
  exact⟨_,by rw[gZ (t':=tkN dir nm data false 4 true) h3 rfl rfl rfl],kH g3 st5,la c3 st5,s2,fun x hx=>(other g3 st5 (by decide) x hx).trans (o3' x hx)⟩
def wR {S:DiskL} (hg:GoodS S) (hc:dh S) (dir nm data:List UInt8):
  ((au S dir nm data false).1≠0→cj (au S dir nm data false).2 dir nm=cj S dir nm)∧
  ((au S dir nm data false).1=0→cj (au S dir nm data false).2 dir nm=(data,0)∧(cj (au S dir nm data false).2 dir (aD nm)).2≠0):=by
 have qI:=Bf hc dir nm data false
 by_cases h:av dir=none∨cN (aD nm)=false
 ·rw[Om data false h]
  exact⟨fun _=>rfl,fun h=>by cases h⟩
 obtain⟨k,hk⟩: ∃k,av dir=some k:=by
  cases hk:av dir with
  |none=>exact absurd (.inl hk) h
  |some k=>exact⟨k,rfl⟩
 have hf:cN (aD nm)=true:=by
  cases hf:cN (aD nm) with
  |true=>rfl
  |false=>exact absurd (.inr hf) h
 have same: ∀S':DiskL,dh S'→aa S' k nm=aa S k nm→cj S' dir nm=cj S dir nm:=fun S' j_ hv=>by
  cases dM:cN nm with
  |true=>rw[rB j_ hk dM,rB hc hk dM,hv]
  |false=>rw[BS (.inr dM),BS (.inr dM)]
 rcases NO hg hc hk hf data false with⟨S',h1,h2⟩ | ⟨S',h1,g4,c4,v4,o4⟩
 ·rw[h1] at qI ⊢
  exact⟨fun _=>same S' qI (h2 nm (Ne.symm (nZ nm))),fun h=>by cases h⟩
 have aQ:=nZ nm
 cases dM:cN nm with
 |false=>
  have rb:=J3 (x:=aD nm) c4 hk dM
  have h4:phT 4 (tkN dir nm data false 4 true) S'=⟨true,1,tkN dir nm data false 4 true,S'⟩:=by
   show PhR.mk true (cm S' dir (aD nm) nm).2 {tkN dir nm data false 4 true with made:=true&& (cm S' dir (aD nm) nm).2 !=0} (cm S' dir (aD nm) nm).1=_
   rw[rb];rfl
  have hr:au S dir nm data false=(1,(fA S' dir (aD nm)).1):=by
   rw[h1,l8 h4 (by simp)];rfl
  rw[hr] at qI ⊢
  exact⟨fun _=>by rw[BS (.inr dM),BS (.inr dM)],fun h=>by cases h⟩
 |true=>
  obtain⟨n1,n2,n3⟩:=V0 g4 c4 hk hf dM aQ v4
  have st:=Ax S' dir (aD nm) nm
  have c5:=la c4 st
  have h4:phT 4 (tkN dir nm data false 4 true) S'=⟨true,0,tkN dir nm data false 4 false,(cm S' dir (aD nm) nm).1⟩:=by
   show PhR.mk true (cm S' dir (aD nm) nm).2 {tkN dir nm data false 4 true with made:=true&& (cm S' dir (aD nm) nm).2 !=0} _=_
   rw[n1];rfl
  generalize (cm S' dir (aD nm) nm).1=S5 at*
  obtain⟨d1,d2⟩:=Tv c5 hk
  have h5:phT 5 (tkN dir nm data false 5 false) S5=⟨true,0,tkN dir nm data false 5 false,(eb S5 dir).1⟩:=by
   show PhR.mk true (eb S5 dir).2 _ _=_
   rw[d1];rfl
  have hr:au S dir nm data false=(0,(eb S5 dir).1):=by
   rw[h1,gZ (t':=tkN dir nm data false 5 false) h4 rfl rfl rfl,C3 h5 rfl rfl]
  rw[hr] at qI ⊢
  refine⟨fun h=>absurd rfl h,fun _=>⟨?_, ?_⟩⟩
  ·rw[rB qI hk dM]
   show(match aa (eb S5 dir).1 k nm with|none=>([],6) |some d=>(d,0))=_
   rw[d2,n2]
  rw[rB qI hk hf]
  show(match aa (eb S5 dir).1 k (aD nm) with|none=>(([],6):List UInt8×Nat) |some d=>(d,0)).2≠0
  rw[d2,n3];simp
end Go.Proofs
end
section
open Go Go.Proofs Go.Sx Go.StP Go.RefP
namespace Go.Proofs
def yT {S:DiskL} (hg:GoodS S) (hc:dh S) {dir nm:List UInt8} {k:Nat} (hk:av dir=some k) (hn:cN nm=true) (hf:cN (aD nm)=true) (data:List UInt8):
  ∃S2,GoodS S2∧dh S2∧S2.max=S.max∧aa S2 k (aD nm)=some []∧(∀j,j<3→ ∀x,(j=k→x≠aD nm)→aa S2 j x=aa S j x)∧
   (((bD S2 dir (aD nm) data).2=8∧au S dir nm data false=(8,(fA S2 dir (aD nm)).1))∨((bD S2 dir (aD nm) data).2=0∧(au S dir nm data false).1=0)):=by
 have hd:gD k=dir:=(cw hk).2.symm
 have am:=(cw hk).1
 have jk: ∀ {j x},j<3→(j=k→x≠aD nm)→gD j=dir→x≠aD nm:=fun{j x} hj h e=>h (by
  have:=qz hj
  rw[e,hk] at this
  exact(Option.some.inj this).symm)
 have other: ∀ {A B:DiskL} {kind:Int} {s:List UInt8} {e:Nat},GoodS A→StepD A kind dir (aD nm) s B e→kind≠4→ ∀j,j<3→ ∀x,(j=k→x≠aD nm)→aa B j x=aa A j x:=fun hA bH h4 j hj x hx=>Dl hA bH hj fun e=>⟨jk hj hx e,fun h=>absurd h h4⟩
 obtain⟨S1,⟨b0,h0⟩,g1,c1,m1,v1,o1⟩: ∃S1,(∃b,phT 0 (tk0 dir nm data false) S=⟨b,0,tk0 dir nm data false,S1⟩)∧GoodS S1∧dh S1∧S1.max=S.max∧aa S1 k (aD nm)=none∧ ∀j,j<3→ ∀x,(j=k→x≠aD nm)→aa S1 j x=aa S j x:=by
  have hr:=rB hc hk hf
  show∃S1,(∃b,jn (tk0 dir nm data false) S=_)∧_
  unfold jn
  cases hv:aa S k (aD nm) with
  |none=>
   rw[hv] at hr
   exact⟨S,⟨false,by rw[if_pos (by show(cj S dir (aD nm)).2≠0;rw[hr];simp)]⟩,hg,hc,rfl,hv,fun _ _ _ _=>rfl⟩
  |some d=>
   rw[hv] at hr
   obtain⟨r1,r2⟩:=U' hc hk hf hv
   have st:=pV S dir (aD nm) []
   refine⟨(fA S dir (aD nm)).1,⟨true, ?_⟩,kH hg st,la hc st,EV st,r2,other hg st (by decide)⟩
   rw[if_neg (by show¬ (cj S dir (aD nm)).2≠0;rw[hr];simp)]
   show PhR.mk true (fA S dir (aD nm)).2 _ _=_
   rw[r1];rfl
 obtain⟨r1,r2⟩:=Tx g1 c1 hk hf v1
 have st2:=Az S1 dir (aD nm) []
 have g2:=kH g1 st2
 have c2:=la c1 st2
 have m2:=(EV st2).trans m1
 have o2:=other g1 st2 (by decide)
 have h1:phT 1 (tkN dir nm data false 1 false) S1=⟨true,0,tkN dir nm data false 1 true,(cI S1 dir (aD nm)).1⟩:=by
  show PhR.mk true (cI S1 dir (aD nm)).2 {tkN dir nm data false 1 false with made:=(cI S1 dir (aD nm)).2==0} _=_
  rw[r1];rfl
 clear st2
 generalize (cI S1 dir (aD nm)).1=S2 at*
 refine⟨S2,g2,c2,m2,r2,fun j hj x hx=>(o2 j hj x hx).trans (o1 j hj x hx), ?_⟩
 have st3:=qn S2 dir (aD nm) data
 have g3:=kH g2 st3
 have c3:=la c2 st3
 have h2:phT 2 (tkN dir nm data false 2 true) S2=⟨true,(bD S2 dir (aD nm) data).2,tkN dir nm data false 2 true,(bD S2 dir (aD nm) data).1⟩:=rfl
 have hp:au S dir nm data false=phG 4 (tkN dir nm data false 2 true) S2:=by
  unfold au
  rw[gZ (t':=tkN dir nm data false 1 false) h0 rfl rfl rfl,gZ (t':=tkN dir nm data false 2 true) h1 rfl rfl rfl]
 rcases V3 g2 c2 hk hf r2 data with⟨a1,a2⟩ | ⟨a1,a2⟩
 ·refine .inl ⟨a1, ?_⟩
  rw[hp,l8 h2 (by show(bD S2 dir (aD nm) data).2≠0;rw[a1];simp)]
  unfold cu
  rw[if_pos ⟨rfl,by show(bD S2 dir (aD nm) data).2≠9;rw[a1];simp⟩]
  show((bD S2 dir (aD nm) data).2,(fA (bD S2 dir (aD nm) data).1 dir (aD nm)).1)=_
  rw[a1,a2]
 refine .inr ⟨a1, ?_⟩
 rw[List.nil_append] at a2
 rw[hp,gZ (t':=tkN dir nm data false 3 true) h2 a1 rfl rfl]
 show(phG 3 _ (bD S2 dir (aD nm) data).1).1=0
 generalize (bD S2 dir (aD nm) data).1=S3 at*
 obtain⟨s1,s2⟩:=CK g3 c3 hk hf a2
 have st5:=tT S3 dir (aD nm) []
 have h3:phT 3 (tkN dir nm data false 3 true) S3=⟨true,0,tkN dir nm data false 3 true,(bF S3 dir (aD nm)).1⟩:=by
  show PhR.mk true (bF S3 dir (aD nm)).2 _ _=_
  rw[s1];rfl
 have g4:=kH g3 st5
 have c4:=la c3 st5
 rw[gZ (t':=tkN dir nm data false 4 true) h3 rfl rfl rfl]
 show(phG 2 _ (bF S3 dir (aD nm)).1).1=0
 generalize (bF S3 dir (aD nm)).1=S' at*
 obtain⟨n1,n2,n3⟩:=V0 g4 c4 hk hf hn (nZ nm) s2
 have st:=Ax S' dir (aD nm) nm
 have c5:=la c4 st
 have h4:phT 4 (tkN dir nm data false 4 true) S'=⟨true,0,tkN dir nm data false 4 false,(cm S' dir (aD nm) nm).1⟩:=by
  show PhR.mk true (cm S' dir (aD nm) nm).2 {tkN dir nm data false 4 true with made:=true&& (cm S' dir (aD nm) nm).2 !=0} _=_
  rw[n1];rfl
 rw[gZ (t':=tkN dir nm data false 5 false) h4 rfl rfl rfl]
 show(phG 1 _ (cm S' dir (aD nm) nm).1).1=0
 generalize (cm S' dir (aD nm) nm).1=S5 at*
 obtain⟨d1,d2⟩:=Tv c5 hk
 have h5:phT 5 (tkN dir nm data false 5 false) S5=⟨true,0,tkN dir nm data false 5 false,(eb S5 dir).1⟩:=by
  show PhR.mk true (eb S5 dir).2 _ _=_
  rw[d1];rfl
 rw[C3 h5 rfl rfl]
def fineBk:cN aH=true∧cN (aD aH)=true:=by decide+kernel
def wg {S:DiskL} (hc:dh S) {s:List UInt8}:cj S aJ aH=(s,0)↔aa S 2 aH=some s:=by
 rw[rB hc (dir:=aJ) (k:=2) rfl fineBk.1]
 cases aa S 2 aH with
 |none=>simp
 |some d=>simp
def If {S:DiskL} {s:List UInt8} (h:cj S aJ aH=(s,0)):ct S=match gv s with|none=>(none,17,S) |some p=>endB S s p:=by
 unfold ct dE
 rw[h]
 rfl
end Go.Proofs
end
section
open Go Go.Proofs Go.Sx Go.StP
namespace Go.Proofs
structure PreI (S0 S:DiskL) (k:Nat) (nm:List UInt8):Prop where
 fs: ∀n,n<S0.files.length→aF S n=aF S0 n
 len:S0.files.length≤S.files.length
 stl: ∀j,j<3→(S.dir j).stl=(S0.dir j).stl
 pend: ∀j,j<3→ ∀c,c∈ (S.dir j).pend→j=k∧c.a=aD nm∧c.kind≠1
def ns (S0 S:DiskL) (k:Nat) (nm data:List UInt8) (m:Nat):Prop:=aL (S.dir k).seen (aD nm)=some m∧S0.files.length≤m∧m<S.files.length∧(aF S m).data=data
structure PostI (S0 S:DiskL) (k:Nat) (nm data:List UInt8) (light:Bool) (m:Nat):Prop where
 fs: ∀n,n<S0.files.length→aF S n=aF S0 n
 stl: ∀j,j<3→(S.dir j).stl=(S0.dir j).stl
 pendO: ∀j,j<3→j≠k→(S.dir j).pend= []
 pend: ∃q,(S.dir k).pend=q++ [⟨1,aD nm,nm,0⟩]∧ ∀c,c∈q→c.a=aD nm∧c.kind≠1
 at_:aL (S.dir k).seen nm=some m
 data: (aF S m).data=data
 set:light=false→(aF S m).stl=(aF S m).data.length
structure DoneI (S0 S:DiskL) (k:Nat) (nm data:List UInt8) (m:Nat):Prop where
 fs: ∀n,n<S0.files.length→aF S n=aF S0 n
 oth: ∀j,j<3→ ∀x,(j=k→x≠nm∧x≠aD nm)→aL (S.dir j).stl x=aL (S0.dir j).stl x
 pend: ∀j,j<3→(S.dir j).pend= []
 at_:aL (S.dir k).stl nm=some m
 data: (aF S m).data=data
 set: (aF S m).stl=(aF S m).data.length
section
variable {S0 S:DiskL} {k:Nat} {nm dir data:List UInt8} {m:Nat}
def QX {S':DiskL} (h:PreI S0 S k nm) (h1:S'.dir=S.dir) (h2:S'.files=S.files):PreI S0 S' k nm:=by
 have e: ∀n,aF S' n=aF S n:=fun n=>by unfold aF;rw[h2]
 exact⟨fun n hn=>(e n).trans (h.fs n hn),by rw[h2];exact h.len,fun j hj=>by rw[h1];exact h.stl j hj,fun j hj=>by rw[h1];exact h.pend j hj⟩
def pc (h:PreI S0 S k nm):PreI S0 (aK S).1 k nm:=QX h (dj S).1 (dj S).2.1
def xr (h:PreI S0 S k nm) {c:CallL} (h1:c.a=aD nm) (h2:c.kind≠1):PreI S0 (cL S k c) k nm:=by
 refine⟨h.fs,h.len,fun j hj=> ?_,fun j hj c' hc=> ?_⟩
 ·unfold cL
  by_cases e:j=k
  ·subst e;rw[ie];exact h.stl j hj
  rw[j3 _ _ e];exact h.stl j hj
 unfold cL at hc
 by_cases e:j=k
 ·subst e
  rw[ie] at hc
  rcases List.mem_append.1 hc with hc|hc
  ·exact h.pend j hj c' hc
  rw[List.mem_singleton.1 hc];exact⟨rfl,h1,h2⟩
 rw[j3 _ _ e] at hc
 exact h.pend j hj c' hc
def OK (h:PreI S0 S k nm):PreI S0 (eP S d4) k nm:=by
 refine⟨fun n hn=> ?_, ?_,h.stl,h.pend⟩
 ·rw[Dk _ _ (Nat.lt_of_lt_of_le hn h.len)];exact h.fs n hn
 show _≤ (S.files++ [d4]).length
 rw[List.length_append]
 have:=h.len
 omega
def yR (h:PreI S0 S k nm) (hm:S0.files.length≤m) (hl:m<S.files.length) (f:FileL):PreI S0 (en S m f) k nm:=by
 refine⟨fun n hn=> ?_, ?_,h.stl,h.pend⟩
 ·rw[kE _ _ hl,if_neg oM];exact h.fs n hn
 show _≤ (S.files.set m f).length
 rw[List.length_set];exact h.len
def UA (hk:av dir=some k) (h:PreI S0 S k nm):PreI S0 (fA S dir (aD nm)).1 k nm:=by
 unfold fA
 split
 ·exact h
 split
 ·exact h
 split
 ·exact pc h
 rw[hk]
 exact xr (pc h) rfl fun e=>by cases e
def Iq (hk:av dir=some k) (h:PreI S0 S k nm):PreI S0 (cI S dir (aD nm)).1 k nm:=by
 unfold cI
 split
 ·exact h
 split
 ·exact h
 split
 ·exact pc h
 rw[hk]
 exact xr (OK (pc h)) rfl fun e=>by cases e
def HB (hk:av dir=some k) (hg:GoodS S) (h:PreI S0 S k nm) (he: (cI S dir (aD nm)).2=0):ns S0 (cI S dir (aD nm)).1 k nm [] S.files.length:=by
 have am:=(cw hk).1
 unfold cI at he ⊢
 split at he
 ·rename_i hf;exact absurd he hf
 rename_i hf
 rw[if_neg hf]
 split at he
 ·cases he
 split at he
 ·rename_i hb;exact absurd he hb
 rename_i hb
 rw[if_neg hb,hk]
 obtain⟨aP,ar,-⟩:=dj S
 refine⟨?_,h.len, ?_, ?_⟩
 ·show aL ((cL (eP (aK S).1 d4) k ⟨0,aD nm,[],S.files.length⟩).dir k).seen (aD nm)=_
  rw[qu,if_pos rfl]
  show aL (fm ((aK S).1.dir k).seen (aD nm,S.files.length)) (aD nm)=_
  rw[aP]
  exact BZ (hg.srt k am) (aD nm,S.files.length)
 ·show S.files.length< ((aK S).1.files++ [d4]).length
  rw[ar,List.length_append];simp
 show(aF (eP (aK S).1 d4) S.files.length).data= []
 rw[←ar,CO];rfl
def IX (hk:av dir=some k) {d:List UInt8} (h:PreI S0 S k nm) (hm:ns S0 S k nm d m) (s:List UInt8):PreI S0 (bD S dir (aD nm) s).1 k nm:=by
 obtain⟨h1,h2,h3,-⟩:=hm
 unfold bD
 split
 ·exact h
 rw[jw hk,h1]
 simp only
 split
 ·exact h
 split
 ·exact pc h
 exact yR (pc h) h2 (by rw[(dj S).2.1];exact h3) _
def Hr (hk:av dir=some k) {d:List UInt8} (hm:ns S0 S k nm d m) {s:List UInt8} (he: (bD S dir (aD nm) s).2=0):ns S0 (bD S dir (aD nm) s).1 k nm (d++s) m:=by
 obtain⟨h1,h2,h3,h4⟩:=hm
 obtain⟨aP,ar,-⟩:=dj S
 unfold bD at he ⊢
 split at he
 ·rename_i hf;exact absurd he hf
 rename_i hf
 rw[if_neg hf]
 rw[jw hk,h1] at he ⊢
 simp only at he ⊢
 split at he
 ·cases he
 rename_i dL
 rw[if_neg dL]
 split at he
 ·rename_i hb;exact absurd he hb
 rename_i hb
 rw[if_neg hb]
 have hl:m< (aK S).1.files.length:=by rw[ar];exact h3
 refine⟨by show aL ((aK S).1.dir k).seen _=_;rw[aP];exact h1,h2,by show m< ((aK S).1.files.set m _).length;rw[List.length_set];exact hl, ?_⟩
 rw[kE _ _ hl,if_pos rfl,←h4]
def Na (hk:av dir=some k) {d:List UInt8} (h:PreI S0 S k nm) (hm:ns S0 S k nm d m):PreI S0 (bF S dir (aD nm)).1 k nm:=by
 obtain⟨h1,h2,h3,-⟩:=hm
 unfold bF
 split
 ·exact h
 rw[jw hk,h1]
 simp only
 split
 ·exact pc h
 exact yR (pc h) h2 (by rw[(dj S).2.1];exact h3) _
def LO (hk:av dir=some k) {d:List UInt8} (hm:ns S0 S k nm d m) (he: (bF S dir (aD nm)).2=0):ns S0 (bF S dir (aD nm)).1 k nm d m∧(aF (bF S dir (aD nm)).1 m).stl=d.length:=by
 obtain⟨h1,h2,h3,h4⟩:=hm
 obtain⟨aP,ar,-⟩:=dj S
 unfold bF at he ⊢
 split at he
 ·rename_i hf;exact absurd he hf
 rename_i hf
 rw[if_neg hf]
 rw[jw hk,h1] at he ⊢
 simp only at he ⊢
 split at he
 ·rename_i hb;exact absurd he hb
 rename_i hb
 rw[if_neg hb]
 have hl:m< (aK S).1.files.length:=by rw[ar];exact h3
 have A1:=kE (aK S).1 (m:=m) ⟨(aF S m).data,(aF S m).data.length⟩ hl m
 rw[if_pos rfl] at A1
 simp only
 refine⟨⟨by show aL ((aK S).1.dir k).seen _=_;rw[aP];exact h1,h2,by show m< ((aK S).1.files.set m _).length;rw[List.length_set];exact hl, ?_⟩, ?_⟩
 ·rw[A1];exact h4
 rw[A1,←h4]
def IA (h:PreI S0 S k nm) (he: (cm S dir (aD nm) nm).2≠0):PreI S0 (cm S dir (aD nm) nm).1 k nm:=by
 unfold cm at he ⊢
 split at he
 ·rename_i hf;rw[if_pos hf];exact h
 rename_i hf
 rw[if_neg hf]
 split at he
 ·exact h
 rw[if_neg (nZ nm)] at he ⊢
 split at he
 ·rename_i hb;rw[if_pos hb];exact pc h
 exact absurd rfl he
def GS (hk:av dir=some k) (hg:GoodS S) (h:PreI S0 S k nm) (hm:ns S0 S k nm data m) {light:Bool} (hs:light=false→(aF S m).stl=data.length) (he: (cm S dir (aD nm) nm).2=0):PostI S0 (cm S dir (aD nm) nm).1 k nm data light m:=by
 obtain⟨h1,h2,h3,h4⟩:=hm
 have am:=(cw hk).1
 obtain⟨aP,ar,-⟩:=dj S
 unfold cm at he ⊢
 split at he
 ·rename_i hf;exact absurd he hf
 rename_i hf
 rw[if_neg hf]
 rw[jw hk,h1] at he ⊢
 simp only at he ⊢
 rw[if_neg (nZ nm)] at he ⊢
 split at he
 ·rename_i hb;exact absurd he hb
 rename_i hb
 rw[if_neg hb,hk]
 have hT: ∀j,((cL (aK S).1 k ⟨1,aD nm,nm,0⟩).dir j)=if j=k then⟨cO (S.dir k).seen ⟨1,aD nm,nm,0⟩,(S.dir k).stl,(S.dir k).pend++ [⟨1,aD nm,nm,0⟩]⟩ else S.dir j:=fun j=>by
  unfold cL
  by_cases e:j=k
  ·subst e;rw[ie,if_pos rfl,aP]
  rw[j3 _ _ e,if_neg e,aP]
 refine⟨fun n hn=>(js S n).trans (h.fs n hn),fun j hj=> ?_,fun j hj e=> ?_,⟨(S.dir k).pend, ?_,fun c hc=>⟨(h.pend k am c hc).2.1,(h.pend k am c hc).2.2⟩⟩, ?_, ?_,fun hl=> ?_⟩
 ·show((cL (aK S).1 k _).dir j).stl=_
  rw[hT]
  by_cases e:j=k
  ·subst e;rw[if_pos rfl];exact h.stl j hj
  rw[if_neg e];exact h.stl j hj
 ·show((cL (aK S).1 k _).dir j).pend=_
  rw[hT,if_neg e]
  cases hp: (S.dir j).pend with
  |nil=>rfl
  |cons c r=>exact absurd (h.pend j hj c (by rw[hp];exact ah)).1 e
 ·show((cL (aK S).1 k _).dir k).pend=_
  rw[hT,if_pos rfl]
 ·show aL ((cL (aK S).1 k _).dir k).seen nm=_
  rw[hT,if_pos rfl]
  show aL (fm (eD (S.dir k).seen (aD nm)) (nm,(aL (S.dir k).seen (aD nm)).getD 0)) nm=_
  rw[h1]
  exact BZ (BU _ (hg.srt k am)) (nm,m)
 ·exact(congrArg FileL.data (js S m)).trans h4
 show(aF (aK S).1 m).stl=(aF (aK S).1 m).data.length
 rw[js,hs hl,h4]
def L_ {light:Bool} (h:PostI S0 S k nm data light m):PostI S0 (aK S).1 k nm data light m:=by
 obtain⟨aP,ar,-⟩:=dj S
 exact⟨fun n hn=>(js S n).trans (h.fs n hn),fun j hj=>by rw[aP];exact h.stl j hj,fun j hj e=>by rw[aP];exact h.pendO j hj e,by rw[aP];exact h.pend,by rw[aP];exact h.at_,by rw[js];exact h.data,fun hl=>by rw[js];exact h.set hl⟩
def F0 {light:Bool} (h:PostI S0 S k nm data light m) (he: (eb S dir).2≠0):PostI S0 (eb S dir).1 k nm data light m:=by
 unfold eb at he ⊢
 split at he
 ·rename_i hf;rw[if_pos hf];exact h
 rename_i hf
 rw[if_neg hf]
 split at he
 ·rename_i hb;rw[if_pos hb];exact L_ h
 exact absurd rfl he
def FS (hk:av dir=some k) (hh:dp S) (h:PostI S0 S k nm data false m) (he: (eb S dir).2=0):DoneI S0 (eb S dir).1 k nm data m:=by
 have am:=(cw hk).1
 obtain⟨aP,ar,-⟩:=dj S
 unfold eb at he ⊢
 split at he
 ·rename_i hf;exact absurd he hf
 rename_i hf
 rw[if_neg hf]
 split at he
 ·rename_i hb;exact absurd he hb
 rename_i hb
 rw[if_neg hb,hk]
 have hT: ∀j,((jN (aK S).1 k).dir j)=if j=k then⟨(S.dir k).seen,(S.dir k).seen,[]⟩ else S.dir j:=fun j=>by
  unfold jN
  by_cases e:j=k
  ·subst e;rw[ie,if_pos rfl,aP]
  rw[j3 _ _ e,if_neg e,aP]
 obtain⟨q,hq,uJ⟩:=h.pend
 refine⟨fun n hn=>(js S n).trans (h.fs n hn),fun j hj x hx=> ?_,fun j hj=> ?_, ?_,(congrArg FileL.data (js S m)).trans h.data, ?_⟩
 ·show aL ((jN (aK S).1 k).dir j).stl x=_
  rw[hT]
  by_cases e:j=k
  ·subst e
   rw[if_pos rfl]
   show aL (S.dir j).seen x=_
   rw[← (hh j).1,CI _ _ fun c hc=> ?_,h.stl j hj]
   rw[hq] at hc
   rcases List.mem_append.1 hc with hc|hc
   ·exact⟨by rw[(uJ c hc).1];exact Ne.symm (hx rfl).2,fun h5=>absurd h5 (uJ c hc).2⟩
   rw[List.mem_singleton.1 hc]
   exact⟨Ne.symm (hx rfl).2,fun _=>Ne.symm (hx rfl).1⟩
  rw[if_neg e,h.stl j hj]
 ·show((jN (aK S).1 k).dir j).pend=_
  rw[hT]
  by_cases e:j=k
  ·rw[if_pos e]
  rw[if_neg e];exact h.pendO j hj e
 ·show aL ((jN (aK S).1 k).dir k).stl nm=_
  rw[hT,if_pos rfl]
  exact h.at_
 show(aF (aK S).1 m).stl=(aF (aK S).1 m).data.length
 rw[js]
 exact h.set rfl
end
def Dp {S0:DiskL} {k:Nat} {nm dir:List UInt8} (hk:av dir=some k) {r:PhR} (hd:r.t.dir=dir) (hn:r.t.name=nm) (h:PreI S0 r.S k nm):PreI S0 (cu r).S k nm:=by
 unfold cu
 split
 ·rw[hd,hn];exact UA hk h
 exact h
def Ti {r:PhR} (h:r.t.made=false): (cu r).S=r.S:=by
 unfold cu
 rw[if_neg (fun h'=>by have: (nxT r).made=false:=h;rw[this] at h';cases h'.1)]
def rM (S0:DiskL) (k:Nat) (nm data:List UInt8) (light:Bool) (r:Nat×DiskL):Prop:=
 (PreI S0 r.2 k nm∧r.1≠0)∨(∃m,PostI S0 r.2 k nm data light m∧(light=false→r.1≠0))∨ ∃m,light=false∧DoneI S0 r.2 k nm data m
def UK {S0:DiskL} (h0: ∀j,j<3→(S0.dir j).pend= []) (hg:GoodS S0) (hh:dp S0) {dir nm:List UInt8} {k:Nat} (hk:av dir=some k) (data:List UInt8) (light:Bool):rM S0 k nm data light (au S0 dir nm data light):=by
 have am:=(cw hk).1
 have iY:PreI S0 S0 k nm:=⟨fun _ _=>rfl,ag _,fun _ _=>rfl,fun j hj c hc=>by rw[h0 j hj] at hc;cases hc⟩
 have hl: ∀n m,ga (nxT ⟨true,0,tkN dir nm data light n m,S0⟩)=(n+1==6|| (light&&n+1==5)):=fun _ _=>rfl
 obtain⟨b0,e0,S1,k5,p1,g1,ZU⟩: ∃b0 e0 S1,phT 0 (tk0 dir nm data light) S0=⟨b0,e0,tk0 dir nm data light,S1⟩∧PreI S0 S1 k nm∧GoodS S1∧dp S1:=by
  show∃b0 e0 S1,jn (tk0 dir nm data light) S0=_∧_
  unfold jn
  split
  ·exact⟨false,0,S0,rfl,iY,hg,hh⟩
  have st:=pV S0 dir (aD nm) []
  exact⟨true,_,_,rfl,UA hk iY,kH hg st,q_ hh st⟩
 unfold au
 by_cases z0:e0≠0
 ·rw[l8 k5 z0]
  exact .inl ⟨by show PreI S0 (cu _).S k nm;rw[Ti rfl];exact p1,by show(cu _).e≠0;rw[(tX _).1];exact z0⟩
 obtain rfl:e0=0:=by simpa using z0
 rw[gZ (t':=tkN dir nm data light 1 false) k5 rfl (by cases light<;>rfl) (by cases light<;>rfl)]
 show rM S0 k nm data light (phG 5 _ S1)
 have st2:=Az S1 dir (aD nm) []
 have p2:=Iq hk p1
 have g2:=kH g1 st2
 have Vg:=q_ ZU st2
 have gG:=fun he=>HB (dir:=dir) hk g1 p1 he
 have k7:phT 1 (tkN dir nm data light 1 false) S1=⟨true,(cI S1 dir (aD nm)).2,tkN dir nm data light 1 ((cI S1 dir (aD nm)).2==0),(cI S1 dir (aD nm)).1⟩:=rfl
 generalize cI S1 dir (aD nm)=q at*
 obtain⟨S2,e1⟩:=q
 simp only at p2 g2 Vg gG k7
 by_cases z1:e1≠0
 ·rw[l8 k7 z1]
  exact .inl ⟨by show PreI S0 (cu _).S k nm;rw[Ti (beq_eq_false_iff_ne.2 z1)];exact p2,by show(cu _).e≠0;rw[(tX _).1];exact z1⟩
 obtain rfl:e1=0:=by simpa using z1
 have m2:=gG rfl
 clear gG
 rw[gZ (t':=tkN dir nm data light 2 true) k7 rfl (by cases light<;>rfl) (by cases light<;>rfl)]
 show rM S0 k nm data light (phG 4 _ S2)
 generalize S1.files.length=m at*
 have st3:=qn S2 dir (aD nm) data
 have p3:=IX hk p2 m2 data
 have g3:=kH g2 st3
 have R_:=q_ Vg st3
 have qU:=fun he=>Hr (s:=data) hk m2 he
 rw[List.nil_append] at qU
 have gn:phT 2 (tkN dir nm data light 2 true) S2=⟨true,(bD S2 dir (aD nm) data).2,tkN dir nm data light 2 true,(bD S2 dir (aD nm) data).1⟩:=rfl
 generalize bD S2 dir (aD nm) data=q at*
 obtain⟨S3,e2⟩:=q
 simp only at p3 g3 R_ qU gn
 by_cases z2:e2≠0
 ·rw[l8 gn z2]
  exact .inl ⟨Dp hk rfl rfl p3,by show(cu _).e≠0;rw[(tX _).1];exact z2⟩
 obtain rfl:e2=0:=by simpa using z2
 have m3:=qU rfl
 clear qU
 rw[gZ (t':=tkN dir nm data light 3 true) gn rfl (by cases light<;>rfl) (by cases light<;>rfl)]
 show rM S0 k nm data light (phG 3 _ S3)
 have h4:rM S0 k nm data light (phG 3 (tkN dir nm data light 3 true) S3)∨ ∃S4,phG 3 (tkN dir nm data light 3 true) S3=phG 2 (tkN dir nm data light 4 true) S4∧PreI S0 S4 k nm∧GoodS S4∧dp S4∧ns S0 S4 k nm data m∧(light=false→(aF S4 m).stl=data.length):=by
  cases light with
  |true=>
   have nQ:phT 3 (tkN dir nm data true 3 true) S3=⟨false,0,tkN dir nm data true 3 true,S3⟩:=rfl
   exact .inr ⟨S3,by rw[gZ (t':=tkN dir nm data true 4 true) nQ rfl rfl rfl],p3,g3,R_,m3,fun h=>by cases h⟩
  |false=>
   have st4:=tT S3 dir (aD nm) []
   have p4:=Na hk p3 m3
   have g4:=kH g3 st4
   have Co:=q_ R_ st4
   have AO:=fun he=>LO (dir:=dir) hk m3 he
   have nQ:phT 3 (tkN dir nm data false 3 true) S3=⟨true,(bF S3 dir (aD nm)).2,tkN dir nm data false 3 true,(bF S3 dir (aD nm)).1⟩:=rfl
   generalize bF S3 dir (aD nm)=q at*
   obtain⟨S4,e3⟩:=q
   simp only at p4 g4 Co AO nQ
   by_cases z3:e3≠0
   ·left
    rw[l8 nQ z3]
    exact .inl ⟨Dp hk rfl rfl p4,by show(cu _).e≠0;rw[(tX _).1];exact z3⟩
   obtain rfl:e3=0:=by simpa using z3
   exact .inr ⟨S4,by rw[gZ (t':=tkN dir nm data false 4 true) nQ rfl rfl rfl],p4,g4,Co,(AO rfl).1,fun _=>(AO rfl).2⟩
 rcases h4 with h4| ⟨S4,h4,p4,g4,Co,m4,s4⟩
 ·exact h4
 rw[h4]
 have st5:=Ax S4 dir (aD nm) nm
 have Vh:=q_ Co st5
 have p5:=fun he=>IA (dir:=dir) p4 he
 have Cr:=fun he=>GS (dir:=dir) hk g4 p4 m4 s4 he
 have tA:phT 4 (tkN dir nm data light 4 true) S4=⟨true,(cm S4 dir (aD nm) nm).2,tkN dir nm data light 4 (true&& (cm S4 dir (aD nm) nm).2 !=0),(cm S4 dir (aD nm) nm).1⟩:=rfl
 generalize cm S4 dir (aD nm) nm=q at*
 obtain⟨S5,e4⟩:=q
 simp only at Vh p5 Cr tA
 by_cases z4:e4≠0
 ·rw[l8 tA z4]
  exact .inl ⟨Dp hk rfl rfl (p5 z4),by show(cu _).e≠0;rw[(tX _).1];exact z4⟩
 obtain rfl:e4=0:=by simpa using z4
 have q5:=Cr rfl
 cases light with
 |true=>
  rw[C3 tA rfl rfl]
  exact .inr (.inl ⟨m,q5,fun h=>by cases h⟩)
 |false=>
  rw[gZ (t':=tkN dir nm data false 5 false) tA rfl rfl rfl]
  show rM S0 k nm data false (phG 1 _ S5)
  have p6:=fun he=>F0 (dir:=dir) q5 he
  have Vp:=fun he=>FS (dir:=dir) hk Vh q5 he
  have uK:phT 5 (tkN dir nm data false 5 false) S5=⟨true,(eb S5 dir).2,tkN dir nm data false 5 false,(eb S5 dir).1⟩:=rfl
  generalize eb S5 dir=q at*
  obtain⟨S6,e5⟩:=q
  simp only at p6 Vp uK
  by_cases z5:e5≠0
  ·rw[l8 uK z5]
   exact .inr (.inl ⟨m,by show PostI S0 (cu _).S k nm data false m;rw[Ti rfl];exact p6 z5,fun _=>by show(cu _).e≠0;rw[(tX _).1];exact z5⟩)
  obtain rfl:e5=0:=by simpa using z5
  rw[C3 uK rfl rfl]
  exact .inr (.inr ⟨m,rfl,Vp rfl⟩)
def Ls {S:DiskL} (hh:dp S) (dir nm data:List UInt8) (light:Bool):dp (au S dir nm data light).2:=
 t_ dp dir nm (fun _ _ _ _ _ hA bH _=>q_ hA bH) 6 (tk0 dir nm data light) S rfl rfl hh
end Go.Proofs
end
section
open Go Go.Proofs Go.Sx Go.StP Go.RefP
namespace Go.Proofs
def rP {S:DiskL} (ok:DkOk S) {k:Nat} (hk:k<3) {c:CallL} (cK:okC (S.dir k).seen c) (hc:c.kind=0→c.n<S.files.length):DkOk (cL S k c):=
 BM ok _ (Bg c (ok.seen k hk)) (ok.stl k hk) (EK (ok.seenN k hk) cK hc) (ok.stlN k hk) (fun d hd=>by
  rcases List.mem_append.1 hd with hd|hd
  ·exact ok.pendN k hk d hd
  rw[List.mem_singleton.1 hd];exact hc)
def Lt {S S':DiskL} {kind:Int} {dir name s:List UInt8} {e:Nat} (ok:DkOk S) (h:StepD S kind dir name s S' e):DkOk S':=by
 obtain⟨aP,ar,-⟩:=dj S
 have okb:=mu ok
 cases h with
 |same=>exact ok
 |burn=>exact okb
 |create k hk hf hn hb=>
  refine rP (x4 okb ⟨cC _,ag _⟩) (cw hk).1 (fun e=>by cases e) fun _=> ?_
  show S.files.length< ((aK S).1.files++ [d4]).length
  rw[ar,List.length_append];exact Nat.lt_succ_self _
 |append k m hk hm hf hb=>
  have jb:=ok.seenN k (cw hk).1 _ (gJ hm)
  obtain⟨h1,h2⟩:=tj ok (n:=m) jb
  refine uo okb ⟨?_, ?_⟩
  ·rw[List.length_append]
   unfold jx at hf
   simp only[Bool.or_eq_false_iff,decide_eq_false_iff_not] at hf
   have:=hf.1.1
   show(aF S m).data.length+s.length≤1048576
   omega
  rw[List.length_append]
  show(aF S m).stl≤ (aF S m).data.length+s.length
  omega
 |sync k m hk hm hb=>
  have jb:=ok.seenN k (cw hk).1 _ (gJ hm)
  obtain⟨h1,h2⟩:=tj ok (n:=m) jb
  exact uo okb ⟨h1,ag _⟩
 |syncDir k hk hb=>
  have am:=(cw hk).1
  exact BM okb _ (okb.seen k am) (okb.seen k am) (okb.seenN k am) (okb.seenN k am) fun c hc=>by cases hc
 |rename k m h4 hk hm hf aQ hb=>
  exact rP okb (cw hk).1 (by rw[aP];exact C5 hm aQ) fun e=>by cases e
 |remove k m hk hm hb=>exact rP okb (cw hk).1 (fun e=>by cases e) fun e=>by cases e
def UniP (S:DiskL):Prop:= ∀k,k<3→ ∀i p,p∈bT S k i→ ∀q,q∈bT S k i→p.2=q.2→p=q
def tW {S S':DiskL} (h:UniP S) (e:S'.dir=S.dir):UniP S':=by
 unfold UniP bT at*
 rw[e];exact h
def Ec {S:DiskL} (h:UniP S) (hh:dp S) {k:Nat} {c:CallL} (hu:ii (cL S k c)):UniP (cL S k c):=fun j hj i p hp q hq e=>by
 by_cases ejk:j=k
 ·subst ejk
  have hd: (cL S j c).dir j=⟨cO (S.dir j).seen c,(S.dir j).stl,(S.dir j).pend++ [c]⟩:=by unfold cL;rw[ie]
  by_cases hi:i≤ (S.dir j).pend.length
  ·have he:bT (cL S j c) j i=bT S j i:=by
    unfold bT
    rw[hd]
    show(((S.dir j).pend++ [c]).take i).foldl _ _=_
    rw[List.take_append_of_le_length hi]
   rw[he] at hp hq
   exact h j hj i p hp q hq e
  have he:bT (cL S j c) j i=((cL S j c).dir j).seen:=by
   unfold bT
   rw[hd]
   show(((S.dir j).pend++ [c]).take i).foldl cO (S.dir j).stl=cO (S.dir j).seen c
   rw[List.take_of_length_le (by rw[List.length_append,List.length_singleton];omega),List.foldl_append,(hh j).1];rfl
  rw[he] at hp hq
  exact(hu j j hj hj p hp q hq e).2
 have he:bT (cL S k c) j i=bT S j i:=by
  unfold bT cL
  rw[j3 _ _ ejk]
 rw[he] at hp hq
 exact h j hj i p hp q hq e
structure WelS (S:DiskL):Prop where
 ok:DkOk S
 uniq:ii S
 hist:dp S
 up:UniP S
 disj:sA S
theorem WelS.good {S:DiskL} (h:WelS S):GoodS S:=h.ok.good h.uniq
def WelS.step {S S':DiskL} {kind:Int} {dir name s:List UInt8} {e:Nat} (h:WelS S) (bH:StepD S kind dir name s S' e):WelS S':=by
 have ok:=Lt h.ok bH
 have uq:=LV h.ok h.uniq bH
 have ZY:=q_ h.hist bH
 obtain⟨aP,ar,-⟩:=dj S
 refine⟨ok,uq,ZY, ?_, ?_⟩
 ·cases bH with
  |same=>exact h.up
  |burn=>exact tW h.up aP
  |create k hk hf hn hb=>exact Ec (S:=eP (aK S).1 d4) (tW h.up aP) (lp h.hist aP) uq
  |append=>exact tW h.up aP
  |sync=>exact tW h.up aP
  |syncDir k hk hb=>
   have hub:=tW h.up aP
   intro j hj i p hp q hq e
   by_cases ejk:j=k
   ·subst ejk
    have he:bT (jN (aK S).1 j) j i=((aK S).1.dir j).seen:=by
     unfold bT jN
     rw[ie]
     show(([]:List CallL).take i).foldl _ _=_
     rw[List.take_nil];rfl
    rw[he,aP] at hp hq
    exact(h.uniq j j hj hj p hp q hq e).2
   have he:bT (jN (aK S).1 k) j i=bT (aK S).1 j i:=by
    unfold bT jN
    rw[j3 _ _ ejk]
   rw[he] at hp hq
   exact hub j hj i p hp q hq e
  |rename=>exact Ec (tW h.up aP) (lp h.hist aP) uq
  |remove=>exact Ec (tW h.up aP) (lp h.hist aP) uq
 have same: ∀ {S':DiskL},(∀k n,NumD (S'.dir k) n→NumD (S.dir k) n)→sA S':=fun h1 j k hj hk n a b=>h.disj j k hj hk n (h1 j n a) (h1 k n b)
 cases bH with
 |same=>exact h.disj
 |burn=>exact same fun k n h=>by rw[aP] at h;exact h
 |create k hk hf hn hb=>
  have ed: (eP (aK S).1 d4).dir=S.dir:=aP
  intro i j hi hj n a b
  have a:=Bt a
  have b:=Bt b
  rw[ed] at a b
  rcases a with a1| ⟨rfl,-,a1⟩
  ·rcases b with b1| ⟨rfl,-,b1⟩
   ·exact h.disj i j hi hj n a1 b1
   have:=yq h.ok hi a1
   have e:S.files.length=n:=b1
   omega
  rcases b with b1| ⟨rfl,-,b1⟩
  ·have:=yq h.ok hj b1
   have e:S.files.length=n:=a1
   omega
  rfl
 |append=>
  refine same fun k n h=> ?_
  have h:NumD ((aK S).1.dir k) n:=h
  rw[aP] at h;exact h
 |sync=>
  refine same fun k n h=> ?_
  have h:NumD ((aK S).1.dir k) n:=h
  rw[aP] at h;exact h
 |syncDir k hk hb=>
  refine same fun j n hn=> ?_
  unfold jN at hn
  by_cases e:j=k
  ·subst e
   rw[ie,aP] at hn
   rcases hn with⟨p,hp,rfl⟩ | ⟨c,hc,-⟩
   ·exact Mv (h.hist j) hp
   cases hc
  rw[j3 _ _ e,aP] at hn;exact hn
 |rename=>
  refine same fun j n h=> ?_
  have h:=(Bt h).resolve_right (by rintro⟨-,h,-⟩;cases h)
  rw[aP] at h;exact h
 |remove=>
  refine same fun j n h=> ?_
  have h:=(Bt h).resolve_right (by rintro⟨-,h,-⟩;cases h)
  rw[aP] at h;exact h
def WelS.pub {S:DiskL} (h:WelS S) (dir nm data:List UInt8) (light:Bool):WelS (au S dir nm data light).2:=
 t_ WelS dir nm (fun _ _ _ _ _ hA bH _=>hA.step bH) 6 (tk0 dir nm data light) S rfl rfl h
def WelS.sync {S:DiskL} (h:WelS S) (dir nm:List UInt8):WelS (bF S dir nm).1:=h.step (tT S dir nm [])
def xB {Q:DiskL→Prop} (hp: ∀S data,Q S→Q (au S aJ aH data false).2) (hs: ∀S,Q S→Q (bF S aJ aH).1) {S:DiskL} (h:Q S):Q (ct S).2.2:=by
 have hb:Q (dE S).2.2:=by
  unfold dE
  split
  ·exact hp _ _ h
  exact h
 unfold ct
 split
 ·exact hb
 split
 ·exact hb
 rename_i p _
 have hq:Q (if p.2.2< (dE S).1.length then au (dE S).2.2 aJ aH ((dE S).1.take p.2.2) false else(0,(dE S).2.2)).2:=by
  split
  ·exact hp _ _ hb
  exact hb
 unfold endB
 simp only
 generalize (if p.2.2< (dE S).1.length then au (dE S).2.2 aJ aH ((dE S).1.take p.2.2) false else(0,(dE S).2.2))=q at*
 split
 ·exact hq
 split
 ·exact hs _ hq
 exact hs _ hq
def WelS.open {S:DiskL} (h:WelS S):WelS (ct S).2.2:=xB (fun _ data h=>h.pub aJ aH data false) (fun _ h=>h.sync aJ aH) h
def MB {S:DiskL} (h:dh S):dh (ct S).2.2:=xB (fun _ data h=>Bf h aJ aH data false) (fun S h=>la h (tT S aJ aH [])) h
def WelS.crash {S:DiskL} (h:WelS S) {pl:List UInt16} (ok:DkOk (bc S pl)):WelS (bc S pl):=by
 have num: ∀ {j},j<3→ ∀ {p},p∈ ((bc S pl).dir j).seen→NumD (S.dir j) p.2:=fun{j} hj {p} hp=>by
  obtain⟨i,hi,hd⟩:=ng S pl hj
  rw[hd] at hp
  exact vM (h.hist j).2 i hi p hp
 have num2: ∀ {j},j<3→ ∀ {n},NumD ((bc S pl).dir j) n→NumD (S.dir j) n:=fun{j} hj {n} hn=>by
  obtain⟨i,hi,hd⟩:=ng S pl hj
  rw[hd] at hn
  rcases hn with⟨p,hp,rfl⟩ | ⟨c,hc,-⟩
  ·exact vM (h.hist j).2 i hi p hp
  cases hc
 refine⟨ok,fun j k hj hk p hp q hq e=> ?_,EE h.hist pl,fun k hk i p hp q hq e=> ?_,fun j k hj hk n a b=>h.disj j k hj hk n (num2 hj a) (num2 hk b)⟩
 ·have uD:=h.disj j k hj hk p.2 (num hj hp) (by rw[e];exact num hk hq)
  subst uD
  obtain⟨i,hi,hd⟩:=ng S pl hj
  rw[hd] at hp hq
  exact⟨rfl,h.up j hj i p hp q hq e⟩
 obtain⟨i0,hi,hd⟩:=ng S pl hk
 have he:bT (bc S pl) k i=bT S k i0:=by
  conv=>lhs;unfold bT
  rw[hd]
  show(([]:List CallL).take i).foldl _ _=_
  rw[List.take_nil];rfl
 rw[he] at hp hq
 exact h.up k hk i0 p hp q hq e
theorem WelS.fuse {S:DiskL} (h:WelS S) {n:Int} {b:Bool} (ok:DkOk {S with fuse:=n,fused:=b}):WelS {S with fuse:=n,fused:=b}:=⟨ok,h.uniq,h.hist,h.up,h.disj⟩
def WelS.of {q:Int} {l:List FiL} (ok:DkOk (ofD q l)):WelS (ofD q l):=⟨ok,rg q l,OF q l,fun k hk i p hp q' hq e=>by
 obtain⟨h1,h2⟩:=yk q l hk
 unfold bT at hp hq
 rw[h2,List.take_nil] at hp hq
 have hp:p∈ ((ofD q l).dir k).stl:=hp
 have hq:q'∈ ((ofD q l).dir k).stl:=hq
 rw[h1] at hp hq
 exact(rg q l k k hk hk p hp q' hq e).2,Oy q l⟩
def Nz (q:Int):cq q=ofD q []:=by
 unfold ofD cq setV
 simp only[List.foldl_nil]
 congr 1
 funext k
 split<;>rfl
def Jv (q:DiskL×List UInt16) (l:NmL): (l.foldl dc q).1.fused=q.1.fused:=by
 induction l generalizing q with
 |nil=>rfl
 |cons p l ih=>rw[List.foldl_cons,ih];rfl
theorem UW (q:DiskL×List UInt16): ∀k,(db q k).1.fused=q.1.fused
 |0=>rfl
 |k+1=>by
  show(List.foldl dc (db q k) _).1.fused=_
  rw[Jv,UW q k]
def UP (S:DiskL) (pl:List UInt16):dh (bc S pl):=⟨J' S pl,by unfold bc;rw[UW];rfl⟩
def LenS (M:Nat) (S:DiskL):Prop:= ∀n,(aF S n).data.length≤M
section
variable {M:Nat} {S:DiskL}
def tQ {S':DiskL} (h:LenS M S) (e:S'.files=S.files):LenS M S':=fun n=>by
 unfold aF
 rw[e];exact h n
def jj (h:LenS M S):LenS M (aK S).1:=tQ h (dj S).2.1
def UO (h:LenS M S) (dir x:List UInt8):LenS M (fA S dir x).1:=by
 unfold fA
 split
 ·exact h
 split
 ·exact h
 split
 ·exact jj h
 exact tQ (jj h) rfl
def Ih (h:LenS M S) (dir x y:List UInt8):LenS M (cm S dir x y).1:=by
 unfold cm
 split
 ·exact h
 split
 ·exact h
 split
 ·exact jj h
 split
 ·exact jj h
 exact tQ (jj h) rfl
def Hb (h:LenS M S) (dir:List UInt8):LenS M (eb S dir).1:=by
 unfold eb
 split
 ·exact h
 split
 ·exact jj h
 exact tQ (jj h) rfl
def u_ {m:Nat} {f:FileL} (h:LenS M S) (hf:f.data.length≤M):LenS M (en S m f):=fun n=>by
 by_cases hm:m<S.files.length
 ·rw[kE _ _ hm]
  split
  ·exact hf
  exact h n
 rw[CM _ oM];exact h n
def Bb (h:LenS M S) (dir x:List UInt8):LenS M (bF S dir x).1:=by
 unfold bF
 split
 ·exact h
 split
 ·exact h
 split
 ·exact jj h
 exact u_ (jj h) (h _)
def P9 (h:LenS M S):LenS M (eP S d4):=fun n=>by
 by_cases hn:n<S.files.length
 ·rw[Dk _ _ hn];exact h n
 by_cases e:n=S.files.length
 ·rw[e,CO];exact cC _
 rw[wY]
 ·exact cC _
 show(S.files++ [d4]).length≤n
 rw[List.length_append,List.length_singleton];omega
def Iz (h:LenS M S) (dir x:List UInt8):LenS M (cI S dir x).1:=by
 unfold cI
 split
 ·exact h
 split
 ·exact h
 split
 ·exact jj h
 exact tQ (P9 (jj h)) rfl
def GR (hg:GoodS S) {dir x:List UInt8} (he: (cI S dir x).2=0): ∃k m,av dir=some k∧aL ((cI S dir x).1.dir k).seen x=some m∧(aF (cI S dir x).1 m).data= []:=by
 unfold cI at he ⊢
 split at he
 ·rename_i hf;exact absurd he hf
 rename_i hf
 rw[if_neg hf]
 obtain⟨k,hk,-⟩:=CN (Classical.not_not.1 hf)
 have am:=(cw hk).1
 split at he
 ·cases he
 split at he
 ·rename_i hb;exact absurd he hb
 rename_i hb
 rw[if_neg hb,hk]
 obtain⟨aP,ar,-⟩:=dj S
 refine⟨k,S.files.length,rfl, ?_, ?_⟩
 ·show aL ((cL (eP (aK S).1 d4) k ⟨0,x,[],S.files.length⟩).dir k).seen x=_
  rw[qu,if_pos rfl]
  show aL (fm ((aK S).1.dir k).seen (x,S.files.length)) x=_
  rw[aP]
  exact BZ (hg.srt k am) (x,S.files.length)
 show(aF (eP (aK S).1 d4) S.files.length).data= []
 rw[←ar,CO];rfl
def J7 {dir x s:List UInt8} {k m:Nat} (h:LenS M S) (hk:av dir=some k) (hm:aL (S.dir k).seen x=some m) (hd: (aF S m).data.length+s.length≤M):LenS M (bD S dir x s).1:=by
 unfold bD
 split
 ·exact h
 rw[jw hk,hm]
 simp only
 split
 ·exact h
 split
 ·exact jj h
 exact u_ (jj h) (by rw[List.length_append];exact hd)
def CP {r:PhR} (h:LenS M r.S):LenS M (cu r).S:=by
 unfold cu
 split
 ·exact UO h _ _
 exact h
theorem P': ∀ (k:Nat) (t:TkL),3≤k→LenS M S→LenS M (phT k t S).S
 |0,_,h,_=>absurd h (by decide)
 |1,_,h,_=>absurd h (by decide)
 |2,_,h,_=>absurd h (by decide)
 |3,t,_,h=>by
  show LenS M (jS t S).S
  unfold jS
  split
  ·exact h
  exact Bb h _ _
 |4,t,_,h=>Ih h _ _ _
 |n+5,t,_,h=>by
  show LenS M (rO t S).S
  unfold rO
  split
  ·exact h
  exact Hb h _
end
theorem xn {M:Nat}: ∀ (f:Nat) (t:TkL) (S:DiskL),3≤t.next→LenS M S→LenS M (phG f t S).2
 |0,_,_,_,h=>h
 |f+1,t,S,hn,h=>by
  have hp:=P' t.next t hn h
  rw[y_]
  split
  ·exact CP hp
  split
  ·exact hp
  exact xn f _ _ (by rw[(CC t.next t S).2.2.2.2];omega) hp
def CA {M:Nat} {S:DiskL} (hg:GoodS S) (h:LenS M S) (dir nm:List UInt8) {data:List UInt8} (hd:data.length≤M) (light:Bool):LenS M (au S dir nm data light).2:=by
 obtain⟨b0,e0,S1,k5,h1,g1⟩: ∃b0 e0 S1,phT 0 (tk0 dir nm data light) S=⟨b0,e0,tk0 dir nm data light,S1⟩∧LenS M S1∧GoodS S1:=by
  show∃b0 e0 S1,jn (tk0 dir nm data light) S=_∧_
  unfold jn
  split
  ·exact⟨false,0,S,rfl,h,hg⟩
  exact⟨true,_,_,rfl,UO h _ _,kH hg (pV S dir (aD nm) [])⟩
 unfold au
 by_cases z0:e0≠0
 ·rw[l8 k5 z0]
  exact CP (r:=⟨b0,e0,tk0 dir nm data light,S1⟩) h1
 obtain rfl:e0=0:=by simpa using z0
 rw[gZ (t':=tkN dir nm data light 1 false) k5 rfl (by cases light<;>rfl) (by cases light<;>rfl)]
 show LenS M (phG 5 _ S1).2
 have h2:=Iz h1 dir (aD nm)
 have gG:=fun he=>GR (dir:=dir) (x:=aD nm) g1 he
 have k7:phT 1 (tkN dir nm data light 1 false) S1=⟨true,(cI S1 dir (aD nm)).2,tkN dir nm data light 1 ((cI S1 dir (aD nm)).2==0),(cI S1 dir (aD nm)).1⟩:=rfl
 generalize cI S1 dir (aD nm)=q at*
 obtain⟨S2,e1⟩:=q
 simp only at h2 gG k7
 by_cases z1:e1≠0
 ·rw[l8 k7 z1]
  exact CP (r:=⟨true,e1,tkN dir nm data light 1 (e1==0),S2⟩) h2
 obtain rfl:e1=0:=by simpa using z1
 obtain⟨k,m,hk,hm,Ck⟩:=gG rfl
 rw[gZ (t':=tkN dir nm data light 2 true) k7 rfl (by cases light<;>rfl) (by cases light<;>rfl)]
 show LenS M (phG 4 _ S2).2
 have h3:=J7 (s:=data) h2 hk hm (by rw[Ck,List.length_nil,Nat.zero_add];exact hd)
 have gn:phT 2 (tkN dir nm data light 2 true) S2=⟨true,(bD S2 dir (aD nm) data).2,tkN dir nm data light 2 true,(bD S2 dir (aD nm) data).1⟩:=rfl
 generalize bD S2 dir (aD nm) data=q at*
 obtain⟨S3,e2⟩:=q
 simp only at h3 gn
 by_cases z2:e2≠0
 ·rw[l8 gn z2]
  exact CP (r:=⟨true,e2,tkN dir nm data light 2 true,S3⟩) h3
 obtain rfl:e2=0:=by simpa using z2
 rw[gZ (t':=tkN dir nm data light 3 true) gn rfl (by cases light<;>rfl) (by cases light<;>rfl)]
 exact xn 3 _ S3 (ag 3) h3
def EN {M:Nat} {S:DiskL} (h:LenS M S) (dir x:List UInt8): (cj S dir x).1.length≤M:=by
 unfold cj
 split
 ·exact cC _
 split
 ·exact cC _
 exact h _
def wW {M:Nat} {S:DiskL} (h:LenS M S) (pl:List UInt16):LenS M (bc S pl):=fun n=>by
 obtain⟨⟨t,ht⟩,-⟩:=Jy S pl n
 rw[ht,List.length_take]
 have:=h n
 omega
def xW {M:Nat} {S:DiskL} (ha:WelS S) (h:LenS M S) (hM:1000≤M):LenS M (ct S).2.2:=by
 have hb:LenS M (dE S).2.2∧GoodS (dE S).2.2∧(dE S).1.length≤M:=by
  unfold dE
  split
  ·exact⟨CA ha.good h _ _ (Nat.le_trans CB hM) false,(ha.pub _ _ _ _).good,Nat.le_trans CB hM⟩
  exact⟨h,ha.good,EN h _ _⟩
 obtain⟨h1,g1,l1⟩:=hb
 unfold ct
 split
 ·exact h1
 split
 ·exact h1
 rename_i p _
 have hq:LenS M (if p.2.2< (dE S).1.length then au (dE S).2.2 aJ aH ((dE S).1.take p.2.2) false else(0,(dE S).2.2)).2:=by
  split
  ·exact CA g1 h1 _ _ (by rw[List.length_take];omega) false
  exact h1
 unfold endB
 simp only
 generalize (if p.2.2< (dE S).1.length then au (dE S).2.2 aJ aH ((dE S).1.take p.2.2) false else(0,(dE S).2.2))=q at*
 split
 ·exact hq
 split
 ·exact Bb hq _ _
 exact Bb hq _ _
def oldI (a:AtL) (v:IdL):IdL:=if a.wrong=true then⟨v.l.set 0 (v.l.getD 0 0+1),by rw[List.length_set];exact v.h⟩ else v
def nk:=aN (aN (aN @bq @bl) (aN @C7 (aN @Br @Bz))) (aN (aN @Bl @Bm) (aN @By (aN @Bx @Bc)))
def UF (a:AtL) (v:IdL) (w:World):Rets prog 48 #[.agg (atC a).toArray, .agg (a8 v.l)] w (fun r D=>r= .agg (a8 (oldI a v).l)∧D= []):=by
 have hv:=v.h
 have tM: (List.replicate 32 (0:UInt8)).length=32:=rfl
 refine Rets.enterV func48 rfl (rs:= [.cell 4 24]) results48 ntmps48 ?_
 refine kf ?_
 refine ky @nk ?_
 refine Ow.box rfl rfl fun b2 ar eW=> ?_
 simp only[df,dC,dW,bI,List.nil_append]
 refine ko @nk ?_
 refine Ow.box rfl rfl fun b3 gd mf=> ?_
 simp only[df,dC,dW,bI,List.cons_append,List.nil_append]
 have R5:b2<b3:=ae gd (by simp[keys])
 refine ko @nk ?_
 refine Ow.alloc rfl rfl zr24 fun b4 lQ nW=> ?_
 simp only[bI,List.nil_append,List.cons_append]
 have VG:b2<b4:=ae lQ (by simp[keys])
 have h34:b3<b4:=ae lQ (by simp[keys])
 unfold oldI
 cases hw:a.wrong with
 |true=>
  have hs: (v.l.set 0 (v.l.getD 0 0+1)).length=32:=by rw[List.length_set];exact hv
  refine ko @nk ?_
  refine ky (aN @nk @hw) ?_
  refine⟨_,(ke @nk),⟨eW,mf,nW,trivial⟩, ?_⟩
  rfl
 |false=>
  refine ko @nk ?_
  refine ky (aN @nk @hw) ?_
  refine⟨_,(ke @nk),⟨eW,mf,nW,trivial⟩, ?_⟩
  rfl
def valI (B:BkL) (n:List UInt8):IdL:=⟨jl B.t B.l n,E7 B.t B.l n⟩
def eo (S:DiskL) (B:BkL) (a:AtL):DiskL×BkL:=
 if rI a=true then(S,B) else if a.kind.tmod 5=0 then(fR S B a.name (oldI a (valI B a.name)) a.id).2
 else if a.kind.tmod 5=1 then(eu S B).2 else if a.kind.tmod 5=2 then(ew S B a.n).2 else(S,B)
structure BkR (B:BkL):Prop where
 tl:B.t.length≤16
 ll:B.l.length≤100
 t:SmallN B.t
 l:SmallN B.l
def Dy {s:List UInt8} (h:bU s=true):s.length≤32:=by
 unfold bU at h
 simp only[Bool.and_eq_true,decide_eq_true_eq] at h
 exact h.1.2
def BkR.upd {S:DiskL} {B:BkL} {nm:List UInt8} {o i:IdL} (h:BkR B):BkR (fR S B nm o i).2.2:=by
 unfold fR
 split
 ·exact h
 split
 ·exact h
 rename_i h1
 split
 ·exact h
 rename_i h2
 split
 ·exact h
 have nE:al B.t B.l=true∧bU nm=true:=Classical.not_not.1 h1
 have p_:al B.t (B.l++ [⟨nm,i⟩])=true:=by simpa using h2
 refine⟨h.tl,E8 p_,h.t,BR fun r hr=> ?_⟩
 rcases List.mem_append.1 hr with hr|hr
 ·exact h.l.mem hr
 rw[List.mem_singleton] at hr
 subst hr
 have:=Dy nE.2
 show nm.length<1000
 omega
def BkR.sync {S:DiskL} {B:BkL} (h:BkR B):BkR (eu S B).2.2:=by
 unfold eu
 split
 ·exact h
 exact⟨h.tl,h.ll,h.t,h.l⟩
def BkR.trim {S:DiskL} {B:BkL} {k:Int} (h:BkR B):BkR (ew S B k).2.2:=by
 unfold ew
 split
 ·split
  ·rename_i ls hv
   have lT:=Ba B.l.length k
   obtain⟨h1,h2⟩:=EC lT hv h.t h.l
   have kY:=(tq hv).2.1
   split
   ·exact h
   exact⟨h2,by show(B.l.drop _).length≤100;rw[List.length_drop];omega,h1,BR fun r hr=>h.l.mem (List.mem_of_mem_drop hr)⟩
  exact h
 exact h
def BkR.act {S:DiskL} {B:BkL} {a:AtL} (h:BkR B):BkR (eo S B a).2:=by
 unfold eo
 split
 ·exact h
 split
 ·exact h.upd
 split
 ·exact h.sync
 split
 ·exact h.trim
 exact h
def kT (l:List AtL):DiskL×BkL:=(l.take 30).foldl (fun q a=>eo q.1 q.2 a) ((ct (cq 1000000)).2.2,⟨[],[],0⟩)
def QW: (ct (cq 1000000)).1=some ⟨[],[],0⟩:=by kernel_rfl
def Q1: (cj (cq 1000000) aJ aH).1.length<1000000:=by decide+kernel
def bkR0:BkR ⟨[],[],0⟩:=⟨cC _,cC _,fun g hg=>absurd hg (Nat.not_lt_zero g),fun g hg=>absurd hg (Nat.not_lt_zero g)⟩
end Go.Proofs
end
section
open Go Go.Proofs Go.Sx Go.RefP
namespace Go.Proofs
def M3 (u:List UInt8) (p:UInt8):cutP u [p]=if u.head? =some p then(u.drop 1,true) else(u,false):=by
 unfold cutP
 cases u with
 |nil=>simp
 |cons c r=>by_cases h:c=p<;>simp[h]
def w6 (n:Nat):0< (cE n).length:=by
 by_cases h:n<128
 ·rw[BA h];simp
 rw[vQ h];simp
def H9 (most:Int) (r:List UInt8): ∀ (n k acc:Nat),(0<k→0<n)→k+ (cE n).length≤6→acc+n*128^k≤1099511627775→((acc+n*128^k:Nat):Int)≤most→
  cB most (cE n++r) k acc= .ok (acc+n*128^k,k+ (cE n).length):=by
 intro n
 induction n using Nat.strongRecOn with
 |ind n ih=>
  intro k acc hk hl hs hm
  by_cases h:n<128
  ·rw[BA h,List.cons_append,List.nil_append,cB]
   have hc: (UInt8.ofNat n).toNat=n:=by rw[UInt8.toNat_ofNat'];omega
   rw[hc,Nat.mod_eq_of_lt h,if_neg oM,if_neg oM,if_pos ⟨hs,hm⟩]
   rfl
  have hb:=vQ h
  rw[hb] at hl ⊢
  rw[List.cons_append,cB]
  have hc: (UInt8.ofNat (n%128+128)).toNat=n%128+128:=by rw[UInt8.toNat_ofNat'];omega
  have hp:=w6 (n / 128)
  rw[List.length_cons] at hl
  have e:acc+ (n%128+128)%128*128^k+n / 128*128^ (k+1)=acc+n*128^k:=by
   have h1: (n%128+128)%128=n%128:=by omega
   rw[h1,Nat.pow_succ,Nat.add_assoc]
   congr 1
   have h2:n / 128* (128^k*128)=(n / 128*128)*128^k:=by rw[Nat.mul_comm (128^k),Nat.mul_assoc]
   rw[h2,←Nat.add_mul]
   congr 1
   omega
  rw[hc,if_pos oM,if_neg oM,ih (n / 128) oM (k+1) _ (fun _=>by omega) oM (by rw[e];exact hs) (by rw[e];exact hm),e,List.length_cons]
  congr 2
  omega
def Eo (A B:List UInt8): (A++B).drop A.length=B:=List.drop_left
def Ej (A r:List UInt8) (n:Nat) (most:Int) (hn:n≤1099511627775) (hm: (n:Int)≤most):aV (A++ (cE n++r)) A.length 0 most=((n:Int),A.length+ (cE n).length,0):=by
 have hl:=Ew 6 n oM oM
 have h:=H9 most r n 0 0 (fun h=>absurd h (Nat.lt_irrefl 0)) oM (by simpa using hn) (by simpa using hm)
 simp only[Nat.pow_zero,Nat.mul_one,Nat.zero_add] at h
 exact vH rfl (by rw[Eo];exact h)
def wT (A x r:List UInt8):ck (A++ (x++r)) A.length 0 (x.length:Int)=(x,A.length+x.length,0):=by
 unfold ck
 rw[if_neg (by simp),if_neg oM,if_neg (by simp only[List.length_append];omega),Eo,Int.toNat_natCast,List.take_left]
def UI (A t r:List UInt8) (most:Int) (hn:t.length≤1099511627775) (hm: (t.length:Int)≤most):a_ (A++ (dB t++r)) A.length 0 most=(t,A.length+ (dB t).length,0):=by
 have h1:=Ej A (t++r) t.length most hn hm
 have h2:=wT (A++cE t.length) t r
 unfold a_ dB
 rw[Dq oM]
 rw[List.append_assoc,h1]
 simp only
 rw[List.append_assoc,List.length_append] at h2
 rw[h2]
 simp only[ne_eq,not_true_eq_false, ↓reduceIte,List.length_append,Nat.add_assoc]
def OV (A r:List UInt8) (i:IdL):idR (A++ (i.l++r)) A.length 0=(i.l,A.length+32,0):=by
 have h:=wT A i.l r
 have hi:=i.h
 rw[hi] at h
 unfold idR
 rw[show(32:Int)=((32:Nat):Int) from rfl,h]
 simp only[hi, ↓reduceIte]
def FY (x:List UInt8):lb (eY x)=(x,true):=by
 have hl:=r8 x
 have ht: (eY x).take ((eY x).length - 4)=x:=by
  rw[hl,Nat.add_sub_cancel]
  unfold eY
  exact List.take_left
 unfold lb
 rw[if_neg oM,ht,if_pos rfl]
def x8 (A x r:List UInt8) (p:UInt8) (hx:x.length≤65531):bS (A++ (ai (p::x)++r)) A.length 0 [p]=(some x,A.length+ (ai (p::x)).length,0):=by
 have hl:=r8 (p::x)
 rw[List.length_cons] at hl
 have ht:=UI A (eY (p::x)) r 65536 oM oM
 unfold bS ai
 rw[ht]
 simp only[FY,M3]
 simp
def O' (i:IdL):mkId i.l=i:=by rw[rX i.h]
def x5 (A r:List UInt8) (x:RefL) (hx:x.name.length≤32):gC (A++ (refB x++r)) A.length 0=(x,A.length+ (refB x).length,0):=by
 have h1:=UI A x.name (x.id.l++r) 32 oM oM
 have h2:=OV (A++dB x.name) r x.id
 unfold gC refB
 rw[List.append_assoc,h1]
 simp only
 rw[List.append_assoc,List.length_append] at h2
 rw[h2]
 simp only[O',List.length_append,x.id.h,Nat.add_assoc]
def yQ (l:List RefL):Prop:= ∀g,g<l.length→(l.getD g az).name.length≤32
def IM (t:List RefL) (g:Nat) (h:g<t.length):eG t=eG (t.take g)++ (refB (t.getD g az)++eG (t.drop (g+1))):=by
 conv=>lhs;rw[←List.take_append_drop g t]
 unfold eG
 rw[List.map_append,List.flatten_append,List.drop_eq_getElem_cons h,List.getD_eq_getElem?_getD,List.getElem?_eq_getElem h]
 rfl
def Fw (t:List RefL) (x:RefL):eG (t++ [x])=eG t++refB x:=by unfold eG;simp
theorem vx (A r:List UInt8) (t:List RefL) (ht:yQ t): ∀g,g≤t.length→cW (A++ (eG t++r)) A.length 0 g=(t.take g,A.length+ (eG (t.take g)).length,0)
 |0,_=>by simp[cW,eG]
 |g+1,hg=>by
  have ih:=vx A r t ht g oM
  have h1:=x5 (A++eG (t.take g)) (eG (t.drop (g+1))++r) (t.getD g az) (ht g hg)
  have e:A++eG (t.take g)++ (refB (t.getD g az)++ (eG (t.drop (g+1))++r))=A++ (eG t++r):=by
   rw[IM t g hg];simp only[List.append_assoc]
  rw[e,List.length_append] at h1
  unfold cW
  rw[ih]
  simp only
  rw[h1,Bq t g hg,Fw]
  simp only[List.length_append,Nat.add_assoc]
def ED {s:List UInt8} (h:bU s=true):s.length≤32:=by
 unfold bU at h
 simp only[Bool.and_eq_true,decide_eq_true_eq] at h
 exact h.1.2
def A_ {t l:List RefL} (h:al t l=true):t.length≤16∧l.length≤100∧yQ t∧(∀g,g<l.length→bU (l.getD g az).name=true)∧ ∀j,j≤l.length→al t (l.take j)=true:=by
 unfold al rD at h
 rw[Bool.and_eq_true,decide_eq_true_eq,g9] at h
 obtain⟨ho,hl⟩:=h
 unfold ofM at ho
 rw[n_ _ (ag _),g9] at ho
 by_cases hc:t.length≤16∧ ∀i,i<t.length→fQ bU z32 (prs t) i=true
 ·rw[if_pos hc,Option.bind_some] at ho
  have qa: ∀j,j≤l.length→(fo bU z32 (prs l) ((prs t).take t.length) j).isSome=true:=by
   intro j hj
   cases hn:fo bU z32 (prs l) ((prs t).take t.length) j with
   |some m=>rfl
   |none=>rw[vk hn _ hj] at ho;cases ho
  refine⟨hc.1,hl,fun g hg=> ?_,fun g hg=> ?_,fun j hj=> ?_⟩
  ·have:=hc.2 g hg
   unfold fQ at this
   rw[m_ t g hg] at this
   simp only[Bool.and_eq_true] at this
   exact ED this.1.1
  ·have h1:=qa (g+1) hg
   unfold fo at h1
   cases hn:fo bU z32 (prs l) ((prs t).take t.length) g with
   |none=>rw[hn] at h1;cases h1
   |some m=>
    rw[hn,Option.bind_some,m_ l g hg] at h1
    split at h1
    ·rename_i hh
     rw[Bool.and_eq_true] at hh
     exact hh.1
    cases h1
  unfold al rD
  rw[Bool.and_eq_true,decide_eq_true_eq,g9]
  have aG: (l.take j).length=j:=by simp;omega
  rw[aG]
  refine⟨?_,by omega⟩
  unfold ofM
  rw[n_ _ (ag _),g9,if_pos hc,Option.bind_some,LY,wB j (ag _)]
  exact qa j hj
 rw[if_neg hc] at ho;cases ho
def J2 (t:List RefL):dP t=72:: (cE (eL t.length)++eG t):=by unfold dP;simp
def Us (r:RefL):bW r=69::refB r:=by unfold bW refB;simp
def UT (s:List UInt8) (a:Nat) (h:s.length≤a):endR s a 0=0:=by
 unfold endR
 rw[if_neg (by simp),if_neg oM]
def J9 (t:List RefL) (r:List UInt8) (h:al t []=true):lI (ai (dP t)++r)=some (t,(ai (dP t)).length):=by
 obtain⟨mD,-,ce,-,-⟩:=A_ h
 have cp:=vS (t:=t) (fun g hg=>Nat.lt_of_le_of_lt (ce g hg) oM) t.length (ag _)
 rw[List.take_length] at cp
 have bC:=j9 (t.length:Int)
 have hr:=x8 [] (cE (eL t.length)++eG t) r 72 (by rw[List.length_append];omega)
 rw[List.nil_append,←J2] at hr
 simp only[List.length_nil,Nat.zero_add] at hr
 have h1: (bS (ai (dP t)++r) 0 0 [72]).1=some (cE (eL t.length)++eG t):=by rw[hr]
 rw[wc h1,hr]
 simp only
 have hn:=Ej [] (eG t) t.length 16 oM oM
 rw[Dq oM] at*
 simp only[List.nil_append,List.length_nil,Nat.zero_add] at hn
 have uL:=vx (cE t.length) [] t ce t.length (ag _)
 rw[List.append_nil,List.take_length] at uL
 rw[hn]
 simp only[Int.toNat_natCast]
 rw[uL]
 simp only
 rw[if_pos ⟨UT _ _ (by rw[List.length_append];omega),h⟩]
def M4 (tb log:List RefL) (A r:List UInt8) (x:RefL) (hx:x.name.length≤32):
  gX (A++ (ai (bW x)++r)) tb log A.length=if al tb (log++ [x])=true then some (log++ [x],A.length+ (ai (bW x)).length) else none:=by
 have pN:=EO (r:=x) oM
 have hr:=x8 A (refB x) r 69 oM
 rw[←Us] at hr
 have h1: (bS (A++ (ai (bW x)++r)) A.length 0 [69]).1=some (refB x):=by rw[hr]
 rw[wu h1,hr]
 have hf:=x5 [] [] x hx
 simp only[List.nil_append,List.append_nil,List.length_nil,Nat.zero_add] at hf
 rw[hf]
 simp only
 by_cases hb:al tb (log++ [x])=true
 ·rw[if_pos ⟨UT _ _ (ag _),hb⟩,if_pos hb]
 rw[if_neg (fun h=>hb h.2),if_neg hb]
def Un (l:List RefL) (g:Nat) (h:g<l.length):be l=be (l.take g)++ (ai (bW (l.getD g az))++be (l.drop (g+1))):=by
 conv=>lhs;rw[←List.take_append_drop g l]
 unfold be
 rw[List.map_append,List.flatten_append,List.drop_eq_getElem_cons h,List.getD_eq_getElem?_getD,List.getElem?_eq_getElem h]
 rfl
theorem wZ (tb l:List RefL) (A r:List UInt8) (hr: ∀j,j≤l.length→al tb (l.take j)=true) (hn: ∀g,g<l.length→(l.getD g az).name.length≤32)
  (k9:gX (A++ (be l++r)) tb l (A.length+ (be l).length)=none): ∀ (n g:Nat),g≤l.length→l.length - g<n→
  iJ (A++ (be l++r)) tb n (l.take g) (A.length+ (be (l.take g)).length)=(l,A.length+ (be l).length)
 |0,g,_,h=>by omega
 |n+1,g,hg,h=>by
  unfold iJ
  by_cases aG:g<l.length
  ·have h1:=M4 tb (l.take g) (A++be (l.take g)) (be (l.drop (g+1))++r) (l.getD g az) (hn g aG)
   have e:A++be (l.take g)++ (ai (bW (l.getD g az))++ (be (l.drop (g+1))++r))=A++ (be l++r):=by
    rw[Un l g aG];simp only[List.append_assoc]
   rw[e,←Bq l g aG,if_pos (hr (g+1) aG),List.length_append] at h1
   rw[h1]
   simp only
   have h2:=wZ tb l A r hr hn k9 n (g+1) aG oM
   rw[CE l g aG,List.length_append,←Nat.add_assoc] at h2
   exact h2
  obtain rfl:g=l.length:=by omega
  rw[List.take_length,k9]
def w8 (tb l:List RefL) (r:List UInt8) (h:al tb l=true) (k9:gX (ai (dP tb)++ (be l++r)) tb l ((ai (dP tb)).length+ (be l).length)=none):
  gv (ai (dP tb)++ (be l++r))=some (tb,l,(ai (dP tb)).length+ (be l).length):=by
 obtain⟨-,hl,-,bC,gT⟩:=A_ h
 have h0:=gT 0 (cC _)
 rw[List.take_zero] at h0
 unfold gv
 rw[J9 tb _ h0,Option.map_some]
 have:=wZ tb l (ai (dP tb)) r gT (fun g hg=>ED (bC g hg)) k9 101 0 (cC _) oM
 rw[List.take_zero] at this
 simp only
 rw[show(ai (dP tb)).length=(ai (dP tb)).length+ (be ([]:List RefL)).length by simp[be],this]
 simp[be]
def JJ (most:Int): ∀ (n j k acc:Nat),j< (cE n).length→ ∃x:Nat,cB most ((cE n).take j) k acc= .error x∧x≠0:=by
 intro n
 induction n using Nat.strongRecOn with
 |ind n ih=>
  intro j k acc hj
  cases j with
  |zero=>exact⟨3,by rw[List.take_zero];rfl,by decide⟩
  |succ j=>
   by_cases h:n<128
   ·rw[BA h] at hj;simp at hj
   have hb:=vQ h
   rw[hb] at hj ⊢
   rw[List.length_cons] at hj
   rw[List.take_succ_cons,cB]
   have hc: (UInt8.ofNat (n%128+128)).toNat=n%128+128:=by rw[UInt8.toNat_ofNat'];omega
   rw[hc,if_pos oM]
   by_cases h6:k+1=6
   ·rw[if_pos h6];exact⟨4,rfl,by decide⟩
   rw[if_neg h6];exact ih (n / 128) oM j (k+1) _ oM
def Jk {s:List UInt8} {a:Nat} {n:Int} (h0:0≤n) (h: (s.length:Int) - a<n):ck s a 0 n=([],a,3):=by
 unfold ck
 rw[if_neg (by simp),if_neg oM,if_pos h]
def JD (A t:List UInt8) (most:Int) (j:Nat) (hn:t.length≤1099511627775) (hm: (t.length:Int)≤most) (hj:j< (dB t).length): (a_ (A++ (dB t).take j) A.length 0 most).2.2≠0:=by
 have ec:eL t.length=t.length:=Dq oM
 unfold dB at hj ⊢
 rw[ec,List.length_append] at hj
 rw[ec]
 by_cases h:j< (cE t.length).length
 ·rw[List.take_append_of_le_length oM]
  obtain⟨x,hx,h0⟩:=JJ most t.length j 0 0 h
  have hr:aV (A++ (cE t.length).take j) A.length 0 most=(0,A.length,(x:Int)):=tY rfl (by rw[Eo];exact hx)
  have At: (x:Int)≠0:=by omega
  unfold a_
  rw[hr]
  simp only
  unfold ck
  rw[if_pos At,if_pos At]
  exact At
 obtain⟨i,rfl⟩: ∃i,j=(cE t.length).length+i:=⟨j - (cE t.length).length,by omega⟩
 rw[List.take_length_add_append]
 have h1:=Ej A (t.take i) t.length most hn hm
 unfold a_
 rw[h1]
 simp only
 rw[Jk oM (by simp only[List.length_append,List.length_take];omega)]
 simp
def Mp (A x:List UInt8) (p:UInt8) (j:Nat) (hx:x.length≤65531) (hj:j< (ai (p::x)).length): (bS (A++ (ai (p::x)).take j) A.length 0 [p]).1=none:=by
 have hl:=r8 (p::x)
 rw[List.length_cons] at hl
 have ht:=JD A (eY (p::x)) 65536 j oM oM hj
 unfold bS
 simp only
 unfold ai
 rw[if_neg (fun h=>ht h.2.2)]
def wl (tb log:List RefL) (A:List UInt8) (x:RefL) (j:Nat) (hx:x.name.length≤32) (hj:j< (ai (bW x)).length):gX (A++ (ai (bW x)).take j) tb log A.length=none:=by
 have pN:=EO (r:=x) oM
 rw[Us] at hj ⊢
 exact w3 (Mp A (refB x) 69 j oM hj)
def J_ (tb log:List RefL) (A:List UInt8):gX A tb log A.length=none:=by
 have h:=wl tb log A az 0 (by simp[az]) (by unfold ai dB;rw[List.length_append];have:=w6 (eL (eY (bW az)).length);omega)
 rw[List.take_zero,List.append_nil] at h
 exact h
def Gv {t l:List RefL} (h:al t l=true):gv (aO t l)=some (t,l,(aO t l).length):=by
 have:=w8 t l [] h (by
  rw[List.append_nil,←List.length_append];exact J_ t l _)
 rw[List.append_nil] at this
 unfold aO
 rw[this,List.length_append]
def LD {t l:List RefL} (h:al t l=true) (a k:Nat) (ha:a≤ (aO t l).length) (hk:k≤l.length) (h1: (ai (dP t)).length+ (be (l.take k)).length≤a)
  (h2:k=l.length∨a< (ai (dP t)).length+ (be (l.take (k+1))).length):
  gv ((aO t l).take a)=some (t,l.take k,(ai (dP t)).length+ (be (l.take k)).length):=by
 obtain⟨-,-,-,ce,gT⟩:=A_ h
 have fD: (aO t l).length=(ai (dP t)).length+ (be l).length:=by unfold aO;rw[List.length_append]
 by_cases aG:k<l.length
 ·have h3:=h2.resolve_left oM
  rw[CE l k aG,List.length_append] at h3
  obtain⟨j,rfl⟩: ∃j,a=(ai (dP t)++be (l.take k)).length+j:=⟨a - (ai (dP t)++be (l.take k)).length,by rw[List.length_append];omega⟩
  rw[List.length_append] at h3
  have hj:j< (ai (bW (l.getD k az))).length:=by omega
  have e: (aO t l).take ((ai (dP t)++be (l.take k)).length+j)=ai (dP t)++ (be (l.take k)++ (ai (bW (l.getD k az))).take j):=by
   unfold aO
   rw[Un l k aG,←List.append_assoc,List.take_length_add_append,List.take_append_of_le_length oM,List.append_assoc]
  rw[e]
  refine w8 t (l.take k) _ (gT k hk) ?_
  have:=wl t (l.take k) (ai (dP t)++be (l.take k)) (l.getD k az) j (ED (ce k aG)) hj
  rw[List.append_assoc,List.length_append] at this
  exact this
 obtain rfl:k=l.length:=by omega
 rw[List.take_length] at h1 ⊢
 rw[←fD]
 rw[List.take_of_length_le oM]
 exact Gv h
theorem B6 {x r:RefL}: ∀ {l:List RefL} {dn:Bool},r∈lK x l dn→(r=x∧dn=false)∨r∈l
 | [],dn,h=>by
  unfold lK at h
  cases dn
  ·simp at h;exact .inl ⟨h,rfl⟩
  simp at h
 |a::l,dn,h=>by
  unfold lK at h
  split at h
  ·rcases B6 h with h|h
   ·exact .inl h
   exact .inr (aq _ h)
  split at h
  ·rename_i hc
   have hd:dn=false:=by cases dn<;>simp_all
   rcases List.mem_cons.1 h with h|h
   ·exact .inl ⟨h,hd⟩
   rcases List.mem_cons.1 h with h|h
   ·exact .inr (by rw[h];exact ah)
   rcases B6 h with h|h
   ·cases h.2
   exact .inr (aq _ h)
  rcases List.mem_cons.1 h with h|h
  ·exact .inr (by rw[h];exact ah)
  rcases B6 h with h|h
  ·exact .inl h
  exact .inr (aq _ h)
def oL (r:RefL):Prop:=bU r.name=true∧(r.id.l==z32)=false
theorem we {l t:List RefL} (ht: ∀r,r∈t→oL r): ∀ (k:Nat),k≤l.length→ ∀ls,ey l t k=some ls→(∀r,r∈ls→oL r)∧ ∀r,r∈ls→r∈t∨r∈l
 |0,_,ls,h=>by
  unfold ey at h
  cases h;exact⟨ht,fun r hr=> .inl hr⟩
 |k+1,hk,ls,h=>by
  unfold ey at h
  cases hm:ey l t k with
  |none=>rw[hm] at h;cases h
  |some m=>
   rw[hm,Option.bind_some] at h
   obtain⟨h1,h2⟩:=we ht k oM m hm
   split at h
   ·rename_i hc
    cases h
    simp only[Bool.and_eq_true,decide_eq_true_eq] at hc
    have AC:l.getD k az∈l:=StP.getD_mem oM
    refine⟨fun r hr=> ?_,fun r hr=> ?_⟩
    ·rcases B6 hr with⟨rfl,hz⟩ |hr
     ·exact⟨hc.1,hz⟩
     exact h1 r hr
    rcases B6 hr with⟨rfl,-⟩ |hr
    ·exact .inr AC
    exact h2 r hr
   cases h
def Lr {t:List RefL} (h:rK t=true): ∀r,r∈t→oL r:=by
 intro r hr
 obtain⟨i,hi,rfl⟩:=StP.mem_getD (z:=az) hr
 have:=(Ua t).1 h i hi
 unfold fQ at this
 rw[m_ t i hi] at this
 simp only[Bool.and_eq_true,Bool.not_eq_true'] at this
 exact⟨this.1.1,this.1.2⟩
def GI {ls:List RefL} (h1: ∀r,r∈ls→oL r) (h2:Rising (prs ls)):rK ls=true:=by
 rw[Ua]
 intro i hi
 have hf:=h1 _ (StP.getD_mem (z:=az) hi)
 unfold fQ
 rw[m_ ls i hi]
 simp only[Bool.and_eq_true,Bool.not_eq_true',Bool.or_eq_true,beq_iff_eq]
 refine⟨⟨hf.1,hf.2⟩, ?_⟩
 by_cases h0:i=0
 ·exact .inl h0
 right
 rw[m_ ls (i - 1) oM]
 have:=List.pairwise_iff_getElem.1 h2 (i - 1) i (by rw[g9];omega) (by rw[g9];exact hi) oM
 have e: ∀j (hj:j<ls.length),(prs ls)[j]'(by rw[g9];exact hj)=((ls.getD j az).name,(ls.getD j az).id.l):=by
  intro j hj
  rw[←m_ ls j hj,List.getD_eq_getElem?_getD,List.getElem?_eq_getElem (by rw[g9];exact hj)];rfl
 rw[e _ oM,e _ hi] at this
 exact this
theorem v_ {l t ls:List RefL} {k:Nat} (h:ey l t k=some ls): ∀j,ey (l.drop k) ls j=ey l t (k+j)
 |0=>by rw[Nat.add_zero,h];rfl
 |j+1=>by
  rw[←Nat.add_assoc]
  unfold ey
  rw[v_ h j,StP.getD_drop]
def Ia {t l:List RefL} (hr:al t l=true) {k:Nat} (hk:k≤l.length) {ls:List RefL} (hv:fj t l k=some ls):
  al ls (l.drop k)=true∧fj ls (l.drop k) (l.drop k).length=fj t l l.length∧ ∀r,r∈ls→r∈t∨r∈l:=by
 obtain⟨m,ls',hm,WB,tB,sm,qR⟩:=ri hr hk
 rw[hv] at WB
 obtain rfl:=Option.some.inj WB
 obtain⟨h1,h2,h3,h4⟩:=tq hv
 obtain⟨hf,so⟩:=we (Lr h3) k hk ls h4
 have tG:=GI hf tB.2
 have bJ:fj ls (l.drop k) (l.drop k).length=fj t l l.length:=by
  unfold fj
  rw[if_pos ⟨sm,by rw[List.length_drop];omega,tG⟩,if_pos ⟨h1,h2,h3⟩,v_ h4,List.length_drop]
  congr 1;omega
 refine⟨?_,bJ,so⟩
 rw[←Du,bJ,Du,hr]
end Go.Proofs
end
section
open Go Go.Proofs Go.Sx Go.StP Go.RefP
namespace Go.Proofs
def eF (o:Option (List UInt8)):Nat:=(o.getD []).length
theorem Mm {S:DiskL} {a b:List UInt8} (_hab:a≠b): ∀ {l:NmL},SrtN l→(∀p,p∈l→p.1=a∨p.1=b)→gw S l≤eF ((aL l a).map fun n=>(aF S n).data)+eF ((aL l b).map fun n=>(aF S n).data)
 | [],_,_=>cC _
 | [p],_,hn=>by
  rw[EZ]
  have h0:gw S []=0:=rfl
  rw[h0]
  rcases hn p ah with e|e
  ·rw[←e,tN]
   show(aF S p.2).data.length+0≤ (aF S p.2).data.length+_
   omega
  rw[←e,tN p]
  show(aF S p.2).data.length+0≤_+ (aF S p.2).data.length
  omega
 | [p,q],hs,hn=>by
  rw[EZ,EZ]
  have h0:gw S []=0:=rfl
  rw[h0]
  have ay:=hs.nodup
  have aQ:p.1≠q.1:=fun e=>by
   rw[List.map_cons,List.nodup_cons] at ay
   exact ay.1 (by rw[e];simp)
  rcases hn p ah with e|e
  ·have e2:q.1=b:=(hn q (by simp)).resolve_left fun e2=>aQ (e.trans e2.symm)
   rw[←e,←e2,tN,Tc (Ne.symm aQ),tN]
   show(aF S p.2).data.length+ ((aF S q.2).data.length+0)≤ (aF S p.2).data.length+ (aF S q.2).data.length
   omega
  have e2:q.1=a:=(hn q (by simp)).resolve_right fun e2=>aQ (e.trans e2.symm)
  rw[←e,←e2,tN,Tc (Ne.symm aQ),tN]
  show(aF S p.2).data.length+ ((aF S q.2).data.length+0)≤ (aF S q.2).data.length+ (aF S p.2).data.length
  omega
 |p::q::r::l,hs,hn=>by
  exfalso
  have ay:=hs.nodup
  rw[List.map_cons,List.map_cons,List.map_cons,List.nodup_cons,List.nodup_cons] at ay
  have h1:p.1≠q.1:=fun e=>ay.1 (by rw[e];simp)
  have h2:p.1≠r.1:=fun e=>ay.1 (by rw[e];simp)
  have h3:q.1≠r.1:=fun e=>ay.2.1 (by rw[e];simp)
  rcases hn p (by simp) with e|e<;>rcases hn q (by simp) with e2|e2<;>rcases hn r (by simp) with e3|e3<;>first|exact h1 (e.trans e2.symm) |exact h2 (e.trans e3.symm) |exact h3 (e2.trans e3.symm)
def NmV (S:DiskL):Prop:= ∀j,j<3→ ∀x,aa S j x≠none→j=2∧(x=aH∨x=aD aH)
def xh {S:DiskL} (hg:GoodS S) {j:Nat} (hj:j<3) {p:List UInt8×Nat} (hp:p∈ (S.dir j).seen):aa S j p.1≠none:=by
 unfold aa
 rw[vE (hg.srt j hj).nodup (s:=p.1) (n:=p.2) hp]
 simp
def rQ {S:DiskL} (hg:GoodS S) (h:NmV S):jL S≤eF (aa S 2 aH)+eF (aa S 2 (aD aH)):=by
 have he: ∀j,j<2→(S.dir j).seen= []:=fun j hj=>List.eq_nil_iff_forall_not_mem.2 fun p hp=>by
  have:=(h j oM p.1 (xh hg oM hp)).1
  omega
 unfold jL
 rw[he 0 oM,he 1 oM]
 have:=Mm (S:=S) (Ne.symm (nZ aH)) (hg.srt 2 oM) fun p hp=>(h 2 oM p.1 (xh hg oM hp)).2
 unfold aa
 have h0:gw S []=0:=rfl
 omega
def Tj {S:DiskL} {x:List UInt8} (hc:dh S) (hf:cN x=true) {m:Nat} (hm:aL (S.dir 2).seen x=some m) (s:List UInt8) (h1: (aF S m).data.length+s.length≤1048576) (h2: (jL S:Int)+s.length≤S.max):bD S aJ x s=(en S m ⟨(aF S m).data++s,(aF S m).stl⟩,0):=by
 have hk:av aJ=some 2:=rfl
 have h0:cF S aJ [x]=0:=by rw[nX hc hk,if_neg (by simp[hf])]
 have dL:jx S m s=false:=by
  unfold jx
  simp only[Bool.or_eq_false_iff,decide_eq_false_iff_not]
  exact⟨⟨by omega,by omega⟩,by omega⟩
 unfold bD
 rw[if_neg (by rw[h0];simp),jw hk,hm]
 simp only
 rw[dL,if_neg (by simp),pr hc,if_neg (by simp)]
def Mo {S:DiskL} {x:List UInt8} (hc:dh S) (hf:cN x=true) {m:Nat} (hm:aL (S.dir 2).seen x=some m):bF S aJ x=(en S m ⟨(aF S m).data,(aF S m).data.length⟩,0):=by
 have hk:av aJ=some 2:=rfl
 have h0:cF S aJ [x]=0:=by rw[nX hc hk,if_neg (by simp[hf])]
 unfold bF
 rw[if_neg (by rw[h0];simp),jw hk,hm]
 simp only
 rw[pr hc,if_neg (by simp)]
def yS (S:DiskL) (dir nm data:List UInt8) (light:Bool): (au S dir nm data light).2.max=S.max:=
 t_ (fun T=>T.max=S.max) dir nm (fun _ _ _ _ _ hA bH _=>(EV bH).trans hA) 6 (tk0 dir nm data light) S rfl rfl rfl
structure PlS (S:DiskL) (B:BkL):Prop where
 wel:WelS S
 calm:dh S
 max:S.max=1000000
 len:LenS 150000 S
 pend: ∀j,j<3→(S.dir j).pend= []
 nm: ∀j,j<3→ ∀x,aa S j x≠none→j=2∧x=aH
 bk:BkR B
 rt:al B.t B.l=true
 n:B.n≤B.l.length
 at_: ∃m,aL (S.dir 2).seen aH=some m∧(aF S m).data=aO B.t B.l∧(aF S m).stl=(aO B.t (B.l.take B.n)).length
def PlS.names {S:DiskL} {B:BkL} (h:PlS S B):NmV S:=fun j hj x hx=>⟨(h.nm j hj x hx).1, .inl (h.nm j hj x hx).2⟩
def PlS.view {S:DiskL} {B:BkL} (h:PlS S B):aa S 2 aH=some (aO B.t B.l)∧aa S 2 (aD aH)=none:=by
 obtain⟨m,h1,h2,-⟩:=h.at_
 refine⟨by unfold aa;rw[h1];exact congrArg some h2, ?_⟩
 cases hv:aa S 2 (aD aH) with
 |none=>rfl
 |some d=>exact absurd (h.nm 2 oM _ (by rw[hv];simp)).2 (nZ aH)
def PlS.blen {S:DiskL} {B:BkL} (h:PlS S B): (aO B.t B.l).length≤150000:=pu h.bk.tl h.bk.ll h.bk.t h.bk.l
def PlS.used {S:DiskL} {B:BkL} (h:PlS S B):jL S≤150000:=by
 have h1:=rQ h.wel.good h.names
 rw[h.view.1,h.view.2] at h1
 have h2:=h.blen
 have e1:eF (some (aO B.t B.l))=(aO B.t B.l).length:=rfl
 have e2:eF none=0:=rfl
 omega
def wm {r:RefL} (h:bU r.name=true): (ai (bW r)).length≤400:=by
 have h1:=Tz (bW r)
 have h2:=j9 (r.name.length:Int)
 have h3:=Dy h
 have h4:=r.id.h
 have h5: (bW r).length=1+ ((cE (eL (r.name.length:Int))).length+r.name.length)+r.id.l.length:=by
  unfold bW dB
  simp only[List.length_append,List.length_cons,List.length_nil]
 omega
def UX (t l:List RefL) (r:RefL):aO t (l++ [r])=aO t l++ai (bW r):=by
 unfold aO be
 simp
def xP {S:DiskL} {m:Nat} {f:FileL} (_hg:GoodS S) (_hm:aL (S.dir 2).seen aH=some m) {j:Nat} (_hj:j<3) {x:List UInt8}: (aa (en S m f) j x≠none↔aa S j x≠none):=by
 unfold aa
 show((aL (S.dir j).seen x).map _≠none)↔_
 cases aL (S.dir j).seen x<;>simp
def PlS.setF {S:DiskL} {B B':BkL} (h:PlS S B) {m:Nat} {f:FileL} (hm:aL (S.dir 2).seen aH=some m) (hw:WelS (en S m f)) (bG:BkR B') (Aj:al B'.t B'.l=true) (hn:B'.n≤B'.l.length) (hd:f.data=aO B'.t B'.l) (hs:f.stl=(aO B'.t (B'.l.take B'.n)).length):PlS (en S m f) B' where
 wel:=hw
 calm:=h.calm
 max:=h.max
 len:=u_ h.len (by rw[hd];exact pu bG.tl bG.ll bG.t bG.l)
 pend:=h.pend
 nm:=fun j hj x hx=>h.nm j hj x ((xP h.wel.good hm hj).1 hx)
 bk:=bG
 rt:=Aj
 n:=hn
 at_:=by
  have jb:=h.wel.good.lt 2 oM _ (gJ hm)
  refine⟨m,hm, ?_, ?_⟩
  ·rw[kE _ _ jb,if_pos rfl,hd]
  rw[kE _ _ jb,if_pos rfl,hs]
theorem PlS.upd {S:DiskL} {B:BkL} (h:PlS S B) (nm:List UInt8) (o i:IdL):PlS (fR S B nm o i).2.1 (fR S B nm o i).2.2:=by
 have bG:=h.bk.upd (S:=S) (nm:=nm) (o:=o) (i:=i)
 unfold fR at bG ⊢
 by_cases h1:jl B.t B.l nm≠o.l
 ·rw[if_pos h1];exact h
 rw[if_neg h1] at bG ⊢
 by_cases h2: ¬ (al B.t B.l=true∧bU nm=true)
 ·rw[if_pos h2];exact h
 rw[if_neg h2] at bG ⊢
 by_cases h3:al B.t (B.l++ [⟨nm,i⟩])=false
 ·rw[if_pos h3];exact h
 rw[if_neg h3] at bG ⊢
 have p_:=Classical.not_not.1 h2
 have fE:=wm (r:=⟨nm,i⟩) p_.2
 obtain⟨m,hm,hd,hs⟩:=h.at_
 have hu:=h.used
 have fD:=h.blen
 have hw:=h.wel.step (qn S aJ aH (ai (bW ⟨nm,i⟩)))
 rw[Tj h.calm fineBk.1 hm _ (by rw[hd];omega) (by rw[h.max];omega)] at bG hw ⊢
 simp only[ne_eq,not_true_eq_false, ↓reduceIte] at bG hw ⊢
 refine h.setF hm hw bG (by simpa using h3) (by show B.n≤ (B.l++ [_]).length;rw[List.length_append];have:=h.n;omega) (by rw[hd];exact(UX _ _ _).symm) ?_
 show(aF S m).stl=(aO B.t ((B.l++ [_]).take B.n)).length
 rw[List.take_append_of_le_length h.n];exact hs
theorem PlS.sync {S:DiskL} {B:BkL} (h:PlS S B): (eu S B).1=0∧PlS (eu S B).2.1 (eu S B).2.2∧(eu S B).2.2.n=B.l.length:=by
 have bG:=h.bk.sync (S:=S)
 obtain⟨m,hm,hd,hs⟩:=h.at_
 have hw:=h.wel.sync aJ aH
 unfold eu at bG ⊢
 rw[Mo h.calm fineBk.1 hm] at bG hw ⊢
 simp only[ne_eq,not_true_eq_false, ↓reduceIte] at bG hw ⊢
 refine⟨trivial,h.setF hm hw bG h.rt (ag _) hd ?_,trivial⟩
 show(aF S m).data.length=(aO B.t (B.l.take B.l.length)).length
 rw[List.take_length,hd]
theorem PlS.pub {S:DiskL} {B:BkL} (h:PlS S B) {t l:List RefL} (bG:BkR ⟨t,l,l.length⟩) (Aj:al t l=true): (au S aJ aH (aO t l) false).1=0∧PlS (au S aJ aH (aO t l) false).2 ⟨t,l,l.length⟩:=by
 have hk:av aJ=some 2:=rfl
 have hg:=h.wel.good
 have fD: (aO t l).length≤150000:=pu bG.tl bG.ll bG.t bG.l
 have hz: (au S aJ aH (aO t l) false).1=0:=by
  obtain⟨S2,g2,c2,m2,v2,o2,h2⟩:=yT hg h.calm hk fineBk.1 fineBk.2 (aO t l)
  rcases h2 with⟨a2,-⟩ | ⟨-,p2⟩
  ·exfalso
   obtain⟨n,hn,hd⟩:=ug v2
   have ce:NmV S2:=fun j hj x hx=>by
    by_cases e:j=2∧x=aD aH
    ·exact⟨e.1, .inr e.2⟩
    rw[o2 j hj x fun e1 e2=>e ⟨e1,e2⟩] at hx
    exact h.names j hj x hx
   have hu:=rQ g2 ce
   rw[v2,o2 2 oM aH (fun _=>(nZ aH).symm),h.view.1] at hu
   have e1:eF (some (aO B.t B.l))=(aO B.t B.l).length:=rfl
   have e2:eF (some [])=0:=rfl
   have ar:=h.blen
   rw[Tj c2 fineBk.2 hn _ (by rw[hd,List.length_nil];omega) (by rw[m2,h.max];omega)] at a2
   cases a2
  exact p2
 refine⟨hz, ?_⟩
 have hw:=h.wel.pub aJ aH (aO t l) false
 have hc:=Bf h.calm aJ aH (aO t l) false
 have hf:=(wR hg h.calm aJ aH (aO t l)).2 hz
 have ho:=yO hg aJ aH (aO t l) false
 obtain⟨m,-,hD⟩: ∃m,false=false∧DoneI S (au S aJ aH (aO t l) false).2 2 aH (aO t l) m:=by
  rcases UK h.pend hg h.wel.hist hk (nm:=aH) (aO t l) false with⟨-,h2⟩ | ⟨m,-,h2⟩ | ⟨m,h1,h2⟩
  ·exact absurd hz h2
  ·exact absurd hz (h2 rfl)
  exact⟨m,rfl,h2⟩
 have AR:=yS S aJ aH (aO t l) false
 have AM:=CA hg h.len aJ aH fD false
 generalize (au S aJ aH (aO t l) false).2=S' at*
 have nT: ∀j,j<3→(S'.dir j).seen=(S'.dir j).stl:=fun j hj=>by
  rw[← (hw.hist j).1,hD.pend j hj];rfl
 refine⟨hw,hc,AR.trans h.max,AM,hD.pend,fun j hj x hx=> ?_,bG,Aj,ag _,m, ?_,hD.data, ?_⟩
 ·by_cases e:j=2∧x=aD aH
  ·rw[e.1,e.2] at hx
   have hr:=rB hc hk fineBk.2
   cases hv:aa S' 2 (aD aH) with
   |none=>exact absurd hv hx
   |some d=>
    rw[hv] at hr
    exact absurd (by rw[hr]) hf.2
  by_cases e2:j=2∧x=aH
  ·exact e2
  have hv:=ho.view j hj x fun e3=>by
   have Vj:j=2:=by
    have:=qz hj
    rw[e3] at this
    exact(Option.some.inj (this.symm.trans hk))
   exact⟨fun e4=>e2 ⟨Vj,e4⟩,fun e4=>e ⟨Vj,e4⟩⟩
  rw[hv] at hx
  exact h.nm j hj x hx
 ·rw[nT 2 oM];exact hD.at_
 show(aF S' m).stl=(aO t (l.take l.length)).length
 rw[hD.set,hD.data,List.take_length]
def B_ {t l:List RefL} (h:al t l=true) (keep:Int) (bG:BkR ⟨t,l,0⟩): ∃ls,fj t l (dN l.length keep)=some ls∧al ls (l.drop (dN l.length keep))=true∧BkR ⟨ls,l.drop (dN l.length keep),(l.drop (dN l.length keep)).length⟩∧li ls (l.drop (dN l.length keep))=aO ls (l.drop (dN l.length keep)):=by
 have lT:=Ba l.length keep
 obtain⟨m,ls,-,hv,-,-,-⟩:=ri h lT
 obtain⟨h1,-,-⟩:=Ia h lT hv
 obtain⟨h2,h3⟩:=EC lT hv bG.t bG.l
 have kY:=(tq hv).2.1
 refine⟨ls,hv,h1,⟨h3,by show(l.drop _).length≤100;rw[List.length_drop];omega,h2,BR fun r hr=>bG.l.mem (List.mem_of_mem_drop hr)⟩, ?_⟩
 unfold li
 rw[if_pos h1]
def BkR.n0 {t l:List RefL} {n k:Nat} (h:BkR ⟨t,l,n⟩):BkR ⟨t,l,k⟩:=⟨h.tl,h.ll,h.t,h.l⟩
def PlS.trim {S:DiskL} {B:BkL} (h:PlS S B) (keep:Int):PlS (ew S B keep).2.1 (ew S B keep).2.2:=by
 obtain⟨ls,h1,h2,h3,h4⟩:=B_ h.rt keep h.bk.n0
 obtain⟨p1,p2⟩:=h.pub h3 h2
 unfold ew
 rw[if_pos h.rt,h1]
 simp only
 rw[h4,p1]
 exact p2
def PlS.act {S:DiskL} {B:BkL} (h:PlS S B) (a:AtL):PlS (eo S B a).1 (eo S B a).2:=by
 unfold eo
 split
 ·exact h
 split
 ·exact h.upd _ _ _
 split
 ·exact h.sync.2.1
 split
 ·exact h.trim _
 exact h
def PS (q:Int) (hq: -9223372036854775808≤q∧q<9223372036854775808):DkOk (cq q) where
 seen:=fun _ _=>List.Pairwise.nil
 stl:=fun _ _=>List.Pairwise.nil
 seenN:=fun _ _ p hp=>by cases hp
 stlN:=fun _ _ p hp=>by cases hp
 pendN:=fun _ _ c hc=>by cases hc
 file:=fun f hf=>by cases hf
 fuse:=⟨by show -9223372036854775808≤ (0:Int);decide,by show(0:Int)<9223372036854775808;decide,fun h=>by cases h⟩
 max:=hq
def y0 (q:Int) (hq: -9223372036854775808≤q∧q<9223372036854775808):WelS (cq q):=by
 have h:=PS q hq
 rw[Nz] at h ⊢
 exact WelS.of h
def Ji:PlS (ct (cq 1000000)).2.2 ⟨[],[],0⟩:=by
 have hw:=(y0 1000000 (by decide)).open
 have hc:=MB (S:=cq 1000000) ⟨rfl,rfl⟩
 have hl:LenS 150000 (ct (cq 1000000)).2.2:=xW (y0 1000000 (by decide)) (fun n=>cC _) (by decide)
 have h0: ((ct (cq 1000000)).2.2.dir 0).seen= []:=by kernel_rfl
 have h1: ((ct (cq 1000000)).2.2.dir 1).seen= []:=by kernel_rfl
 have h2: ((ct (cq 1000000)).2.2.dir 2).seen= [(aH,0)]:=by kernel_rfl
 have p0: ((ct (cq 1000000)).2.2.dir 0).pend= []:=by kernel_rfl
 have p1: ((ct (cq 1000000)).2.2.dir 1).pend= []:=by kernel_rfl
 have p2: ((ct (cq 1000000)).2.2.dir 2).pend= []:=by kernel_rfl
 have hm: (ct (cq 1000000)).2.2.max=1000000:=by kernel_rfl
 have hf:aF (ct (cq 1000000)).2.2 0=⟨aO [] [],(aO [] []).length⟩:=by kernel_rfl
 generalize (ct (cq 1000000)).2.2=S at*
 refine⟨hw,hc,hm,hl,fun j hj=> ?_,fun j hj x hx=> ?_,bkR0,yU,cC _,0, ?_,by rw[hf],by rw[hf];rfl⟩
 ·match j,hj with
  |0,_=>exact p0
  |1,_=>exact p1
  |2,_=>exact p2
 ·unfold aa at hx
  match j,hj with
  |0,_=>rw[h0] at hx;exact absurd rfl hx
  |1,_=>rw[h1] at hx;exact absurd rfl hx
  |2,_=>
   refine⟨rfl, ?_⟩
   rw[h2] at hx
   by_cases e:x=aH
   ·exact e
   rw[Tc e] at hx
   exact absurd rfl hx
 rw[h2]
 exact tN (aH,0) []
theorem wD: ∀ (l:List AtL) {q:DiskL×BkL},PlS q.1 q.2→PlS (l.foldl (fun q a=>eo q.1 q.2 a) q).1 (l.foldl (fun q a=>eo q.1 q.2 a) q).2
 | [],_,h=>h
 |a::l,q,h=>wD l (q:=eo q.1 q.2 a) (h.act a)
def PI (l:List AtL):PlS (kT l).1 (kT l).2:=wD (l.take 30) (q:=((ct (cq 1000000)).2.2,⟨[],[],0⟩)) Ji
def Beg2 (f g:FileL):Prop:=g=f∨ ∃t,f.stl≤t∧g=⟨f.data.take t,(f.data.take t).length⟩
def Beg2.trans {f g h:FileL} (h1:Beg2 f g) (h2:Beg2 g h):Beg2 f h:=by
 rcases h1 with rfl| ⟨t,ht,rfl⟩
 ·exact h2
 rcases h2 with rfl| ⟨u,hu,rfl⟩
 ·exact .inr ⟨t,ht,rfl⟩
 refine .inr ⟨t,ht, ?_⟩
 have e: (f.data.take t).take u=f.data.take t:=List.take_of_length_le hu
 show FileL.mk ((f.data.take t).take u) ((f.data.take t).take u).length=_
 rw[e]
theorem Beg2.data {f g:FileL} (h:Beg2 f g): ∃t,f.stl≤t∧g.data=f.data.take t:=by
 rcases h with h| ⟨t,ht,h⟩
 ·rw[h];exact⟨f.stl+f.data.length,by omega,(List.take_of_length_le oM).symm⟩
 rw[h];exact⟨t,ht,rfl⟩
def H4 (q:DiskL×List UInt16) (p:List UInt8×Nat) (n:Nat):Beg2 (aF q.1 n) (aF (dc q p).1 n):=by
 unfold dc
 simp only
 by_cases hm:p.2<q.1.files.length
 ·rw[kE _ _ hm]
  by_cases e:n=p.2
  ·subst e
   rw[if_pos rfl]
   exact .inr ⟨_,Nat.le_add_right _ _,rfl⟩
  rw[if_neg e];exact .inl rfl
 rw[CM _ oM];exact .inl rfl
theorem Uv (n:Nat): ∀ (l:NmL) (q:DiskL×List UInt16),Beg2 (aF q.1 n) (aF (l.foldl dc q).1 n)
 | [],_=> .inl rfl
 |p::l,q=>(H4 q p n).trans (Uv n l (dc q p))
theorem U_ (n:Nat) (q:DiskL×List UInt16): ∀k,Beg2 (aF q.1 n) (aF (db q k).1 n)
 |0=> .inl rfl
 |k+1=>(U_ n q k).trans (Uv n _ _)
def D_ (S:DiskL) (pl:List UInt16) (n:Nat):Beg2 (aF S n) (aF (bc S pl) n):=by
 have h:=U_ n (j7 (cZ (S,pl) 3).1,(cZ (S,pl) 3).2) 3
 have e:aF (j7 (cZ (S,pl) 3).1) n=aF S n:=by
  unfold aF j7
  rw[Tb]
 rw[←e];exact h
def Ie (q:DiskL×List UInt16) (l:NmL): (l.foldl dc q).1.max=q.1.max:=by
 induction l generalizing q with
 |nil=>rfl
 |cons p l ih=>rw[List.foldl_cons,ih];rfl
theorem Ub (q:DiskL×List UInt16): ∀k,(db q k).1.max=q.1.max
 |0=>rfl
 |k+1=>by
  show(List.foldl dc (db q k) _).1.max=_
  rw[Ie,Ub q k]
def wt (S:DiskL) (pl:List UInt16): (bc S pl).max=S.max:=by
 unfold bc
 rw[Ub];rfl
structure FzS (S:DiskL) (B:BkL):Prop where
 wel:WelS S
 max:S.max=1000000
 len:LenS 150000 S
 pend: ∀j,j<3→(S.dir j).pend= []
 nm: ∀j,j<3→ ∀x,aa S j x≠none→j=2∧x=aH
 bk:BkR B
 rt:al B.t B.l=true
 n:B.n≤B.l.length
 at_: ∃m,aL (S.dir 2).seen aH=some m∧(aF S m).data=aO B.t B.l∧(aF S m).stl=(aO B.t (B.l.take B.n)).length
def PlS.fz {S:DiskL} {B:BkL} (h:PlS S B):FzS S B:=⟨h.wel,h.max,h.len,h.pend,h.nm,h.bk,h.rt,h.n,h.at_⟩
theorem FzS.fuse {S:DiskL} {B:BkL} (h:FzS S B) {n:Int} (hn:0≤n∧n<1000) {b:Bool}:FzS {S with fuse:=n,fused:=b} B:=by
 have ok:DkOk {S with fuse:=n,fused:=b}:=⟨h.wel.ok.seen,h.wel.ok.stl,h.wel.ok.seenN,h.wel.ok.stlN,h.wel.ok.pendN,h.wel.ok.file,⟨by show -9223372036854775808≤n;omega,by show n<9223372036854775808;omega,fun _=>hn.1⟩,h.wel.ok.max⟩
 exact⟨h.wel.fuse ok,h.max,h.len,h.pend,h.nm,h.bk,h.rt,h.n,h.at_⟩
def FzS.eq {S S':DiskL} {B:BkL} (h:FzS S B) (hw:WelS S') (hd:S'.dir=S.dir) (hf:S'.files=S.files) (hm:S'.max=S.max):FzS S' B:=by
 have hv: ∀j x,aa S' j x=aa S j x:=fun j x=>by
  unfold aa aF
  rw[hd,hf]
 have mM: ∀n,aF S' n=aF S n:=fun n=>by unfold aF;rw[hf]
 refine⟨hw,hm.trans h.max,tQ h.len hf,by rw[hd];exact h.pend,fun j hj x hx=>h.nm j hj x (by rw[←hv];exact hx),h.bk,h.rt,h.n, ?_⟩
 obtain⟨m,h1,h2,h3⟩:=h.at_
 exact⟨m,by rw[hd];exact h1,by rw[mM];exact h2,by rw[mM];exact h3⟩
theorem FzS.burn {S:DiskL} {B:BkL} (h:FzS S B):FzS (aK S).1 B:=by
 obtain⟨b1,b2,b3⟩:=dj S
 exact h.eq (h.wel.step (kind:=0) (dir:= []) (name:= []) (s:= []) (.burn (.inl ⟨by decide,by decide⟩))) b1 b2 b3
def FzS.setF {S:DiskL} {B B':BkL} (h:FzS S B) {m:Nat} {f:FileL} (hm:aL (S.dir 2).seen aH=some m) (hw:WelS (en S m f)) (bG:BkR B') (Aj:al B'.t B'.l=true) (hn:B'.n≤B'.l.length) (hd:f.data=aO B'.t B'.l) (hs:f.stl=(aO B'.t (B'.l.take B'.n)).length):FzS (en S m f) B' where
 wel:=hw
 max:=h.max
 len:=u_ h.len (by rw[hd];exact pu bG.tl bG.ll bG.t bG.l)
 pend:=h.pend
 nm:=fun j hj x hx=>h.nm j hj x ((xP h.wel.good hm hj).1 hx)
 bk:=bG
 rt:=Aj
 n:=hn
 at_:=by
  have jb:=h.wel.good.lt 2 oM _ (gJ hm)
  refine⟨m,hm, ?_, ?_⟩
  ·rw[kE _ _ jb,if_pos rfl,hd]
  rw[kE _ _ jb,if_pos rfl,hs]
def Qz (S:DiskL) (B:BkL) (nm:List UInt8) (o i:IdL): (fR S B nm o i).2.2.n=B.n:=by
 unfold fR
 split
 ·rfl
 split
 ·rfl
 split
 ·rfl
 split<;>rfl
theorem FzS.upd {S:DiskL} {B:BkL} (h:FzS S B) (nm:List UInt8) (o i:IdL):FzS (fR S B nm o i).2.1 (fR S B nm o i).2.2:=by
 have bG:=h.bk.upd (S:=S) (nm:=nm) (o:=o) (i:=i)
 unfold fR at bG ⊢
 by_cases h1:jl B.t B.l nm≠o.l
 ·rw[if_pos h1];exact h
 rw[if_neg h1] at bG ⊢
 by_cases h2: ¬ (al B.t B.l=true∧bU nm=true)
 ·rw[if_pos h2];exact h
 rw[if_neg h2] at bG ⊢
 by_cases h3:al B.t (B.l++ [⟨nm,i⟩])=false
 ·rw[if_pos h3];exact h
 rw[if_neg h3] at bG ⊢
 obtain⟨m,hm,hd,hs⟩:=h.at_
 have hw:=h.wel.step (qn S aJ aH (ai (bW ⟨nm,i⟩)))
 have mL: ((bD S aJ aH (ai (bW ⟨nm,i⟩))).2≠0∧FzS (bD S aJ aH (ai (bW ⟨nm,i⟩))).1 B)∨bD S aJ aH (ai (bW ⟨nm,i⟩))=(en (aK S).1 m ⟨(aF S m).data++ai (bW ⟨nm,i⟩),(aF S m).stl⟩,0):=by
  unfold bD
  by_cases hf:cF S aJ [aH]≠0
  ·rw[if_pos hf];exact .inl ⟨hf,h⟩
  rw[if_neg hf,jw (k:=2) rfl,hm]
  simp only
  by_cases dL:jx S m (ai (bW ⟨nm,i⟩))=true
  ·rw[if_pos dL];exact .inl ⟨by simp,h⟩
  rw[if_neg dL]
  by_cases hb: (aK S).2≠0
  ·rw[if_pos hb];exact .inl ⟨hb,h.burn⟩
  rw[if_neg hb];exact .inr rfl
 rcases mL with⟨c1,c2⟩ |hc
 ·rw[if_pos c1];exact c2
 rw[hc] at bG hw ⊢
 simp only[ne_eq,not_true_eq_false, ↓reduceIte] at bG hw ⊢
 refine h.burn.setF (by rw[(dj S).1];exact hm) hw bG (by simpa using h3) (by show B.n≤ (B.l++ [_]).length;rw[List.length_append];have:=h.n;omega) (by rw[hd];exact(UX _ _ _).symm) ?_
 show(aF S m).stl=(aO B.t ((B.l++ [_]).take B.n)).length
 rw[List.take_append_of_le_length h.n];exact hs
theorem FzS.sync {S:DiskL} {B:BkL} (h:FzS S B):FzS (eu S B).2.1 (eu S B).2.2:=by
 have bG:=h.bk.sync (S:=S)
 obtain⟨m,hm,hd,hs⟩:=h.at_
 have hw:=h.wel.sync aJ aH
 unfold eu at bG ⊢
 have mL: ((bF S aJ aH).2≠0∧FzS (bF S aJ aH).1 B)∨bF S aJ aH=(en (aK S).1 m ⟨(aF S m).data,(aF S m).data.length⟩,0):=by
  unfold bF
  by_cases hf:cF S aJ [aH]≠0
  ·rw[if_pos hf];exact .inl ⟨hf,h⟩
  rw[if_neg hf,jw (k:=2) rfl,hm]
  simp only
  by_cases hb: (aK S).2≠0
  ·rw[if_pos hb];exact .inl ⟨hb,h.burn⟩
  rw[if_neg hb];exact .inr rfl
 rcases mL with⟨c1,c2⟩ |hc
 ·rw[if_pos c1];exact c2
 rw[hc] at bG hw ⊢
 simp only[ne_eq,not_true_eq_false, ↓reduceIte] at bG hw ⊢
 refine h.burn.setF (by rw[(dj S).1];exact hm) hw bG h.rt (ag _) hd ?_
 show(aF S m).data.length=(aO B.t (B.l.take B.l.length)).length
 rw[List.take_length,hd]
def ME {S:DiskL} (hg:GoodS S) (hc:dh S) (hm:S.max=1000000) (hn:NmV S) (hv:eF (aa S 2 aH)≤150000) {data:List UInt8} (hd:data.length≤150000): (au S aJ aH data false).1=0:=by
 obtain⟨S2,g2,c2,m2,v2,o2,h2⟩:=yT hg hc (dir:=aJ) (k:=2) rfl fineBk.1 fineBk.2 data
 rcases h2 with⟨a2,-⟩ | ⟨-,p2⟩
 ·exfalso
  obtain⟨n,j',eH⟩:=ug v2
  have ce:NmV S2:=fun j hj x hx=>by
   by_cases e:j=2∧x=aD aH
   ·exact⟨e.1, .inr e.2⟩
   rw[o2 j hj x fun e1 e2=>e ⟨e1,e2⟩] at hx
   exact hn j hj x hx
  have hu:=rQ g2 ce
  rw[v2,o2 2 oM aH (fun _=>(nZ aH).symm)] at hu
  have e2:eF (some [])=0:=rfl
  rw[Tj c2 fineBk.2 j' _ (by rw[eH,List.length_nil];omega) (by rw[m2,hm];omega)] at a2
  cases a2
 exact p2
def DY (t l:List RefL) (k:Nat): (aO t (l.take k)).length=(ai (dP t)).length+ (be (l.take k)).length:=by
 unfold aO
 rw[List.length_append]
theorem xo (t l:List RefL) (a:Nat): ∀ (d n:Nat),l.length - n=d→n≤l.length→(aO t (l.take n)).length≤a→ ∃k,n≤k∧k≤l.length∧(aO t (l.take k)).length≤a∧(k=l.length∨a< (aO t (l.take (k+1))).length)
 |0,n,hd,hn,h=>⟨n,ag _,hn,h, .inl oM⟩
 |d+1,n,hd,hn,h=>by
  by_cases h1:a< (aO t (l.take (n+1))).length
  ·exact⟨n,ag _,hn,h, .inr h1⟩
  obtain⟨k,h2,h3,h4,h5⟩:=xo t l a d (n+1) oM oM oM
  exact⟨k,by omega,h3,h4,h5⟩
def E4 {S:DiskL} (hg:GoodS S) (hc:dh S) (hm:S.max=1000000) (hn:NmV S) {t l:List RefL} {n0 a:Nat} (hr:al t l=true) (hb: (aO t l).length≤150000) (AS:n0≤l.length) (ha: (aO t (l.take n0)).length≤a) (hv:aa S 2 aH=some ((aO t l).take a)):
  ∃n,n0≤n∧n≤l.length∧(ct S).1=some ⟨t,l.take n,n⟩:=by
 have eU: (aO t (l.take n0)).length≤ (aO t l).length:=by
  have h1:=DY t l n0
  have h2: (aO t l).length=(ai (dP t)).length+ (be l).length:=by unfold aO;rw[List.length_append]
  have h3: (be (l.take n0)).length≤ (be l).length:=by
   have:be l=be (l.take n0)++be (l.drop n0):=by
    unfold be
    rw[←List.flatten_append,←List.map_append,List.take_append_drop]
   rw[this,List.length_append];omega
  omega
 obtain⟨b,aP,ar,ZD⟩: ∃b,(aO t (l.take n0)).length≤b∧b≤ (aO t l).length∧(aO t l).take a=(aO t l).take b:=by
  by_cases h:a≤ (aO t l).length
  ·exact⟨a,ha,h,rfl⟩
  exact⟨(aO t l).length,eU,ag _,by rw[List.take_length,List.take_of_length_le oM]⟩
 rw[ZD] at hv
 obtain⟨k,k1,k2,k3,k4⟩:=xo t l b _ n0 rfl AS aP
 have zx:=LD hr b k ar k2 (by rw[←DY];exact k3) (by rw[←DY];exact k4)
 rw[←DY] at zx
 refine⟨k,k1,k2, ?_⟩
 have bv:=(wg hc).2 hv
 rw[If bv,zx]
 simp only
 have aG: ((aO t l).take b).length=b:=by rw[List.length_take];omega
 have lT: (l.take k).length=k:=by rw[List.length_take];omega
 by_cases hl: (aO t (l.take k)).length< ((aO t l).take b).length
 ·have hz:=ME hg hc hm hn (data:=((aO t l).take b).take (aO t (l.take k)).length) (by rw[hv];show((aO t l).take b).length≤_;omega) (by rw[List.length_take];omega)
  have T3:=(wR hg hc aJ aH (((aO t l).take b).take (aO t (l.take k)).length)).2 hz
  have Cu:=Bf hc aJ aH (((aO t l).take b).take (aO t (l.take k)).length) false
  have Zy:=(yO hg aJ aH (((aO t l).take b).take (aO t (l.take k)).length) false).good
  have hs:=(CK Zy Cu (dir:=aJ) (k:=2) rfl fineBk.1 ((wg Cu).1 T3.1)).1
  unfold endB
  simp only[if_pos hl,hz,hs,ne_eq,not_true_eq_false, ↓reduceIte,lT]
 have hs:=(CK hg hc (dir:=aJ) (k:=2) rfl fineBk.1 hv).1
 unfold endB
 simp only[if_neg hl,hs,ne_eq,not_true_eq_false, ↓reduceIte,lT]
def Iv {S:DiskL} (hh:dp S) (hp: ∀j,j<3→(S.dir j).pend= []) (pl:List UInt16) {j:Nat} (hj:j<3): ((bc S pl).dir j).seen=(S.dir j).seen:=by
 obtain⟨i,-,h2⟩:=ng S pl hj
 rw[h2]
 show bT S j i=_
 unfold bT
 rw[hp j hj,List.take_nil,← (hh j).1,hp j hj]
def FzS.found {S:DiskL} {B:BkL} (h:FzS S B) {pl:List UInt16} (ok:DkOk (bc S pl)): ∃n,B.n≤n∧n≤B.l.length∧(ct (bc S pl)).1=some ⟨B.t,B.l.take n,n⟩:=by
 have nT:=fun j hj=>Iv h.wel.hist h.pend pl (j:=j) hj
 obtain⟨m,h1,h2,h3⟩:=h.at_
 obtain⟨t,ht,hd⟩:=(D_ S pl m).data
 rw[h3] at ht
 rw[h2] at hd
 refine E4 (h.wel.crash ok).good (UP S pl) ((wt S pl).trans h.max) (fun j hj x hx=> ?_) h.rt (pu h.bk.tl h.bk.ll h.bk.t h.bk.l) h.n ht ?_
 ·have:=h.nm j hj x fun e=>hx (by
   unfold aa at e ⊢
   rw[nT j hj]
   cases hf:aL (S.dir j).seen x with
   |none=>rfl
   |some n=>rw[hf] at e;cases e)
  exact⟨this.1, .inl this.2⟩
 unfold aa
 rw[nT 2 oM,h1]
 exact congrArg some hd
def FzS.trimmed {S:DiskL} {B:BkL} (h:FzS S B) (keep:Int) {pl:List UInt16} (ok:DkOk (bc (ew S B keep).2.1 pl)):
  ∃ls dl,fj B.t B.l (dN B.l.length keep)=some ls∧dl=B.l.drop (dN B.l.length keep)∧al ls dl=true∧
   ((∃k,(ct (bc (ew S B keep).2.1 pl)).1=some ⟨ls,dl,k⟩)∨((ew S B keep).1≠0∧ ∃n,B.n≤n∧n≤B.l.length∧(ct (bc (ew S B keep).2.1 pl)).1=some ⟨B.t,B.l.take n,n⟩)):=by
 obtain⟨ls,h1,h2,h3,h4⟩:=B_ h.rt keep h.bk.n0
 refine⟨ls,_,h1,rfl,h2, ?_⟩
 have he: (ew S B keep).1=(au S aJ aH (aO ls (B.l.drop (dN B.l.length keep))) false).1∧(ew S B keep).2.1=(au S aJ aH (aO ls (B.l.drop (dN B.l.length keep))) false).2:=by
  unfold ew
  rw[if_pos h.rt,h1]
  simp only
  rw[h4]
  by_cases hz: (au S aJ aH (aO ls (B.l.drop (dN B.l.length keep))) false).1≠0
  ·rw[if_pos hz];exact⟨rfl,rfl⟩
  rw[if_neg hz];exact⟨(Classical.not_not.1 hz).symm,rfl⟩
 rw[he.2] at ok ⊢
 rw[he.1]
 clear he
 generalize B.l.drop (dN B.l.length keep)=dl at*
 have fD: (aO ls dl).length≤150000:=pu h3.tl h3.ll h3.t h3.l
 have hk:av aJ=some 2:=rfl
 have hg:=h.wel.good
 have WJ:=(h.wel.pub aJ aH (aO ls dl) false).crash ok
 have AR:=(wt (au S aJ aH (aO ls dl) false).2 pl).trans ((yS S aJ aH (aO ls dl) false).trans h.max)
 have iW:=UP (au S aJ aH (aO ls dl) false).2 pl
 have ZV:=Ls h.wel.hist aJ aH (aO ls dl) false
 have nT: ∀j,j<3→(S.dir j).seen=(S.dir j).stl:=fun j hj=>by
  rw[← (h.wel.hist j).1,h.pend j hj];rfl
 obtain⟨m,m1,m2,m3⟩:=h.at_
 have jb:=hg.lt 2 oM _ (gJ m1)
 have aQ:=nZ aH
 have old: ∀ {T:DiskL},(∀n,n<S.files.length→aF T n=aF S n)→aL ((bc T pl).dir 2).seen aH=some m→ ∃a,(aO B.t (B.l.take B.n)).length≤a∧aa (bc T pl) 2 aH=some ((aO B.t B.l).take a):=fun{T} hf dM=>by
  obtain⟨t,ht,hd⟩:=(D_ T pl m).data
  rw[hf m jb,m3] at ht
  rw[hf m jb,m2] at hd
  refine⟨t,ht, ?_⟩
  unfold aa
  rw[dM]
  exact congrArg some hd
 have new: ∀ {T:DiskL} {k:Nat},(aF T k).data=aO ls dl→(aF T k).stl=(aF T k).data.length→aL ((bc T pl).dir 2).seen aH=some k→aa (bc T pl) 2 aH=some ((aO ls dl).take (aO ls dl).length):=fun{T k} hd hs dM=>by
  obtain⟨t,ht,eH⟩:=(D_ T pl k).data
  unfold aa
  rw[dM,List.take_length]
  show some (aF (bc T pl) k).data=_
  rw[eH,List.take_of_length_le (by rw[←hs];exact ht),hd]
 have names: ∀ {T:DiskL},(∀j,j<3→ ∀x,(j=2→x≠aH∧x≠aD aH)→aL ((bc T pl).dir j).seen x=aL (S.dir j).stl x)→NmV (bc T pl):=fun{T} hf j hj x hx=>by
  by_cases e:j=2∧(x=aH∨x=aD aH)
  ·exact e
  exfalso
  have eT:j=2→x≠aH∧x≠aD aH:=fun e1=>⟨fun e2=>e ⟨e1, .inl e2⟩,fun e2=>e ⟨e1, .inr e2⟩⟩
  have h1:=hf j hj x eT
  unfold aa at hx
  rw[h1,←nT j hj] at hx
  have:=h.nm j hj x fun e2=>hx (by
   unfold aa at e2
   cases dM:aL (S.dir j).seen x with
   |none=>rfl
   |some n=>rw[dM] at e2;cases e2)
  exact(eT this.1).1 this.2
 have fin_old: ∀ {T:DiskL},T=(au S aJ aH (aO ls dl) false).2→NmV (bc T pl)→(∃a,(aO B.t (B.l.take B.n)).length≤a∧aa (bc T pl) 2 aH=some ((aO B.t B.l).take a))→ ∃n,B.n≤n∧n≤B.l.length∧(ct (bc T pl)).1=some ⟨B.t,B.l.take n,n⟩:=fun{T} e hn ⟨a,ha,hv⟩=>by
  subst e
  exact E4 WJ.good iW AR hn h.rt (pu h.bk.tl h.bk.ll h.bk.t h.bk.l) h.n ha hv
 have fin_new: ∀ {T:DiskL},T=(au S aJ aH (aO ls dl) false).2→NmV (bc T pl)→aa (bc T pl) 2 aH=some ((aO ls dl).take (aO ls dl).length)→ ∃k,(ct (bc T pl)).1=some ⟨ls,dl,k⟩:=fun{T} e hn hv=>by
  subst e
  obtain⟨n,n1,n2,n3⟩:=E4 WJ.good iW AR hn (n0:=dl.length) h2 fD (ag _) (by rw[List.take_length];exact ag _) hv
  obtain rfl:n=dl.length:=Nat.le_antisymm n2 n1
  rw[List.take_length] at n3
  exact⟨_,n3⟩
 have WH:=UK h.pend hg h.wel.hist hk (nm:=aH) (aO ls dl) false
 unfold rM at WH
 have onl: ∀ {T:DiskL} {j i:Nat} {x:List UInt8},(T.dir j).stl=(S.dir j).stl→(∀c,c∈ (T.dir j).pend.take i→c.a≠x∧(c.kind=1→c.b≠x))→aL (bT T j i) x=aL (S.dir j).stl x:=fun{T j i x} h1 h2=>by
  unfold bT
  rw[CI _ _ h2,h1]
 rcases WH with⟨hP,he⟩ | ⟨k,hP,he⟩ | ⟨k,-,hD⟩
 ·right
  refine⟨he,fin_old rfl (names fun j hj x hx=> ?_) (old hP.fs ?_)⟩
  ·obtain⟨i,-,hd⟩:=ng (au S aJ aH (aO ls dl) false).2 pl hj
   rw[hd]
   refine onl (hP.stl j hj) fun c hc=> ?_
   obtain⟨e,h5,h6⟩:=hP.pend j hj c (List.mem_of_mem_take hc)
   exact⟨by rw[h5];exact Ne.symm (hx e).2,fun h7=>absurd h7 h6⟩
  obtain⟨i,-,hd⟩:=ng (au S aJ aH (aO ls dl) false).2 pl (k:=2) oM
  rw[hd]
  show aL (bT _ 2 i) aH=some m
  rw[onl (hP.stl 2 oM) fun c hc=> ?_,←nT 2 oM,m1]
  obtain⟨e,h5,h6⟩:=hP.pend 2 oM c (List.mem_of_mem_take hc)
  exact⟨by rw[h5];exact aQ,fun h7=>absurd h7 h6⟩
 ·obtain⟨q,hq,uJ⟩:=hP.pend
  have mY:NmV (bc (au S aJ aH (aO ls dl) false).2 pl):=names fun j hj x hx=>by
   obtain⟨i,-,hd⟩:=ng (au S aJ aH (aO ls dl) false).2 pl hj
   rw[hd]
   refine onl (hP.stl j hj) fun c hc=> ?_
   have j_:=List.mem_of_mem_take hc
   by_cases e:j=2
   ·subst e
    rw[hq] at j_
    rcases List.mem_append.1 j_ with j_|j_
    ·exact⟨by rw[(uJ c j_).1];exact Ne.symm (hx rfl).2,fun h5=>absurd h5 (uJ c j_).2⟩
    rw[List.mem_singleton.1 j_]
    exact⟨Ne.symm (hx rfl).2,fun _=>Ne.symm (hx rfl).1⟩
   rw[hP.pendO j hj e] at j_;cases j_
  obtain⟨i,hi,hd⟩:=ng (au S aJ aH (aO ls dl) false).2 pl (k:=2) oM
  by_cases eU:i≤q.length
  ·right
   refine⟨he rfl,fin_old rfl mY (old hP.fs ?_)⟩
   rw[hd]
   show aL (bT _ 2 i) aH=some m
   rw[onl (hP.stl 2 oM) fun c hc=> ?_,←nT 2 oM,m1]
   rw[hq,List.take_append_of_le_length eU] at hc
   have:=uJ c (List.mem_of_mem_take hc)
   exact⟨by rw[this.1];exact aQ,fun h5=>absurd h5 this.2⟩
  left
  refine fin_new rfl mY (new hP.data (hP.set rfl) (k:=k) ?_)
  rw[hd]
  show aL (bT _ 2 i) aH=some k
  rw[hq,List.length_append,List.length_singleton] at hi
  have gF:bT (au S aJ aH (aO ls dl) false).2 2 i=((au S aJ aH (aO ls dl) false).2.dir 2).seen:=by
   unfold bT
   rw[List.take_of_length_le (by rw[hq,List.length_append,List.length_singleton];omega)]
   exact(ZV 2).1
  rw[gF];exact hP.at_
 left
 have hf: ∀j,j<3→((bc (au S aJ aH (aO ls dl) false).2 pl).dir j).seen=((au S aJ aH (aO ls dl) false).2.dir j).stl:=fun j hj=>by
  obtain⟨i,-,h2⟩:=ng (au S aJ aH (aO ls dl) false).2 pl hj
  rw[h2]
  show bT _ j i=_
  unfold bT
  rw[hD.pend j hj,List.take_nil];rfl
 exact fin_new rfl (names fun j hj x hx=>by rw[hf j hj];exact hD.oth j hj x hx) (new hD.data hD.set (k:=k) (by rw[hf 2 oM];exact hD.at_))
def LenS.le {M M':Nat} {S:DiskL} (h:LenS M S) (hM:M≤M'):LenS M' S:=fun n=>Nat.le_trans (h n) hM
def Mx {M:Nat} {S:DiskL} {s:List UInt8} (h:LenS M S) (hs:s.length≤1000):LenS (M+1000) (bD S aJ aH s).1:=by
 have h':=h.le (Nat.le_add_right M 1000)
 unfold bD
 split
 ·exact h'
 split
 ·exact h'
 rename_i m hm
 split
 ·exact h'
 split
 ·exact jj h'
 refine u_ (jj h') ?_
 show((aF S m).data++s).length≤_
 rw[List.length_append]
 have:=h m
 omega
def BkR.of {B:BkL} (h:al B.t B.l=true):BkR B:=by
 obtain⟨h1,h2,h3,h4,-⟩:=A_ h
 refine⟨h1,h2,fun g hg=> ?_,fun g hg=> ?_⟩
 ·have:=h3 g hg;omega
 have:=Dy (h4 g hg);omega
def MQ {S:DiskL} {B:BkL} (nm:List UInt8) (o i:IdL): (fR S B nm o i).2.1=S∨(bU nm=true∧(fR S B nm o i).2.1=(bD S aJ aH (ai (bW ⟨nm,i⟩))).1):=by
 unfold fR
 split
 ·exact .inl rfl
 split
 ·exact .inl rfl
 rename_i h1
 split
 ·exact .inl rfl
 split<;>exact .inr ⟨(Classical.not_not.1 h1).2,rfl⟩
def Kn (S:DiskL) (B:BkL): (eu S B).2.1=(bF S aJ aH).1:=by
 unfold eu
 split<;>rfl
def Kz {S:DiskL} {B:BkL} (keep:Int) (h:al B.t B.l=true): ∃data:List UInt8,data.length≤150000∧(ew S B keep).2.1=(au S aJ aH data false).2:=by
 obtain⟨ls,h1,h2,h3,h4⟩:=B_ h keep (BkR.of h).n0
 refine⟨aO ls (B.l.drop (dN B.l.length keep)),pu h3.tl h3.ll h3.t h3.l, ?_⟩
 unfold ew
 rw[if_pos h,h1]
 simp only
 rw[h4]
 split<;>rfl
structure WlS (M:Nat) (S:DiskL):Prop where
 wel:WelS S
 len:LenS M S
theorem WlS.le {M M':Nat} {S:DiskL} (h:WlS M S) (hM:M≤M'):WlS M' S:=⟨h.wel,h.len.le hM⟩
def WlS.upd {M:Nat} {S:DiskL} (h:WlS M S) (B:BkL) (nm:List UInt8) (o i:IdL):WlS (M+1000) (fR S B nm o i).2.1:=by
 rcases MQ (S:=S) (B:=B) nm o i with e| ⟨hn,e⟩
 ·rw[e];exact h.le (Nat.le_add_right _ _)
 rw[e]
 have:=wm (r:=⟨nm,i⟩) hn
 exact⟨h.wel.step (qn S aJ aH _),Mx h.len oM⟩
theorem WlS.sync {M:Nat} {S:DiskL} (h:WlS M S) (B:BkL):WlS M (eu S B).2.1:=by
 rw[Kn]
 exact⟨h.wel.sync aJ aH,Bb h.len _ _⟩
def WlS.trim {M:Nat} {S:DiskL} (h:WlS M S) (hM:150000≤M) {B:BkL} (hr:al B.t B.l=true) (keep:Int):WlS M (ew S B keep).2.1:=by
 obtain⟨data,hd,e⟩:=Kz (S:=S) keep hr
 rw[e]
 exact⟨h.wel.pub aJ aH data false,CA h.wel.good h.len aJ aH (Nat.le_trans hd hM) false⟩
theorem WlS.open {M:Nat} {S:DiskL} (h:WlS M S) (hM:150000≤M):WlS M (ct S).2.2:=⟨h.wel.open,xW h.wel h.len oM⟩
theorem WlS.crash {M:Nat} {S:DiskL} (h:WlS M S) {pl:List UInt16} (ok:DkOk (bc S pl)):WlS M (bc S pl):=⟨h.wel.crash ok,wW h.len pl⟩
theorem WlS.fuse {M:Nat} {S:DiskL} (h:WlS M S) {n:Int} {b:Bool} (ok:DkOk {S with fuse:=n,fused:=b}):WlS M {S with fuse:=n,fused:=b}:=⟨h.wel.fuse ok,tQ h.len rfl⟩
def WlS.read {M:Nat} {S:DiskL} (h:WlS M S): (cj S aJ aH).1.length≤M:=EN h.len _ _
abbrev AtSl (w:World) (v:Value) (l:List AtL):Prop:=SlV 37 atC at0 w v l
def K7 (l:List AtL) (i:Nat) (q:DiskL×BkL) (h:i<l.length) (h2:i<30): ((l.take 30).take (i+1)).foldl (fun q a=>eo q.1 q.2 a) q=eo (((l.take 30).take i).foldl (fun q a=>eo q.1 q.2 a) q).1 (((l.take 30).take i).foldl (fun q a=>eo q.1 q.2 a) q).2 (l.getD i at0):=by
 have hl:i< (l.take 30).length:=by rw[List.length_take];omega
 rw[StP.take_snoc (z:=at0) hl,List.foldl_append,StP.getD_take h2]
 rfl
def ND (q:DiskL×BkL) (hq:BkR q.2): ∀ (l:List AtL),BkR (l.foldl (fun q a=>eo q.1 q.2 a) q).2:=by
 intro l
 induction l generalizing q with
 |nil=>exact hq
 |cons a l ih=>exact ih _ hq.act
def BoP.app {bo bd:Nat} {S:DiskL} {N:Nat} {B:BkL} {X Y:aA} (h:BoP bo bd S N B X):BoP bo bd S N B (X++Y):=by
 obtain⟨G,vt,vl,D,K,hG,hA⟩:=h
 exact⟨G,vt,vl,D,K++Y,hG,⟨(hA.perm.append_right Y).trans pM,hA.D,hA.t.mono fun p hp=>bQ _ hp,hA.l.mono fun p hp=>bQ _ hp⟩⟩
theorem BoP.le {bo bd:Nat} {S:DiskL} {N M:Nat} {B:BkL} {X:aA} (h:BoP bo bd S N B X) (hN:N≤M):BoP bo bd S M B X:=by
 obtain⟨G,vt,vl,D,K,hG,hA⟩:=h
 exact⟨G,vt,vl,D,K,hG,⟨hA.perm,hA.D.le hN,hA.t,hA.l⟩⟩
def Qo (a:Int):aC .rem (vi a) (vi 5)=some (vi (a.tmod 5)):=by
 unfold vi aC
 rfl
structure PlG where
 i:Nat
 X:aA
def ef:=aN (aN (aN @bq (aN @bl @Sx.tup2_0)) (aN (aN @Sx.tup2_1 @C7) (aN @Br @Bz))) (aN (aN @Bl (aN @Bm @By)) (aN (aN @Bx @Bc) (aN @JT @kW)))
def HI (v:Value) (l:List AtL) (w:World) (hG:n8 w) (hC:GlobC w) (hv:AtSl w v l) (hp: ∀a,a∈l→ ∀w' L,Hp w L w'→New w.heap.size L→PkS w' a.picks.v a.picks.l):
  Rets prog 45 #[v] w (XS w [] (fun r D=> ∃bd bo N,N≤2000∧r= .tuple #[vp bd 0,vp bo 0]∧BoP bo bd (kT l).1 N (kT l).2 D)):=by
 have lnv:=hv.len
 obtain⟨rb,off,arr,Er,fz,hr⟩:=hv.row
 refine Rets.enterX func45 rfl (rs:= [.tmp 2, .tmp 3]) results45 ntmps45 (fun p hp=>by cases hp) (by simp[keys]) ?_
 refine kf ?_
 refine ky @ef ?_
 refine Ow.callC rfl rfl call80 (fun w' aB=>vr 1000000 w' (by decide) (lX hG aB trivial)) (fun B0 v0 D0 iM u2 lN zX=> ?_)
 obtain⟨G0,rfl,jV⟩:=zX
 rw[List.nil_append]
 have fZ:Ext w [] D0:=Ext.of_new (lN.mono u2)
 have iM:DkA D0 G0 (cq 1000000) 0:=⟨jV,xa 1000000,yE 1000000⟩
 refine ko @ef ?_
 refine ky @ef ?_
 refine Ow.callX (X:=D0) (Y:= []) (List.append_nil _).symm rfl rfl call50 (fun w' aB ab aX=>DZ D0 G0 (cq 1000000) 0 w' ab aX iM oM (mv hC fZ aB (by simp[keys])) (gY hC fZ.new0) Q1) (fun v1 D1 nG d8=> ?_)
 rw[List.append_nil]
 have bN:=fZ.came0 nG
 obtain⟨bo,rfl,aj⟩:=d8.some QW
 have e0: ((0:Int) !=0)=false:=rfl
 refine ko (aN @ef @e0) ?_
 refine ky (aN @ef @e0) ?_
 obtain⟨q0,Cy⟩: ∃q:DiskL×BkL,q=((ct (cq 1000000)).2.2,⟨[],[],0⟩):=⟨_,rfl⟩
 have fc:kT l=(l.take 30).foldl (fun q a=>eo q.1 q.2 a) q0:=by rw[Cy];rfl
 rw[fc]
 have VY:BoP bo G0.bd q0.1 (84+42*0) q0.2 D1:=by rw[Cy];exact aj
 have Z2:BkR q0.2:=by rw[Cy];exact bkR0
 clear fc Cy aj d8 nG iM jV
 refine Cw.loopG (G:=PlG) [18,19,20,21,22,23,24,25,28,29,30,31,8,32,33,34,35,36,38,37,39,40,41,42,43,44,45,46,47,48,49,50,52,51,53,54,56,55,57,58,59,60,26,27,7] (fun g=> [(7,vi g.i)]) (fun g=>g.X) (fun g=>g.i≤l.length∧g.i≤30∧BoP bo G0.bd (((l.take 30).take g.i).foldl (fun q a=>eo q.1 q.2 a) q0).1 (84+42*g.i) (((l.take 30).take g.i).foldl (fun q a=>eo q.1 q.2 a) q0).2 g.X∧Ext w [] g.X) (fun g=>l.length - g.i) ⟨0,D1⟩ rfl rfl ?_ ?_
 ·exact⟨cC _,cC _,VY,bN⟩
 intro g j hg
 refine kv ?_
 clear VY bN fZ lN
 obtain⟨i,X⟩:=g
 simp only at hg ⊢
 obtain⟨hi,ZX,hP,hE⟩:=hg
 by_cases aG:i<l.length∧i<30
 ·obtain⟨h1,h2⟩:=aG
  have da:=K7 l i q0 h1 h2
  have ka:=ND q0 Z2 ((l.take 30).take i)
  generalize ((l.take 30).take i).foldl (fun q a=>eo q.1 q.2 a) q0=q at*
  obtain⟨S,B⟩:=q
  simp only at hP ka da
  have pN:=hr.lt oM
  have ix:=hr.idx true i h1
  have ld:=Px hr h1
  have rd:aS w X rb=some (.cells arr Er fz):=by rw[lA (hE.new0.not pN)];exact hr.has oM
  have so:l.getD i at0∈l:=StP.getD_mem h1
  generalize l.getD i at0=a at*
  have t6:=hp a so
  have d1:decide ((i:Int)< (l.length:Int))=true:=dR oM
  have d2:decide ((i:Int)<30)=true:=dR oM
  have Ra:=a.id.h
  refine ky (aN @ef (aN @lnv (aN @d1 (aN @d2 (aN @ix (aN @rd @ld)))))) ?_
  refine Ow.alloc rfl rfl zrAt fun b8 iS qi=> ?_
  simp only[bI,List.nil_append,List.cons_append]
  have k8:=fun o=>iE (o:=o) iS
  have s8:=fun o x=>un (o:=o) (x:=x) iS
  have rd8:=fun o=>Xu w (o:=o) iS
  have jU:Ext w [] (X++ [(b8,Obj.cells (atC a).toArray 67 (0,0))]):=ji hE ⟨qi,trivial⟩
  refine ko (aN @ef (aN @k8 (aN @s8 @lC))) ?_
  refine ky (aN @ef @rd8) ?_
  refine Ow.callFV rfl call37 (fun w' aB=>Uz a w' (t6 w' _ aB jU.new0)) ?_
  cases qN:rI a with
  |true=>
   have i8:eo S B a=(S,B):=by unfold eo;rw[if_pos qN]
   refine ko @ef ?_
   refine ky @ef ?_
   refine Again.mk ⟨i+1,_⟩ (by show l.length - (i+1)<l.length - i;omega) ⟨h1,h2, ?_,jU⟩ rfl rfl
   show BoP bo G0.bd _ (84+42* (i+1)) _ _
   rw[da,i8]
   exact hP.app.le oM
  |false=>
   obtain⟨sc,qK⟩:=w4 qN
   have pO:=Qo a.kind
   by_cases k0:a.kind.tmod 5=0
   ·have e0: (a.kind.tmod 5==0)=true:=beq_iff_eq.2 k0
    have i8:eo S B a=(fR S B a.name (oldI a (valI B a.name)) a.id).2:=by unfold eo;rw[if_neg (by rw[qN];decide),if_pos k0]
    refine ko (aN @ef (aN @rd8 @pO)) ?_
    refine ky (aN @ef (aN @rd8 (aN @pO @e0))) ?_
    have Vl:b8∈keys (X++ [(b8,Obj.cells (atC a).toArray 67 (0,0))]):=by rw[aZ];exact dS _ (by simp[keys])
    refine Cw.regionG [b8] [] 12 kR rfl ?_
    simp only[List.replicate_succ,List.replicate_zero]
    refine OwG.run [0,1,2,3,4,5,6,9,10] [true,true,true,true,true,true,true,false,false,true,true,false] 3 rfl kR kR fun k hk=> ?_
    simp only[cR, ↓cS, ↓bz, ↓cG, ↓cH,b_]
    simp(disch:=first|exact dD|fail) only[↓Sx.S0,Sx.S1,fx,ef,Nat.reduceAdd,Nat.reducePow,Int.reducePow,Nat.reduceBEq, ↓reduceIte,UInt8.reduceToNat,UInt16.reduceToNat,UInt32.reduceToNat,UInt64.reduceToNat,Int.reduceToNat,Md.next_sofnil,rd8]
    (with_reducible refine hk _ _ _ ?_);clear hk k
    refine OwG.one 7 _ kR rfl ?_
    refine Ow.callC rfl rfl call40 (fun w' aB=>DO bo G0.bd B a.name w' (hP.W fun b o hm=>aB.has b o (bQ _ hm)) (by have:=ka.tl;omega) (by have:=ka.ll;omega) ka.t.short ka.l.short) (fun B7 v7 D7 kZ sG lO gE=> ?_)
    have ox:=lO.mono sG
    with_reducible refine Ow.nil ?_
    refine⟨(ju (fun r hr=>by rw[List.mem_singleton.1 hr];exact Vl)), ?_⟩
    simp only[List.set_cons_zero,List.set_cons_succ,gN,fN,fO]
    have ip:=ji jU ox
    refine OwG.one 8 _ kR rfl ?_
    subst gE
    refine Ow.callFV rfl call48 (fun w' aB=>UF a (valI B a.name) w') ?_
    with_reducible refine Ow.nil ?_
    refine⟨(fun r hr=>rfl), ?_⟩
    simp only[List.set_cons_zero,List.set_cons_succ,gN,fN,fO]
    refine OwG.one 11 _ kR rfl ?_
    refine Ow.callX (X:=X) (Y:= [(b8, .cells (atC a).toArray 67 (0,0))]++D7) (List.append_assoc _ _ _) rfl rfl call41 (fun w' aB ab aX=>DP bo G0.bd S (84+42*i) B a.name (oldI a (valI B a.name)) a.id X w' ab aX hP oM (mv hC ip aB (by simp[keys])) (gY hC hE.new0) (by have:=ka.tl;omega) (by have:=ka.ll;omega) ka.t.short ka.l.short oM) (fun v9 D9 io jE=> ?_)
    obtain⟨rfl,iR⟩:=jE
    have VK:b8∉keys X:=fun h=>Nat.lt_irrefl _ (ae iS h)
    have Yc:b8∉keys D9:=fun h=>(io.new b8 h).elim VK fun h=>Nat.lt_irrefl _ (ae h.1 (by rw[aZ];exact bQ _ Vl))
    have jz:Ext w [] (D9++ ([(b8,Obj.cells (atC a).toArray 67 (0,0))]++D7)):=Ext.came (by rw[←List.append_assoc];exact ip) io
    with_reducible refine Ow.nil ?_
    refine⟨(fun r hr=>by rw[List.mem_singleton.1 hr,List.append_assoc];exact(ad (by rw[gO Yc];exact er _ _ _)).trans (ad (by rw[gO VK];exact er _ _ _)).symm), ?_⟩
    simp only[List.set_cons_zero,List.set_cons_succ,gN,fN,fO]
    refine OwG.rest [] rfl kR kR ?_
    simp only[cR, ↓cS, ↓bz, ↓cG, ↓cH,b_]
    rw[show∀k:List Oper→Prop,nl [] k=k [] from fun _=>rfl]
    with_reducible refine Ow.nil ?_
    refine ky @ef ?_
    refine Again.mk ⟨i+1,_⟩ (by show l.length - (i+1)<l.length - i;omega) ⟨h1,h2, ?_,jz⟩ rfl rfl
    show BoP bo G0.bd _ (84+42* (i+1)) _ _
    rw[da,i8]
    exact iR.app.le oM
   have e0: (a.kind.tmod 5==0)=false:=beq_eq_false_iff_ne.2 k0
   by_cases k1:a.kind.tmod 5=1
   ·have e1: (a.kind.tmod 5==1)=true:=beq_iff_eq.2 k1
    have i8:eo S B a=(eu S B).2:=by unfold eo;rw[if_neg (by rw[qN];decide),if_neg k0,if_pos k1]
    refine ko (aN @ef (aN @rd8 @pO)) ?_
    refine ky (aN @ef (aN @rd8 (aN @pO (aN @e0 @e1)))) ?_
    refine Ow.callX (X:=X) (Y:= [(b8, .cells (atC a).toArray 67 (0,0))]) rfl rfl rfl call42 (fun w' aB ab aX=>DR bo G0.bd S (84+42*i) B X w' ab aX hP) (fun v9 D9 io jE=> ?_)
    obtain⟨rfl,iR⟩:=jE
    have jz:=jU.came io
    refine ko @ef ?_
    refine ky @ef ?_
    refine Again.mk ⟨i+1,_⟩ (by show l.length - (i+1)<l.length - i;omega) ⟨h1,h2, ?_,jz⟩ rfl rfl
    show BoP bo G0.bd _ (84+42* (i+1)) _ _
    rw[da,i8]
    exact iR.app.le oM
   have e1: (a.kind.tmod 5==1)=false:=beq_eq_false_iff_ne.2 k1
   by_cases k2:a.kind.tmod 5=2
   ·have e2: (a.kind.tmod 5==2)=true:=beq_iff_eq.2 k2
    have i8:eo S B a=(ew S B a.n).2:=by unfold eo;rw[if_neg (by rw[qN];decide),if_neg k0,if_neg k1,if_pos k2]
    refine ko (aN @ef (aN @rd8 @pO)) ?_
    refine ky (aN @ef (aN @rd8 (aN @pO (aN @e0 (aN @e1 @e2))))) ?_
    have Yk:Ext w [] X:=hE
    refine Ow.callX (X:=X) (Y:= [(b8, .cells (atC a).toArray 67 (0,0))]) rfl rfl rfl call44 (fun w' aB ab aX=>Uw bo G0.bd S (84+42*i) B a.n X w' ab aX hP oM (mv hC jU aB (by simp[keys])) (gY hC Yk.new0) (by have:=ka.tl;omega) (by have:=ka.ll;omega) ka.t ka.l) (fun v9 D9 io jE=> ?_)
    obtain⟨rfl,iR⟩:=jE
    have jz:=jU.came io
    refine ko @ef ?_
    refine ky @ef ?_
    refine Again.mk ⟨i+1,_⟩ (by show l.length - (i+1)<l.length - i;omega) ⟨h1,h2, ?_,jz⟩ rfl rfl
    show BoP bo G0.bd _ (84+42* (i+1)) _ _
    rw[da,i8]
    exact iR.app.le oM
   have e2: (a.kind.tmod 5==2)=false:=beq_eq_false_iff_ne.2 k2
   have i8:eo S B a=(S,B):=by unfold eo;rw[if_neg (by rw[qN];decide),if_neg k0,if_neg k1,if_neg k2]
   refine ko (aN @ef (aN @rd8 @pO)) ?_
   refine ky (aN @ef (aN @rd8 (aN @pO (aN @e0 (aN @e1 @e2))))) ?_
   refine Again.mk ⟨i+1,_⟩ (by show l.length - (i+1)<l.length - i;omega) ⟨h1,h2, ?_,jU⟩ rfl rfl
   show BoP bo G0.bd _ (84+42* (i+1)) _ _
   rw[da,i8]
   exact hP.app.le oM
 have da: (l.take 30).take i=l.take 30:=List.take_of_length_le (by rw[List.length_take];omega)
 rw[da] at hP
 by_cases h1:i<l.length
 ·have d1:decide ((i:Int)< (l.length:Int))=true:=dR oM
  have d2:decide ((i:Int)<30)=false:=i1 oM
  refine ky (aN @ef (aN @lnv (aN @d1 @d2))) ?_
  refine⟨_,(ke @ef), ?_⟩
  exact⟨hE,G0.bd,bo,84+42*i,by omega,rfl,hP⟩
 have d1:decide ((i:Int)< (l.length:Int))=false:=i1 oM
 refine ky (aN @ef (aN @lnv @d1)) ?_
 refine⟨_,(ke @ef), ?_⟩
 exact⟨hE,G0.bd,bo,84+42*i,by omega,rfl,hP⟩
end Go.Proofs
end
section
open Go Go.Proofs Go.Sx Go.StP Go.Flo
namespace Go.Proofs
instance:DecidableEq FiL:=fun a b=>if h:a.dir=b.dir∧a.name=b.name∧a.data=b.data then .isTrue (by cases a;cases b;simp only at h;obtain⟨rfl,rfl,rfl⟩:=h;rfl) else .isFalse (fun e=>h (by rw[e];exact⟨rfl,rfl,rfl⟩))
theorem ActOk.old {w w':World} {L:aA} {a:ActL} (h:ActOk w a) (hw:Hp w L w') (hn:New w.heap.size L):ActOk w' a:=
 ⟨h.pk.old hw fun hl _b hb=>hn.not (h.pk.blk hl hb),h.n⟩
end Go.Proofs
end
namespace Go.Sx
open Go Go.ChangeShapes Go.WideShapes Go.RowKit
def Hp.same0 {W W':World} (h:Hp W [] W') {b:Nat} (hb:b<W.heap.size):W'.heap[b]? =W.heap[b]? :=h.old b hb (fun hm=>by cases hm)
def Hp.kept {W W':World} (h:Hp W [] W') (may:MemPlace→Prop):W.keptBut W' may:=by
 refine⟨h.os,h.output,fun i hi=> ?_⟩
 rw[h.same0 hi]
 cases ho:W.heap[i]? with
 |none=>rfl
 |some o=>
  cases o<;>first
   |exact⟨rfl,rfl,rfl,fun _ _=>rfl⟩
   |exact .inr ⟨rfl,rfl⟩
   |rfl
theorem Hp.sameAt {W W':World} (h:Hp W [] W') {p:MemPlace} (hp:p.block<W.heap.size):W.sameAt W' p:=by
 cases p with
 |cell b off=>
  have:=h.same0 (b:=b) hp
  simp only[World.sameAt,World.cell?,this]
 |map b=>exact h.same0 hp
theorem Hp.frozen {W W':World} (h:Hp W [] W') {a:Addr} (ha:a.block<W.heap.size):W'.frozen? a=W.frozen? a:=by
 simp only[World.frozen?,h.same0 ha]
section
variable {H:Type} {enc:TypeId×Value→H} {P:Program}
theorem U8 (hl:laidOutB P=true) {W W':World} {sp:Nat→Bool} (hp:Hp W [] W'): ∀ {ts:List TypeId} {vs:List Value} {ds:List (DataW H)} {ps:List MemPlace},
  (∀t∈ts,P.readableRec t=true∧t<P.types.size)→(∀p∈ps,p.block<W.heap.size)→(∀p∈ps,sp p.block=true)→
  DataW.TrodAll enc P W 0 (fun _=>true) true ts vs ds ps→DataW.TrodAll enc P W' 0 sp true ts vs ds ps
 | [],_,_,_,_,_,_,h=>by
  obtain⟨rfl,rfl,rfl⟩:=trodAll_nil h
  exact trodAll_mk0
 |t::ts,_,_,_,ht,aG,hs,h=>by
  obtain⟨v,vs,d,ds,p,q,rfl,rfl,rfl,h1,h2⟩:=trodAll_cons h
  have Sf: ∀x∈p,x.block<W.heap.size:=fun x hx=>aG x (bQ _ hx)
  exact trodAll_cons_mk (WideElems.Trod_stays hl (ht t ah).1 (ht t ah).2 h1 (fun x hx=>hp.sameAt (Sf x hx)) (fun x hx=>hs x (bQ _ hx)))
   (U8 hl hp (fun u hu=>ht u (aq _ hu)) (fun x hx=>aG x (dS _ hx)) (fun x hx=>hs x (dS _ hx)) h2)
def LJ {f:Func} {s:ChangeSpec} {W W':World} {args:Array Value} {ds gs:List (DataW H)} {before:List MemPlace} {tb:TypeId} (hl:laidOutB P=true)
  (hW:DataW.Whole enc P f.params.toList s.vars false W args.toList ds gs before) (hv:s.vars= []) (T2: ∀t∈f.params.toList,P.readableRec t=true∧t<P.types.size)
  (hr:f.resultTypes= #[tb]) (W7:P.underlying tb=some .bool) (dM:s.fn H ds={results:= [.lit (.bool true)],args:=ds}) (hp:Hp W [] W'):
  s.post enc P f false true false false W args (.bool true) W':=by
 have aG:=hW.lt
 have Cb:=hW
 obtain⟨p,q,hA,hV,rfl,hz,hn⟩:=hW
 rw[hv] at hV
 obtain⟨rfl,rfl⟩:=trodVars_none hV
 rw[List.append_nil] at Cb aG hz
 have mI: ∀sp:Nat→Bool,(∀x∈p,sp x.block=true)→DataW.TrodAll enc P W' 0 sp true f.params.toList args.toList (s.fn H (ds++ [])).args p:=fun sp hs=>by
  rw[List.append_nil,dM]
  exact U8 hl hp T2 aG hs hA
 have qg: ∀sp:Nat→Bool,DataW.TrodVars enc P W' sp s.vars (s.fn H (ds++ [])).vars []:=fun sp=>by
  rw[List.append_nil,dM,hv];rfl
 have Af: ∀ (b:Nat) (sp:Nat→Bool) (hd:Bool),DataW.TrodAll enc P W' b sp hd f.resultTypes.toList ((Value.bool true).resultList f.resultTypes.size) (s.fn H (ds++ [])).results []:=fun b sp hd=>by
  rw[List.append_nil,dM,hr]
  exact trodAll_cons_mk (shut_bool W7 true) trodAll_mk0
 have fw: ∀x∈p,(fun b=>decide (b<W.heap.size)) x.block=true:=fun x hx=>by simpa using aG x hx
 refine⟨ds,[],p,[],p,[],Cb,Af _ _ _,mI _ fw,qg _,hp.kept _,fun _=> ?_⟩
 refine⟨ok_one hr rfl (okWide_bool_mk W7 true),_,_,([]++p)++ [],⟨[]++p,[],trodAll_append (mI _ (fun _ _=>rfl)) (Af _ _ _),qg _,rfl, ?_,fun h=>by cases h⟩, ?_⟩
 ·intro b off hx
  have WK:MemPlace.cell b off∈p:=by simpa using hx
  rw[hp.frozen (aG _ WK)]
  exact hz b off WK
 intro x hx _
 simpa using hx
end
section
variable {P:Program} {W:World} {name:String} {k:IntKind} {zs:List Int}
theorem Ur {t e:TypeId} {g n:Nat} (hg:P.globalNamed name=some g) (DE: (P.globals[g]?).map (·.type)=some t) (ht:P.underlying t=some (.array n e)) (he:P.underlying e=some (.int k)) (uA:P.cellsOf e=1) (Cj:P.cellsOf t=n):
  ∀ {laid:List (String×DataW Unit)} {ps:List MemPlace},DataW.LaidVars P W laid ps→(name,Lib.tabData k zs)∈laid→Lib.TabIs P W name k zs
 | [],_,_,hm=>by cases hm
 | (n',d')::rest,ps,h,hm=>by
  obtain⟨g',t',cs,fuel,p,q,A4,uM,k_,hd,hr,-⟩:=h
  rcases List.mem_cons.1 hm with hm|hm
  ·cases hm
   obtain rfl:=Option.some.inj (hg.symm.trans A4)
   obtain rfl:=Option.some.inj (DE.symm.trans uM)
   unfold Lib.TabIs
   rw[k_,←Lib.cells_of_tab ht he uA Cj hd]
  exact Ur hg DE ht he uA Cj hr hm
def GG {g:Nat} (hg:P.globalNamed name=some g) (h:Lib.TabIs P W name k zs): ∃e f,W.heap[g]? =some (.cells (zs.map fun z=>Value.int k z).toArray e f):=by
 unfold Lib.TabIs at h
 simp only[World.var?,hg,Option.bind_some] at h
 split at h
 ·rename_i cs e f hb
  cases h
  exact⟨e,f,hb⟩
 cases h
end
section
variable {H:Type} {enc:TypeId×Value→H} {P:Program}
end
end Go.Sx
namespace Go.Sx
open Go
section
variable {P:Program}
def Ld {fits:TypeId→Bool} {d:Nat} {e:TypeId} {count off n:Nat} (h:rowAt P fits d e count off n=true):off≤count*P.cellsOf e:=by
 cases d with
 |zero=>simp[rowAt] at h
 |succ d=>
  unfold rowAt at h
  simp only at h
  split at h
  ·cases h
  rename_i hs
  have nS:0<P.cellsOf e:=Nat.pos_of_ne_zero hs
  have hd:=Nat.div_add_mod off (P.cellsOf e)
  have hm:=Nat.mod_lt off nS
  rw[Bool.or_eq_true] at h
  rcases h with h|h
  ·simp only[Bool.and_eq_true,beq_iff_eq,decide_eq_true_eq] at h
   have:off / P.cellsOf e*P.cellsOf e≤count*P.cellsOf e:=Nat.mul_le_mul_right _ oM
   rw[Nat.mul_comm (P.cellsOf e)] at hd
   omega
  simp only[Bool.and_eq_true,decide_eq_true_eq] at h
  have: (off / P.cellsOf e+1)*P.cellsOf e≤count*P.cellsOf e:=Nat.mul_le_mul_right _ oM
  rw[Nat.add_mul,Nat.one_mul] at this
  rw[Nat.mul_comm (P.cellsOf e)] at hd
  omega
theorem wS {e:TypeId} {count off:Nat}: ∀ {d:Nat} {u:TypeId} {n:Nat},liesAt P d e count off u n=true→off≤count*P.cellsOf e
 |0,u,n,h=>by simp[liesAt] at h
 |d+1,u,n,h=>by
  unfold liesAt at h
  rw[Bool.or_eq_true] at h
  rcases h with h|h
  ·exact Ld h
  split at h
  ·exact wS h
  cases h
def PY {W:World} {r:Reach} {base:Nat} {a:Addr} {e:TypeId} {n:Nat} (h:W.has P r base a e n):a.spot=none∧ ∃arr E fz,W.heap[a.block]? =some (.cells arr E fz)∧a.off≤arr.size:=by
 obtain⟨-,hs,row,cells,lW,hl⟩:=h
 refine⟨hs, ?_⟩
 unfold World.shape? at lW
 split at lW
 ·rename_i c el fz hh
  cases lW
  refine⟨c,_,fz,hh,Nat.le_trans (wS hl) ?_⟩
  exact Nat.div_mul_le_self _ _
 cases lW
def KI {W:World} {r:Reach} {base:Nat} {t e:TypeId} {v:Value} (ht:P.underlying t=some (.slice e)) (h:Value.okWide P W r base t v):
  v= .slice none 0 0∨ ∃b off len cap arr E fz,v=vsl b off len cap∧len≤cap∧W.heap[b]? =some (.cells arr E fz)∧off≤arr.size:=by
 obtain⟨a,len,cap,rfl⟩:=Go.WideShapes.okWide_slice ht h
 unfold Value.okWide at h
 rw[ht] at h
 unfold Cell.okWide at h
 rw[ht] at h
 simp only at h
 unfold Cell.ok at h
 rw[ht] at h
 cases a with
 |none=>
  left
  simp only at h
  split at h
  all_goals first| (cases h;done) |simp_all
 |some a=>
  right
  simp only at h
  obtain⟨eU,-,hh⟩:=h
  obtain⟨hs,arr,E,fz,hb,ho⟩:=PY hh
  obtain⟨b,off,sp⟩:=a
  simp only at hs
  subst hs
  exact⟨b,off,len,cap,arr,E,fz,rfl,eU,hb,ho⟩
def yw {α:Type} {enc:α→List Value} {z:α} {m:Nat} {W:World} {base b off c:Nat} {l:List α} {arr:Array Value} {E:TypeId} {fz:Nat×Nat} (nO:0<m) (hm: ∀x,(enc x).length=m)
  (sU: ∀i,i<l.length→W.cells? base ((Addr.mk b off none).add (i*m)) m=some (enc (l.getD i z))) (qP:W.heap[b]? =some (.cells arr E fz)) (Ss:off≤arr.size) (hc:l.length≤c):SlV m enc z W (vsl b off l.length c) l:=by
 have get: ∀k,k<l.length→ ∀j,j<m→arr[off+k*m+j]? =(enc (l.getD k z))[j]? :=by
  intro k hk j hj
  obtain⟨-,hl,hg⟩:=World.cells?_some (sU k hk)
  have:=hg j oM
  rw[l6,l6] at this
  simp only[World.cell?,qP,Option.isSome_none,Bool.false_eq_true,if_false] at this
  exact this
 refine SlV.sl qP get hc ?_
 by_cases h0:l.length=0
 ·rw[h0];omega
 have h1:=get (l.length - 1) oM (m - 1) oM
 rw[List.getElem?_eq_getElem (by rw[hm];omega)] at h1
 have h2:=(Array.getElem?_eq_some_iff.1 h1).1
 have h3: (l.length - 1)*m+m=l.length*m:=by
  rw[←Nat.succ_mul];congr 1;omega
 omega
end
end Go.Sx
section
open Go Go.Proofs Go.Sx Go.StP Go.Flo
open Go.ChangeShapes Go.WideShapes Go.ChangeAt Go.RowKit Go.ChangeMaps
namespace Go.Proofs
def Nb {H:Type} {tell:TypeId×Value→H} {α:Type} {enc:α→List Value} {z:α} {m:Nat} {W:World} {r:Reach} {base b0:Nat} {sp:Nat→Bool} {cD:Bool} {fuel:Nat} {t e:TypeId} {v:Value} {x:DataW H×List MemPlace} {R:α→DataW H→Prop}
  (ht: (prog).underlying t=some (.slice e)) (he: (prog).cellsOf e=m) (nO:0<m) (hm: ∀x,(enc x).length=m) (bJ:Value.okWide prog W r b0 t v)
  (Rq: ∀n cs y,DataW.trod tell prog W base sp cD n e cs=some y→ ∃a,cs=enc a∧R a y.1) (hd:DataW.trod tell prog W base sp cD fuel t [v]=some x):
  ∃l,SlV m enc z W v l∧(l= []∨ ∃es sp',x.1= .slice es sp'∧ ∀i,i<l.length→ ∃d,d∈es∧R (l.getD i z) d):=by
 rcases DataW.trod_slice ht hd with⟨eS,-⟩ | ⟨a,len,cap,elems,rest,n,-,eS,hx,-,hl,-,aR,fE,-,-⟩
 ·simp only[List.cons.injEq,and_true] at eS
  subst eS
  exact⟨[],SlV.nil W, .inl rfl⟩
 simp only[List.cons.injEq,and_true] at eS
 subst eS
 rcases KI ht bJ with h0| ⟨b,off,len',cap',arr,E,fz,h1,-,hb,ho⟩
 ·cases h0
 unfold vsl at h1
 cases h1
 rw[he] at fE
 have qJ: ∀i,i<len→ ∃q,W.cells? base ((Addr.mk b off none).add (i*m)) m=some (enc q)∧ ∃d,d∈elems.map (·.1)∧R q d:=by
  intro i hi
  have h2:=fE i hi
  rw[List.getElem?_eq_getElem oM] at h2
  cases hc:W.cells? base ((Addr.mk b off none).add (i*m)) m with
  |none=>rw[hc] at h2;cases h2
  |some cs=>
   rw[hc] at h2
   obtain⟨q,rfl,hR⟩:=Rq _ _ _ h2
   exact⟨q,rfl,_,List.mem_map_of_mem (List.getElem_mem oM),hR⟩
 obtain⟨f,hf⟩: ∃f:Nat→α,∀i,i<len→W.cells? base ((Addr.mk b off none).add (i*m)) m=some (enc (f i))∧ ∃d,d∈elems.map (·.1)∧R (f i) d:=by
  classical
  refine⟨fun i=>if h:i<len then Classical.choose (qJ i h) else z,fun i hi=> ?_⟩
  simp only[dif_pos hi]
  exact Classical.choose_spec (qJ i hi)
 have eI: ((List.range len).map f).length=len:=by simp
 have qL: ∀i,i<len→((List.range len).map f).getD i z=f i:=fun i hi=>by
  rw[List.getD_eq_getElem?_getD,List.getElem?_map,List.getElem?_range hi];rfl
 refine⟨(List.range len).map f, ?_, .inr ⟨_,_,by rw[hx],fun i hi=> ?_⟩⟩
 ·have:=yw (W:=W) (base:=base) (b:=b) (off:=off) (c:=cap) (l:=(List.range len).map f) (z:=z) nO hm (fun i hi=>by
   rw[eI] at hi
   rw[(hf i hi).1,qL i hi]) hb ho (by rw[eI];exact hl)
  rw[eI] at this
  exact this
 rw[eI] at hi
 rw[qL i hi]
 exact(hf i hi).2
def Ob {n:Int} (h: (Lit.int .u16 n).wf=true): ∃x:UInt16,Value.int .u16 n=v16 x:=by
 simp only[Lit.wf,Bool.and_eq_true,decide_eq_true_eq] at h
 have h1: (0:Int)≤n:=h.1
 have h2:n≤65535:=h.2
 refine⟨UInt16.ofNat n.toNat, ?_⟩
 unfold v16
 rw[UInt16.toNat_ofNat',Nat.mod_eq_of_lt oM,Int.toNat_of_nonneg h1]
def yt {H:Type} {tell:TypeId×Value→H} {W:World} {base:Nat} {sp:Nat→Bool} {cD:Bool} {n:Nat} {cs:List Value} {y:DataW H×List MemPlace}
  (h:DataW.trod tell prog W base sp cD n 65 cs=some y): ∃p:PkL,cs= [p.v]∧PkS W p.v p.l:=by
 have h1: (prog).cellsOf 169=1:=by kernel_rfl
 rcases DataW.trod_slice underlying65 h with⟨rfl,-⟩ | ⟨a,len,cap,elems,rest,m,-,rfl,-,-,hl,-,aR,fE,-,-⟩
 ·exact⟨pk0,rfl, .inl (SlV.nil W)⟩
 rw[h1] at fE
 by_cases h0:len=0
 ·subst h0
  exact⟨⟨.slice (some a) 0 cap,[],rfl,rfl⟩,rfl, .inr ⟨rfl,a,cap,rfl⟩⟩
 have qJ: ∀i,i<len→ ∃q:UInt16,W.cells? base (a.add (i*1)) 1=some (u16C q):=by
  intro i hi
  have h2:=fE i hi
  rw[List.getElem?_eq_getElem oM] at h2
  cases hc:W.cells? base (a.add (i*1)) 1 with
  |none=>rw[hc] at h2;cases h2
  |some cs=>
   rw[hc] at h2
   obtain⟨z,hz,-,hw⟩:=DataW.trod_int underlying169 h2
   obtain⟨q,hq⟩:=Ob hw
   exact⟨q,by rw[hz,hq];rfl⟩
 obtain⟨f,hf⟩: ∃f:Nat→UInt16,∀i,i<len→W.cells? base (a.add (i*1)) 1=some (u16C (f i)):=by
  classical
  refine⟨fun i=>if h:i<len then Classical.choose (qJ i h) else 0,fun i hi=> ?_⟩
  simp only[dif_pos hi]
  exact Classical.choose_spec (qJ i hi)
 obtain⟨-,-,hg⟩:=World.cells?_some (hf 0 oM)
 have A5:=hg 0 oM
 obtain⟨blk,off,spt⟩:=a
 have fp:W.cell? ((Addr.mk blk off spt).add (0*1) |>.add 0)=some (v16 (f 0)):=A5
 unfold World.cell? at fp
 have hb: ((Addr.mk blk off spt).add (0*1) |>.add 0).block=blk:=rfl
 rw[hb] at fp
 split at fp
 ·rename_i arr E fz hh
  split at fp
  ·cases fp
  rename_i tE
  have TL:spt=none:=by
   cases spt with
   |none=>rfl
   |some q=>exact absurd rfl tE
  subst TL
  have Ss:off<arr.size:=(Array.getElem?_eq_some_iff.1 fp).1
  have eI: ((List.range len).map f).length=len:=by simp
  have qL: ∀i,i<len→((List.range len).map f).getD i 0=f i:=fun i hi=>by
   rw[List.getD_eq_getElem?_getD,List.getElem?_map,List.getElem?_range hi];rfl
  have hs:=yw (W:=W) (base:=base) (b:=blk) (off:=off) (c:=cap) (l:=(List.range len).map f) (enc:=u16C) (z:=0) (by decide) Mi (fun i hi=>by
   rw[eI] at hi
   rw[hf i hi,qL i hi]) hh oM (by rw[eI];exact hl)
  rw[eI] at hs
  exact⟨⟨.slice (some ⟨blk,off,none⟩) len cap,(List.range len).map f,rfl,rfl⟩,rfl, .inl hs⟩
 cases fp
def M0 {H:Type} {enc:TypeId×Value→H} {W:World} {base:Nat} {sp:Nat→Bool} {cD:Bool} {v:Value} {d:DataW H} {p:List MemPlace}
  (hd:DataW.Trod enc prog W base sp cD 65 v d p) (hv:v.cells.toList= [v]): ∃p:PkL,v=p.v∧PkS W p.v p.l:=by
 obtain⟨fu,hf⟩:=hd
 rw[hv] at hf
 obtain⟨p,hp,h⟩:=yt hf
 exact⟨p,by simpa using hp,h⟩
end Go.Proofs
end
section
open Go Go.Proofs Go.Sx Go.StP Go.Flo
namespace Go.Proofs
def ES:DataW Unit:= .agg [.lit (.string jm), .lit (.string jP), .lit (.string aJ)]
def Wy {W:World} {base:Nat} {sp:Nat→Bool} {cD:Bool} {fuel:Nat} {cs:List Value} {p:List MemPlace}
  (hd:DataW.trod (fun _=>()) prog W base sp cD fuel 170 cs=some (ES,p)):cs= [vs jm,vs jP,vs aJ]:=by
 obtain⟨xs,m,-,hx,aR,kD,fE⟩:=DataW.trod_array underlying170 hd
 have hc: (prog).cellsOf 170=3:=by kernel_rfl
 have h1: (prog).cellsOf 9=1:=by kernel_rfl
 rw[hc] at aR
 rw[h1] at fE
 have hm:xs.map (·.1)= [.lit (.string jm), .lit (.string jP), .lit (.string aJ)]:=by
  have:=congrArg Prod.fst hx
  unfold ES at this
  simp only[DataW.agg.injEq] at this
  exact this.symm
 have h0:=fE 0 oM
 have h2:=fE 1 oM
 have h3:=fE 2 oM
 rw[List.getElem?_eq_getElem oM] at h0 h2 h3
 obtain⟨s0,W4,DK,-⟩:=DataW.trod_string underlying9 h0
 obtain⟨s1,pP,DL,-⟩:=DataW.trod_string underlying9 h2
 obtain⟨s2,eV,uQ,-⟩:=DataW.trod_string underlying9 h3
 match xs,kD,hm,DK,DL,uQ with
 | [x0,x1,x2],_,hm,DK,DL,uQ=>
  simp only[List.map_cons,List.map_nil,List.cons.injEq,and_true] at hm
  simp only[List.getElem_cons_zero,List.getElem_cons_succ] at DK DL uQ
  obtain⟨m0,m1,m2⟩:=hm
  rw[DK] at m0
  rw[DL] at m1
  rw[uQ] at m2
  simp only[DataW.lit.injEq,Lit.string.injEq] at m0 m1 m2
  match cs,aR with
  | [c0,c1,c2],_=>
   simp only[Nat.zero_mul,List.drop_zero,List.take_succ_cons,List.take_zero,List.cons.injEq,and_true,Nat.one_mul,List.drop_succ_cons,Nat.reduceMul] at W4 pP eV
   rw[W4,pP,eV,←m0,←m1,←m2]
   rfl
theorem V6 {W:World}: ∀ {laid:List (String×DataW Unit)} {ps:List MemPlace},DataW.LaidVars prog W laid ps→("sediment/disk.order",ES)∈laid→n8 W
 | [],_,_,hm=>by cases hm
 | (n',d')::rest,ps,h,hm=>by
  obtain⟨g',t',cs,fuel,p,q,A4,uM,k_,hd,hr,-⟩:=h
  rcases List.mem_cons.1 hm with hm|hm
  ·cases hm
   have hg: (prog).globalNamed "sediment/disk.order" =some 0:=by kernel_rfl
   have DE: ((prog).globals[(0:Nat)]?).map (·.type)=some 170:=by kernel_rfl
   obtain rfl:=Option.some.inj (hg.symm.trans A4)
   obtain rfl:=Option.some.inj (DE.symm.trans uM)
   have eS:=Wy hd
   simp only[World.var?,hg,Option.bind_some] at k_
   split at k_
   ·rename_i cs' e f hb
    cases k_
    refine⟨e,f, ?_⟩
    rw[hb]
    congr 2
    apply Array.ext'
    rw[eS]
   cases k_
  exact V6 hr hm
end Go.Proofs
end
section
open Go Go.Proofs Go.Sx Go.StP Go.RefP
namespace Go.Proofs
theorem NewS.dk {bd:Nat} {R:Option BkL×Nat×DiskL} {N:Nat} {v:Value} {D:aA} (h:NewS bd R N v D) (hn: (keys D).Nodup): ∃G,G.bd=bd∧DkA D G R.2.2 N:=by
 unfold NewS at h
 cases hR:R.1 with
 |none=>rw[hR] at h;exact h.2
 |some B=>
  rw[hR] at h
  obtain⟨bo,-,hP⟩:=h
  exact hP.dk hn
def IN {S:DiskL} {B:BkL} (h: (ct S).1=some B):al B.t B.l=true∧B.n=B.l.length:=by
 unfold ct at h
 split at h
 ·cases h
 split at h
 ·cases h
 rename_i p hb
 have hr:=(KC (t:=p.1) (l:=p.2.1) (a:=p.2.2) hb).2.1
 unfold endB at h
 simp only at h
 generalize (if p.2.2< (dE S).1.length then au (dE S).2.2 aJ aH ((dE S).1.take p.2.2) false else(0,(dE S).2.2))=q at h
 split at h
 ·cases h
 split at h
 ·cases h
 cases h
 exact⟨hr,rfl⟩
def xe {n:Nat} {X Y:aA} (h:New n (X++Y)):New n X:=New.of_le fun c hc=>h.le c (by rw[aZ];exact bQ _ hc)
def Eh {n:Nat} {X Y:aA} (h:New n (X++Y)):New n Y:=New.of_le fun c hc=>h.le c (by rw[aZ];exact dS _ hc)
def uw (l:List RefL):jv l l=true:=by unfold jv;simp
end Go.Proofs
end
section
open Go Go.Proofs Go.Sx Go.StP
open Go.ChangeShapes Go.WideShapes Go.ChangeAt Go.RowKit Go.ChangeMaps
namespace Go.Proofs
def Lg {H:Type} {tell:TypeId×Value→H} {W:World} {base:Nat} {sp:Nat→Bool} {cD:Bool} {n:Nat} {cs:List Value} {y:DataW H×List MemPlace}
  (h:DataW.trod tell prog W base sp cD n 24 cs=some y): ∃i:IdL,cs=i.l.map v8:=by
 obtain⟨xs,m,-,-,aR,kD,fE⟩:=DataW.trod_array underlying24 h
 have hc: (prog).cellsOf 24=32:=by kernel_rfl
 have h1: (prog).cellsOf 5=1:=by kernel_rfl
 rw[hc] at aR
 rw[h1] at fE
 have qJ: ∀i (hi:i<cs.length),∃x:UInt8,cs[i]=v8 x:=by
  intro i hi
  have h2:=fE i oM
  rw[List.getElem?_eq_getElem oM,Nat.mul_one,List.drop_eq_getElem_cons hi,List.take_succ_cons,List.take_zero] at h2
  obtain⟨z,hz,-,hw⟩:=DataW.trod_int underlying5 h2
  simp only[List.cons.injEq,and_true] at hz
  rw[hz]
  simp only[Lit.wf,Bool.and_eq_true,decide_eq_true_eq] at hw
  have aY:0≤z:=by simpa [IntKind.min,IntKind.bits,IntKind.signed] using hw.1
  have eW:z≤255:=by simpa [IntKind.max,IntKind.bits,IntKind.signed] using hw.2
  refine⟨UInt8.ofNat z.toNat, ?_⟩
  unfold v8
  rw[UInt8.toNat_ofNat',Nat.mod_eq_of_lt oM]
  congr 1;omega
 have hl: ∃l:List UInt8,cs=l.map v8:=by
  clear fE aR kD h
  induction cs with
  |nil=>exact⟨[],rfl⟩
  |cons c r ih=>
   obtain⟨x,hx⟩:=qJ 0 (by simp)
   obtain⟨l,hl⟩:=ih (fun i hi=>by have:=qJ (i+1) (by simpa using hi);simpa using this)
   exact⟨x::l,by rw[hl];simp at hx;simp[hx]⟩
 obtain⟨l,rfl⟩:=hl
 exact⟨⟨l,by simpa using aR⟩,rfl⟩
def yl {H:Type} {tell:TypeId×Value→H} {W:World} {base:Nat} {sp:Nat→Bool} {cD:Bool} (n:Nat) (cs:List Value) (y:DataW H×List MemPlace)
  (h:DataW.trod tell prog W base sp cD n 67 cs=some y): ∃a:AtL,cs=atC a∧PkS W a.picks.v a.picks.l∧(-9223372036854775808≤a.n∧a.n<9223372036854775808):=by
 obtain⟨xs,m,-,-,aR,kD,fE⟩:=DataW.trod_struct underlying67 h
 have hc: (prog).cellsOf 67=37:=by kernel_rfl
 have Ci: (prog).cellsOf 3=1:=by kernel_rfl
 have eS: (prog).cellsOf 9=1:=by kernel_rfl
 have Ch: (prog).cellsOf 24=32:=by kernel_rfl
 have Vd: (prog).cellsOf 4=1:=by kernel_rfl
 have qI: (prog).cellsOf 65=1:=by kernel_rfl
 rw[hc] at aR
 have kD:xs.length=6:=kD
 have h0:DataW.trod tell prog W base sp cD m 3 ((cs.drop 0).take ((prog).cellsOf 3))=xs[0]? :=fE 0 _ rfl
 rw[Ci,List.getElem?_eq_getElem oM] at h0
 have h1:DataW.trod tell prog W base sp cD m 3 ((cs.drop 1).take ((prog).cellsOf 3))=xs[1]? :=fE 1 _ rfl
 rw[Ci,List.getElem?_eq_getElem oM] at h1
 have h2:DataW.trod tell prog W base sp cD m 9 ((cs.drop 2).take ((prog).cellsOf 9))=xs[2]? :=fE 2 _ rfl
 rw[eS,List.getElem?_eq_getElem oM] at h2
 have h3:DataW.trod tell prog W base sp cD m 24 ((cs.drop 3).take ((prog).cellsOf 24))=xs[3]? :=fE 3 _ rfl
 rw[Ch,List.getElem?_eq_getElem oM] at h3
 have h4:DataW.trod tell prog W base sp cD m 4 ((cs.drop 35).take ((prog).cellsOf 4))=xs[4]? :=fE 4 _ rfl
 rw[Vd,List.getElem?_eq_getElem oM] at h4
 have h5:DataW.trod tell prog W base sp cD m 65 ((cs.drop 36).take ((prog).cellsOf 65))=xs[5]? :=fE 5 _ rfl
 rw[qI,List.getElem?_eq_getElem oM] at h5
 obtain⟨k,hk,-,-⟩:=DataW.trod_int underlying3 h0
 obtain⟨i,hi,-,SC⟩:=DataW.trod_int underlying3 h1
 obtain⟨u,hu,-,-⟩:=DataW.trod_string underlying9 h2
 obtain⟨d,hd⟩:=Lg h3
 obtain⟨b,hb,-⟩:=DataW.trod_bool underlying4 h4
 obtain⟨p,hp,t6⟩:=yt h5
 refine⟨⟨k,i,u.data.toList,d,b,p⟩, ?_,t6, ?_⟩
 ·have e1:cs=cs.take 1++ ((cs.drop 1).take 1++ ((cs.drop 2).take 1++ ((cs.drop 3).take 32++ ((cs.drop 35).take 1++ (cs.drop 36).take 1)))):=by
   have g5: (cs.drop 36).take 1=cs.drop 36:=List.take_of_length_le (by rw[List.length_drop];omega)
   have g4: (cs.drop 35).take 1++cs.drop 36=cs.drop 35:=by rw[show cs.drop 36=(cs.drop 35).drop 1 by rw[List.drop_drop]];exact List.take_append_drop _ _
   have g3: (cs.drop 3).take 32++cs.drop 35=cs.drop 3:=by rw[show cs.drop 35=(cs.drop 3).drop 32 by rw[List.drop_drop]];exact List.take_append_drop _ _
   have g2: (cs.drop 2).take 1++cs.drop 3=cs.drop 2:=by rw[show cs.drop 3=(cs.drop 2).drop 1 by rw[List.drop_drop]];exact List.take_append_drop _ _
   have g1: (cs.drop 1).take 1++cs.drop 2=cs.drop 1:=by rw[show cs.drop 2=(cs.drop 1).drop 1 by rw[List.drop_drop]];exact List.take_append_drop _ _
   rw[g5,g4,g3,g2,g1,List.take_append_drop]
  rw[List.drop_zero] at hk
  rw[e1,hk,hi,hu,hd,hb,hp]
  rfl
 simp only[Lit.wf,Bool.and_eq_true,decide_eq_true_eq] at SC
 have g1: (-9223372036854775808:Int)≤i:=by simpa [IntKind.min,IntKind.bits,IntKind.signed] using SC.1
 have g2:i≤9223372036854775807:=by simpa [IntKind.max,IntKind.bits,IntKind.signed] using SC.2
 exact⟨g1,by show i<9223372036854775808;omega⟩
def Jm {H:Type} {enc:TypeId×Value→H} {W:World} {r:Reach} {b0 base:Nat} {sp:Nat→Bool} {cD:Bool} {v:Value} {d:DataW H} {p:List MemPlace}
  (bJ:Value.okWide prog W r b0 67 v) (hd:DataW.Trod enc prog W base sp cD 67 v d p): ∃a:AtL,v= .agg (atC a).toArray∧PkS W a.picks.v a.picks.l∧(-9223372036854775808≤a.n∧a.n<9223372036854775808):=by
 obtain⟨fu,hf⟩:=hd
 unfold Value.okWide at bJ
 rw[underlying67] at bJ
 obtain⟨cs,rfl,-⟩:=bJ
 rw[bI] at hf
 obtain⟨a,ha,h2⟩:=yl fu _ _ hf
 exact⟨a,by obtain⟨l⟩:=cs;simp only at ha;rw[ha],h2⟩
theorem PkS.oldN {w w':World} {L:aA} {v:Value} {l:List UInt16} (h:PkS w v l) (hw:Hp w L w') (hN:New w.heap.size L):PkS w' v l:=by
 rcases h with h|h
 ·exact .inl (SlV.oldN h hw hN)
 exact .inr h
end Go.Proofs
end
section
open Go Go.Proofs Go.Sx Go.StP
namespace Go.Proofs
structure NdR where
 s:List UInt8
 n:Int
def ndC (r:NdR):List Value:= [vs r.s]++ ([vi r.n])
structure KcR where
 kind:Int
 a:List UInt8
 b:List UInt8
 n:Int
def kcC (r:KcR):List Value:= [vi r.kind]++ ([vs r.a]++ ([vs r.b]++ ([vi r.n])))
structure FdR where
 data:List UInt8
 stl:Int
def fdC (r:FdR):List Value:= [vs r.data]++ ([vi r.stl])
def ndOf (p:List UInt8×Nat):NdR:=⟨p.1,(p.2:Int)⟩
def kcOf (c:CallL):KcR:=⟨(c.kind:Int),c.a,c.b,(c.n:Int)⟩
def fdOf (f:FileL):FdR:=⟨f.data,(f.stl:Int)⟩
structure DcG where
 bd:Nat
 s:Nat→Value
 t:Nat→Value
 p:Nat→Value
 f:Value
def QK (S:DiskL):Int:=if S.fused=true then S.fuse else -1
def dcO (G:DcG) (S:DiskL):Obj:= .cells #[G.s 0,G.t 0,G.p 0,G.s 1,G.t 1,G.p 1,G.s 2,G.t 2,G.p 2,G.f,vi S.max,vi (QK S), .bool S.off] 198 (0,0)
def zB (c:CallL):CallL:=if c.kind=0 then⟨0,c.a,[],c.n⟩ else if c.kind=1 then⟨1,c.a,c.b,0⟩ else⟨2,c.a,[],0⟩
def NdP (X:aA) (v:Value) (l:NmL):Prop:=Gr X 203 2 v (l.map ndOf).length ((l.map ndOf).map ndC).flatten
def KcP (X:aA) (v:Value) (l:List CallL):Prop:=Gr X 219 4 v (l.map kcOf).length ((l.map kcOf).map kcC).flatten
def FdP (X:aA) (v:Value) (l:List FileL):Prop:=Gr X 200 2 v (l.map fdOf).length ((l.map fdOf).map fdC).flatten
structure DcP (X:aA) (G:DcG) (S:DiskL):Prop where
 disk:Sx.look X G.bd=some (dcO G S)
 seen: ∀k,k<3→NdP X (G.s k) (S.dir k).seen
 stl: ∀k,k<3→NdP X (G.t k) (S.dir k).stl
 pend: ∀k,k<3→ ∃pl:List CallL,pl.map zB=(S.dir k).pend.map zB∧KcP X (G.p k) pl
 files:FdP X G.f S.files
 pdis: ∀i j,i<3→j<3→i≠j→ ∀b,slB (G.p i)=some b→slB (G.p j)≠some b
def DcW (w:World) (G:DcG) (S:DiskL):Prop:= ∃X,(∀b o,Sx.look X b=some o→w.heap[b]? =some o)∧DcP X G S
def Gr.keepTy {X L:aA} {E:TypeId} {m n:Nat} {v:Value} {cs:List Value} (h:Gr X E m v n cs) {c:Nat} {oc:Obj} (hc:Sx.look X c=some oc) (ht:tyO oc≠some E) (keep: ∀b o,b≠c→Sx.look X b=some o→Sx.look L b=some o):Gr L E m v n cs:=h.keep fun b o hb ho=>keep b o (by
 rintro rfl
 obtain⟨arr,ha⟩:=kS h hb
 rw[hc] at ha;cases ha;exact ht rfl) ho
def DcP.mono {X X':aA} {G:DcG} {S:DiskL} (h:DcP X G S) (hk: ∀b o,Sx.look X b=some o→Sx.look X' b=some o):DcP X' G S where
 disk:=hk _ _ h.disk
 seen k am:=(h.seen k am).keep fun b o _ ho=>hk b o ho
 stl k am:=(h.stl k am).keep fun b o _ ho=>hk b o ho
 pend k am:=by
  obtain⟨pl,h1,h2⟩:=h.pend k am
  exact⟨pl,h1,h2.keep fun b o _ ho=>hk b o ho⟩
 files:=h.files.keep fun b o _ ho=>hk b o ho
 pdis:=h.pdis
def DcP.world {X:aA} {G:DcG} {S:DiskL} {w0 w:World} (h:DcP X G S) (hw:Hp w0 X w):DcW w G S:=⟨X,fun _ _ hb=>hw.has _ _ (cQ hb),h⟩
theorem DcW.old {w w':World} {L:aA} {G:DcG} {S:DiskL} (h:DcW w G S) (hw:Hp w L w') (hn:New w.heap.size L):DcW w' G S:=by
 obtain⟨X,hX,hP⟩:=h
 refine⟨X,fun b o hb=> ?_,hP⟩
 have aG:=(Array.getElem?_eq_some_iff.1 (hX b o hb)).1
 exact(hw.old b aG (hn.not aG)).trans (hX b o hb)
def oU (G:DcG) (S:DiskL):tyO (dcO G S)=some 198:=rfl
def yg: (some 198:Option TypeId)≠some 203:=by decide
def Q4: (some 198:Option TypeId)≠some 219:=by decide
def Pt: (some 198:Option TypeId)≠some 200:=by decide
def DcP.upd {X L:aA} {G G':DcG} {S S':DiskL} (h:DcP X G S) (hb:G'.bd=G.bd) (keep: ∀b o,b≠G.bd→Sx.look X b=some o→Sx.look L b=some o) (hd:Sx.look L G.bd=some (dcO G' S'))
  (hs: ∀k,k<3→(G'.s k=G.s k∧(S'.dir k).seen=(S.dir k).seen)∨NdP L (G'.s k) (S'.dir k).seen)
  (ht: ∀k,k<3→(G'.t k=G.t k∧(S'.dir k).stl=(S.dir k).stl)∨NdP L (G'.t k) (S'.dir k).stl)
  (hp: ∀k,k<3→(G'.p k=G.p k∧(S'.dir k).pend=(S.dir k).pend)∨(G'.p k= .slice none 0 0∧(S'.dir k).pend= []))
  (hf:G'.f=G.f∧S'.files=S.files):DcP L G' S' where
 disk:=by rw[hb];exact hd
 seen k hk:=by
  rcases hs k hk with⟨h1,h2⟩ |h1
  ·rw[h1,h2];exact Gr.keepTy (h.seen k hk) h.disk (by rw[oU];exact yg) keep
  exact h1
 stl k hk:=by
  rcases ht k hk with⟨h1,h2⟩ |h1
  ·rw[h1,h2];exact Gr.keepTy (h.stl k hk) h.disk (by rw[oU];exact yg) keep
  exact h1
 pend k hk:=by
  rcases hp k hk with⟨h1,h2⟩ | ⟨h1,h2⟩
  ·obtain⟨pl,h3,h4⟩:=h.pend k hk
   exact⟨pl,by rw[h2];exact h3,by rw[h1];exact Gr.keepTy h4 h.disk (by rw[oU];exact Q4) keep⟩
  exact⟨[],by rw[h2],by rw[h1];exact Gr.nl⟩
 files:=by rw[hf.1,hf.2];exact Gr.keepTy h.files h.disk (by rw[oU];exact Pt) keep
 pdis i j hi hj kr b:=by
  rcases hp i hi with⟨h1,-⟩ | ⟨h1,-⟩
  ·rcases hp j hj with⟨h2,-⟩ | ⟨h2,-⟩
   ·rw[h1,h2];exact h.pdis i j hi hj kr b
   rw[h2];intro _ h;cases h
  rw[h1];intro h;cases h
def Gr.upd {α:Type} {X:aA} {E:TypeId} {m:Nat} {v:Value} {enc:α→List Value} {l:List α} (h:Gr X E m v l.length (l.map enc).flatten) (hm: ∀x,(enc x).length=m) {k:Nat} (hk:k<l.length) (x:α):
  ∃b rest c,v=vsl b 0 l.length c∧Sx.look X b=some (rowO enc E rest l)∧ ∀L,Sx.look L b=some (rowO enc E rest (l.set k x))→Gr L E m v (l.set k x).length ((l.set k x).map enc).flatten:=by
 rcases h with h| ⟨h,-⟩
 ·generalize hn:l.length=n at h
  generalize eS: (l.map enc).flatten=cs at h
  cases h with
  |nl=>omega
  | @at_ b n c cs rest hl h1 h2 h3 h4=>
   subst eS
   refine⟨b,rest,c,rfl,hl,fun L hL=> .inl ?_⟩
   rw[List.length_set,hn]
   exact .at_ hL (by rw[ET hm,List.length_set,hn]) h2 h3 h4
 omega
end Go.Proofs
end
section
open Go Go.Proofs Go.Sx Go.StP Go.Flo
namespace Go.Proofs
def M7 {w0:World} {L X D:aA} {b:Nat} (hC:Came w0 L X D) (hX:b∉keys X) (hL:b∈keys L):b∉keys D:=fun hm=>by
 rcases hC.new b hm with h| ⟨h,-⟩
 ·exact hX h
 have:=ae h hL;omega
end Go.Proofs
end
section
open Go Go.Proofs Go.Sx Go.StP Go.RefP
namespace Go.Proofs
def QP (a:Int):aC .rem (vi a) (vi 3)=some (vi (a.tmod 3)):=by
 unfold vi aC
 rfl
def wd {D:aA} {v:Value} {l:List RefL} {w:World} {k:Nat} (h:GrI D 149 33 v l.length (l.map aI).flatten) (hk:k≤l.length) (h0: ∀b o,(b,o)∈D→w.heap[b]? =some o):
  ∃v',g7 (.sl (true,33)) v none (some (some (k:Int)))=some v'∧ ∀w':World,(∀b o,(b,o)∈D→w'.heap[b]? =some o)→fB w' v' (l.take k):=by
 obtain⟨v',h1,-,-⟩:=SlV.take (eN h h0) hk true
 refine⟨v',h1,fun w' h'=> ?_⟩
 obtain⟨v2,h2,h3,-⟩:=SlV.take (eN h h') hk true
 obtain rfl:v'=v2:=Option.some.inj (h1.symm.trans h2)
 exact h3
structure StB where
 S:DiskL
 B:BkL
 n:Nat
 e:Nat
 X:aA
 Y:aA
def ap:=aN (aN (aN (aN @bq @bl) (aN @Sx.tup2_0 (aN @Sx.tup2_1 @tup3_0))) (aN (aN @tup3_1 @tup3_2) (aN @kW (aN @C7 @Br)))) (aN (aN (aN @Bz @Bl) (aN @Bm (aN @By @Bx))) (aN (aN @Bc @ua) (aN @pW (aN @nb @QP))))
def W_ (v0:Value) (acts:List AtL) (a:AtL) (c:UInt8) (p:PkL) (w:World) (hG:n8 w) (hC:GlobC w) (Ap:AtSl w v0 acts) (s_: ∀a,a∈acts→PkS w a.picks.v a.picks.l) (S_:PkS w a.picks.v a.picks.l) (hp:PkS w p.v p.l):
  Rets prog 10 #[v0, .agg (atC a).toArray,v8 c,p.v] w (fun v D=>v= .bool true∧D= []):=by
 have lnp:=hp.len
 have Ra:=a.id.h
 refine Rets.enterV func10 rfl (rs:= [.tmp 8]) results10 ntmps10 ?_
 refine kf ?_
 refine kz [1000012] @ap ?_
 refine Ow.box rfl rfl fun b5 iq fJ=> ?_
 simp only[df,dC,dW,bI,List.nil_append]
 have iQ:New w.heap.size [(b5,Obj.cells (atC a).toArray 67 (0,0))]:=⟨fJ,trivial⟩
 refine ko @ap ?_
 refine kz [1000012] @ap ?_
 refine Ow.callFV rfl call36 (fun w' aB=>tO w' (lX hG aB iQ) (GlobC.of hC aB (gY hC iQ))) ?_
 refine ko @ap ?_
 cases mZ:decide ((100:Int)< (p.l.length:Int)) with
 |true=>
  refine ky (aN @ap (aN @lnp @mZ)) ?_
  refine Ow.callFV rfl call36 (fun w' aB=>tO w' (lX hG aB iQ) (GlobC.of hC aB (gY hC iQ))) ?_
  refine ko @ap ?_
  refine ky @ap ?_
  refine⟨_,(ke @ap),iQ, ?_⟩
  rfl
 |false=>
  have fc:=of_decide_eq_false mZ
  refine kz [1000012] (aN @ap (aN @lnp @mZ)) ?_
  refine Ow.callFV rfl call37 (fun w' aB=>Uz a w' (S_.oldN aB iQ)) ?_
  cases qN:rI a with
  |true=>
   refine ko @ap ?_
   refine ky @ap ?_
   refine Ow.callFV rfl call36 (fun w' aB=>tO w' (lX hG aB iQ) (GlobC.of hC aB (gY hC iQ))) ?_
   refine ko @ap ?_
   refine ky @ap ?_
   refine⟨_,(ke @ap),iQ, ?_⟩
   rfl
  |false=>
   obtain⟨ZR,ZS⟩:=w4 qN
   refine ko @ap ?_
   refine kz [1000012] @ap ?_
   refine Ow.callC rfl rfl call45 (fun w' aB=>HI v0 acts w' (lX hG aB iQ) (GlobC.of hC aB (gY hC iQ)) (Ap.oldN aB iQ) (fun a ha w2 L h2 hN=>((s_ a ha).oldN aB iQ).oldN h2 hN)) (fun B0 v3 D0 iM u2 lN zX=> ?_)
   obtain⟨bd0,bo,N0,Yv,rfl,jV⟩:=zX
   have RP:New w.heap.size D0:=lN.mono u2
   have Ac:=PI acts
   generalize kT acts=q at*
   obtain⟨S0,Bk⟩:=q
   simp only at jV Ac
   have dy:=Ac.bk
   have Rm:=dy.tl
   have fD:=dy.ll
   refine ko @ap ?_
   refine kz [1000012] @ap ?_
   refine Ow.callC rfl rfl call39 (fun w' aB=>DQ bo bd0 Bk w' (jV.W fun b o hm=>aB.has b o (by simp[hm])) oM oM) (fun B1 v1 D1 eR dv dT d8=> ?_)
   obtain⟨va,vb,rfl,km,jX⟩:=d8
   have sJ:=dT.mono dv
   refine ko @ap ?_
   refine Ow.callFV rfl call43 (fun w' aB=>Dd bo bd0 Bk w' (jV.W fun b o hm=>aB.has b o (by simp[hm]))) ?_
   refine ko @ap ?_
   refine Ow.alloc rfl rfl nC fun b11 p9 me=> ?_
   simp only[bI,List.nil_append,List.cons_append]
   have h5_11:b5<b11:=ae p9 (by simp[keys])
   refine Ow.permL (M:=(b11, .cells #[.slice none 0 0, .slice none 0 0] 73 (0,0)):: (b5, .cells (atC a).toArray 67 (0,0)):: (D0++D1)) pM ?_
   have stz:=mh (.slice none 0 0) (.slice none 0 0) va vb 73 (iZ km).1 (iZ jX).1
   refine ko (aN @ap @stz) ?_
   refine kz [1000012] (aN @ap @stz) ?_
   refine Ow.callC rfl rfl call46 (fun w' aB=>vZ va vb Bk.t Bk.l a.n w' (eN km fun b o hm=>aB.has b o (by simp[hm])) (eN jX fun b o hm=>aB.has b o (by simp[hm])) oM oM dy.t.short dy.l.short) (fun B2 v2 D2 cU cX d7 an=> ?_)
   have sK:=d7.mono cX
   unfold m5 at an
   rw[if_pos Ac.rt] at an
   obtain⟨vc,vd,ls,bJ,rfl,Ry,qL⟩:=an
   refine ko @ap ?_
   refine Ow.alloc rfl rfl nC fun b13 zi tL=> ?_
   simp only[bI,List.nil_append,List.cons_append]
   have h5_13:b5<b13:=ae zi (by simp[keys])
   have h11_13:b11<b13:=ae zi (by simp[keys])
   refine Ow.permL (M:=(b13, .cells #[.slice none 0 0, .slice none 0 0] 73 (0,0)):: (b11, .cells #[va,vb] 73 (0,0)):: (b5, .cells (atC a).toArray 67 (0,0)):: (D0++ (D1++D2))) pM ?_
   have stz2:=mh (.slice none 0 0) (.slice none 0 0) vc vd 73 (iZ Ry).1 (iZ qL).1
   have W3:=E0 c 8 (by decide)
   have hn8: (((c%8).toNat:Nat):Int)<256:=by have:=(c%8).toNat_lt;omega
   refine ko (aN @ap @stz2) ?_
   refine kz [1000012] (aN @ap (aN @stz2 @W3)) ?_
   obtain⟨G0,vt,vl,DD0,KK0,rfl,iM⟩:=jV
   have Ab: ((b13,Obj.cells #[vc,vd] 73 (0,0)):: (b11, .cells #[va,vb] 73 (0,0)):: (b5, .cells (atC a).toArray 67 (0,0)):: (D0++ (D1++D2))).Perm (D0++ ((b13, .cells #[vc,vd] 73 (0,0)):: (b11, .cells #[va,vb] 73 (0,0)):: (b5, .cells (atC a).toArray 67 (0,0)):: (D1++D2))):=pM
   have Vz: ((b13,Obj.cells #[vc,vd] 73 (0,0)):: (b11, .cells #[va,vb] 73 (0,0)):: (b5, .cells (atC a).toArray 67 (0,0)):: (D0++ (D1++D2))).Perm (DD0++ ((bo, .cells #[vp G0.bd 0,vt,vl,vi (Bk.n:Nat)] 151 (0,0)):: (KK0++ ((b13, .cells #[vc,vd] 73 (0,0)):: (b11, .cells #[va,vb] 73 (0,0)):: (b5, .cells (atC a).toArray 67 (0,0)):: (D1++D2))))):=Ab.trans ((iM.perm.append_right _).trans pM)
   have Ca:=RP.perm iM.perm
   have zW:New w.heap.size ((b13,Obj.cells #[vc,vd] 73 (0,0)):: (b11, .cells #[va,vb] 73 (0,0)):: (b5, .cells (atC a).toArray 67 (0,0)):: (D1++D2)):=⟨tL,me,fJ,sJ.app sK⟩
   refine Ow.permL Vz.symm ?_
   refine Ow.callX (X:=DD0) (Y:=(bo, .cells #[vp G0.bd 0,vt,vl,vi (Bk.n:Nat)] 151 (0,0)):: (KK0++ ((b13, .cells #[vc,vd] 73 (0,0)):: (b11, .cells #[va,vb] 73 (0,0)):: (b5, .cells (atC a).toArray 67 (0,0)):: (D1++D2)))) rfl rfl rfl call47 (fun w' aB ab aX=>IB DD0 G0 S0 (((c%8).toNat:Nat):Int) w' ab aX iM.D.P oM) (fun v8 X8 zM za=> ?_)
   obtain⟨-,G8,sO,jC⟩:=za
   have kl:=Ac.fz.fuse (n:=(((c%8).toNat:Nat):Int)) ⟨by omega,by omega⟩ (b:=decide (0≤ (((c%8).toNat:Nat):Int)))
   have u3:New w.heap.size X8:=uf zM (xe (Y:=KK0) Ca.2)
   obtain⟨XB,V_,p7,qC⟩: ∃XB,(X8++ ((bo,Obj.cells #[vp G0.bd 0,vt,vl,vi (Bk.n:Nat)] 151 (0,0)):: (KK0++ ((b13, .cells #[vc,vd] 73 (0,0)):: (b11, .cells #[va,vb] 73 (0,0)):: (b5, .cells (atC a).toArray 67 (0,0)):: (D1++D2))))).Perm (XB++ ((b13, .cells #[vc,vd] 73 (0,0)):: (b11, .cells #[va,vb] 73 (0,0)):: (b5, .cells (atC a).toArray 67 (0,0)):: (D1++D2)))∧BoP bo G0.bd {S0 with fuse:=(((c%8).toNat:Nat):Int),fused:=decide (0≤ (((c%8).toNat:Nat):Int))} N0 Bk XB∧New w.heap.size XB:=
    ⟨(bo, .cells #[vp G0.bd 0,vt,vl,vi (Bk.n:Nat)] 151 (0,0)):: (X8++KK0),pM,⟨G8,vt,vl,X8,KK0,sO,⟨by rw[sO],⟨jC,lp iM.D.H rfl,pn iM.D.B rfl⟩,iM.t,iM.l⟩⟩,⟨Ca.1,u3.app (Eh Ca.2)⟩⟩
   refine Ow.permL V_.symm ?_
   generalize ({S0 with fuse:=(((c%8).toNat:Nat):Int),fused:=decide (0≤ (((c%8).toNat:Nat):Int))}:DiskL)=S1 at*
   clear iM Vz Ab Ca zM sO jC u3 V_ Ac
   generalize G0.bd=bd at*
   refine Ow.world fun wz gV=> ?_
   have rd5:aS w (XB++ ((b13, .cells #[vc,vd] 73 (0,0)):: (b11, .cells #[va,vb] 73 (0,0)):: (b5, .cells (atC a).toArray 67 (0,0)):: (D1++D2))) b5=some (.cells (atC a).toArray 67 (0,0)):=ad (ql gV.nodup (by simp))
   have R8:b5∉keys XB:=by
    have:=gV.nodup
    rw[aZ,List.nodup_append] at this
    exact fun h=>this.2.2 b5 h b5 (by simp[keys]) rfl
   clear gV wz
   refine ko @ap ?_
   refine kz [1000012] @ap ?_
   refine Cw.cutO (G:=StB) [12,15,54,55,56,57,58,59,60,61,62,63,64,65,66,67,68,69,70,71,72,73,74,75,76,77,78,79,80,81,82,83,84,85,86] (fun g=> [(12,vi (g.n:Nat)),(15,vi (g.e:Nat))]) (fun g=>g.X++ ((b13, .cells #[vc,vd] 73 (0,0)):: (b11, .cells #[va,vb] 73 (0,0)):: (b5, .cells (atC a).toArray 67 (0,0)):: (D1++ (D2++g.Y)))) (fun g=>BoP bo bd g.S (N0+42) g.B g.X∧New w.heap.size g.X∧New w.heap.size g.Y∧WelS g.S∧LenS 150000 g.S∧BkR g.B∧(a.kind.tmod 3=2→g.e=(ew S1 Bk a.n).1∧g.S=(ew S1 Bk a.n).2.1∧g.n=Bk.n)∧(a.kind.tmod 3≠2→FzS g.S g.B∧g.n≤g.B.n)) ?_ ?_
   ·have qE:=qC.app zW
    by_cases k0:a.kind.tmod 3=0
    ·have e0: (a.kind.tmod 3==0)=true:=beq_iff_eq.2 k0
     have SI:b5∈keys (XB++ ((b13, .cells #[vc,vd] 73 (0,0)):: (b11, .cells #[va,vb] 73 (0,0)):: (b5, .cells (atC a).toArray 67 (0,0)):: (D1++D2))):=by simp[keys]
     refine ky (aN @ap (aN @rd5 @e0)) ?_
     refine Cw.regionG [b5] [] 13 kR rfl ?_
     simp only[List.replicate_succ,List.replicate_zero]
     refine OwG.run [0,1,2,3,4,5,6,9,10] [true,true,true,true,true,true,true,false,false,true,true,false,false] 4 rfl kR kR fun k hk=> ?_
     simp only[cR, ↓cS, ↓bz, ↓cG, ↓cH,b_]
     simp(disch:=first|exact dD|fail) only[↓Sx.S0,Sx.S1,fx,ap,Nat.reduceAdd,Nat.reducePow,Int.reducePow,Nat.reduceBEq, ↓reduceIte,UInt8.reduceToNat,UInt16.reduceToNat,UInt32.reduceToNat,UInt64.reduceToNat,Int.reduceToNat,Md.next_sofnil,rd5]
     (with_reducible refine hk _ _ _ ?_);clear hk k
     refine OwG.one 7 _ kR rfl ?_
     refine Ow.callC rfl rfl call40 (fun w' aB=>DO bo bd Bk a.name w' (p7.W fun b o hm=>aB.has b o (bQ _ hm)) oM oM dy.t.short dy.l.short) (fun B7 v7 D7 kZ sG lO gE=> ?_)
     have ox:=lO.mono sG
     with_reducible refine Ow.nil ?_
     refine⟨(ju (fun r hr=>by rw[List.mem_singleton.1 hr];exact SI)), ?_⟩
     simp only[List.set_cons_zero,List.set_cons_succ,gN,fN,fO]
     refine OwG.one 8 _ kR rfl ?_
     subst gE
     refine Ow.callFV rfl call48 (fun w' aB=>UF a (valI Bk a.name) w') ?_
     with_reducible refine Ow.nil ?_
     refine⟨(fun r hr=>rfl), ?_⟩
     simp only[List.set_cons_zero,List.set_cons_succ,gN,fN,fO]
     refine OwG.one 11 _ kR rfl ?_
     have sL:=qE.app ox
     refine Ow.callX (X:=XB) (Y:=((b13, .cells #[vc,vd] 73 (0,0)):: (b11, .cells #[va,vb] 73 (0,0)):: (b5, .cells (atC a).toArray 67 (0,0)):: (D1++D2))++D7) (List.append_assoc _ _ _) rfl rfl call41 (fun w' aB ab aX=>DP bo bd S1 N0 Bk a.name (oldI a (valI Bk a.name)) a.id XB w' ab aX p7 oM (GlobC.of hC aB (gY hC sL)) (gY hC qC) oM oM dy.t.short dy.l.short oM) (fun v9 D9 io jE=> ?_)
     obtain⟨rfl,iR⟩:=jE
     have sI:=uf io qC
     have R7:b5∉keys D9:=M7 io R8 (by rw[aZ];exact bQ _ SI)
     with_reducible refine Ow.nil ?_
     refine⟨(fun r hr=>by rw[List.mem_singleton.1 hr,List.append_assoc];exact(BC R7).trans (BC R8).symm), ?_⟩
     simp only[List.set_cons_zero,List.set_cons_succ,gN,fN,fO]
     refine OwG.rest [12] rfl kR kR ?_
     simp only[cR, ↓cS, ↓bz, ↓cG, ↓cH,b_]
     refine kq @ap ?_
     refine Ow.permL (M:=D9++ ((b13, .cells #[vc,vd] 73 (0,0)):: (b11, .cells #[va,vb] 73 (0,0)):: (b5, .cells (atC a).toArray 67 (0,0)):: (D1++ (D2++D7)))) pM ?_
     refine Ow.callFV rfl call43 (fun w' aB=>Dd bo bd _ w' (iR.W fun b o hm=>aB.has b o (by simp[hm]))) ?_
     have tH:=Qz S1 Bk a.name (oldI a (valI Bk a.name)) a.id
     have sb:=kl.upd a.name (oldI a (valI Bk a.name)) a.id
     have dz:BkR (fR S1 Bk a.name (oldI a (valI Bk a.name)) a.id).2.2:=dy.upd
     rw[tH]
     generalize fR S1 Bk a.name (oldI a (valI Bk a.name)) a.id=u at*
     refine Ow.minI rfl rfl rfl ?_
     rw[ite_self]
     refine ko @ap ?_
     exact CutO.mk ⟨u.2.1,u.2.2,Bk.n,u.1,D9,D7⟩ ⟨iR.le oM,sI,ox,sb.wel,sb.len,dz,fun h=>absurd h oM,fun _=>⟨sb,Nat.le_of_eq tH.symm⟩⟩ rfl rfl
    have e0: (a.kind.tmod 3==0)=false:=beq_eq_false_iff_ne.2 k0
    by_cases k1:a.kind.tmod 3=1
    ·have e1: (a.kind.tmod 3==1)=true:=beq_iff_eq.2 k1
     refine ky (aN @ap (aN @rd5 (aN @e0 @e1))) ?_
     refine Ow.callX (X:=XB) (Y:=((b13, .cells #[vc,vd] 73 (0,0)):: (b11, .cells #[va,vb] 73 (0,0)):: (b5, .cells (atC a).toArray 67 (0,0)):: (D1++D2))) rfl rfl rfl call42 (fun w' aB ab aX=>DR bo bd S1 N0 Bk XB w' ab aX p7) (fun v9 D9 io jE=> ?_)
     obtain⟨rfl,iR⟩:=jE
     have sI:=uf io qC
     refine ko @ap ?_
     refine ky @ap ?_
     refine Ow.callFV rfl call43 (fun w' aB=>Dd bo bd _ w' (iR.W fun b o hm=>aB.has b o (by simp[hm]))) ?_
     have sb:=kl.sync
     have dz:BkR (eu S1 Bk).2.2:=dy.sync
     generalize eu S1 Bk=u at*
     refine ko @ap ?_
     exact CutO.mk ⟨u.2.1,u.2.2,u.2.2.n,u.1,D9,[]⟩ ⟨iR.le oM,sI,trivial,sb.wel,sb.len,dz,fun h=>absurd h oM,fun _=>⟨sb,ag _⟩⟩ (by simp) rfl
    have e1: (a.kind.tmod 3==1)=false:=beq_eq_false_iff_ne.2 k1
    by_cases k2:a.kind.tmod 3=2
    ·have e2: (a.kind.tmod 3==2)=true:=beq_iff_eq.2 k2
     refine ky (aN @ap (aN @rd5 (aN @e0 (aN @e1 @e2)))) ?_
     refine Ow.callX (X:=XB) (Y:=((b13, .cells #[vc,vd] 73 (0,0)):: (b11, .cells #[va,vb] 73 (0,0)):: (b5, .cells (atC a).toArray 67 (0,0)):: (D1++D2))) rfl rfl rfl call44 (fun w' aB ab aX=>Uw bo bd S1 N0 Bk a.n XB w' ab aX p7 oM (GlobC.of hC aB (gY hC qE)) (gY hC qC) oM oM dy.t dy.l) (fun v9 D9 io jE=> ?_)
     obtain⟨rfl,iR⟩:=jE
     have sI:=uf io qC
     have WI:=WlS.trim ⟨kl.wel,kl.len⟩ (ag _) kl.rt a.n
     have dz:BkR (ew S1 Bk a.n).2.2:=dy.trim
     refine ko @ap ?_
     exact CutO.mk ⟨(ew S1 Bk a.n).2.1,(ew S1 Bk a.n).2.2,Bk.n,(ew S1 Bk a.n).1,D9,[]⟩ ⟨iR,sI,trivial,WI.wel,WI.len,dz,fun _=>⟨rfl,rfl,rfl⟩,fun h=>absurd k2 h⟩ (by simp) rfl
    have e2: (a.kind.tmod 3==2)=false:=beq_eq_false_iff_ne.2 k2
    refine ky (aN @ap (aN @rd5 (aN @e0 (aN @e1 @e2)))) ?_
    exact CutO.mk ⟨S1,Bk,Bk.n,0,XB,[]⟩ ⟨p7.le oM,qC,trivial,kl.wel,kl.len,dy,fun h=>absurd h k2,fun _=>⟨kl,ag _⟩⟩ (by simp) rfl
   intro g j hg
   refine kv ?_
   obtain⟨S,B2,n,e,X,Y⟩:=g
   simp only at hg ⊢
   obtain⟨cd,Yx,VU,eW,Sb,zr,pE,mQ⟩:=hg
   have ZB:=zr.tl
   have zk:=zr.ll
   clear rd5 R8 p7 qC
   refine ky @ap ?_
   refine Ow.callC rfl rfl call39 (fun w' aB=>DQ bo bd B2 w' (cd.W fun b o hm=>aB.has b o (by simp[hm])) oM oM) (fun B3 v3 D3 e_ jA iP jD=> ?_)
   obtain⟨ve,vf,rfl,Vf,Rz⟩:=jD
   have oy:=iP.mono jA
   refine ko @ap ?_
   refine Ow.alloc rfl rfl nC fun b16 sN Ar=> ?_
   simp only[bI,List.nil_append,List.cons_append]
   have h5_16:b5<b16:=ae sN (by simp[keys])
   have h11_16:b11<b16:=ae sN (by simp[keys])
   have h13_16:b13<b16:=ae sN (by simp[keys])
   obtain⟨G,ut,ul,DD,KK,rfl,hA⟩:=cd
   have mF:=Yx.perm hA.perm
   have stz3:=mh (.slice none 0 0) (.slice none 0 0) ve vf 73 (iZ Vf).1 (iZ Rz).1
   refine Ow.permL (M:=(b16, .cells #[.slice none 0 0, .slice none 0 0] 73 (0,0)):: (b13, .cells #[vc,vd] 73 (0,0)):: (b11, .cells #[va,vb] 73 (0,0)):: (b5, .cells (atC a).toArray 67 (0,0)):: (X++ (D1++ (D2++ (Y++D3))))) pM ?_
   refine ko (aN @ap @stz3) ?_
   refine ky (aN @ap @stz3) ?_
   have Cu: ((b16, .cells #[ve,vf] 73 (0,0)):: (b13, .cells #[vc,vd] 73 (0,0)):: (b11, .cells #[va,vb] 73 (0,0)):: (b5, .cells (atC a).toArray 67 (0,0)):: (X++ (D1++ (D2++ (Y++D3))))).Perm (DD++ ((bo, .cells #[vp G.bd 0,ut,ul,vi (B2.n:Nat)] 151 (0,0)):: (KK++ ((b16, .cells #[ve,vf] 73 (0,0)):: (b13, .cells #[vc,vd] 73 (0,0)):: (b11, .cells #[va,vb] 73 (0,0)):: (b5, .cells (atC a).toArray 67 (0,0)):: (D1++ (D2++ (Y++D3))))))):=(pM:List.Perm _ (X++ ((b16, .cells #[ve,vf] 73 (0,0)):: (b13, .cells #[vc,vd] 73 (0,0)):: (b11, .cells #[va,vb] 73 (0,0)):: (b5, .cells (atC a).toArray 67 (0,0)):: (D1++ (D2++ (Y++D3)))))).trans ((hA.perm.append_right _).trans pM)
   have zV:New w.heap.size ((bo, .cells #[vp G.bd 0,ut,ul,vi (B2.n:Nat)] 151 (0,0)):: (KK++ ((b16, .cells #[ve,vf] 73 (0,0)):: (b13, .cells #[vc,vd] 73 (0,0)):: (b11, .cells #[va,vb] 73 (0,0)):: (b5, .cells (atC a).toArray 67 (0,0)):: (D1++ (D2++ (Y++D3)))))):=⟨mF.1,(Eh mF.2).app (show New w.heap.size ((b16, .cells #[ve,vf] 73 (0,0)):: (b13, .cells #[vc,vd] 73 (0,0)):: (b11, .cells #[va,vb] 73 (0,0)):: (b5, .cells (atC a).toArray 67 (0,0)):: (D1++ (D2++ (Y++D3)))) from⟨Ar,tL,me,fJ,sJ.app (sK.app (VU.app oy))⟩)⟩
   have oz:New w.heap.size DD:=xe mF.2
   have RS:=oz.app zV
   refine Ow.permL Cu.symm ?_
   refine Ow.callX (X:=DD) (Y:=(bo, .cells #[vp G.bd 0,ut,ul,vi (B2.n:Nat)] 151 (0,0)):: (KK++ ((b16, .cells #[ve,vf] 73 (0,0)):: (b13, .cells #[vc,vd] 73 (0,0)):: (b11, .cells #[va,vb] 73 (0,0)):: (b5, .cells (atC a).toArray 67 (0,0)):: (D1++ (D2++ (Y++D3)))))) rfl rfl rfl call49 (fun w' aB ab aX=>Tm DD G S p.v p.l w' ab aX (hA.D).P (lX hG aB (RS)) (EP hG oz) ((DT (q:=(S,p.l)) (hA.D).B 3).b oM) (hp.old aB fun hl b hb=>New.not (RS) (hp.blk hl hb)) (fun hl b hb=>⟨Nat.lt_of_lt_of_le (hp.blk hl hb) aB.size,New.not (oz) (hp.blk hl hb)⟩) oM (fun k hk=>⟨((hA.D).H k).2,(hA.D).pend oM k hk⟩)) (fun v7 X7 lL gE=> ?_)
   obtain⟨G7,zl,qG⟩:=gE
   have lO:New w.heap.size X7:=uf lL oz
   have kZ:DkA X7 G7 (bc S p.l) (N0+42):=⟨qG,EE hA.D.H _,wA hA.D.B _⟩
   have sh:=wW Sb p.l
   have mM: ∃P,(ct (bc S p.l)).1=some P∧(a.kind.tmod 3≠2→ ∃n',n≤n'∧n'≤B2.l.length∧P=⟨B2.t,B2.l.take n',n'⟩)∧(a.kind.tmod 3=2→(∃k,P=⟨ls,Bk.l.drop (dN Bk.l.length a.n),k⟩)∨(e≠0∧ ∃n',n≤n'∧n'≤Bk.l.length∧P=⟨Bk.t,Bk.l.take n',n'⟩)):=by
    by_cases k2:a.kind.tmod 3=2
    ·obtain⟨he,hS,hn⟩:=pE k2
     obtain⟨ls',dl,h1,rfl,-,h3⟩:=kl.trimmed a.n (pl:=p.l) (by rw[←hS];exact qG.ok)
     rw[←hS] at h3
     obtain rfl:=Option.some.inj (bJ.symm.trans h1)
     rcases h3 with⟨k,h3⟩ | ⟨h3,n',h4,h5,h6⟩
     ·exact⟨_,h3,fun h=>absurd k2 h,fun _=> .inl ⟨k,rfl⟩⟩
     exact⟨_,h6,fun h=>absurd k2 h,fun _=> .inr ⟨by rw[he];exact h3,n',by rw[hn];exact h4,h5,rfl⟩⟩
    obtain⟨h1,h2⟩:=mQ k2
    obtain⟨n',h3,h4,h5⟩:=h1.found qG.ok
    exact⟨_,h5,fun _=>⟨n',by omega,h4,rfl⟩,fun h=>absurd h k2⟩
   have qD:=lO.app zV
   rw[←zl] at qD ⊢
   clear zl lL hA RS pE mQ qG
   obtain⟨P,hP,Cx,da⟩:=mM
   generalize bc S p.l=S7 at*
   obtain⟨Y',hPn⟩:=IN hP
   obtain⟨RU,RT,-,-,-⟩:=A_ Y'
   refine ko @ap ?_
   refine ky @ap ?_
   refine Ow.callX (X:=X7) (Y:=(bo, .cells #[vp G7.bd 0,ut,ul,vi (B2.n:Nat)] 151 (0,0)):: (KK++ ((b16, .cells #[ve,vf] 73 (0,0)):: (b13, .cells #[vc,vd] 73 (0,0)):: (b11, .cells #[va,vb] 73 (0,0)):: (b5, .cells (atC a).toArray 67 (0,0)):: (D1++ (D2++ (Y++D3)))))) rfl rfl rfl call50 (fun w' aB ab aX=>DZ X7 G7 S7 (N0+42) w' ab aX kZ oM (GlobC.of hC aB (gY hC qD)) (gY hC lO) (Nat.lt_of_le_of_lt (EN sh _ _) (by decide))) (fun v8 X9 io jE=> ?_)
   obtain⟨b9,rfl,iR⟩:=jE.some hP
   have sI:=uf io lO
   have c0: ((0:Int) !=0)=false:=rfl
   refine ko (aN @ap @c0) ?_
   refine ky (aN @ap @c0) ?_
   refine Ow.callC rfl rfl call39 (fun w' aB=>DQ b9 G7.bd P w' (iR.W fun b o hm=>aB.has b o (by simp[hm])) oM oM) (fun B9 v9 D9 hA9 VP RO RY=> ?_)
   obtain⟨vg,vh,rfl,qM,nL⟩:=RY
   have RQ:=RO.mono VP
   refine ko @ap ?_
   refine Ow.alloc rfl rfl nC fun b19 pA TV=> ?_
   simp only[bI,List.nil_append,List.cons_append]
   have h5_19:b5<b19:=ae pA (by simp[keys])
   have h11_19:b11<b19:=ae pA (by simp[keys])
   have h13_19:b13<b19:=ae pA (by simp[keys])
   have h16_19:b16<b19:=ae pA (by simp[keys])
   have stz4:=mh (.slice none 0 0) (.slice none 0 0) vg vh 73 (iZ qM).1 (iZ nL).1
   refine Ow.permL (M:=(b19, .cells #[.slice none 0 0, .slice none 0 0] 73 (0,0)):: (b16, .cells #[ve,vf] 73 (0,0)):: (b13, .cells #[vc,vd] 73 (0,0)):: (b11, .cells #[va,vb] 73 (0,0)):: (b5, .cells (atC a).toArray 67 (0,0)):: (X9++ ((bo, .cells #[vp G7.bd 0,ut,ul,vi (B2.n:Nat)] 151 (0,0)):: (KK++ (D1++ (D2++ (Y++ (D3++D9)))))))) pM ?_
   have lP: ∀x y:Value,New w.heap.size ((b19,Obj.cells #[vg,vh] 73 (0,0)):: (b16, .cells #[x,y] 73 (0,0)):: (b13, .cells #[vc,vd] 73 (0,0)):: (b11, .cells #[va,vb] 73 (0,0)):: (b5, .cells (atC a).toArray 67 (0,0)):: (X9++ ((bo, .cells #[vp G7.bd 0,ut,ul,vi (B2.n:Nat)] 151 (0,0)):: (KK++ (D1++ (D2++ (Y++ (D3++D9)))))))):=fun x y=>⟨TV,Ar,tL,me,fJ,sI.app ⟨mF.1,(Eh mF.2).app (sJ.app (sK.app (VU.app (oy.app RQ))))⟩⟩
   generalize hZ: (X9++ ((bo, .cells #[vp G7.bd 0,ut,ul,vi (B2.n:Nat)] 151 (0,0)):: (KK++ (D1++ (D2++ (Y++ (D3++D9)))))))=Z at*
   have eK: ∀q,q∈D1→q∈Z:=fun q hq=>by rw[←hZ];simp[hq]
   have gG: ∀q,q∈D2→q∈Z:=fun q hq=>by rw[←hZ];simp[hq]
   have qU: ∀q,q∈D3→q∈Z:=fun q hq=>by rw[←hZ];simp[hq]
   have qV: ∀q,q∈D9→q∈Z:=fun q hq=>by rw[←hZ];simp[hq]
   clear hZ iR jE hP
   by_cases k2:a.kind.tmod 3=2
   ·have e2: (a.kind.tmod 3==2)=true:=beq_iff_eq.2 k2
    obtain⟨ls',nE,-,zm,-⟩:=B_ kl.rt a.n dy.n0
    obtain rfl:=Option.some.inj (bJ.symm.trans nE)
    have h_:=zm.tl
    have W2:=zm.ll
    simp only at h_ W2
    generalize Bk.l.drop (dN Bk.l.length a.n)=dl at*
    refine ko (aN @ap @stz4) ?_
    refine ky (aN @ap (aN @stz4 @e2)) ?_
    rcases da k2 with⟨k,rfl⟩ | ⟨he,n',h1,h2,rfl⟩
    ·simp only at qM nL RU RT
     refine Ow.callFV rfl call38 (fun w' aB=>wQ vg vh vc vd ls dl ls dl w' (eN qM fun b o hm=>aB.has b o (by simp[qV _ hm])) (eN nL fun b o hm=>aB.has b o (by simp[qV _ hm])) (eN Ry fun b o hm=>aB.has b o (by simp[gG _ hm])) (eN qL fun b o hm=>aB.has b o (by simp[gG _ hm])) oM oM oM oM) ?_
     rw[uw,uw,Bool.and_self]
     refine ko @ap ?_
     refine Ow.callFV rfl call36 (fun w' aB=>tO w' (lX hG aB (lP ve vf)) (GlobC.of hC aB (gY hC (lP ve vf)))) ?_
     refine ko @ap ?_
     refine ky @ap ?_
     refine⟨_,(ke @ap),(lP ve vf), ?_⟩
     rfl
    simp only at qM nL RU RT
    have ez: ((e:Int)==0)=false:=beq_eq_false_iff_ne.2 oM
    have st6:=mh ve vf va vb 73 (iZ km).1 (iZ jX).1
    refine Ow.world fun wz gV=> ?_
    obtain⟨vs',cA,TO⟩:=wd (w:=wz) jX h2 (fun b o hm=>gV.has b o (by simp[eK _ hm]))
    clear gV wz
    refine Ow.callFV rfl call38 (fun w' aB=>wQ vg vh vc vd Bk.t (Bk.l.take n') ls dl w' (eN qM fun b o hm=>aB.has b o (by simp[qV _ hm])) (eN nL fun b o hm=>aB.has b o (by simp[qV _ hm])) (eN Ry fun b o hm=>aB.has b o (by simp[gG _ hm])) (eN qL fun b o hm=>aB.has b o (by simp[gG _ hm])) oM oM oM oM) ?_
    cases(jv Bk.t ls&&jv (Bk.l.take n') dl) with
    |true=>
     refine ko @ap ?_
     refine Ow.callFV rfl call36 (fun w' aB=>tO w' (lX hG aB (lP ve vf)) (GlobC.of hC aB (gY hC (lP ve vf)))) ?_
     refine ko @ap ?_
     refine ky @ap ?_
     refine⟨_,(ke @ap),(lP ve vf), ?_⟩
     rfl
    |false=>
     refine ko @ap ?_
     have AM: (Bk.l.take n').length=n':=by rw[List.length_take];omega
     have lnj:=tz nL
     have lng:=tz jX
     simp only[AM] at lnj
     have zy:decide ((n:Int)≤ (n':Int))=true:=dR oM
     have eH:decide ((n':Int)≤ (Bk.l.length:Int))=true:=dR oM
     refine ky (aN @ap (aN @stz4 (aN @e2 (aN @ez (aN @st6 @lnj))))) ?_
     refine Cw.regionS [b19,b16] [0,1,2,4,3,5,6,7,8,9,10,11,12,13,14,15,16,17,18,19,20,21,23,25,22,24,26,27,28,29] [] kR kR kR ?_
     simp only[cR, ↓cS, ↓bz, ↓cG, ↓cH,b_]
     refine kq @ap ?_
     refine Ow.soft rfl rfl rfl ?_
     refine Ow.callFV rfl call36 (fun w' aB=>tO w' (lX hG aB (lP va vb)) (GlobC.of hC aB (gY hC (lP va vb)))) ?_
     with_reducible refine Ow.nil ?_
     refine⟨by intro b hb;simp only[List.mem_cons,List.not_mem_nil,or_false] at hb;(try subst hb);rfl, ?_⟩
     refine kq @ap ?_
     refine Ow.soft rfl rfl rfl ?_
     refine Ow.callFV rfl call51 (fun w' aB=>uR vg va Bk.t Bk.t w' (eN qM fun b o hm=>aB.has b o (by simp[qV _ hm])) (eN km fun b o hm=>aB.has b o (by simp[eK _ hm])) oM oM) ?_
     with_reducible refine Ow.nil ?_
     refine⟨by intro b hb;simp only[List.mem_cons,List.not_mem_nil,or_false] at hb;(try subst hb);rfl, ?_⟩
     rw[uw]
     refine kq (aN @ap (aN @lng (aN @zy (aN @eH @cA)))) ?_
     refine Ow.soft rfl rfl rfl ?_
     refine Ow.callFV rfl call51 (fun w' aB=>uR vh vs' (Bk.l.take n') (Bk.l.take n') w' (eN nL fun b o hm=>aB.has b o (by simp[qV _ hm])) (TO w' fun b o hm=>aB.has b o (by simp[eK _ hm])) oM oM) ?_
     with_reducible refine Ow.nil ?_
     refine⟨by intro b hb;simp only[List.mem_cons,List.not_mem_nil,or_false] at hb;(try subst hb);rfl, ?_⟩
     rw[uw]
     refine kq @ap ?_
     refine⟨_,(ke @ap),(lP va vb), ?_⟩
     rfl
   have e2: (a.kind.tmod 3==2)=false:=beq_eq_false_iff_ne.2 k2
   obtain⟨n',h1,h2,rfl⟩:=Cx k2
   simp only at qM nL RU RT
   have ez:=e2
   have st6:=e2
   refine Ow.world fun wz gV=> ?_
   obtain⟨vs',cA,TO⟩:=wd (w:=wz) Rz h2 (fun b o hm=>gV.has b o (by simp[qU _ hm]))
   clear gV wz
   refine ko (aN @ap @stz4) ?_
   have AM: (B2.l.take n').length=n':=by rw[List.length_take];omega
   have lnj:=tz nL
   have lng:=tz Rz
   simp only[AM] at lnj
   have zy:decide ((n:Int)≤ (n':Int))=true:=dR oM
   have eH:decide ((n':Int)≤ (B2.l.length:Int))=true:=dR oM
   refine ky (aN @ap (aN @stz4 (aN @e2 (aN @ez (aN @st6 @lnj))))) ?_
   refine Cw.regionS [b19,b16] [0,1,2,4,3,5,6,7,8,9,10,11,12,13,14,15,16,17,18,19,20,21,23,25,22,24,26,27,28,29] [] kR kR kR ?_
   simp only[cR, ↓cS, ↓bz, ↓cG, ↓cH,b_]
   refine kq @ap ?_
   refine Ow.soft rfl rfl rfl ?_
   refine Ow.callFV rfl call36 (fun w' aB=>tO w' (lX hG aB (lP ve vf)) (GlobC.of hC aB (gY hC (lP ve vf)))) ?_
   with_reducible refine Ow.nil ?_
   refine⟨by intro b hb;simp only[List.mem_cons,List.not_mem_nil,or_false] at hb;(try subst hb);rfl, ?_⟩
   refine kq @ap ?_
   refine Ow.soft rfl rfl rfl ?_
   refine Ow.callFV rfl call51 (fun w' aB=>uR vg ve B2.t B2.t w' (eN qM fun b o hm=>aB.has b o (by simp[qV _ hm])) (eN Vf fun b o hm=>aB.has b o (by simp[qU _ hm])) oM oM) ?_
   with_reducible refine Ow.nil ?_
   refine⟨by intro b hb;simp only[List.mem_cons,List.not_mem_nil,or_false] at hb;(try subst hb);rfl, ?_⟩
   rw[uw]
   refine kq (aN @ap (aN @lng (aN @zy (aN @eH @cA)))) ?_
   refine Ow.soft rfl rfl rfl ?_
   refine Ow.callFV rfl call51 (fun w' aB=>uR vh vs' (B2.l.take n') (B2.l.take n') w' (eN nL fun b o hm=>aB.has b o (by simp[qV _ hm])) (TO w' fun b o hm=>aB.has b o (by simp[qU _ hm])) oM oM) ?_
   with_reducible refine Ow.nil ?_
   refine⟨by intro b hb;simp only[List.mem_cons,List.not_mem_nil,or_false] at hb;(try subst hb);rfl, ?_⟩
   rw[uw]
   refine kq @ap ?_
   refine⟨_,(ke @ap),(lP ve vf), ?_⟩
   rfl
end Go.Proofs
end
section
open Go Go.Proofs Go.Sx Go.StP
open Go.ChangeShapes Go.WideShapes Go.ChangeAt Go.RowKit Go.ChangeMaps
namespace Go.Proofs
def G5 {H:Type} {enc:TypeId×Value→H} {W:World} {r:Reach} {b0 base:Nat} {sp:Nat→Bool} {cD:Bool} {v:Value} {d:DataW H} {p:List MemPlace}
  (bJ:Value.okWide prog W r b0 81 v) (hd:DataW.Trod enc prog W base sp cD 81 v d p):
  ∃l,AtSl W v l∧ ∀a,a∈l→PkS W a.picks.v a.picks.l∧(-9223372036854775808≤a.n∧a.n<9223372036854775808):=by
 obtain⟨a0,len,cap,rfl⟩:=WideShapes.okWide_slice underlying81 bJ
 obtain⟨fu,hf⟩:=hd
 obtain⟨l,h1,h2⟩:=Nb (z:=at0) (R:=fun a _=>PkS W a.picks.v a.picks.l∧(-9223372036854775808≤a.n∧a.n<9223372036854775808)) underlying81 kR (by decide) vK bJ (fun n cs y h=>yl n cs y h) hf
 refine⟨l,h1,fun a ha=> ?_⟩
 rcases h2 with rfl| ⟨es,sp',-,h3⟩
 ·cases ha
 obtain⟨i,hi,rfl⟩:=List.getElem_of_mem ha
 obtain⟨-,-,h4⟩:=h3 i hi
 rw[List.getD_eq_getElem?_getD,List.getElem?_eq_getElem hi] at h4
 exact h4
def Qa {n:Int} (h: (Lit.int .u8 n).wf=true): ∃c:UInt8,Value.int .u8 n=v8 c:=by
 simp only[Lit.wf,Bool.and_eq_true,decide_eq_true_eq] at h
 have h1: (0:Int)≤n:=h.1
 have h2:n≤255:=h.2
 refine⟨UInt8.ofNat n.toNat, ?_⟩
 unfold v8
 rw[UInt8.toNat_ofNat',Nat.mod_eq_of_lt oM,Int.toNat_of_nonneg h1]
def J8 {W:World} {r:Reach} {b0:Nat} {v:Value} (bJ:Value.okWide prog W r b0 65 v):v.cells.toList= [v]:=by
 obtain⟨a0,len,cap,rfl⟩:=WideShapes.okWide_slice underlying65 bJ
 rfl
end Go.Proofs
end
namespace Go.Sx
open Go
def M9 {P:Program} {f:FuncId} {fn:Func} {s:ChangeSpec} {c:OpenClaim}
  (h1: (c.wf (OpenSpec.ofChange s))=true)
  (h2: (laidOutB P)=true)
  (h3: (mapsRowed P)=true)
  (h4: (fn.params.all (P.readableRec ·))=true)
  (h5: (namedTie P c.named s.vars)=true)
  (h6: ((c.stops== []))=true)
  (h7: ((P.stops== []))=true)
  (h8: ((c.knobs== []))=true)
  (h9: ((P.stopKnobs== []))=true)
  (YL: ((c.inPlace==P.inPlace f))=true)
  (YM: ((c.unfollowed==P.unfollowed f))=true)
  (CW: ((c.recurses==P.recurses f))=true)
  (VE: ((c.named==P.varsNamed f))=true)
  (YN: ((c.maps==(fn.params.toList++s.plain.varTypes P).any (P.mapsRec ·)))=true)
  (VF: ((c.ifaces==(fn.params.toList++s.plain.varTypes P).any (P.ifacesRec ·)))=true)
  (mD: ((c.mapsOut==P.mapsAmong fn.resultTypes.toList))=true)
  (YO: ((c.loops==(fn.params.toList++s.plain.varTypes P).any (P.loopsFrom ·)))=true)
  (YP: ((c.wideKeys==(fn.params.toList++s.plain.varTypes P++fn.resultTypes.toList).any (P.wideKeysFrom ·)))=true)
  (YQ: (s.vars.all (P.varReadable ·))=true)
  (YR: (fn.resultTypes.all (fun t=>P.readableRec t&&decide (t<P.types.size)))=true)
  (YS: ((c.ifacesOut==fn.resultTypes.toList.any (P.ifacesRec ·)))=true)
  (YT: ((c.loopsOut==fn.resultTypes.toList.any (P.loopsFrom ·)))=true)
  (R5: ((c.plainKeys==P.plainKeys))=true)
  (VG: (c.shortTexts.isNone)=true)
  (YU: (P.stopsHeard)=true)
  (qA: (P.mayEnter)=true)
  (CX: ((c.lifted==P.liftsFinal))=true)
  (VH: ((P.make==some c.make))=true)
  (YV: ((c.kinds==(if c.domain.isEmpty then [] else fn.params.toList.map fun t=>match P.underlying t with|some (.int k)=>some k|_=>none)))=true)
  (R6: ((c.pinned==c.pinnedBy))=true)
  (YY: ((c.veiled==(fn.params.toList++s.plain.varTypes P++fn.resultTypes.toList).any (P.veiledRec ·)))=true)
  (YZ: (c.veiledFits P fn.params.toList (fn.params.toList++s.plain.varTypes P++fn.resultTypes.toList))=true):
  joinedFacts P f fn s c=true:=by
 unfold joinedFacts
 exact(Bool.and_eq_true_iff.2 ⟨(Bool.and_eq_true_iff.2 ⟨(Bool.and_eq_true_iff.2 ⟨(Bool.and_eq_true_iff.2 ⟨(Bool.and_eq_true_iff.2 ⟨(Bool.and_eq_true_iff.2 ⟨(Bool.and_eq_true_iff.2 ⟨(Bool.and_eq_true_iff.2 ⟨(Bool.and_eq_true_iff.2 ⟨(Bool.and_eq_true_iff.2 ⟨(Bool.and_eq_true_iff.2 ⟨(Bool.and_eq_true_iff.2 ⟨(Bool.and_eq_true_iff.2 ⟨(Bool.and_eq_true_iff.2 ⟨(Bool.and_eq_true_iff.2 ⟨(Bool.and_eq_true_iff.2 ⟨(Bool.and_eq_true_iff.2 ⟨(Bool.and_eq_true_iff.2 ⟨(Bool.and_eq_true_iff.2 ⟨(Bool.and_eq_true_iff.2 ⟨(Bool.and_eq_true_iff.2 ⟨(Bool.and_eq_true_iff.2 ⟨(Bool.and_eq_true_iff.2 ⟨(Bool.and_eq_true_iff.2 ⟨(Bool.and_eq_true_iff.2 ⟨(Bool.and_eq_true_iff.2 ⟨(Bool.and_eq_true_iff.2 ⟨(Bool.and_eq_true_iff.2 ⟨(Bool.and_eq_true_iff.2 ⟨(Bool.and_eq_true_iff.2 ⟨(Bool.and_eq_true_iff.2 ⟨h1,h2⟩),h3⟩),h4⟩),h5⟩),h6⟩),h7⟩),h8⟩),h9⟩),YL⟩),YM⟩),CW⟩),VE⟩),YN⟩),VF⟩),mD⟩),YO⟩),YP⟩),YQ⟩),YR⟩),YS⟩),YT⟩),R5⟩),VG⟩),YU⟩),qA⟩),CX⟩),VH⟩),YV⟩),R6⟩),YY⟩),YZ⟩)
end Go.Sx
