/-
  Part 5 of the walk: contracts of the functions that the law reaches, and the calculus they stand on.
  No conditions.
-/
import Derived.Test.YtdffddfgldlijaaGreatDoorL4
set_option maxRecDepth 10000
set_option maxHeartbeats 4000000
set_option linter.unusedSimpArgs false
set_option linter.defProp false
open Go.Proofs.Tryz
section
open Go Go.Proofs Go.Sx Go.StP Go.Flo
namespace Go.Proofs
def WU_ {s:List UInt8} (h:s.length<4∨s.take 4≠magB):jH s=(0,false,(bS s 0 0 4).2):=by
 unfold jH
 rw[if_neg]
 unfold bS
 rw[if_neg (by decide),if_neg (by decide)]
 split
 ·decide
 rename_i h1
 rcases h with h|h
 ·omega
 exact h
def Td {s:List UInt8} (h4:4≤s.length) (h:s.take 4=magB):jH s=((aF s 4 0 200).1,(aF s 4 0 200).2.2==0,(aF s 4 0 200).2):=by
 have e:bS s 0 0 4=(s.take 4,4,0):=by
  unfold bS
  rw[if_neg (by decide),if_neg (by decide),if_neg oM]
  rfl
 unfold jH
 rw[e]
 simp only
 rw[if_pos h]
def wB (s:List UInt8) (v:Value) (D:aB):Prop:=
 if(jH s).2.1=true then∃x y n A,v= .tuple #[x,y,vi n,vi A, .bool true]∧n=(jH s).1∧0≤n∧n≤200∧GrI D 245 3 x (kJ s).1.length ((kJ s).1.map dL).flatten∧GrI D 3 1 y (kJ s).2.1.length ((kJ s).2.1.map natC).flatten∧
  (((kJ s).2.2.2=0∧A=(kJ s).2.2.1∧((kJ s).1.length:Int)=n)∨((kJ s).2.2.2≠0∧((kJ s).1.length:Int)<n))
 else v= .tuple #[.slice none 0 0, .slice none 0 0,vi 0,vi 0, .bool false]
structure RdDG where
 l:List PartL
 sp:List Nat
 a:Nat
 v1:Value
 v2:Value
 D1:aB
 D2:aB
 DG:aB
def SW (s:List UInt8):dl (cC prog 139) (an prog 139) [(0,vs s),(1,vi 4)]=some (.agg #[vs s,vi 4,vi 0]):=by
 rw[show cC prog 139=some [(0,1),(1,1),(2,1)] from id kR,zrRR];rfl
def Mi (b:Nat) (s:List UInt8) (a:Nat) (e most:Int) (w:World) (ha:a≤s.length) (hs:s.length<1099511627776) (ho:w.heap[b]? =some (rrO s a e)):
  Rets prog 71 #[vp b 0,vi most] w (fun v D=> ∃o,D= [(b,o)]∧v=vs (bL s a e most).1∧o=rrO s (bL s a e most).2.1 (bL s a e most).2.2):=KH b s a e most w ha hs ho
def ey:=aN (aN @av (aN @au @Dz)) (aN (aN @Ey @EL) (aN @Iu @R6))
def NJ (s:List UInt8) (w:World) (hs:s.length<1099511627776):Rets prog 137 #[vs s] w (XS w [] (wB s)):=by
 refine Rets.enterX func137 rfl (rs:= [.tmp 2, .tmp 3, .tmp 4, .tmp 5, .tmp 6]) results137 ntmps137 (fun p hp=>by cases hp) (by simp[keys]) ?_
 refine kf ?_
 by_cases h4:s.length<4
 ·have d1:decide ((s.length:Int)<4)=true:=aK oM
  refine ky (aN @ey @d1) ?_
  refine⟨_,(ke @ey), ?_⟩
  refine⟨Ext.of_new trivial, ?_⟩
  unfold wB
  rw[WU_ (.inl h4)]
  rfl
 have d1:decide ((s.length:Int)<4)=false:=aO oM
 have d1':decide ((0:Int)≤4∧(4:Int)≤ (s.length:Int))=true:=aK oM
 by_cases hm:s.take 4=magB
 ·have d2: (s.take 4 != [83,80,75,49])=false:=bne_eq_false_iff_eq.2 hm
  have zt:=Td oM hm
  refine ky (aN @ey (aN @d1 @d2)) ?_
  refine Ow.build (.agg #[vs s,vi 4,vi 0]) rfl (SW s) ?_
  refine ko @ey ?_
  refine Ow.box rfl rfl fun br nn mO=> ?_
  simp only[dC,cy,dA,aS,List.nil_append]
  refine Ow.permL (M:= [(br,rrO s 4 0)]) (List.Perm.refl _) ?_
  refine ko @ey ?_
  refine ky @ey ?_
  have l1:=jf (s:=s) (a:=4) (e:=0) (most:=200) oM
  have m1:=sZ (s:=s) (a:=4) (e:=0) (most:=200) oM
  refine Ow.callM rfl rfl call70 (by simp[keys]) (fun w' aA=>A6 br s 4 0 200 w' oM oM (aA.has _ _ am)) ?_
  have K1:kJ s=mi s (jH s).1.toNat 0 (jH s).2.2.1 (jH s).2.2.2:=rfl
  rw[zt] at K1
  generalize aF s 4 0 200=q at*
  obtain⟨n0,a0,e0⟩:=q
  simp only at l1 m1 zt K1 ⊢
  obtain⟨n,rfl⟩: ∃n:Nat,n0=(n:Int):=⟨n0.toNat,by omega⟩
  rw[Int.toNat_natCast] at K1
  refine kn ?_
  refine ko @ey ?_
  by_cases he:e0=0
  ·subst he
   have zn: ((0:Int) !=0)=false:=rfl
   have hE: (jH s).2.1=true:=by rw[zt];rfl
   have mK: (jH s).1=(n:Int):=by rw[zt]
   clear zt
   refine kz [11] (aN @ey @zn) ?_
   refine Cw.permL (M:=(br,rrO s a0 0):: ([]++ ([]++ []))) (List.Perm.refl _) ?_
   refine Cw.loopG (G:=RdDG) [34,35,36,39,40,41,42,12,43,44,13,45,46,14,47,48,49,50,51,52,53,54,55,2,3,4,5,6,56,57,15,58,59,60,61,62,63,64,65,66,67,68,9,69,70,71,72,10,37,38,11] (fun g=> [(9,g.v1),(10,g.v2),(11,vi g.l.length)]) (fun g=>(br,rrO s g.a 0):: (g.D1++ (g.D2++g.DG))) (fun g=>g.l.length≤n∧g.sp.length=g.l.length∧g.a≤s.length∧New w.heap.size g.D1∧New w.heap.size g.D2∧New w.heap.size g.DG∧Gr g.D1 245 3 g.v1 g.l.length (g.l.map dL).flatten∧Gr g.D2 3 1 g.v2 g.sp.length (g.sp.map natC).flatten∧kJ s=(g.l++ (mi s (n - g.l.length) g.l.length g.a 0).1,g.sp++ (mi s (n - g.l.length) g.l.length g.a 0).2.1,(mi s (n - g.l.length) g.l.length g.a 0).2.2)) (fun g=>n - g.l.length) ⟨[],[],a0, .slice none 0 0, .slice none 0 0,[],[],[]⟩ rfl rfl ?_ ?_
   ·exact⟨aV _,rfl,l1.2,trivial,trivial,trivial,Gr.nl,Gr.nl,by rw[K1];rfl⟩
   intro g j hg
   refine kv ?_
   obtain⟨l,sp,a,v1,v2,D1,D2,DG⟩:=g
   simp only at hg ⊢
   obtain⟨sQ,bh,eC,cR,be,bG,Gg,pz,mL⟩:=hg
   have dK:New w.heap.size (D1++ (D2++DG)):=cR.app (be.app bG)
   by_cases aC:l.length<n
   ·have d3:decide ((l.length:Int)< (n:Int))=true:=aK oM
    have hk:n - l.length=(n - (l.length+1))+1:=by omega
    rw[hk] at mL
    have nK:=jf (s:=s) (a:=a) (e:=0) (most:=200) eC
    have fa:=sZ (s:=s) (a:=a) (e:=0) (most:=200) oM
    have hpc:ul s l.length a 0=(⟨decide (0< (aF s a 0 200).1),if 0< (aF s a 0 200).1 then((l.length:Nat):Int) - (aF s a 0 200).1 else 0,(bL s (aF s a 0 200).2.1 (aF s a 0 200).2.2 65536).1⟩,(bL s (aF s a 0 200).2.1 (aF s a 0 200).2.2 65536).2):=rfl
    refine kz [1000018] (aN @ey @d3) ?_
    refine Ow.callM rfl rfl call70 (by simp[keys]) (fun w' aA=>A6 br s a 0 200 w' eC oM (aA.has _ _ am)) ?_
    generalize aF s a 0 200=x at*
    obtain⟨F,a1,e1⟩:=x
    simp only at nK fa hpc ⊢
    have rN:=ub (s:=s) (a:=a1) (e:=e1) (most:=65536) nK.2
    refine kn ?_
    refine ko @ey ?_
    refine ky @ey ?_
    refine Ow.callM rfl rfl call71 (by simp[keys]) (fun w' aA=>Mi br s a1 e1 65536 w' nK.2 hs (aA.has _ _ am)) ?_
    generalize bL s a1 e1 65536=x at*
    obtain⟨t,a2,e2⟩:=x
    simp only at rN hpc ⊢
    refine kn ?_
    refine ko @ey ?_
    rw[mi,hpc] at mL
    simp only at mL
    by_cases yL:e2=0
    ·subst yL
     rw[if_pos rfl] at mL
     have d4: ((0:Int) !=0)=false:=rfl
     refine ky (aN @ey @d4) ?_
     refine Ow.build (.agg (dL ⟨false,0,t⟩).toArray) rfl (OM t) ?_
     refine ko @ey ?_
     refine Ow.alloc rfl rfl qY fun b15 ka pH=> ?_
     simp only[aS,List.nil_append,List.cons_append]
     have hb15r:br<b15:=ak ka (by simp[keys])
     have bK:=BV ⟨false,0,t⟩ gL 245
     refine Ow.permL (M:=(b15, .cells (dL gL).toArray 245 (0,0)):: (br,rrO s a2 0):: (D1++ (D2++DG))) pM ?_
     refine ko (aN @ey @bK) ?_
     obtain⟨p,hp⟩: ∃p,p=(⟨decide (0<F),if 0<F then((l.length:Nat):Int) - F else 0,t⟩:PartL):=⟨_,rfl⟩
     rw[←hp] at mL
     refine Cw.cutO (G:=PartL) [58,59,60,61,62,63,64] (fun g=> []) (fun g=>(b15, .cells (dL g).toArray 245 (0,0)):: (br,rrO s a2 0):: (D1++ (D2++DG))) (fun g=>g=p) ?_ ?_
     ·by_cases hF:0<F
      ·have d5:decide ((0:Int)<F)=true:=aK hF
       have qI:=PJ ⟨false,0,t⟩ 245
       have eA:=Nn ⟨true,0,t⟩ 245
       refine ky (aN @ey (aN @d5 (aN @qI @eA))) ?_
       refine CutO.mk _ ?_ rfl rfl
       rw[hp,aK hF,if_pos hF]
      have d5:decide ((0:Int)<F)=false:=aO hF
      refine ky (aN @ey @d5) ?_
      refine CutO.mk _ ?_ rfl rfl
      rw[hp,aO hF,if_neg hF]
     intro g j hg
     refine kv ?_
     obtain rfl:=hg
     clear hp
     refine ky @ey ?_
     refine Ow.buildSlice (e:=245) (dL g).toArray rfl rfl (gX (cs:=dL g) underlying214 ag245 qY (by decide) rfl) fun ba lh im=> ?_
     refine ko @ey ?_
     refine Ow.permL (M:=D1++ ((b15, .cells (dL g).toArray 245 (0,0)):: (br,rrO s a2 0):: (D2++ (DG++ [(ba, .cells (dL g).toArray 245 (0,0))])))) pM ?_
     refine Ow.appendXG (e:=245) (k:=1) (new:=dL g) (X:=D1) v1 rfl rfl rfl rfl underlying214 ag245 kR qY (by rw[Iu];rfl) underlying214 (by intro k h;cases h) Gg (fun w' aA=>AppX.one1 (aA.has ba (.cells (dL g).toArray 245 (0,0)) (by simp)) (Li _) (DA _)) oM (fun B4 v4 D4 gQ ng mF rL ig rP=> ?_)
     have c_:New w.heap.size D4:=New.of_le fun q hq=>by
      rcases ig q hq with h|h
      ·exact cR.le q h
      omega
     refine Ow.permL (M:=(br,rrO s a2 0):: (D4++ (D2++ ((b15, .cells (dL g).toArray 245 (0,0)):: (DG++ [(ba, .cells (dL g).toArray 245 (0,0))]))))) pM ?_
     refine ko @ey ?_
     refine ky @ey ?_
     refine Ow.buildSlice (e:=3) #[vi a] rfl rfl kR fun bc qA jd=> ?_
     refine ko @ey ?_
     refine Ow.permL (M:=D2++ ((br,rrO s a2 0):: (D4++ ((b15, .cells (dL g).toArray 245 (0,0)):: (DG++ [(ba, .cells (dL g).toArray 245 (0,0)),(bc, .cells #[vi a] 3 (0,0))]))))) pM ?_
     refine Ow.appendXG (e:=3) (k:=1) (new:=natC a) (X:=D2) v2 rfl rfl rfl rfl underlying205 (id kR:aR prog 3=some (false,1)) kR (id kR:an prog 3=some (vi 0)) rfl underlying205 (by intro k h;cases h) pz (fun w' aA=>AppX.one1 (aA.has bc (.cells #[vi a] 3 (0,0)) (by simp)) (Ex a) rfl) oM (fun B5 v5 D5 lX jS j2 jZ dU fZ=> ?_)
     have dq:New w.heap.size D5:=New.of_le fun q hq=>by
      rcases dU q hq with h|h
      ·exact be.le q h
      omega
     refine Ow.permL (M:=(br,rrO s a2 0):: (D4++ (D5++ ((b15, .cells (dL g).toArray 245 (0,0)):: (DG++ [(ba, .cells (dL g).toArray 245 (0,0)),(bc, .cells #[vi a] 3 (0,0))]))))) pM ?_
     refine ko @ey ?_
     refine ky @ey ?_
     have fq: (l++ [g]).length=l.length+1:=by simp
     have gp: (sp++ [a]).length=sp.length+1:=by simp
     refine Again.mk ⟨l++ [g],sp++ [a],a2,v4,v5,D4,D5,(b15, .cells (dL g).toArray 245 (0,0)):: (DG++ [(ba, .cells (dL g).toArray 245 (0,0)),(bc, .cells #[vi a] 3 (0,0))])⟩ (by show n - (l++ [g]).length<n - l.length;omega) ⟨by show(l++ [g]).length≤n;omega,by show(sp++ [a]).length=(l++ [g]).length;omega,rN.2,c_,dq,⟨pH,bG.app ⟨im,jd,trivial⟩⟩,by simpa using mF,by simpa using j2, ?_⟩ rfl (by simp only[fq];rfl)
     show kJ s=_
     rw[mL,fq]
     simp
    have d4: (e2 !=0)=true:=bne_iff_ne.2 yL
    rw[if_neg yL] at mL
    refine ky (aN @ey @d4) ?_
    refine⟨_,(ke @ey), ?_⟩
    refine⟨Ext.of_new ⟨mO,dK⟩, ?_⟩
    unfold wB
    rw[if_pos hE,mL,mK]
    simp only[List.append_nil]
    exact⟨v1,v2,_,_,rfl,rfl,by omega,by omega,Gr.i Gg fun c hc=>by simp[hc],Gr.i pz fun c hc=>by simp[hc], .inr ⟨yL,by omega⟩⟩
   obtain hln':l.length=n:=by omega
   have d3:decide ((l.length:Int)< (n:Int))=false:=aO oM
   rw[hln',Nat.sub_self] at mL
   refine ky (aN @ey @d3) ?_
   refine Cw.regionS [br] [0,1,2,3,4,5,7,8,9,6,10,11] [] kR kR kR ?_
   simp only[ai, ↓ah, ↓ab, ↓ag, ↓ae,ac]
   refine kq @ey ?_
   refine ky @ey ?_
   refine⟨_,(ke @ey), ?_⟩
   refine⟨Ext.of_new ⟨mO,dK⟩, ?_⟩
   unfold wB
   rw[if_pos hE,mL,mK]
   simp only[mi,List.append_nil]
   exact⟨v1,v2,_,_,rfl,rfl,by omega,by omega,Gr.i Gg fun c hc=>by simp[hc],Gr.i pz fun c hc=>by simp[hc], .inl ⟨trivial,rfl,by omega⟩⟩
  have zn: (e0 !=0)=true:=bne_iff_ne.2 he
  have hE: (jH s).2.1=false:=by rw[zt];exact beq_eq_false_iff_ne.2 he
  refine ky (aN @ey @zn) ?_
  refine⟨_,(ke @ey), ?_⟩
  refine⟨Ext.of_new ⟨mO,trivial⟩, ?_⟩
  unfold wB
  rw[hE]
  rfl
 have d2: (s.take 4 != [83,80,75,49])=true:=bne_iff_ne.2 hm
 refine ky (aN @ey (aN @d1 @d2)) ?_
 refine⟨_,(ke @ey), ?_⟩
 refine⟨Ext.of_new trivial, ?_⟩
 unfold wB
 rw[WU_ (.inr hm)]
 rfl
def BndD.ofSmall {l:List PartL} (h:Fk l):BndD l:=fun g hg=>by have:=h g hg;omega
def Z3 (a b c d e:Value): #[a,b,c,d,e][0]? =some a:=rfl
def Y5 (a b c d e:Value): #[a,b,c,d,e][1]? =some b:=rfl
def ZF (a b c d e:Value): #[a,b,c,d,e][2]? =some c:=rfl
def Yz (a b c d e:Value): #[a,b,c,d,e][3]? =some d:=rfl
def Y6 (a b c d e:Value): #[a,b,c,d,e][4]? =some e:=rfl
structure SaG where
 k:Nat
 out:List ObL
 v:Value
 D:aB
 DG:aB
def Xb_ {o:ObL} {l:List ObL} {j:Nat} (h:j<l.length):decide (o∈l.take (j+1))=(decide (o∈l.take j) ||decide (l.getD j ob0=o)):=by
 rw[StP.take_snoc (z:=ob0) h]
 by_cases h1:o∈l.take j
 ·rw[aK h1,aK (cz _ h1)];rfl
 by_cases h2:l.getD j ob0=o
 ·rw[aK h2,Bool.or_true]
  exact aK (dJ _ (by rw[h2];exact List.mem_singleton.2 rfl))
 rw[aO h1,aO h2]
 exact aO fun h=>by
  rcases List.mem_append.1 h with h|h
  ·exact h1 h
  exact h2 (List.mem_singleton.1 h).symm
def fj:=aN (aN (aN @av (aN @au @Sx.tup2_0)) (aN (aN @Sx.tup2_1 @Z3) (aN @Y5 @ZF))) (aN (aN @Yz (aN @Y6 @j7)) (aN (aN @jB @j9) (aN @j8 @GZ)))
def Pw (b:List UInt8) (w:World) (hb:b.length<1099511627776):
  Rets prog 107 #[vs b] w (XS w [] (fun v D=>GrI D 33 2 v (kW b).length ((kW b).map obC).flatten)):=by
 have nR:=(Cp b).1
 have hrs:=Oc b
 refine Rets.enterX func107 rfl (rs:= [.tmp 2]) results107 ntmps107 (fun p hp=>by cases hp) (by simp[keys]) ?_
 refine kf ?_
 refine ky @fj ?_
 refine Ow.callC rfl rfl call137 (fun w' aA=>NJ b w' hb) (fun B1 v1 D1 dN di cR dr=> ?_)
 have cL:New w.heap.size D1:=cR.mono di
 unfold wB at dr
 unfold kW
 rw[List.nil_append]
 cases bU: (jH b).2.1 with
 |false=>
  rw[bU,if_neg (by simp)] at dr
  rw[if_neg (by simp)]
  subst dr
  refine ko @fj ?_
  refine ky @fj ?_
  refine⟨_,(ke @fj), ?_⟩
  exact⟨Ext.of_new cL,Gr.i (X:= []) Gr.nl fun p hp=>by cases hp⟩
 |true=>
  rw[bU,if_pos rfl] at dr
  rw[if_pos rfl]
  obtain⟨x,y,n,A,rfl,-,-,-,jY,kg,-⟩:=dr
  generalize (kJ b).1=l at*
  have ln:=ru jY
  refine ko @fj ?_
  refine ky (aN @fj @ln) ?_
  refine Cw.permL (M:=D1++ ([]++ [])) (by simp) ?_
  refine Cw.loopG (G:=SaG) [26,27,28,29,33,34,35,32,36,37,10,11,38,39,41,42,40,43,44,12,13,14,15,45,46,47,48,51,52,53,54,55,56,57,58,59,49,50,60,61,62,63,64,65,66,67,68,8,30,31,9] (fun g=> [(8,g.v),(9,vi g.k)]) (fun g=>D1++ (g.D++g.DG)) (fun g=>g.k≤l.length∧g.out=pY l g.k∧New w.heap.size g.D∧New w.heap.size g.DG∧Gr g.D 33 2 g.v g.out.length (g.out.map obC).flatten) (fun g=>l.length - g.k) ⟨0,[], .slice none 0 0,[],[]⟩ rfl rfl ?_ ?_
  ·exact⟨aV _,rfl,trivial,trivial,Gr.nl⟩
  intro g j hg
  refine kv ?_
  obtain⟨k,out,v6,D6,DG⟩:=g
  simp only at hg ⊢
  obtain⟨hk,yh,fD,bG,lZ⟩:=hg
  have ja:=Lo l k
  rw[←yh] at ja
  have dK:New w.heap.size (D1++ (D6++DG)):=cL.app (fD.app bG)
  by_cases aC:k<l.length
  ·have d1:decide ((k:Int)< (l.length:Int))=true:=aK oM
   have iL:pY l (k+1)=match partV l (k:Nat) with
    | .ok s=>if f_ s=true∧lS s∉pY l k then pY l k++ [lS s] else pY l k
    | .error _=>pY l k:=rfl
   refine kz [7] (aN @fj (aN @d1 @ln)) ?_
   refine Ow.callFV rfl call138 (fun w' aA=>PP x l (k:Int) w' ((jY.mono (fun q hq=>by simp[hq])).slV aA rfl rfl Li) (BndD.ofSmall hrs)) ?_
   rw[←yh] at iL
   cases hp:partV l (k:Nat) with
   |error e2=>
    rw[hp] at iL
    simp only at iL
    have e0: (e2 !=0)=true:=bne_iff_ne.2 (Uc hp)
    unfold od
    refine ko @fj ?_
    refine ky (aN @fj @e0) ?_
    refine ky @fj ?_
    exact Again.mk ⟨k+1,out,v6,D6,DG⟩ (by show l.length - (k+1)<l.length - k;omega) ⟨aC,by exact iL.symm,fD,bG,lZ⟩ rfl rfl
   |ok s=>
    rw[hp] at iL
    simp only at iL
    have bh:=Ru hp
    have e0: ((0:Int) !=0)=false:=rfl
    have ym: (if lfOk s then lfK s else 0)=(lS s).k:=by rw[I_]
    have pB: (if lfOk s then(lfT (s.drop 1)).1 else [])=(lS s).t:=by rw[I_]
    have nG:=(te s).1
    unfold od
    refine ko @fj ?_
    refine ky (aN @fj @e0) ?_
    refine Ow.callFV rfl call95 (fun w' aA=>Kn s w' oM) ?_
    rw[ym,pB,←nG]
    refine ko @fj ?_
    refine Ow.alloc rfl rfl fB fun b12 y8 pG=> ?_
    simp only[aS,List.nil_append,List.cons_append]
    refine Ow.permL (M:=(b12, .cells #[vi 0,vs []] 33 (0,0)):: (D1++ (D6++DG))) pM ?_
    refine ko @fj ?_
    generalize hro:lS s=o at*
    obtain⟨ok,ot⟩:=o
    have Gs:New w.heap.size ((b12,Obj.cells #[vi ok,vs ot] 33 (0,0)):: (D1++ (D6++DG))):=⟨pG,dK⟩
    refine Cw.world fun wz fP=> ?_
    have bA:=fP.nodup
    clear fP wz
    have lno: ∀m,gY (.sl m) v6=some (vi out.length):=fun m=>ru (Gr.i lZ (fun p hp=>hp)) m
    refine ky (aN @fj @lno) ?_
    refine Cw.loopG (G:=Nat) [45,46,47,48,51,52,53,54,55,56,57,58,59,14,49,50,15] (fun g=> [(14, .bool (decide ((⟨ok,ot⟩:ObL)∈out.take g))),(15,vi g)]) (fun g=>(b12, .cells #[vi ok,vs ot] 33 (0,0)):: (D1++ (D6++DG))) (fun g=>g≤out.length) (fun g=>out.length - g) 0 rfl rfl ?_ ?_
    ·exact aV _
    intro j jj hj
    refine kv ?_
    by_cases hjt:j<out.length
    ·have d2:decide ((j:Int)< (out.length:Int))=true:=aK oM
     have cF:=Xb_ (o:=⟨ok,ot⟩) hjt
     have hnd6: (keys D6).Nodup:=by
      simp only[keys,List.map_cons,List.map_append,List.nodup_cons,List.nodup_append] at bA
      exact bA.2.2.1.1
     obtain h0| ⟨rb,rc,rest,rfl,kb,bQ⟩:=Ak (Gr.i lZ (fun p hp=>hp)) hnd6
     ·omega
     have H2:rb≠b12:=by
      rintro rfl
      simp only[keys,List.map_cons,List.map_append,List.nodup_cons,List.mem_append,not_or] at bA
      exact bA.1.2.1 kb
     have rdb:aU w ((b12, .cells #[vi ok,vs ot] 33 (0,0)):: (D1++ (D6++DG))) rb=some (cO obC 33 rest out):=by
      have mK:rb∉keys D1:=by
       simp only[keys,List.map_cons,List.map_append,List.nodup_cons,List.nodup_append,List.mem_append] at bA
       intro hm
       exact bA.2.2.2 rb hm rb (.inl kb) rfl
      exact aQ (by rw[rl _ _ _ _ (Ne.symm H2),gO mK];exact az bQ)
     have ld:aG (some (true,2)) (some (cO obC 33 rest out)) (j*2)=some (obV (out.getD j ob0).k (out.getD j ob0).t):=Ai (E:=33) (rest:=rest) (z:=ob0) rt j hjt
     generalize out.getD j ob0=p at*
     refine ky (aN @fj (aN @d2 @lno)) ?_
     cases rK:decide ((⟨ok,ot⟩:ObL)∈out.take j) with
     |true=>
      rw[rK,Bool.true_or] at cF
      refine Cw.regionS [rb,b12] [0,1,2,3,4,5,6,7,8,9] [] kR kR kR ?_
      simp only[ai, ↓ah, ↓ab, ↓ag, ↓ae,ac]
      refine kq (aN @fj (aN @rdb @ld)) ?_
      refine ky @fj ?_
      exact Again.mk (j+1) oM oM rfl (by rw[cF];rfl)
     |false=>
      rw[rK,Bool.false_or] at cF
      refine Cw.regionS [rb,b12] [0,1,2,3,4,5,6,7,8,9] [] kR kR kR ?_
      simp only[ai, ↓ah, ↓ab, ↓ag, ↓ae,ac]
      refine kq (aN @fj (aN @rdb @ld)) ?_
      refine ky @fj ?_
      exact Again.mk (j+1) oM oM rfl (by rw[cF];rfl)
    obtain rfl:j=out.length:=by omega
    have d2:decide ((out.length:Int)< (out.length:Int))=false:=aO oM
    rw[List.take_length]
    refine ky (aN @fj (aN @d2 @lno)) ?_
    cases sN:f_ s with
    |false=>
     rw[if_neg (fun h=>by rw[sN] at h;cases h.1)] at iL
     refine ky (aN @fj @sN) ?_
     refine Cw.permL (M:=D1++ (D6++ ((b12, .cells #[vi ok,vs ot] 33 (0,0))::DG))) pM ?_
     refine ky @fj ?_
     exact Again.mk ⟨k+1,out,v6,D6,(b12, .cells #[vi ok,vs ot] 33 (0,0))::DG⟩ (by show l.length - (k+1)<l.length - k;omega) ⟨aC,by exact iL.symm,fD,⟨pG,bG⟩,lZ⟩ rfl rfl
    |true=>
     cases rK:decide ((⟨ok,ot⟩:ObL)∈out) with
     |true=>
      rw[if_neg (fun h=>h.2 (of_decide_eq_true rK))] at iL
      refine ky (aN @fj (aN @sN @rK)) ?_
      refine Cw.permL (M:=D1++ (D6++ ((b12, .cells #[vi ok,vs ot] 33 (0,0))::DG))) pM ?_
      refine ky @fj ?_
      exact Again.mk ⟨k+1,out,v6,D6,(b12, .cells #[vi ok,vs ot] 33 (0,0))::DG⟩ (by show l.length - (k+1)<l.length - k;omega) ⟨aC,by exact iL.symm,fD,⟨pG,bG⟩,lZ⟩ rfl rfl
     |false=>
      rw[if_pos ⟨sN,of_decide_eq_false rK⟩] at iL
      refine ky (aN @fj (aN @sN @rK)) ?_
      refine Ow.buildSlice (e:=33) #[vi ok,vs ot] rfl rfl (gX (cs:=obC ⟨ok,ot⟩) underlying26 ag33 fB (by decide) rfl) fun bc qA jd=> ?_
      refine ko @fj ?_
      refine Ow.permL (M:=D6++ ((b12, .cells #[vi ok,vs ot] 33 (0,0)):: (D1++ (DG++ [(bc, .cells #[vi ok,vs ot] 33 (0,0))])))) pM ?_
      refine Ow.appendXG (e:=33) (k:=1) (new:=obC ⟨ok,ot⟩) (X:=D6) v6 rfl rfl rfl rfl underlying26 ag33 kR fB (by rw[obV,aS];rfl) underlying26 (by intro k h;cases h) lZ (fun w' aA=>AppX.one1 (aA.has bc (.cells (obC ⟨ok,ot⟩).toArray 33 (0,0)) (by simp[obC])) (rt _) (zL _)) oM (fun B5 v5 D5 lX jS j2 jZ dU fZ=> ?_)
      have dq:New w.heap.size D5:=New.of_le fun q hq=>by
       rcases dU q hq with h|h
       ·exact fD.le q h
       omega
      refine ko @fj ?_
      refine Cw.permL (M:=D1++ (D5++ ((b12, .cells #[vi ok,vs ot] 33 (0,0)):: (DG++ [(bc, .cells #[vi ok,vs ot] 33 (0,0))])))) pM ?_
      refine ky @fj ?_
      exact Again.mk ⟨k+1,out++ [⟨ok,ot⟩],v5,D5,(b12, .cells #[vi ok,vs ot] 33 (0,0)):: (DG++ [(bc, .cells #[vi ok,vs ot] 33 (0,0))])⟩ (by show l.length - (k+1)<l.length - k;omega) ⟨aC,by exact iL.symm,dq,⟨pG,bG.app ⟨jd,trivial⟩⟩,by simpa using j2⟩ rfl rfl
  obtain rfl:k=l.length:=by omega
  have d1:decide ((l.length:Int)< (l.length:Int))=false:=aO oM
  refine ky (aN @fj (aN @d1 @ln)) ?_
  refine⟨_,(ke @fj), ?_⟩
  refine⟨Ext.of_new dK, ?_⟩
  rw[←yh]
  exact Gr.i lZ fun p hp=>by simp[hp]
def magO:List UInt8:= [83,76,79,49]
def qb (b:List UInt8):List ObL:=if(d_ b).2=true∧4≤ (d_ b).1.length∧(d_ b).1.take 4=magO∧f_ ((d_ b).1.drop 4)=true then [lS ((d_ b).1.drop 4)] else []
def qq (b:List UInt8):List ObL:=qb b++kW b
def mm (l:List FiL):List ObL:=(l.map fun f=>qq f.data).flatten
def CO (b:List UInt8): (kW b).length≤200:=by
 unfold kW
 split
 ·exact Nat.le_trans (Lo _ _) (Cp b).1
 exact aV _
def Lg (b:List UInt8): (qq b).length≤201:=by
 have:=CO b
 unfold qq qb
 split
 ·simp;omega
 simp;omega
def Bt (l:List FiL) {k:Nat} (h:k<l.length):mm (l.take (k+1))=mm (l.take k)++qq (l.getD k fi0).data:=by
 unfold mm
 rw[StP.take_snoc (z:=fi0) h,List.map_append,List.flatten_append]
 simp
theorem Ll (l:List FiL): ∀k,k≤l.length→(mm (l.take k)).length≤k*201
 |0,_=>by simp[mm]
 |k+1,h=>by
  have h1:=Ll l k oM
  have h2:=Lg (l.getD k fi0).data
  rw[Bt l oM,List.length_append]
  omega
def Ed (s:List UInt8): (d_ s).1.length≤s.length:=by
 unfold d_
 split
 ·simp
 split
 ·simp only[List.length_take];omega
 simp
structure ObjC where
 os:List ObL
 v:Value
 D:aB
 DG:aB
structure ObjG where
 k:Nat
 v:Value
 D:aB
 DG:aB
def kO:=aN (aN (aN @av @au) (aN @Sx.tup2_0 @Sx.tup2_1)) (aN (aN @j7 @jB) (aN @j9 @j8))
def OD (v:Value) (l:List FiL) (w:World) (hv:FiSl w v l) (hl:l.length≤1000) (hb:FiB l):
  Rets prog 66 #[v] w (XS w [] (fun v D=> ∃D1 D2,D=D1++D2∧Gr D1 33 2 v (mm l).length ((mm l).map obC).flatten)):=by
 have ln:=hv.len
 obtain⟨rb,off,arr,E,fz,hr⟩:=hv.row
 refine Rets.enterX func66 rfl (rs:= [.tmp 2]) results66 ntmps66 (fun p hp=>by cases hp) (by simp[keys]) ?_
 refine kf ?_
 refine ky (aN @kO @ln) ?_
 refine Cw.permL (M:= []++ []) (List.Perm.refl _) ?_
 refine Cw.loopG (G:=ObjG) [9,10,11,12,16,17,18,19,20,21,15,22,23,5,6,24,25,26,27,28,29,30,31,32,33,34,36,37,38,35,39,40,7,8,41,42,43,44,45,3,46,47,48,49,50,51,52,53,13,14,4] (fun g=> [(3,g.v),(4,vi g.k)]) (fun g=>g.D++g.DG) (fun g=>g.k≤l.length∧New w.heap.size g.D∧New w.heap.size g.DG∧Gr g.D 33 2 g.v (mm (l.take g.k)).length ((mm (l.take g.k)).map obC).flatten) (fun g=>l.length - g.k) ⟨0, .slice none 0 0,[],[]⟩ rfl rfl ?_ ?_
 ·exact⟨aV _,trivial,trivial,Gr.nl⟩
 intro g j hg
 refine kv ?_
 obtain⟨k,v3,D,DG⟩:=g
 simp only at hg ⊢
 obtain⟨hk,hN,bG,hG⟩:=hg
 have ja:=Ll l k hk
 by_cases aC:k<l.length
 ·have d1:decide ((k:Int)< (l.length:Int))=true:=aK oM
  have nR:=hr.lt oM
  have ixl:=hr.idx true k aC
  have ld2: ∀n,aG (some (false,n)) (some (.cells arr E fz)) (off+k*3+2)=some (vs (l.getD k fi0).data):=fun n=>x3 hr aC n
  have fX:=hr.has (show 0<l.length by omega)
  have rdl: ∀L,New w.heap.size L→aU w L rb=some (.cells arr E fz):=fun L hL=>by rw[jn (hL.not nR)];exact fX
  have zp:=(hb (l.getD k fi0) (by rw[List.getD_eq_getElem?_getD,List.getElem?_eq_getElem aC];exact List.getElem_mem _)).2
  have cF:=Bt l aC
  have eV:=Lg (l.getD k fi0).data
  generalize (l.getD k fi0).data=b at*
  generalize hosE:mm (l.take k)=os at*
  have rd1:=rdl _ (hN.app bG)
  have A2:=Ed b
  have jX:qq b=qb b++kW b:=rfl
  have eF:qb b=if(d_ b).2=true∧4≤ (d_ b).1.length∧(d_ b).1.take 4=magO∧f_ ((d_ b).1.drop 4)=true then [lS ((d_ b).1.drop 4)] else []:=rfl
  have bh:=CO b
  refine kz [8,1000006] (aN @kO (aN @d1 (aN @ln (aN @ixl (aN @rd1 @ld2))))) ?_
  refine Ow.callFV rfl call94 (fun w' aA=>Jb_ b w' zp) ?_
  generalize d_ b=u at*
  obtain⟨s,ok⟩:=u
  simp only at A2 eF ⊢
  refine ko @kO ?_
  refine Cw.cutO (G:=ObjC) [3,7,8,24,25,26,27,28,29,30,31,32,33,34,35,36,37,38,39,40,41,42,43,44,45] (fun g=> [(3,g.v)]) (fun g=>g.D++g.DG) (fun g=>New w.heap.size g.D∧New w.heap.size g.DG∧Gr g.D 33 2 g.v g.os.length (g.os.map obC).flatten∧g.os=os++qb b) ?_ ?_
  ·cases ok with
   |false=>
    rw[if_neg (by simp)] at eF
    refine ky @kO ?_
    exact CutO.mk ⟨os,v3,D,DG⟩ ⟨hN,bG,hG,by rw[eF,List.append_nil]⟩ rfl rfl
   |true=>
    by_cases h4:4≤s.length
    ·have d4:decide ((4:Int)≤ (s.length:Int))=true:=aK oM
     have d4':decide ((0:Int)≤4∧(4:Int)≤ (s.length:Int))=true:=aK oM
     have d4'':decide ((4:Int)≤ (s.length:Int)∧(s.length:Int)≤ (s.length:Int))=true:=aK oM
     by_cases hm:s.take 4=magO
     ·have d5: (s.take 4== [83,76,79,49])=true:=beq_iff_eq.2 hm
      refine kz [8] (aN @kO (aN @d4 (aN @d4' @d5))) ?_
      refine Ow.callFV rfl call95 (fun w' aA=>Kn (s.drop 4) w' (by rw[List.length_drop];omega)) ?_
      have ym: (if lfOk (s.drop 4) then lfK (s.drop 4) else 0)=(lS (s.drop 4)).k:=by rw[I_]
      have pB: (if lfOk (s.drop 4) then(lfT ((s.drop 4).drop 1)).1 else [])=(lS (s.drop 4)).t:=by rw[I_]
      have nG:=(te (s.drop 4)).1
      rw[ym,pB,←nG]
      refine ko @kO ?_
      refine Ow.alloc rfl rfl fB fun b7 zk rj=> ?_
      simp only[aS,List.nil_append,List.cons_append]
      refine Ow.permL (M:=(b7, .cells #[vi 0,vs []] 33 (0,0)):: (D++DG)) pM ?_
      refine ko @kO ?_
      generalize lS (s.drop 4)=o at*
      obtain⟨ok,ot⟩:=o
      cases sN:f_ (s.drop 4) with
      |false=>
       rw[if_neg (fun h=>by rw[sN] at h;cases h.2.2.2)] at eF
       refine Cw.permL (M:=D++ ((b7, .cells #[vi ok,vs ot] 33 (0,0))::DG)) pM ?_
       refine ky (aN @kO @sN) ?_
       exact CutO.mk ⟨os,v3,D,(b7, .cells #[vi ok,vs ot] 33 (0,0))::DG⟩ ⟨hN,⟨rj,bG⟩,hG,by rw[eF,List.append_nil]⟩ rfl rfl
      |true=>
       rw[if_pos ⟨rfl,h4,hm,sN⟩] at eF
       refine ky (aN @kO @sN) ?_
       refine Ow.buildSlice (e:=33) #[vi ok,vs ot] rfl rfl (gX (cs:=obC ⟨ok,ot⟩) underlying26 ag33 fB (by decide) rfl) fun bc qA jd=> ?_
       refine ko @kO ?_
       refine Ow.permL (M:=D++ ((b7, .cells #[vi ok,vs ot] 33 (0,0)):: (DG++ [(bc, .cells #[vi ok,vs ot] 33 (0,0))]))) pM ?_
       refine Ow.appendXG (e:=33) (k:=1) (new:=obC ⟨ok,ot⟩) (X:=D) v3 rfl rfl rfl rfl underlying26 ag33 kR fB (by rw[obV,aS];rfl) underlying26 (by intro k h;cases h) hG (fun w' aA=>AppX.one1 (aA.has bc (.cells (obC ⟨ok,ot⟩).toArray 33 (0,0)) (by simp[obC])) (rt _) (zL _)) oM (fun B5 v5 D5 lX jS j2 jZ dU fZ=> ?_)
       have dq:New w.heap.size D5:=New.of_le fun q hq=>by
        rcases dU q hq with h|h
        ·exact hN.le q h
        omega
       refine ko @kO ?_
       refine ky @kO ?_
       exact CutO.mk ⟨os++ [⟨ok,ot⟩],v5,D5,(b7, .cells #[vi ok,vs ot] 33 (0,0)):: (DG++ [(bc, .cells #[vi ok,vs ot] 33 (0,0))])⟩ ⟨dq,⟨rj,bG.app ⟨jd,trivial⟩⟩,by simpa using j2,by rw[eF]⟩ rfl rfl
     have d5: (s.take 4== [83,76,79,49])=false:=beq_eq_false_iff_ne.2 hm
     rw[if_neg (fun h=>hm h.2.2.1)] at eF
     refine ky (aN @kO (aN @d4 (aN @d4' @d5))) ?_
     exact CutO.mk ⟨os,v3,D,DG⟩ ⟨hN,bG,hG,by rw[eF,List.append_nil]⟩ rfl rfl
    have d4:decide ((4:Int)≤ (s.length:Int))=false:=aO oM
    rw[if_neg (fun h=>h4 h.2.1)] at eF
    refine ky (aN @kO @d4) ?_
    exact CutO.mk ⟨os,v3,D,DG⟩ ⟨hN,bG,hG,by rw[eF,List.append_nil]⟩ rfl rfl
  intro g j hg
  refine kv ?_
  obtain⟨os2,v4,D4,DG4⟩:=g
  simp only at hg ⊢
  obtain⟨c_,Gm,mF,Hi⟩:=hg
  have yg:os2.length≤k*201+201:=by
   have:=Lg b
   rw[jX,List.length_append] at this
   rw[Hi,List.length_append]
   omega
  have rd2:=rdl _ (c_.app Gm)
  refine ky (aN @kO (aN @ln (aN @ixl (aN @rd2 @ld2)))) ?_
  refine Ow.callC rfl rfl call107 (fun w' aA=>Pw b w' zp) (fun B9 v9 D9 hA9 JY p' Jc=> ?_)
  have x_:New w.heap.size D9:=p'.mono JY
  refine ko @kO ?_
  refine Ow.permL (M:=D4++ (DG4++D9)) pM ?_
  refine Ow.appendXG (e:=33) (k:=(kW b).length) (new:=((kW b).map obC).flatten) (X:=D4) v4 rfl rfl rfl rfl underlying26 ag33 kR fB (by rw[obV,aS];rfl) underlying26 (by intro k h;cases h) mF (fun w' aA=>((Jc.mono (fun q hq=>by simp[hq])).slV (z:=ob0) aA rfl rfl rt).appX rt zL) oM (fun B5 v5 D5 lX jS j2 jZ dU fZ=> ?_)
  have dq:New w.heap.size D5:=New.of_le fun q hq=>by
   rcases dU q hq with h|h
   ·exact c_.le q h
   omega
  refine ko @kO ?_
  refine ky @kO ?_
  exact Again.mk ⟨k+1,v5,D5,DG4++D9⟩ (by show l.length - (k+1)<l.length - k;omega) ⟨aC,dq,Gm.app x_,by rw[cF,jX,←List.append_assoc,←Hi,List.length_append,List.map_append,List.flatten_append];exact j2⟩ rfl rfl
 obtain rfl:k=l.length:=by omega
 have d1:decide ((l.length:Int)< (l.length:Int))=false:=aO oM
 rw[List.take_length] at hG
 refine ky (aN @kO (aN @d1 @ln)) ?_
 refine⟨_,(ke @kO), ?_⟩
 exact⟨Ext.of_new (hN.app bG),D,DG,rfl,hG⟩
def idQ (o:ObL):IdL:=⟨Dig.shaR (pT o.k o.t),zP _⟩
def qU (all:List ObL):Nat→Option (List ObL)
 |0=>some []
 |i+1=>match qU all i with
  |none=>none
  |some had=>if nZ (all.getD i ob0).k (all.getD i ob0).t=true∧all.getD i ob0∉had then(if had.any (fun h=>(idQ h).l==(idQ (all.getD i ob0)).l)=true then none else some (had++ [all.getD i ob0])) else some had
def qc (all:List ObL):Bool:=(qU all all.length).isNone
theorem Wr_ {all:List ObL}: ∀ {j i:Nat},qU all i=none→i≤j→qU all j=none
 |0,i,h,mI=>by
  obtain rfl:i=0:=by omega
  exact h
 |j+1,i,h,mI=>by
  by_cases e:i=j+1
  ·subst e;exact h
  have:=Wr_ (j:=j) h oM
  unfold qU
  rw[this]
theorem BN {all:List ObL}: ∀ {i:Nat} {had:List ObL},qU all i=some had→had.length≤i
 |0,had,h=>by cases h;exact bq _
 |i+1,had,h=>by
  unfold qU at h
  cases hc:qU all i with
  |none=>rw[hc] at h;cases h
  |some had'=>
   have h1:=BN hc
   rw[hc] at h
   simp only at h
   split at h
   ·split at h
    ·cases h
    cases h;rw[List.length_append];simp;omega
   cases h;omega
structure ThG where
 j:Nat
 c:Bool
structure ClG where
 i:Nat
 had:List ObL
 v6:Value
 v7:Value
 D6:aB
 D7:aB
 DG:aB
def fR:=aN (aN (aN @av @au) (aN @Sx.tup2_0 (aN @Sx.tup2_1 @j7))) (aN (aN @jB (aN @j9 @j8)) (aN @GZ (aN @qw @nz)))
def QY (v1 v2:Value) (l:List FiL) (more:List ObL) (w:World) (hv:FiSl w v1 l) (hl:l.length≤1000) (hb:FiB l) (hm:ObSl w v2 more) (sR:more.length≤1000000):
  Rets prog 33 #[v1,v2] w (fun v D=>v= .bool (qc (mm l++more))∧D= []):=by
 have ln2:=hm.len
 have ja:=Ll l l.length (bq _)
 rw[List.take_length] at ja
 refine Rets.enterV func33 rfl (rs:= [.tmp 4]) results33 ntmps33 ?_
 refine kf ?_
 refine ky @fR ?_
 refine Ow.callC rfl rfl call66 (fun w' aA=>OD v1 l w' (hv.oldN aA trivial) hl hb) (fun B1 v4 D0 dN di cR dr=> ?_)
 obtain⟨D1,DG1,rfl,Gg⟩:=dr
 have cL:=cR.mono di
 rw[List.nil_append]
 refine ko @fR ?_
 refine Ow.appendXG (e:=33) (k:=more.length) (new:=(more.map obC).flatten) (X:=D1) v4 rfl rfl rfl rfl underlying26 ag33 kR fB (by rw[obV,aS];rfl) underlying26 (by intro k h;cases h) Gg (fun w' aA=>(hm.oldN aA cL).appX rt zL) oM (fun B5 v5 D5 lX jS j2 jZ dU fZ=> ?_)
 have dq:New w.heap.size D5:=New.of_le fun q hq=>by
  rcases dU q hq with h|h
  ·exact cL.le q (by rw[ao];exact cz _ h)
  omega
 rw[←List.flatten_append,←List.map_append,←List.length_append] at j2
 have eC: (mm l++more).length≤1300000:=by rw[List.length_append];omega
 have hNG1:New w.heap.size DG1:=New.of_le fun q hq=>cL.le q (by rw[ao];exact dJ _ hq)
 generalize mm l++more=all at*
 have hGi:=Gr.i j2 (fun p hp=>hp)
 have lna: ∀m,gY (.sl m) v5=some (vi all.length):=fun m=>ru hGi m
 refine ko @fR ?_
 refine ky (aN @fR @lna) ?_
 refine Cw.permL (M:=D5++ ([]++ ([]++DG1))) pM ?_
 refine Cw.loopG (G:=ClG) [18,19,20,21,24,25,26,27,28,29,9,10,30,31,32,33,34,35,36,37,40,41,42,43,44,45,46,47,48,38,39,49,50,51,52,53,54,11,12,55,56,57,58,61,62,63,64,65,66,4,59,60,67,68,69,70,71,72,73,6,74,75,76,77,7,22,23,8] (fun g=> [(6,g.v6),(7,g.v7),(8,vi g.i)]) (fun g=>D5++ (g.D6++ (g.D7++g.DG))) (fun g=>g.i≤all.length∧qU all g.i=some g.had∧New w.heap.size g.D6∧New w.heap.size g.D7∧New w.heap.size g.DG∧Gr g.D6 33 2 g.v6 g.had.length (g.had.map obC).flatten∧Gr g.D7 39 32 g.v7 g.had.length ((g.had.map idQ).map eT).flatten) (fun g=>all.length - g.i) ⟨0,[], .slice none 0 0, .slice none 0 0,[],[],DG1⟩ rfl rfl ?_ ?_
 ·exact⟨aV _,rfl,trivial,trivial,hNG1,Gr.nl,Gr.nl⟩
 intro g j hg
 refine kv ?_
 obtain⟨i,had,v6,v7,D6,D7,DG⟩:=g
 simp only at hg ⊢
 obtain⟨hi,lj,fD,n4,bG,lZ,p_⟩:=hg
 have hhl:=BN lj
 have dK:New w.heap.size (D5++ (D6++ (D7++DG))):=dq.app (fD.app (n4.app bG))
 by_cases aC:i<all.length
 ·have d1:decide ((i:Int)< (all.length:Int))=true:=aK oM
  have eD:qU all (i+1)=if nZ (all.getD i ob0).k (all.getD i ob0).t=true∧all.getD i ob0∉had then(if had.any (fun h=>(idQ h).l==(idQ (all.getD i ob0)).l)=true then none else some (had++ [all.getD i ob0])) else some had:=by
   show(match qU all i with|none=>none|some had=>_)=_
   rw[lj]
  refine Cw.world fun wz fP=> ?_
  have bA:=fP.nodup
  clear fP wz
  simp only[ao,List.nodup_append,List.mem_append] at bA
  obtain h0| ⟨ra,ca,resta,rfl,zx,HW⟩:=Ak hGi bA.1
  ·omega
  have rda: ∀Y,aU w (D5++Y) ra=some (cO obC 33 resta all):=fun Y=>aQ (az HW)
  have lda:aG (some (true,2)) (some (cO obC 33 resta all)) (i*2)=some (obV (all.getD i ob0).k (all.getD i ob0).t):=Ai (E:=33) (rest:=resta) (z:=ob0) rt i aC
  have lnh: ∀m,gY (.sl m) v6=some (vi had.length):=fun m=>ru (Gr.i lZ (fun p hp=>hp)) m
  have lni: ∀m,gY (.sl m) v7=some (vi had.length):=fun m=>ru (Gr.i p_ (fun p hp=>hp)) m
  generalize all.getD i ob0=o at*
  obtain⟨ok,ot⟩:=o
  simp only at lda eD
  refine kz [7] (aN @fR (aN @d1 (aN @lna (aN @lda @rda)))) ?_
  refine Ow.callFV rfl call10 (fun w' aA=>KP ok ot w') ?_
  refine ko @fR ?_
  refine ky (aN @fR @lnh) ?_
  refine Cw.loopG (G:=ThG) [30,31,32,33,34,35,36,37,40,41,42,43,44,45,46,47,48,9,38,39,10] (fun g=> [(9, .bool g.c),(10,vi g.j)]) (fun g=>D5++ (D6++ (D7++DG))) (fun g=>g.j≤had.length∧g.c=(!nZ ok ot||decide ((⟨ok,ot⟩:ObL)∈had.take g.j))) (fun g=>had.length - g.j) ⟨0, !nZ ok ot⟩ rfl rfl ?_ ?_
  ·exact⟨aV _,by simp⟩
  intro g j hg
  refine kv ?_
  obtain⟨j,c⟩:=g
  simp only at hg ⊢
  obtain⟨hj,hc⟩:=hg
  by_cases hjt:j<had.length
  ·have d2:decide ((j:Int)< (had.length:Int))=true:=aK oM
   cases c with
   |true=>
    have qH: ¬ (nZ ok ot=true∧(⟨ok,ot⟩:ObL)∉had):=by
     rintro⟨h1,h2⟩
     rw[h1,aO (fun h=>h2 (List.mem_of_mem_take h))] at hc
     cases hc
    refine ky (aN @fR (aN @d2 @lnh)) ?_
    rw[if_neg qH] at eD
    refine ky @fR ?_
    exact Again.mk ⟨i+1,had,v6,v7,D6,D7,DG⟩ (by show all.length - (i+1)<all.length - i;omega) ⟨aC,eD,fD,n4,bG,lZ,p_⟩ rfl rfl
   |false=>
    have j5:=hc.symm
    rw[Bool.or_eq_false_iff] at j5
    have cF:=Xb_ (o:=⟨ok,ot⟩) hjt
    rw[j5.2,Bool.false_or] at cF
    obtain h0| ⟨rh,ch,resth,rfl,hkh,hlkh⟩:=Ak (Gr.i lZ (fun p hp=>hp)) bA.2.1.1
    ·omega
    have mK:rh∉keys D5:=fun hm=>bA.2.2 rh hm rh (.inl hkh) rfl
    have rdh:aU w (D5++ (D6++ (D7++DG))) rh=some (cO obC 33 resth had):=aQ (by rw[gO mK];exact az hlkh)
    have ldh:aG (some (true,2)) (some (cO obC 33 resth had)) (j*2)=some (obV (had.getD j ob0).k (had.getD j ob0).t):=Ai (E:=33) (rest:=resth) (z:=ob0) rt j hjt
    generalize had.getD j ob0=p at*
    refine ky (aN @fR (aN @d2 @lnh)) ?_
    refine Cw.regionS [rh,ra] [0,1,2,4,5,6,3,7,8,9] [] kR kR kR ?_
    simp only[ai, ↓ah, ↓ab, ↓ag, ↓ae,ac]
    refine kq (aN @fR (aN @rdh (aN @ldh (aN @rda @lda)))) ?_
    refine ky @fR ?_
    exact Again.mk ⟨j+1,_⟩ (by show had.length - (j+1)<had.length - j;omega) ⟨hjt,by rw[j5.1,Bool.false_or];exact cF.symm⟩ rfl rfl
  obtain rfl:j=had.length:=by omega
  have d2:decide ((had.length:Int)< (had.length:Int))=false:=aO oM
  rw[List.take_length] at hc
  cases c with
  |true=>
   have qH: ¬ (nZ ok ot=true∧(⟨ok,ot⟩:ObL)∉had):=by
    rintro⟨h1,h2⟩
    rw[h1,aO h2] at hc
    cases hc
   refine ky (aN @fR (aN @d2 @lnh)) ?_
   rw[if_neg qH] at eD
   refine ky @fR ?_
   exact Again.mk ⟨i+1,had,v6,v7,D6,D7,DG⟩ (by show all.length - (i+1)<all.length - i;omega) ⟨aC,eD,fD,n4,bG,lZ,p_⟩ rfl rfl
  |false=>
   have j5:=hc.symm
   rw[Bool.or_eq_false_iff] at j5
   have re:nZ ok ot=true:=by simpa using j5.1
   have kC:ot.length<100000:=by have:=Ie (k:=ok) (t:=ot) (by rw[AC];exact re);omega
   rw[if_pos ⟨re,of_decide_eq_false j5.2⟩] at eD
   refine ky (aN @fR (aN @d2 (aN @lnh (aN @rda @lda)))) ?_
   refine Ow.callFV rfl call11 (fun w' aA=>J2 ok ot w' kC) ?_
   have lu:Dig.shaR (pT ok ot)=(idQ ⟨ok,ot⟩).l:=rfl
   rw[lu] at*
   have gm:=(idQ ⟨ok,ot⟩).h
   have rI:=id0.h
   generalize hx:idQ ⟨ok,ot⟩=x at*
   refine ko @fR ?_
   refine Ow.alloc rfl rfl gM fun b11 r8 pF=> ?_
   simp only[aS,List.nil_append,List.cons_append]
   refine Ow.permL (M:=(b11, .cells (a8 id0.l) 39 (0,0)):: (D5++ (D6++ (D7++DG)))) pM ?_
   refine ko @fR ?_
   refine ky (aN @fR @lni) ?_
   refine Cw.loopG (G:=Nat) [55,56,57,58,61,62,63,64,65,66,4,59,60,12] (fun g=> [(12,vi g)]) (fun g=>(b11, .cells (a8 x.l) 39 (0,0)):: (D5++ (D6++ (D7++DG)))) (fun g=>g≤had.length∧(had.take g).any (fun h=>(idQ h).l==x.l)=false) (fun g=>had.length - g) 0 rfl rfl ?_ ?_
   ·exact⟨aV _,rfl⟩
   intro m jm hm
   refine kv ?_
   obtain⟨fa,nu⟩:=hm
   by_cases lx:m<had.length
   ·have d3:decide ((m:Int)< (had.length:Int))=true:=aK oM
    obtain h0| ⟨rq,cq,restq,rfl,hkq,hlkq⟩:=Ak (l:=had.map idQ) (enc:=eT) (by rw[List.length_map];exact Gr.i p_ (fun p hp=>hp)) bA.2.1.2.1.1
    ·rw[List.length_map] at h0;omega
    rw[List.length_map] at*
    have mK:rq∉keys D5:=fun hm=>bA.2.2 rq hm rq (.inr (.inl hkq)) rfl
    have qG:rq∉keys D6:=fun hm=>bA.2.1.2.2 rq hm rq (.inl hkq) rfl
    have hq11:rq<b11:=ak r8 (by simp only[ao,List.mem_append];exact .inr (.inr (.inl hkq)))
    have rdq:aU w ((b11, .cells (a8 x.l) 39 (0,0)):: (D5++ (D6++ (D7++DG)))) rq=some (cO eT 39 restq (had.map idQ)):=aQ (by rw[rl _ _ _ _ oM,gO mK,gO qG];exact az hlkq)
    have ldq:aG (some (true,32)) (some (cO eT 39 restq (had.map idQ))) (m*32)=some (.agg (a8 (idQ (had.getD m ob0)).l)):=by
     have:=Ai (E:=39) (rest:=restq) (z:=id0) pJ m (show m< (had.map idQ).length by rw[List.length_map];exact lx)
     rw[Ae,show(had.map idQ).getD m id0=idQ (had.getD m ob0) from by rw[List.getD_eq_getElem?_getD,List.getD_eq_getElem?_getD,List.getElem?_map,List.getElem?_eq_getElem lx];rfl] at this
     exact this
    have vO:had.getD m ob0∈had:=n_ lx
    have cF: (had.take (m+1)).any (fun h=>(idQ h).l==x.l)=((idQ (had.getD m ob0)).l==x.l):=by
     rw[StP.take_snoc (z:=ob0) lx,List.any_append,nu];simp
    generalize had.getD m ob0=p at*
    refine ky (aN @fR (aN @d3 @lni)) ?_
    refine Cw.regionS [rq,b11] [0,1,2,3,4,5] [] kR kR kR ?_
    simp only[ai, ↓ah, ↓ab, ↓ag, ↓ae,ac]
    refine kq (aN @fR (aN @rdq @ldq)) ?_
    cases hq: ((idQ p).l==x.l) with
    |true=>
     have y6:had.any (fun h=>(idQ h).l==x.l)=true:=List.any_eq_true.2 ⟨p,vO,hq⟩
     rw[if_pos y6] at eD
     have Jx:=Wr_ eD (show i+1≤all.length by omega)
     refine ky (aN @fR @hq) ?_
     refine⟨_,(ke @fR),(show New w.heap.size ((b11,_):: (D5++ (D6++ (D7++DG)))) from⟨pF,dK⟩), ?_⟩
     (unfold qc;rw[Jx];rfl)
    |false=>
     rw[hq] at cF
     refine ky (aN @fR @hq) ?_
     exact Again.mk (m+1) oM ⟨lx,cF⟩ rfl rfl
   obtain rfl:m=had.length:=by omega
   have d3:decide ((had.length:Int)< (had.length:Int))=false:=aO oM
   rw[List.take_length] at nu
   rw[if_neg (by rw[nu];simp)] at eD
   have ha11:ra<b11:=ak r8 (by simp only[ao,List.mem_append];exact .inl zx)
   have rda2: ∀O Y,aU w ((b11,O):: (D5++Y)) ra=some (cO obC 33 resta all):=fun O Y=>aQ (by rw[rl _ _ _ _ oM];exact az HW)
   refine ky (aN @fR (aN @d3 (aN @lni (aN @rda2 @lda)))) ?_
   refine Ow.buildSlice (e:=33) #[vi ok,vs ot] rfl rfl (gX (cs:=obC ⟨ok,ot⟩) underlying26 ag33 fB (by decide) rfl) fun bc qA jd=> ?_
   refine ko @fR ?_
   refine Ow.permL (M:=D6++ ((b11, .cells (a8 x.l) 39 (0,0)):: (D5++ (D7++ (DG++ [(bc, .cells #[vi ok,vs ot] 33 (0,0))]))))) pM ?_
   refine Ow.appendXG (e:=33) (k:=1) (new:=obC ⟨ok,ot⟩) (X:=D6) v6 rfl rfl rfl rfl underlying26 ag33 kR fB (by rw[obV,aS];rfl) underlying26 (by intro k h;cases h) lZ (fun w' aA=>AppX.one1 (aA.has bc (.cells (obC ⟨ok,ot⟩).toArray 33 (0,0)) (by simp[obC])) (rt _) (zL _)) oM (fun B8 va8 D8 hA8 hB8 hG8 hk81 hk82 HU=> ?_)
   have j3:New w.heap.size D8:=New.of_le fun q hq=>by
    rcases hk82 q hq with h|h
    ·exact fD.le q h
    omega
   refine Ow.permL (M:=(b11, .cells (a8 x.l) 39 (0,0)):: (D5++ (D8++ (D7++ (DG++ [(bc, .cells #[vi ok,vs ot] 33 (0,0))]))))) pM ?_
   refine ko @fR ?_
   refine ky @fR ?_
   refine Ow.buildSlice (e:=39) (a8 x.l) rfl rfl (gX (cs:=x.l.map v8) underlying53 pb gM (by decide) (by simp[x.h])) fun ba lh im=> ?_
   refine ko @fR ?_
   refine Ow.permL (M:=D7++ ((b11, .cells (a8 x.l) 39 (0,0)):: (D5++ (D8++ (DG++ [(bc, .cells #[vi ok,vs ot] 33 (0,0)),(ba, .cells (a8 x.l) 39 (0,0))]))))) pM ?_
   refine Ow.appendXG (e:=39) (k:=1) (new:=eT x) (X:=D7) v7 rfl rfl rfl rfl underlying53 pb kR gM (by rw[aS,sg,id0.h]) underlying53 (by intro k h;cases h) p_ (fun w' aA=>AppX.one1 (by rw[Ae];exact aA.has ba (.cells (a8 x.l) 39 (0,0)) (by simp)) (pJ _) (A_ _)) oM (fun B9 va9 D9 hA9 JY Jb hk91 hk92 nM=> ?_)
   have p':New w.heap.size D9:=New.of_le fun q hq=>by
    rcases hk92 q hq with h|h
    ·exact n4.le q h
    omega
   refine ko @fR ?_
   refine Cw.permL (M:=D5++ (D8++ (D9++ ((b11, .cells (a8 x.l) 39 (0,0)):: (DG++ [(bc, .cells #[vi ok,vs ot] 33 (0,0)),(ba, .cells (a8 x.l) 39 (0,0))]))))) pM ?_
   refine ky @fR ?_
   have fq: (had++ [(⟨ok,ot⟩:ObL)]).length=had.length+1:=by simp
   exact Again.mk ⟨i+1,had++ [⟨ok,ot⟩],va8,va9,D8,D9,(b11, .cells (a8 x.l) 39 (0,0)):: (DG++ [(bc, .cells #[vi ok,vs ot] 33 (0,0)),(ba, .cells (a8 x.l) 39 (0,0))])⟩ (by show all.length - (i+1)<all.length - i;omega) ⟨aC,eD,j3,p',⟨pF,bG.app ⟨jd,im,trivial⟩⟩,by simpa using hG8,by rw[←hx] at Jb;simpa using Jb⟩ rfl rfl
 obtain rfl:i=all.length:=by omega
 have d1:decide ((all.length:Int)< (all.length:Int))=false:=aO oM
 refine ky (aN @fR (aN @d1 @lna)) ?_
 refine⟨_,(ke @fR),dK, ?_⟩
 (unfold qc;rw[lj];rfl)
def sumF (l:List FiL):Nat:=(l.map fun f=>f.data.length / 100+f.name.length).sum
def vz (l:List FiL) (more:List ObL):Bool:=decide (60<l.length) ||decide (1000<sumF l) ||qc (mm l++more)
def Sd (l:List FiL) {k:Nat} (h:k<l.length):sumF (l.take (k+1))=sumF (l.take k)+ (l.getD k fi0).data.length / 100+ (l.getD k fi0).name.length:=by
 unfold sumF
 rw[StP.take_snoc (z:=fi0) h,List.map_append,List.sum_append,List.map_singleton,List.sum_singleton,Nat.add_assoc]
def WX (l:List FiL) (k:Nat):sumF (l.take k)≤sumF l:=by
 have:sumF l=sumF (l.take k)+sumF (l.drop k):=by
  unfold sumF
  rw[←List.sum_append,←List.map_append,List.take_append_drop]
 omega
def U5 {l:List FiL} {f:FiL} (h:f∈l):f.data.length / 100+f.name.length≤sumF l:=by
 unfold sumF
 induction l with
 |nil=>cases h
 |cons g l ih=>
  rw[List.map_cons,List.sum_cons]
  rcases List.mem_cons.1 h with rfl|h
  ·omega
  have:=ih h;omega
def TU {l:List FiL} {more:List ObL} (h:vz l more=false):l.length≤60∧qc (mm l++more)=false∧ ∀f,f∈l→f.name.length≤1000∧f.data.length<100100:=by
 unfold vz at h
 simp only[Bool.or_eq_false_iff,decide_eq_false_iff_not] at h
 refine⟨by omega,h.2,fun f hf=> ?_⟩
 have:=U5 hf
 omega
structure GfG where
 n:Nat
 k:Nat
def pn:=aN @av @au
def Nl (v1 v2:Value) (l:List FiL) (more:List ObL) (w:World) (hv:FiSl w v1 l) (hb:FiB l) (hm:ObSl w v2 more) (sR:more.length≤1000000):
  Rets prog 5 #[v1,v2] w (fun v D=>v= .bool (vz l more)∧D= []):=by
 have ln:=hv.len
 obtain⟨rb,off,arr,E,fz,hr⟩:=hv.row
 refine Rets.enterV func5 rfl (rs:= [.tmp 4]) results5 ntmps5 ?_
 refine kf ?_
 by_cases h60:60<l.length
 ·have d1:decide ((60:Int)< (l.length:Int))=true:=aK oM
  refine ky (aN @pn (aN @ln @d1)) ?_
  refine⟨_,(ke @pn),trivial, ?_⟩
  (unfold vz;rw[aK h60];rfl)
 have d1:decide ((60:Int)< (l.length:Int))=false:=aO oM
 refine ky (aN @pn (aN @ln @d1)) ?_
 refine Cw.loopG (G:=GfG) [10,11,12,13,16,17,18,19,20,21,22,23,24,25,26,27,28,29,30,31,5,32,33,4,14,15,6] (fun g=> [(5,vi g.n),(6,vi g.k)]) (fun g=> []) (fun g=>g.k≤l.length∧g.n≤1000∧g.n=sumF (l.take g.k)) (fun g=>l.length - g.k) ⟨0,0⟩ rfl rfl ?_ ?_
 ·exact⟨aV _,aV _,rfl⟩
 intro g j hg
 refine kv ?_
 obtain⟨n,k⟩:=g
 simp only at hg ⊢
 obtain⟨hk,hn,hs⟩:=hg
 by_cases aC:k<l.length
 ·have d2:decide ((k:Int)< (l.length:Int))=true:=aK oM
  have ix:=hr.idx true k aC
  have hh:=hr.has oM
  have ld1: ∀n,aG (some (false,n)) (some (.cells arr E fz)) (off+k*3+1)=some (vs (l.getD k fi0).name):=fun n=>FB hr aC n
  have ld2: ∀n,aG (some (false,n)) (some (.cells arr E fz)) (off+k*3+2)=some (vs (l.getD k fi0).data):=fun n=>x3 hr aC n
  have kb:=hb (l.getD k fi0) (by rw[List.getD_eq_getElem?_getD,List.getElem?_eq_getElem aC];exact List.getElem_mem _)
  have dk:=Sd l aC
  have bh:=WX l (k+1)
  generalize l.getD k fi0=r at*
  have es: ((n:Int)+ (r.data.length:Int).tdiv 100)+ (r.name.length:Int)=((n+r.data.length / 100+r.name.length:Nat):Int):=by
   rw[Int.tdiv_eq_ediv_of_nonneg oM];omega
  have es2: ((n:Int)+ (r.data.length:Int) / 100)+ (r.name.length:Int)=((n+r.data.length / 100+r.name.length:Nat):Int):=by omega
  refine ky (aN @pn (aN @ln @d2)) ?_
  refine Cw.regionS [rb] [0,1,2,3,4,9,10,11,12,5,6,7,8,13,14,15,16] [] kR kR kR ?_
  simp only[ai, ↓ah, ↓ab, ↓ag, ↓ae,ac]
  refine kq (aN @pn (aN @ln (aN @ix (aN @hh (aN @ld1 (aN @ld2 (aN @es @es2))))))) ?_
  by_cases hgt:1000<n+r.data.length / 100+r.name.length
  ·have d3:decide ((1000:Int)< ((n+r.data.length / 100+r.name.length:Nat):Int))=true:=aK oM
   refine ky (aN @pn @d3) ?_
   refine⟨_,(ke @pn),trivial, ?_⟩
   (unfold vz;rw[aK (show 1000<sumF l by omega),Bool.or_true];rfl)
  have d3:decide ((1000:Int)< ((n+r.data.length / 100+r.name.length:Nat):Int))=false:=aO oM
  refine ky (aN @pn @d3) ?_
  exact Again.mk ⟨n+r.data.length / 100+r.name.length,k+1⟩ (by show l.length - (k+1)<l.length - k;omega) ⟨aC,by show n+r.data.length / 100+r.name.length≤1000;omega,by show n+r.data.length / 100+r.name.length=sumF (l.take (k+1));omega⟩ rfl rfl
 have d2:decide ((k:Int)< (l.length:Int))=false:=aO oM
 rw[show l.take k=l from List.take_of_length_le oM] at hs
 refine ky (aN @pn (aN @ln @d2)) ?_
 refine Ow.callFV rfl call33 (fun w' aA=>QY v1 v2 l more w' (hv.oldN aA trivial) oM hb (hm.oldN aA trivial) sR) ?_
 refine ko @pn ?_
 refine ky @pn ?_
 refine⟨_,(ke @pn),trivial, ?_⟩
 (unfold vz;rw[aO h60,aO (show¬1000<sumF l by omega)];rfl)
instance:DecidableEq FiL:=fun a b=>if h:a.dir=b.dir∧a.name=b.name∧a.data=b.data then .isTrue (by cases a;cases b;simp only at h;obtain⟨rfl,rfl,rfl⟩:=h;rfl) else .isFalse (fun e=>h (by rw[e];exact⟨rfl,rfl,rfl⟩))
def sD:=aN (aN @av @au) (aN @E_ @neFi)
def W2_ (v1 v2:Value) (a b:List FiL) (w:World) (ha:FiSl w v1 a) (hb:FiSl w v2 b) (eC:a.length<1000000000):
  Rets prog 27 #[v1,v2] w (fun v D=>v= .bool (decide (a=b))∧D= []):=by
 have ln1:=ha.len
 have ln2:=hb.len
 obtain⟨ra,offa,arra,Ea,fza,hra⟩:=ha.row
 obtain⟨rb,offb,arrb,Eb,fzb,kA⟩:=hb.row
 refine Rets.enterV func27 rfl (rs:= [.tmp 4]) results27 ntmps27 ?_
 refine kf ?_
 by_cases nN:a.length=b.length
 ·have d1: ((a.length:Int) !=(b.length:Int))=false:=by rw[nN];exact bne_self_eq_false _
  refine ky (aN @sD (aN @ln1 (aN @ln2 @d1))) ?_
  refine Cw.loopG (G:=Nat) [11,12,13,14,17,18,19,20,21,22,23,24,25,4,15,16,5] (fun g=> [(5,vi g)]) (fun g=> []) (fun g=>g≤a.length∧a.take g=b.take g) (fun g=>a.length - g) 0 rfl rfl ?_ ?_
  ·exact⟨aV _,rfl⟩
  intro k jk hk
  refine kv ?_
  obtain⟨cS,cZ⟩:=hk
  by_cases aC:k<a.length
  ·have ya:k<b.length:=by omega
   have d2:decide ((k:Int)< (a.length:Int))=true:=aK oM
   have ixa:=hra.idx true k aC
   have ixb:=kA.idx true k ya
   have rda:=hra.has (show 0<a.length by omega)
   have rdb:=kA.has (show 0<b.length by omega)
   have lda:=Fs hra aC
   have ldb:=Fs kA ya
   have cF:a.take (k+1)=b.take (k+1)↔a.getD k fi0=b.getD k fi0:=by
    rw[StP.take_snoc (z:=fi0) aC,StP.take_snoc (z:=fi0) ya,cZ]
    constructor
    ·intro h;simpa using h
    intro h;rw[h]
   have dF:a=b→a.getD k fi0=b.getD k fi0:=fun h=>by rw[h]
   generalize a.getD k fi0=x at*
   generalize b.getD k fi0=y at*
   refine ky (aN @sD (aN @ln1 @d2)) ?_
   refine Cw.regionS [ra,rb] [0,1,2,4,5,6,3,7,8] [] kR kR kR ?_
   simp only[ai, ↓ah, ↓ab, ↓ag, ↓ae,ac]
   refine kq (aN @sD (aN @ixa (aN @ixb (aN @rda (aN @rdb (aN @lda @ldb)))))) ?_
   cases hq: (x.dir==y.dir&&x.name==y.name&&x.data==y.data) with
   |true=>
    have e:x=y:=by
     simp only[Bool.and_eq_true,beq_iff_eq] at hq
     cases x;cases y;simp only at hq;obtain⟨⟨rfl,rfl⟩,rfl⟩:=hq;rfl
    refine ky (aN @sD @hq) ?_
    exact Again.mk (k+1) oM ⟨aC,cF.2 e⟩ rfl rfl
   |false=>
    refine ky (aN @sD @hq) ?_
    refine⟨_,(ke @sD),trivial, ?_⟩
    (rw[aO (fun h=>by have e:=dF h;rw[e] at hq;simp at hq)];rfl)
  obtain rfl:k=a.length:=by omega
  have d2:decide ((a.length:Int)< (a.length:Int))=false:=aO oM
  refine ky (aN @sD (aN @ln1 @d2)) ?_
  refine⟨_,(ke @sD),trivial, ?_⟩
  (rw[List.take_length,nN,List.take_length] at cZ;rw[aK cZ];rfl)
 have d1: ((a.length:Int) !=(b.length:Int))=true:=bne_iff_ne.2 oM
 refine ky (aN @sD (aN @ln1 (aN @ln2 @d1))) ?_
 refine⟨_,(ke @sD),trivial, ?_⟩
 (rw[aO (fun h=>nN (by rw[h]))];rfl)
end Go.Proofs
end
section
open Go Go.Proofs Go.Sx Go.StP
namespace Go.Proofs
def Uu {w:World} {L:aB} (hg:lU w) (hn:New w.heap.size L):0∉keys L:=by
 obtain⟨e,fz,zr⟩:=hg
 exact hn.not (Array.getElem?_eq_some_iff.1 zr).1
end Go.Proofs
end
section
open Go Go.Proofs Go.Sx Go.StP Go.Flo
namespace Go.Proofs
theorem ActOk.old {w w':World} {L:aB} {a:ActL} (h:ActOk w a) (hw:Hp w L w') (hn:New w.heap.size L):ActOk w' a:=
 ⟨h.pk.old hw fun hl _b hb=>hn.not (h.pk.blk hl hb),h.n⟩
def UT {S S':DiskL} {kind:Int} {dir name s:List UInt8} {e:Nat} (h:StepD S kind dir name s S' e):S'.files.length≤S.files.length+1:=by
 obtain⟨-,aq,-⟩:=jA S
 cases h with
 |same=>exact Nat.le_succ _
 |burn=>rw[aq];exact Nat.le_succ _
 |create=>show((aH S).1.files++ [cg]).length≤_;rw[aq,List.length_append];exact bq _
 |append=>show((aH S).1.files.set _ _).length≤_;rw[List.length_set,aq];exact Nat.le_succ _
 |sync=>show((aH S).1.files.set _ _).length≤_;rw[List.length_set,aq];exact Nat.le_succ _
 |syncDir=>show(aH S).1.files.length≤_;rw[aq];exact Nat.le_succ _
 |rename=>show(aH S).1.files.length≤_;rw[aq];exact Nat.le_succ _
 |remove=>show(aH S).1.files.length≤_;rw[aq];exact Nat.le_succ _
def TB (S:DiskL) (pl:List UInt16): (eL S pl).files.length=S.files.length:=by
 have hf: ∀ (l:NmL) (q:DiskL×List UInt16),(l.foldl eI q).1.files.length=q.1.files.length:=fun l=>by
  induction l with
  |nil=>exact fun _=>rfl
  |cons a l ih=>
   intro q
   rw[List.foldl_cons,ih]
   show(q.1.files.set _ _).length=_
   rw[List.length_set]
 have hm: ∀ (q:DiskL×List UInt16) k,(ew q k).1.files.length=q.1.files.length:=fun q k=>by
  induction k with
  |zero=>rfl
  |succ k ih=>show(List.foldl eI _ _).1.files.length=_;rw[hf,ih]
 unfold eL
 rw[hm]
 show(dX (S,pl) 3).1.files.length=_
 rw[KL]
def XY (q:Int) (l:List FiL): (ofD q l).files.length≤l.length:=by
 have: ∀i,i≤l.length→(ofN l q i).files.length≤i∧ ∀k,((ofN l q i).dir k).seen.length≤i:=fun i=>by
  induction i with
  |zero=>exact fun _=>⟨bq _,fun _=>bq _⟩
  |succ i ih=>exact fun h=>by rw[Ej l q oM];exact C3 _ _ (ih oM)
 have h:=(this l.length (bq _)).1
 unfold ofN at h
 rw[List.take_length] at h
 exact h
def DkP.worldM {X L:aB} {G:DkG} {S:DiskL} {w0 w:World} (h:DkP X G S) (hw:Hp w0 L w) (hm: ∀p,p∈X→p∈L):DkW w G S:=⟨X,fun b o hb=>hw.has b o (hm _ (cQ hb)),h⟩
def DcP.worldM {X L:aB} {G:DcG} {S:DiskL} {w0 w:World} (h:DcP X G S) (hw:Hp w0 L w) (hm: ∀p,p∈X→p∈L):DcW w G S:=⟨X,fun b o hb=>hw.has b o (hm _ (cQ hb)),h⟩
def PN (X:aB) (G:DcG) (S:DiskL) (n:Int) (w:World) (hX: ∀p,p∈X→w.heap[p.1]? =some p.2) (bA: (keys X).Nodup) (hP:DcP X G S) (hn: -9223372036854775808≤n∧n<9223372036854775808):
  Rets prog 23 #[vp G.bd 0,vi n] w (XS w X (fun v D=>v=cM []∧ ∃G',G'.bd=G.bd∧DcP D G' {S with fuse:=n,fused:=decide (0≤n)})):=by
 refine Rets.mono (Rets.chunk hX bA (bY hP.disk) (Om G S n w hn (hX _ (cQ hP.disk)))) ?_
 rintro v D ⟨hE,o,rfl,rfl,rfl⟩
 exact⟨hE,rfl,G,rfl,hP.setD {S with fuse:=n,fused:=decide (0≤n)} rfl rfl⟩
def qM {w0:World} {L X D:aB} {b:Nat} (hC:Came w0 L X D) (hX:b∉keys X) (hL:b∈keys L):b∉keys D:=fun hm=>by
 rcases hC.new b hm with h| ⟨h,-⟩
 ·exact hX h
 have:=ak h hL;omega
end Go.Proofs
end
section
open Go Go.Proofs Go.Sx Go.StP
namespace Go.Proofs
def x9 {S:DiskL} (ok:DkOk S) {k:Nat} (hk:k<3) {c:CallL} (bU:okC (S.dir k).seen c) (hc:c.kind=0→c.n<S.files.length):DkOk (gd S k c):=
 AJ ok _ (wr c (ok.seen k hk)) (ok.stl k hk) (Iz (ok.seenN k hk) bU hc) (ok.stlN k hk) (fun d hd=>by
  rcases List.mem_append.1 hd with hd|hd
  ·exact ok.pendN k hk d hd
  rw[List.mem_singleton.1 hd];exact hc)
def FW {S S':DiskL} {kind:Int} {dir name s:List UInt8} {e:Nat} (ok:DkOk S) (h:StepD S kind dir name s S' e):DkOk S':=by
 obtain⟨aW,aq,-⟩:=jA S
 have okb:=pP ok
 cases h with
 |same=>exact ok
 |burn=>exact okb
 |create k hk hf hn hb=>
  refine x9 (E4 okb ⟨aV _,bq _⟩) (dT hk).1 (fun e=>by cases e) fun _=> ?_
  show S.files.length< ((aH S).1.files++ [cg]).length
  rw[aq,List.length_append];exact Nat.lt_succ_self _
 |append k m hk hm hf hb=>
  have sR:=ok.seenN k (dT hk).1 _ (iG hm)
  obtain⟨h1,h2⟩:=sf ok (n:=m) sR
  refine zT okb ⟨?_, ?_⟩
  ·rw[List.length_append]
   unfold jF at hf
   simp only[Bool.or_eq_false_iff,decide_eq_false_iff_not] at hf
   have:=hf.1.1
   show(aE S m).data.length+s.length≤1048576
   omega
  rw[List.length_append]
  show(aE S m).stl≤ (aE S m).data.length+s.length
  omega
 |sync k m hk hm hb=>
  have sR:=ok.seenN k (dT hk).1 _ (iG hm)
  obtain⟨h1,h2⟩:=sf ok (n:=m) sR
  exact zT okb ⟨h1,bq _⟩
 |syncDir k hk hb=>
  have aj:=(dT hk).1
  exact AJ okb _ (okb.seen k aj) (okb.seen k aj) (okb.seenN k aj) (okb.seenN k aj) fun c hc=>by cases hc
 |rename k m h4 hk hm hf aX hb=>
  exact x9 okb (dT hk).1 (by rw[aW];exact tH hm aX) fun e=>by cases e
 |remove k m hk hm hb=>exact x9 okb (dT hk).1 (fun e=>by cases e) fun e=>by cases e
structure DsA (S:DiskL) (N:Nat):Prop where
 ok:DkOk S
 B:DkN N S
 fl:S.files.length≤N
def DsA.step {S S':DiskL} {N:Nat} {kind:Int} {dir name s:List UInt8} {e:Nat} (h:DsA S N) (bK:StepD S kind dir name s S' e) (hn:name.length≤1000000) (hs:s.length≤1000000):DsA S' (N+1):=
 ⟨FW h.ok bK,EO h.B hn hs bK,Nat.le_trans (UT bK) (Nat.succ_le_succ h.fl)⟩
theorem DsA.mono {S:DiskL} {N M:Nat} (h:DsA S N) (hm:N≤M):DsA S M:=⟨h.ok,h.B.mono hm,Nat.le_trans h.fl hm⟩
def DsA.do {S:DiskL} {N:Nat} (h:DsA S N) (_hN:N<900000) (kind:Int) (dir name s:List UInt8) (hn:name.length≤1000000) (hs:s.length≤1000000):DsA (doV S kind dir name s).1 (N+1):=h.step (X9 S kind dir name s) hn hs
def sb (X:aB) (G:DcG) (S:DiskL) (N:Nat) (kind:Int) (dir name s:List UInt8) (w:World) (hX: ∀p,p∈X→w.heap[p.1]? =some p.2) (hn: (keys X).Nodup) (hP:DcP X G S) (hA:DsA S N) (hN:N<900000) (hK:0≤kind∧kind<6) (gH:name.length≤1000000) (bh:s.length≤1000000):
  Rets prog 55 #[vp G.bd 0,vi kind,vs dir,vs name,vs s] w (XS w X (DoS G (doV S kind dir name s))):=
 VP X G S kind dir name s w hX hn hP hA.ok (hA.B.b oM) hK oM oM (fun k _=>by have:=(hA.B k).stl;omega) (by have:=hA.fl;omega) (by have:=Et hA.ok hA.B;omega)
def cb (light:Bool):List Nat:=if light=true then [1,2,3,5] else [1,2,3,4,5,6]
def bH (s:Nat) (dir nm data:List UInt8) (S:DiskL):DiskL×Nat:=
 if s=1 then fo S dir (aY nm) else if s=2 then kE S dir (aY nm) else if s=3 then iC S dir (aY nm) data else if s=4 then cu S dir (aY nm) else if s=5 then jg S dir (aY nm) nm else eZ S dir
def gf (s:Nat) (made:Bool) (e:Nat):Bool:=if s=2 then e==0 else if s=5 then made&&e !=0 else made
structure DsR where
 done:Bool
 e:Nat
 k:Nat
 made:Bool
 S:DiskL
def atK (k:Nat) (dir nm:List UInt8) (S:DiskL):Nat:=if k=0∧(d8 S dir (aY nm)).2≠0 then 1 else k
def fL (light:Bool) (k:Nat) (made:Bool) (dir nm data:List UInt8) (S:DiskL):DsR:=
 let k1:=atK k dir nm S
 let s:=(cb light).getD k1 0
 let r:=bH s dir nm data S
 let m:=gf s made r.2
 if r.2≠0 then⟨false,r.2,k1+1,m,if m=true∧r.2≠9 then(fo r.1 dir (aY nm)).1 else r.1⟩ else⟨k1+1==(cb light).length,0,k1+1,m,r.1⟩
def fV:Nat→Bool→Nat→Bool→List UInt8→List UInt8→List UInt8→DiskL→Nat×DiskL
 |0,_,_,_,_,_,_,S=>(0,S)
 |f+1,light,k,made,dir,nm,data,S=>if(fL light k made dir nm data S).done=true∨(fL light k made dir nm data S).e≠0 then((fL light k made dir nm data S).e,(fL light k made dir nm data S).S) else fV f light (fL light k made dir nm data S).k (fL light k made dir nm data S).made dir nm data (fL light k made dir nm data S).S
def w3 (f:Nat) (light:Bool) (k:Nat) (made:Bool) (dir nm data:List UInt8) (S:DiskL):fV (f+1) light k made dir nm data S=(if(fL light k made dir nm data S).done=true∨(fL light k made dir nm data S).e≠0 then((fL light k made dir nm data S).e,(fL light k made dir nm data S).S) else fV f light (fL light k made dir nm data S).k (fL light k made dir nm data S).made dir nm data (fL light k made dir nm data S).S):=rfl
section
variable {dir nm data:List UInt8}
def sw {p s:Nat} {light made:Bool} (f:Nat) (S:DiskL) (Hk:phT p (tkN dir nm data light p made) S=⟨true,(bH s dir nm data S).2,tkN dir nm data light p (gf s made (bH s dir nm data S).2),(bH s dir nm data S).1⟩):
  phG (f+1) (tkN dir nm data light p made) S=if(bH s dir nm data S).2≠0 then((bH s dir nm data S).2,if gf s made (bH s dir nm data S).2=true∧(bH s dir nm data S).2≠9 then(fo (bH s dir nm data S).1 dir (aY nm)).1 else(bH s dir nm data S).1) else if iI (tkN dir nm data light (p+1) made)=true then(0,(bH s dir nm data S).1) else phG f (tkN dir nm data light (p+1) (gf s made (bH s dir nm data S).2)) (bH s dir nm data S).1:=by
 by_cases he: (bH s dir nm data S).2≠0
 ·rw[DM Hk he,if_pos he]
  by_cases hm:gf s made (bH s dir nm data S).2=true∧(bH s dir nm data S).2≠9
  ·rw[if_pos hm]
   have h2:=congrArg (fun r:StR=>(r.e,r.S)) (show jL ⟨true,(bH s dir nm data S).2,tkN dir nm data light p (gf s made (bH s dir nm data S).2),(bH s dir nm data S).1⟩=_ from if_pos hm)
   exact h2
  rw[if_neg hm]
  have h2:=congrArg (fun r:StR=>(r.e,r.S)) (show jL ⟨true,(bH s dir nm data S).2,tkN dir nm data light p (gf s made (bH s dir nm data S).2),(bH s dir nm data S).1⟩=_ from if_neg hm)
  exact h2
 rw[if_neg he]
 by_cases hn:iI (tkN dir nm data light (p+1) made)=true
 ·rw[Fe Hk (by simpa using he) (by exact hn),if_pos hn]
 have aT:iI (tkN dir nm data light (p+1) made)=false:=by simpa using hn
 rw[wJ (t':=tkN dir nm data light (p+1) (gf s made (bH s dir nm data S).2)) Hk (by simpa using he) (by exact aT) ?_,if_neg hn]
 show TkL.mk _ _ _ _ _ _ (iI (tkN dir nm data light (p+1) made))=_
 rw[aT];rfl
def ve (f:Nat) (light:Bool) {k:Nat} (hk:k≠0) (made:Bool) (S:DiskL) {s:Nat} (hs: (cb light).getD k 0=s):
  fV (f+1) light k made dir nm data S=if(bH s dir nm data S).2≠0 then((bH s dir nm data S).2,if gf s made (bH s dir nm data S).2=true∧(bH s dir nm data S).2≠9 then(fo (bH s dir nm data S).1 dir (aY nm)).1 else(bH s dir nm data S).1) else if(k+1==(cb light).length)=true then(0,(bH s dir nm data S).1) else fV f light (k+1) (gf s made (bH s dir nm data S).2) dir nm data (bH s dir nm data S).1:=by
 have ha:atK k dir nm S=k:=by unfold atK;rw[if_neg (fun h=>hk h.1)]
 by_cases he: (bH s dir nm data S).2≠0
 ·have bK:fL light k made dir nm data S=⟨false,(bH s dir nm data S).2,k+1,gf s made (bH s dir nm data S).2,if gf s made (bH s dir nm data S).2=true∧(bH s dir nm data S).2≠9 then(fo (bH s dir nm data S).1 dir (aY nm)).1 else(bH s dir nm data S).1⟩:=by
   unfold fL
   simp only
   rw[ha,hs,if_pos he]
  rw[w3,bK,if_pos (.inr he),if_pos he]
 have bK:fL light k made dir nm data S=⟨k+1==(cb light).length,0,k+1,gf s made (bH s dir nm data S).2,(bH s dir nm data S).1⟩:=by
  unfold fL
  simp only
  rw[ha,hs,if_neg he]
 rw[w3,bK,if_neg he]
 by_cases hd: (k+1==(cb light).length)=true
 ·rw[if_pos (.inl hd),if_pos hd]
 rw[if_neg (fun h=>by rcases h with h|h;exact hd h;exact h rfl),if_neg hd]
def Tv (f:Nat) (light made:Bool) (S:DiskL) (h: (d8 S dir (aY nm)).2≠0):fV (f+1) light 0 made dir nm data S=fV (f+1) light 1 made dir nm data S:=by
 have h0:atK 0 dir nm S=1:=by unfold atK;rw[if_pos ⟨rfl,h⟩]
 have h1:atK 1 dir nm S=1:=by unfold atK;rw[if_neg (fun h=>by cases h.1)]
 have:fL light 0 made dir nm data S=fL light 1 made dir nm data S:=by unfold fL;simp only;rw[h0,h1]
 rw[w3,w3,this]
def R4 (f:Nat) (light made:Bool) (S:DiskL) (h: (d8 S dir (aY nm)).2=0):
  fV (f+1) light 0 made dir nm data S=if(bH 1 dir nm data S).2≠0 then((bH 1 dir nm data S).2,if gf 1 made (bH 1 dir nm data S).2=true∧(bH 1 dir nm data S).2≠9 then(fo (bH 1 dir nm data S).1 dir (aY nm)).1 else(bH 1 dir nm data S).1) else fV f light 1 (gf 1 made (bH 1 dir nm data S).2) dir nm data (bH 1 dir nm data S).1:=by
 have ha:atK 0 dir nm S=0:=by unfold atK;rw[if_neg (fun h'=>h'.2 h)]
 have hs: (cb light).getD 0 0=1:=by cases light<;>rfl
 have hl: (0+1==(cb light).length)=false:=by cases light<;>rfl
 by_cases he: (bH 1 dir nm data S).2≠0
 ·have bK:fL light 0 made dir nm data S=⟨false,(bH 1 dir nm data S).2,0+1,gf 1 made (bH 1 dir nm data S).2,if gf 1 made (bH 1 dir nm data S).2=true∧(bH 1 dir nm data S).2≠9 then(fo (bH 1 dir nm data S).1 dir (aY nm)).1 else(bH 1 dir nm data S).1⟩:=by
   unfold fL
   simp only
   rw[ha,hs,if_pos he]
  rw[w3,bK,if_pos (.inr he),if_pos he]
 have bK:fL light 0 made dir nm data S=⟨0+1==(cb light).length,0,0+1,gf 1 made (bH 1 dir nm data S).2,(bH 1 dir nm data S).1⟩:=by
  unfold fL
  simp only
  rw[ha,hs,if_neg he]
 rw[w3,bK,if_neg he,if_neg (fun h=>by rcases h with h|h;rw[hl] at h;cases h;exact h rfl)]
def Yk (f:Nat) (made:Bool) (S:DiskL):fV (f+1) false 5 made dir nm data S=phG 1 (tkN dir nm data false 5 made) S:=by
 rw[ve f false (by decide) made S (s:=6) rfl,sw (s:=6) 0 S rfl]
 rfl
def YM (f:Nat) (made:Bool) (S:DiskL):fV (f+2) false 4 made dir nm data S=phG 2 (tkN dir nm data false 4 made) S:=by
 rw[ve (f+1) false (by decide) made S (s:=5) rfl,sw (s:=5) 1 S rfl,Yk]
 rfl
def YN (f:Nat) (made:Bool) (S:DiskL):fV (f+3) false 3 made dir nm data S=phG 3 (tkN dir nm data false 3 made) S:=by
 rw[ve (f+2) false (by decide) made S (s:=4) rfl,sw (s:=4) 2 S rfl,YM]
 rfl
def Zi (f:Nat) (made:Bool) (S:DiskL):fV (f+4) false 2 made dir nm data S=phG 4 (tkN dir nm data false 2 made) S:=by
 rw[ve (f+3) false (by decide) made S (s:=3) rfl,sw (s:=3) 3 S rfl,YN]
 rfl
def Zq (f:Nat) (made:Bool) (S:DiskL):fV (f+5) false 1 made dir nm data S=phG 5 (tkN dir nm data false 1 made) S:=by
 rw[ve (f+4) false (by decide) made S (s:=2) rfl,sw (s:=2) 4 S rfl,Zi]
 rfl
def Y8 (f:Nat) (made:Bool) (S:DiskL):fV (f+1) true 3 made dir nm data S=phG 3 (tkN dir nm data true 3 made) S:=by
 rw[wJ (t':=tkN dir nm data true 4 made) (r:=⟨false,0,tkN dir nm data true 3 made,S⟩) rfl rfl rfl rfl]
 show _=phG 2 (tkN dir nm data true 4 made) S
 rw[ve f true (by decide) made S (s:=5) rfl,sw (s:=5) 1 S rfl]
 rfl
def Yn (f:Nat) (made:Bool) (S:DiskL):fV (f+2) true 2 made dir nm data S=phG 4 (tkN dir nm data true 2 made) S:=by
 rw[ve (f+1) true (by decide) made S (s:=3) rfl,sw (s:=3) 3 S rfl,Y8]
 rfl
def ZH (f:Nat) (made:Bool) (S:DiskL):fV (f+3) true 1 made dir nm data S=phG 5 (tkN dir nm data true 1 made) S:=by
 rw[ve (f+2) true (by decide) made S (s:=2) rfl,sw (s:=2) 4 S rfl,Yn]
 rfl
def GX (f:Nat) (light made:Bool) (S:DiskL):fV (f+5) light 1 made dir nm data S=phG 5 (tkN dir nm data light 1 made) S:=by
 cases light with
 |true=>exact ZH (f+2) made S
 |false=>exact Zq f made S
def UV (light:Bool) (S:DiskL):fV 10 light 0 false dir nm data S=iV S dir nm data light:=by
 unfold iV
 by_cases h: (d8 S dir (aY nm)).2≠0
 ·rw[show fV 10 light 0 false dir nm data S=fV (9+1) light 0 false dir nm data S from rfl,Tv 9 light false S h,show fV (9+1) light 1 false dir nm data S=fV (5+5) light 1 false dir nm data S from rfl,GX]
  exact(show phG 6 (tk0 dir nm data light) S=phG 5 (tkN dir nm data light 1 false) S from wJ (r:=⟨false,0,tk0 dir nm data light,S⟩) (by show sA _ _=_;unfold sA;exact if_pos h) rfl (by cases light<;>rfl) (by cases light<;>rfl)).symm
 have h0: (d8 S dir (aY nm)).2=0:=by simpa using h
 rw[show fV 10 light 0 false dir nm data S=fV (9+1) light 0 false dir nm data S from rfl,R4 9 light false S h0]
 have Hk:phT 0 (tkN dir nm data light 0 false) S=⟨true,(bH 1 dir nm data S).2,tkN dir nm data light 0 (gf 1 false (bH 1 dir nm data S).2),(bH 1 dir nm data S).1⟩:=by
  show sA _ _=_
  unfold sA
  rw[if_neg (by exact h)];rfl
 rw[show phG 6 (tk0 dir nm data light) S=phG (5+1) (tkN dir nm data light 0 false) S from rfl,sw (s:=1) 5 S Hk]
 have he:iI (tkN dir nm data light (0+1) false)=false:=by cases light<;>rfl
 by_cases hr: (bH 1 dir nm data S).2≠0
 ·rw[if_pos hr,if_pos hr]
 rw[if_neg hr,if_neg hr,if_neg (by rw[he];simp),show fV 9 light 1 (gf 1 false (bH 1 dir nm data S).2) dir nm data (bH 1 dir nm data S).1=fV (4+5) light 1 (gf 1 false (bH 1 dir nm data S).2) dir nm data (bH 1 dir nm data S).1 from rfl,GX]
end
structure FulS (S:DiskL):Prop where
 ok:DkOk S
 uniq:kI S
 hist:kN S
 calm:kK S
 fine:oK S
theorem FulS.good {S:DiskL} (h:FulS S):GoodS S:=h.ok.good h.uniq
def FulS.step {S S':DiskL} {kind:Int} {dir name s:List UInt8} {e:Nat} (h:FulS S) (bK:StepD S kind dir name s S' e):FulS S':=
 ⟨FW h.ok bK,So h.ok h.uniq bK,Ct h.hist bK,RK h.calm bK,Sa h.fine bK⟩
def Pj {S:DiskL} {dir x:List UInt8} {k:Nat} (hc:kK S) (hk:bO dir=some k) (hf:bX x=true) {d:List UInt8} (hv:cv S k x=some d) (s:List UInt8) (h1:d.length+s.length≤1048576) (h2: (ct S:Int)+s.length≤S.max): (iC S dir x s).2≠8:=by
 have h0:co S dir [x]=0:=by rw[sY hc hk,if_neg (by simp[hf])]
 obtain⟨n,hn,hd⟩:=AN hv
 have eV:jF S n s=false:=by
  unfold jF
  rw[hd]
  simp only[Bool.or_eq_false_iff,decide_eq_false_iff_not]
  exact⟨⟨by omega,by omega⟩,by omega⟩
 unfold iC
 rw[if_neg (by rw[h0];simp),mz hk,hn]
 simp only
 rw[eV,if_neg (by simp),sj hc,if_neg (by simp)]
 simp
def SX {S:DiskL} (h:FulS S) {nm:List UInt8} (hn:bX nm=true) (hf:bX (aY nm)=true) (data:List UInt8):
  ∃e S',iV S aD nm data true=(e,S')∧FulS S'∧S'.max=S.max∧(∀x,x≠nm→x≠aY nm→cv S' 0 x=cv S 0 x)∧ct S'≤ct S+ (data.length+nm.length)∧cv S' 0 (aY nm)=none∧
   ((e=0∧cv S' 0 nm=some data)∨(e=8∧cv S' 0 nm=cv S 0 nm∧ ¬ (data.length≤1048576∧(ct S:Int)+data.length≤S.max))):=by
 have hk:bO aD=some 0:=rfl
 have hd:cB 0=aD:=rfl
 have tn:nm≠aY nm:=(G8 nm).symm
 have other: ∀ {A B:DiskL} {kind:Int} {s:List UInt8} {e:Nat},FulS A→StepD A kind aD (aY nm) s B e→ ∀x,x≠aY nm→(kind=4→x≠s)→cv B 0 x=cv A 0 x:=fun hA bK x hx h4=>Ce hA.good bK (by decide) fun _=>⟨hx,h4⟩
 have used: ∀ {A B:DiskL} {kind:Int} {e:Nat},FulS A→StepD A kind aD (aY nm) [] B e→ct B≤ct A:=fun hA bK=>wd hA.ok hA.uniq bK
 obtain⟨S1,⟨b0,h0⟩,a1,m1,v1,o1,u1⟩: ∃S1,(∃b,phT 0 (tk0 aD nm data true) S=⟨b,0,tk0 aD nm data true,S1⟩)∧FulS S1∧S1.max=S.max∧cv S1 0 (aY nm)=none∧(∀x,x≠aY nm→cv S1 0 x=cv S 0 x)∧ct S1≤ct S:=by
  have hr:=By h.calm hk hf
  show∃S1,(∃b,sA (tk0 aD nm data true) S=_)∧_
  unfold sA
  cases hv:cv S 0 (aY nm) with
  |none=>
   rw[hv] at hr
   exact⟨S,⟨false,by rw[if_pos (by show(d8 S aD (aY nm)).2≠0;rw[hr];simp)]⟩,h,rfl,hv,fun _ _=>rfl,bq _⟩
  |some d=>
   rw[hv] at hr
   obtain⟨r1,r2⟩:=VJ_ h.calm hk hf hv
   have st:=A9 S aD (aY nm) []
   refine⟨(fo S aD (aY nm)).1,⟨true, ?_⟩,h.step st,An st,r2,fun x hx=>other h st x hx fun e=>absurd e (by decide),used h st⟩
   rw[if_neg (by show¬ (d8 S aD (aY nm)).2≠0;rw[hr];simp)]
   show PhR.mk true (fo S aD (aY nm)).2 _ _=_
   rw[r1];rfl
 obtain⟨r1,r2⟩:=Pi a1.good a1.calm hk hf v1
 have st2:=KV S1 aD (aY nm) []
 have a2:=a1.step st2
 have m2:=(An st2).trans m1
 have o2:=fun x hx=>other a1 st2 x hx fun e=>absurd e (by decide)
 have u2:=Nat.le_trans (used a1 st2) u1
 have h1:phT 1 (tkN aD nm data true 1 false) S1=⟨true,0,tkN aD nm data true 1 true,(kE S1 aD (aY nm)).1⟩:=by
  show PhR.mk true (kE S1 aD (aY nm)).2 {tkN aD nm data true 1 false with made:=(kE S1 aD (aY nm)).2==0} _=_
  rw[r1];rfl
 clear st2
 generalize (kE S1 aD (aY nm)).1=S2 at*
 have st3:=Kg S2 aD (aY nm) data
 have a3:=a2.step st3
 have m3:=(An st3).trans m2
 have o3:=fun x hx=>other a2 st3 x hx fun e=>absurd e (by decide)
 have u3:=wd a2.ok a2.uniq st3
 have h2:phT 2 (tkN aD nm data true 2 true) S2=⟨true,(iC S2 aD (aY nm) data).2,tkN aD nm data true 2 true,(iC S2 aD (aY nm) data).1⟩:=rfl
 have hp:iV S aD nm data true=phG 4 (tkN aD nm data true 2 true) S2:=by
  unfold iV
  rw[wJ (t':=tkN aD nm data true 1 false) h0 rfl rfl rfl,wJ (t':=tkN aD nm data true 2 true) h1 rfl rfl rfl]
 rcases P0 a2.good a2.calm hk hf r2 data with⟨b1,b2⟩ | ⟨b1,b2⟩
 ·have st4:=A9 S2 aD (aY nm) []
  obtain⟨-,w2⟩:=VJ_ a2.calm hk hf r2
  refine⟨8,(fo S2 aD (aY nm)).1, ?_,a2.step st4,(An st4).trans m2,fun x _ hx=>(other a2 st4 x hx fun e=>absurd e (by decide)).trans ((o2 x hx).trans (o1 x hx)), ?_,w2, .inr ⟨rfl,(other a2 st4 nm tn fun e=>absurd e (by decide)).trans ((o2 nm tn).trans (o1 nm tn)),fun hr=> ?_⟩⟩
  ·rw[hp,DM h2 (by show(iC S2 aD (aY nm) data).2≠0;rw[b1];simp)]
   unfold jL
   rw[if_pos ⟨rfl,by show(iC S2 aD (aY nm) data).2≠9;rw[b1];simp⟩]
   show((iC S2 aD (aY nm) data).2,(fo (iC S2 aD (aY nm) data).1 aD (aY nm)).1)=_
   rw[b1,b2]
  ·have:=used a2 st4;omega
  exact Pj a2.calm hk hf r2 data (by have:=hr.1;simp;omega) (by rw[m2];have:=hr.2;omega) b1
 rw[List.nil_append] at b2
 clear st3
 generalize (iC S2 aD (aY nm) data).1=S3 at*
 have h3:phT 3 (tkN aD nm data true 3 true) S3=⟨false,0,tkN aD nm data true 3 true,S3⟩:=rfl
 obtain⟨c1,c2,c3⟩:=Or0 a3.good a3.calm hk hf hn (G8 nm) b2
 have st5:=Kc S3 aD (aY nm) nm
 have h4:phT 4 (tkN aD nm data true 4 true) S3=⟨true,0,tkN aD nm data true 4 false,(jg S3 aD (aY nm) nm).1⟩:=by
  show PhR.mk true (jg S3 aD (aY nm) nm).2 {tkN aD nm data true 4 true with made:=true&& (jg S3 aD (aY nm) nm).2 !=0} _=_
  rw[c1];rfl
 have u5:=wd a3.ok a3.uniq st5
 refine⟨0,(jg S3 aD (aY nm) nm).1, ?_,a3.step st5,(An st5).trans m3,fun x hx uW=>(other a3 st5 x uW fun _=>hx).trans ((o3 x uW).trans ((o2 x uW).trans (o1 x uW))),by omega,c3, .inl ⟨rfl,c2⟩⟩
 rw[hp,wJ (t':=tkN aD nm data true 3 true) h2 b1 rfl rfl]
 show phG 3 _ S3=_
 rw[wJ (t':=tkN aD nm data true 4 true) h3 rfl rfl rfl,Fe h4 rfl rfl]
def O5 {S:DiskL} (h:FulS S) {nm d:List UInt8} (hn:bX nm=true) (hv:cv S 0 nm=some d):
  (cu S aD nm).2=0∧(eZ (cu S aD nm).1 aD).2=0∧FulS (eZ (cu S aD nm).1 aD).1∧(∀x,cv (eZ (cu S aD nm).1 aD).1 0 x=cv S 0 x)∧(eZ (cu S aD nm).1 aD).1.dir 0=⟨(S.dir 0).seen,(S.dir 0).seen,[]⟩∧ ∃n,KeepS (eZ (cu S aD nm).1 aD).1 0 nm n d:=by
 have hk:bO aD=some 0:=rfl
 have st1:=JL S aD nm []
 have a1:=h.step st1
 have st2:=KK (cu S aD nm).1 aD [] []
 obtain⟨s1,s2⟩:=Sg h.good h.calm hk hn hv
 obtain⟨d1,d2⟩:=Nw a1.calm hk
 obtain⟨n,fG,hdn⟩:=AN hv
 have cT:=h.good.lt 0 (by decide) _ (iG fG)
 have h0:co S aD [nm]=0:=by rw[sY h.calm hk,if_neg (by simp[hn])]
 have e1: (cu S aD nm).1=eG S n ⟨(aE S n).data,(aE S n).data.length⟩:=by
  unfold cu
  rw[if_neg (by rw[h0];simp),mz hk,fG]
  simp only
  rw[sj h.calm,if_neg (by simp)]
 have e2: (eZ (cu S aD nm).1 aD).1=mh (cu S aD nm).1 0:=by
  have h1:co (cu S aD nm).1 aD []=0:=by rw[sY a1.calm hk,if_neg (by simp)]
  unfold eZ
  rw[if_neg (by rw[h1];simp),sj a1.calm,if_neg (by simp),hk]
  rfl
 refine⟨s1,d1,a1.step st2,fun x=>(d2 0 x).trans ?_,by rw[e2,e1];rfl,n, ?_⟩
 ·by_cases hx:x=nm
  ·rw[hx,s2,hv]
  exact Ce h.good st1 (by decide) fun _=>⟨hx,fun e=>absurd e (by decide)⟩
 have hf:aE (eG S n ⟨(aE S n).data,(aE S n).data.length⟩) n=⟨(aE S n).data,(aE S n).data.length⟩:=by rw[va _ _ cT,if_pos rfl]
 rw[e2,e1]
 refine⟨?_, ?_, ?_, ?_,fun c hc=>by cases hc⟩
 ·show n< (eG S n _).files.length
  unfold eG
  simpa using cT
 ·show(aE (eG S n _) n).data=d
  rw[hf];exact hdn
 ·show(aE (eG S n _) n).stl=(aE (eG S n _) n).data.length
  rw[hf]
 show aM (S.dir 0).seen nm=some n
 exact fG
end Go.Proofs
end
section
open Go Go.Proofs Go.Sx Go.Dig
namespace Go.Proofs
def cH:=aN (aN @av @au) (aN @Sx.tup2_0 @Sx.tup2_1)
def DV (b:UInt8) (w:World):Rets prog 103 #[v8 b] w (fun v D=>v=vi (fr b)∧D= []):=by
 refine Rets.enterV func103 rfl (rs:= [.tmp 2]) results103 ntmps103 ?_
 refine kf ?_
 refine ky @cH ?_
 refine Cw.loopG (G:=Nat) [5,6,3,7,8,9,10,11,2,12,4] (fun g=> [(4,vi g)]) (fun g=> []) (fun g=>g≤16∧ ∀i,i<g→hexL.getD i 0≠b) (fun g=>16 - g) 0 rfl rfl ?_ ?_
 ·exact⟨by omega,by omega⟩
 intro g j hg
 refine kv ?_
 obtain⟨hg,aX⟩:=hg
 by_cases aC:g<16
 ·cases hb: (hexL.getD g 0==b)
  ·have dO:=hb
   simp only[hexL] at dO
   refine ky (aN @cH @dO) ?_
   refine Again.mk (g+1) oM ⟨by omega, ?_⟩ rfl rfl
   intro i hi
   by_cases he:i=g
   ·subst he;simpa using hb
   exact aX i oM
  have dO:=hb
  simp only[hexL] at dO
  refine ky (aN @cH @dO) ?_
  exact⟨_,rfl,trivial,by rw[XT b g aC hb];rfl⟩
 refine ky @cH ?_
 exact⟨_,rfl,trivial,by rw[XD b (fun i hi=>aX i oM)];rfl⟩
def QB (b:UInt8) (w:World):Rets prog 104 #[v8 b] w (fun v D=>v=vi (fr b)∧D= []):=by
 refine Rets.enterV func104 rfl (rs:= [.tmp 2]) results104 ntmps104 ?_
 refine kf ?_
 have hb:=b.toNat_lt
 unfold fr
 by_cases h1:48≤b
 ·have d1:=aK h1
  rw[UInt8.le_iff_toNat_le] at h1
  simp only[UInt8.reduceToNat] at h1
  by_cases h2:b≤57
  ·have d2:=aK h2
   rw[UInt8.le_iff_toNat_le] at h2
   simp only[UInt8.reduceToNat] at h2
   refine ky (aN @cH (aN @d1 @d2)) ?_
   exact⟨_,rfl,trivial,by show vi _=_;rw[if_pos ⟨h1,h2⟩]⟩
  have d2:=aO h2
  rw[UInt8.le_iff_toNat_le] at h2
  simp only[UInt8.reduceToNat] at h2
  by_cases h3:97≤b
  ·have d3:=aK h3
   rw[UInt8.le_iff_toNat_le] at h3
   simp only[UInt8.reduceToNat] at h3
   by_cases h4:b≤102
   ·have d4:=aK h4
    rw[UInt8.le_iff_toNat_le] at h4
    simp only[UInt8.reduceToNat] at h4
    refine ky (aN @cH (aN @d1 (aN @d2 (aN @d3 @d4)))) ?_
    exact⟨_,rfl,trivial,by show vi _=_;rw[if_neg oM,if_pos ⟨h3,h4⟩]⟩
   have d4:=aO h4
   rw[UInt8.le_iff_toNat_le] at h4
   simp only[UInt8.reduceToNat] at h4
   refine ky (aN @cH (aN @d1 (aN @d2 (aN @d3 @d4)))) ?_
   exact⟨_,rfl,trivial,by show vi _=_;rw[if_neg oM,if_neg oM]⟩
  have d3:=aO h3
  rw[UInt8.le_iff_toNat_le] at h3
  simp only[UInt8.reduceToNat] at h3
  refine ky (aN @cH (aN @d1 (aN @d2 @d3))) ?_
  exact⟨_,rfl,trivial,by show vi _=_;rw[if_neg oM,if_neg oM]⟩
 have d1:=aO h1
 have h3: ¬97≤b:=by
  rw[UInt8.le_iff_toNat_le] at h1 ⊢
  simp only[UInt8.reduceToNat] at h1 ⊢
  omega
 have d3:=aO h3
 rw[UInt8.le_iff_toNat_le] at h1
 simp only[UInt8.reduceToNat] at h1
 refine ky (aN @cH (aN @d1 @d3)) ?_
 exact⟨_,rfl,trivial,by show vi _=_;rw[if_neg oM,if_neg oM]⟩
def QQ (l:List UInt8) (w:World):Rets prog 58 #[vs l] w (fun v D=>v= .tuple #[.agg (a8 (mV l)), .bool (mj l)]∧D= []):=by
 refine Rets.enterV func58 rfl (rs:= [.cell 2 39, .tmp 3]) results58 ntmps58 ?_
 refine kf ?_
 refine ky @cH ?_
 refine Ow.alloc rfl rfl zr39 fun b1 _ aI=> ?_
 refine ko @cH ?_
 refine ky @cH ?_
 refine Ow.alloc rfl rfl zr39 fun b2 aq bV=> ?_
 obtain⟨oe,-⟩:=aq
 refine ko @cH ?_
 by_cases kX:l.length=64
 ·refine ky @cH ?_
  refine Cw.loopG (G:=Nat) [13,14,5,15,16,17,18,19,20,21,22,23,24,25,6,7,26,27,28,29,30,31,32,3,33,34,35,36,37,38,39,40,12] (fun g=> [(12,vi g),(3, .bool false)]) (fun g=> [(b1, .cells (a8 (List.replicate 32 0)) 39),(b2, .cells (a8 (vh l g)) 39)]) (fun g=>g≤32∧ ∀i,i<2*g→0≤fr (l.getD i 0)) (fun g=>32 - g) 0 rfl rfl ?_ ?_
  ·exact⟨by omega,by omega⟩
  intro g j hg
  refine kv ?_
  obtain⟨hg,hd⟩:=hg
  have aP:=VF_ l g hg
  by_cases aC:g<32
  ·have d1:=Lf (l.getD (2*g) 0)
   have d2:=Lf (l.getD (2*g+1) 0)
   refine ky @cH ?_
   refine Cw.regionO [0,1,2,3,5,6,7,8,9,4,10,11,12] [] rfl kR kR ?_
   simp only[ai, ↓ah, ↓ab, ↓ag, ↓ae,ac]
   refine kq @cH ?_
   refine Ow.callFV rfl call103 (fun w' _=>DV _ w') ?_
   refine kq @cH ?_
   refine Ow.callFV rfl call103 (fun w' _=>DV _ w') ?_
   refine kq @cH ?_
   by_cases mK:fr (l.getD (2*g) 0)<0
   ·have e1:=aK mK
    refine ky (aN @cH @e1) ?_
    refine Ow.build (.agg (a8 (List.replicate 32 0))) rfl kR ?_
    refine ko @cH ?_
    refine ky @cH ?_
    have ho:=wR l (2*g) kX oM mK
    refine⟨_,(ke @cH),⟨aI,bV,trivial⟩, ?_⟩
    rw[mV,ho];rfl
   have e1:=aO mK
   by_cases qG:fr (l.getD (2*g+1) 0)<0
   ·have e2:=aK qG
    refine ky (aN @cH (aN @e1 @e2)) ?_
    refine Ow.build (.agg (a8 (List.replicate 32 0))) rfl kR ?_
    refine ko @cH ?_
    refine ky @cH ?_
    have ho:=wR l (2*g+1) kX oM qG
    refine⟨_,(ke @cH),⟨aI,bV,trivial⟩, ?_⟩
    rw[mV,ho];rfl
   have e2:=aO qG
   have hb:=nib (fr (l.getD (2*g) 0)) (fr (l.getD (2*g+1) 0)) oM oM oM
   refine ky (aN @cH (aN @e1 (aN @e2 @hb))) ?_
   refine Again.mk (g+1) oM ⟨by omega, ?_⟩ ?_ rfl
   ·intro i hi
    rcases Nat.lt_or_ge i (2*g) with h|h
    ·exact hd i h
    rcases Nat.eq_or_lt_of_le h with h|h
    ·rw[←h];omega
    have:i=2*g+1:=by omega
    rw[this];omega
   exact congrArg (fun z=> [(b1,Obj.cells (a8 (List.replicate 32 0)) 39),(b2,Obj.cells (a8 z) 39)]) (Mu l g aC _ rfl)
  have nI:g=32:=by omega
  subst nI
  refine ky @cH ?_
  have ho:=LP l kX (fun i hi=>hd i oM)
  refine⟨_,(ke @cH),⟨aI,bV,trivial⟩, ?_⟩
  rw[mV,ho];show Value.tuple #[.agg (a8 (vh l 32)),_]=_;simp[vh]
 refine ky @cH ?_
 refine⟨_,(ke @cH),⟨aI,bV,trivial⟩, ?_⟩
 rw[J9 l kX,mV,J9 l kX];rfl
def Mo (l:List UInt8) (w:World):Rets prog 60 #[vs l] w (fun v D=>v= .tuple #[.agg (a8 (mV l)), .bool (mj l)]∧D= []):=by
 refine Rets.enterV func60 rfl (rs:= [.cell 2 39, .tmp 3]) results60 ntmps60 ?_
 refine kf ?_
 refine ky @cH ?_
 refine Ow.alloc rfl rfl zr39 fun b1 _ aI=> ?_
 refine ko @cH ?_
 by_cases kX:l.length=64
 ·refine ky @cH ?_
  refine Ow.alloc rfl rfl zr39 fun b2 aq bV=> ?_
  obtain⟨oe,-⟩:=aq
  refine ko @cH ?_
  refine ky @cH ?_
  rw[←P4 l]
  refine Cw.loopG (G:=Nat) [11,12,15,16,17,18,6,19,20,21,3,22,23,24,25,26,27,28,29,30,31,32,13,14,5] (fun g=> [(5,vi g),(3, .bool false)]) (fun g=> [(b1, .cells (a8 (List.replicate 32 0)) 39),(b2, .cells (a8 (lK l g)) 39)]) (fun g=>g≤64∧ ∀i,i<g→0≤fr (l.getD i 0)) (fun g=>64 - g) 0 rfl rfl ?_ ?_
  ·exact⟨by omega,by omega⟩
  intro g j hg
  refine kv ?_
  obtain⟨hg,hd⟩:=hg
  have aP:=Ml l g
  by_cases aC:g<64
  ·have d1:=Lf (l.getD g 0)
   refine ky @cH ?_
   refine Ow.callFV rfl call104 (fun w' aA=>QB _ w') ?_
   refine ko @cH ?_
   by_cases mK:fr (l.getD g 0)<0
   ·refine ky @cH ?_
    refine Ow.build (.agg (a8 (List.replicate 32 0))) rfl kR ?_
    refine ko @cH ?_
    refine ky @cH ?_
    have ho:=wR l g kX oM mK
    refine⟨_,(ke @cH),⟨aI,bV,trivial⟩, ?_⟩
    rw[mV,ho];rfl
   refine ky @cH ?_
   refine Again.mk (g+1) oM ⟨by omega, ?_⟩ ?_ rfl
   ·intro i hi
    rcases Nat.lt_or_ge i g with h|h
    ·exact hd i h
    have:i=g:=by omega
    rw[this];omega
   exact congrArg (fun z=> [(b1,Obj.cells (a8 (List.replicate 32 0)) 39),(b2,Obj.cells (a8 z) 39)]) (OL l g aC)
  have nI:g=64:=by omega
  subst nI
  refine ky @cH ?_
  have ho:=LP l kX (fun i hi=>hd i oM)
  refine⟨_,(ke @cH),⟨aI,bV,trivial⟩, ?_⟩
  rw[mV,ho,←Q5];rfl
 refine ky @cH ?_
 refine Ow.build (.agg (a8 (List.replicate 32 0))) rfl kR ?_
 refine ko @cH ?_
 refine ky @cH ?_
 refine⟨_,(ke @cH),⟨aI,trivial⟩, ?_⟩
 rw[J9 l kX,mV,J9 l kX];rfl
def cutV (s p:List UInt8):List UInt8×Bool:=if(decide (p.length≤s.length)&& (s.take p.length==p))=true then(s.drop p.length,true) else(s,false)
def NK (s p:List UInt8) (w:World) (hs:s.length<1099511627776):Rets prog 127 #[vs s,vs p] w (fun v D=>v= .tuple #[vs (cutV s p).1, .bool (cutV s p).2]∧D= []):=by
 refine Rets.enterV func127 rfl (rs:= [.tmp 4, .tmp 5]) results127 ntmps127 ?_
 refine kf ?_
 refine ky @cH ?_
 refine Ow.callFV rfl call152 (fun w' aA=>Ma s p w' hs) ?_
 refine ko @cH ?_
 unfold cutV
 cases h: (decide (p.length≤s.length)&& (s.take p.length==p))
 ·refine ky @cH ?_
  refine⟨_,(ke @cH),trivial, ?_⟩
  rfl
 have dc:p.length≤s.length:=by
  rw[Bool.and_eq_true,decide_eq_true_eq] at h;exact h.1
 refine ky @cH ?_
 refine⟨_,(ke @cH),trivial, ?_⟩
 rfl
def OW (s p:List UInt8) (w:World) (hs:s.length<1099511627776):Rets prog 91 #[vs s,vs p] w (fun v D=>v= .tuple #[vs (cutV s p).1, .bool (cutV s p).2]∧D= []):=by
 refine Rets.enterV func91 rfl (rs:= [.tmp 4, .tmp 5]) results91 ntmps91 ?_
 refine kf ?_
 refine ky @cH ?_
 refine Ow.callFV rfl call127 (fun w' aA=>NK s p w' hs) ?_
 refine Ow.go rfl ?_
 simp(disch:=first|exact dD|fail) only[↓Sx.S0,Sx.S1,fx,cH,Nat.reduceAdd,Nat.reducePow,Int.reducePow,Nat.reduceBEq, ↓reduceIte,UInt8.reduceToNat,UInt16.reduceToNat,UInt32.reduceToNat,UInt64.reduceToNat,Int.reduceToNat,Sx.tup2_0,Sx.tup2_1]
 refine ky @cH ?_
 refine⟨_,(ke @cH),trivial, ?_⟩
 rfl
def oX:=aN (aN @av @au) (aN @Sx.tup2_0 @Sx.tup2_1)
def Iy {w:World} (h:GlobC w): (4:Nat)<w.heap.size:=by
 obtain⟨e,f,h⟩:=h
 exact(Array.getElem?_eq_some_iff.1 h).1
def ee (k:Int) (t:List UInt8):List UInt8:=nb (83::76::79::49::fI k t)
def zH (id:List UInt8) (lu:id.length=32) (w:World):Rets prog 31 #[.agg (a8 id)] w (fun v D=>v=vs (aL id)∧D= []):=by
 refine Rets.enterV func31 rfl (rs:= [.tmp 2]) results31 ntmps31 ?_
 refine kf ?_
 refine ky @oX ?_
 refine Ow.box rfl rfl fun b1 aW aI=> ?_
 refine ko @oX ?_
 refine ky @oX ?_
 refine Ow.callFV rfl call65 (fun w' aA=>Vs id lu w') ?_
 refine ko @oX ?_
 refine ky @oX ?_
 refine⟨_,(ke @oX),⟨aI,trivial⟩, ?_⟩
 rfl
def lH:=aN (aN (aN @av @au) (aN @Sx.tup2_0 (aN @Sx.tup2_1 @j7))) (aN (aN @jB @j9) (aN @j8 (aN @Db @DY)))
def Ny (k:Int) (t:List UInt8) (w:World) (hG:GlobC w):Rets prog 45 #[obV k t] w (XS w [] (fun v _=>v=if cm k t then .tuple #[vs (ee k t),vi 0] else .tuple #[vs [],vi 1])):=by
 refine Rets.enterX func45 rfl (rs:= [.tmp 2, .tmp 3]) results45 ntmps45 (fun p hp=>by cases hp) (by simp[keys]) ?_
 refine kf ?_
 refine ky @lH ?_
 refine Ow.box rfl rfl fun b1 aW aI=> ?_
 simp only[dC,cy,dA,aS,List.nil_append]
 refine ko @lH ?_
 refine ky @lH ?_
 refine Ow.callC rfl rfl call81 (fun w' aA=>VL_ k t w') (fun B2 v2 D2 ay dE be bM=> ?_)
 have ou:New w.heap.size ((b1,Obj.cells #[vi k,vs t] 33 (0,0))::D2):=⟨aI,be.mono dE⟩
 cases hr:cm k t
 ·rw[hr,if_neg (by simp)] at bM
  subst bM
  have h1: ((1:Int) !=0)=true:=rfl
  refine ko (aN @lH @h1) ?_
  refine ky (aN @lH @h1) ?_
  refine⟨_,(ke @lH), ?_⟩
  exact⟨Ext.of_new ou,rfl⟩
 rw[hr,if_pos rfl] at bM
 subst bM
 obtain⟨cS,aj,kC⟩:=vx hr
 have eV:=KY hr
 have bh: (83::76::79::49::fI k t).length<1099511627776:=by simp only[List.length_cons];omega
 have h1: ((0:Int) !=0)=false:=rfl
 refine ko (aN @lH @h1) ?_
 refine ky (aN @lH @h1) ?_
 refine Ow.callFV rfl call83 (fun w' aA=>Bp (83::76::79::49::fI k t) w' (hG.of aA (ou.not (Iy hG))) bh) ?_
 refine ko @lH ?_
 refine ky @lH ?_
 refine⟨_,(ke @lH), ?_⟩
 exact⟨Ext.of_new ou,rfl⟩
def MQ (k:Int) (t:List UInt8) (w:World) (hr:cm k t=true):Rets prog 48 #[obV k t] w (fun v D=>v=vs (ee k t)∧D= []):=by
 obtain⟨cS,aj,kC⟩:=vx hr
 have eV:=KY hr
 have bh: (83::76::79::49::fI k t).length<1099511627776:=by simp only[List.length_cons];omega
 refine Rets.enterV func48 rfl (rs:= [.tmp 2]) results48 ntmps48 ?_
 refine kf ?_
 refine ky @lH ?_
 refine Ow.box rfl rfl fun b1 aW aI=> ?_
 simp only[dC,cy,dA,aS,List.nil_append]
 refine ko @lH ?_
 refine ky @lH ?_
 refine Ow.callFV rfl call43 (fun w' aA=>Wh_ k t w' oM) ?_
 rw[JG hr]
 refine ko @lH ?_
 refine Ow.callFV rfl call88 (fun w' aA=>Ky_ (83::76::79::49::fI k t) w' bh) ?_
 refine ko @lH ?_
 refine ky @lH ?_
 refine⟨_,(ke @lH),⟨aI,trivial⟩, ?_⟩
 rfl
def looS (b:List UInt8):List UInt8:=(cutV (d_ b).1 [83,76,79,49]).1
def gc (name b:List UInt8):Bool:=(d_ b).2&& (cutV (d_ b).1 [83,76,79,49]).2&&f_ (looS b)&& (aL (idV (frK (looS b)) (frT (looS b)).1).l==name)
def looK (name b:List UInt8):Int:=if gc name b then frK (looS b) else 0
def looT (name b:List UInt8):List UInt8:=if gc name b then(frT (looS b)).1 else []
def Vp (b:List UInt8): (looS b).length≤b.length:=by
 unfold looS cutV d_
 split<;>split<;>(try split)<;>simp<;>omega
def fH:=aN (aN (aN @j7 @jB) (aN @j9 @j8)) (aN (aN @Sx.tup2_0 @Sx.tup2_1) (aN @av @au))
def Pd (name b:List UInt8) (w:World) (hG:GlobC w) (hE:GlobE w) (hb:b.length<1099511627776):Rets prog 50 #[vs name,vs b] w (fun v D=>v= .tuple #[obV (looK name b) (looT name b), .bool (gc name b)]∧D= []):=by
 have A1: (d_ b).1.length≤b.length:=by
  unfold d_
  split
  ·simp
  split<;>simp
 have bh:=Vp b
 refine Rets.enterV func50 rfl (rs:= [.cell 4 33, .tmp 5]) results50 ntmps50 ?_
 refine kf ?_
 refine ky @fH ?_
 refine Ow.alloc rfl rfl fB fun b4 g4 cr=> ?_
 simp only[aS,List.nil_append,List.cons_append]
 refine ko @fH ?_
 refine ky @fH ?_
 have c_:New w.heap.size [(b4,Obj.cells #[vi 0,vs []] 33 (0,0))]:=⟨cr,trivial⟩
 refine Ow.callFV rfl call90 (fun w' aA=>NB b w' (hG.of aA (c_.not (Iy hG))) oM) ?_
 obtain⟨us,nS⟩: ∃us,(d_ b).1=us:=⟨_,rfl⟩
 obtain⟨u2,K5⟩: ∃u2,(d_ b).2=u2:=⟨_,rfl⟩
 rw[nS,K5]
 rw[nS] at A1
 refine ko @fH ?_
 refine ky @fH ?_
 refine Ow.callFV rfl call91 (fun w' aA=>OW us [83,76,79,49] w' oM) ?_
 obtain⟨cs,eD⟩: ∃cs,(cutV us [83,76,79,49]).1=cs:=⟨_,rfl⟩
 obtain⟨c2,ef⟩: ∃c2,(cutV us [83,76,79,49]).2=c2:=⟨_,rfl⟩
 have hlc:looS b=cs:=by unfold looS;rw[nS,eD]
 rw[eD,ef]
 rw[hlc] at bh
 refine ko @fH ?_
 refine ky @fH ?_
 refine Ow.callFV rfl call92 (fun w' aA=>Ps cs w' oM) ?_
 obtain⟨K,hK⟩: ∃K,(if f_ cs=true then frK cs else 0)=K:=⟨_,rfl⟩
 obtain⟨T,hT⟩: ∃T,(if f_ cs=true then(frT cs).1 else [])=T:=⟨_,rfl⟩
 rw[hK,hT]
 refine ko @fH ?_
 refine Ow.alloc rfl rfl fB fun b10 ox gU=> ?_
 simp only[aS,List.nil_append,List.cons_append]
 have h410:b4<b10:=ak ox (by simp[keys])
 refine ko @fH ?_
 refine ky @fH ?_
 have hNA:New w.heap.size [(b4,Obj.cells #[vi 0,vs []] 33 (0,0)),(b10,Obj.cells #[vi K,vs T] 33 (0,0))]:=⟨cr,gU,trivial⟩
 refine Ow.callFV rfl call44 (fun w' aA=>Dl K T w' (hE.new aA hNA)) ?_
 refine ko @fH ?_
 refine Ow.alloc rfl rfl gM fun b12 y8 pG=> ?_
 simp only[aS,List.nil_append,List.cons_append]
 have h412:b4<b12:=ak y8 (by simp[keys])
 have h1012:b10<b12:=ak y8 (by simp[keys])
 have gm:=(idV K T).h
 have rI:=id0.h
 refine ko @fH ?_
 have iM:dl (cC prog 33) (an prog 33) []=some (obV 0 []):=id kR
 have Gk:New w.heap.size [(b4,Obj.cells #[vi 0,vs []] 33 (0,0)),(b10,Obj.cells #[vi K,vs T] 33 (0,0)),(b12,Obj.cells (a8 (idV K T).l) 39 (0,0))]:=⟨cr,gU,pG,trivial⟩
 have e0: ((0:Int) !=0)=false:=rfl
 have e2: ((2:Int) !=0)=true:=rfl
 have hO:gc name b=(u2&&c2&&f_ cs&& (aL (idV (frK cs) (frT cs).1).l==name)):=by
  unfold gc
  rw[K5,nS,ef,hlc]
 cases u2 with
 |false=>
  have eF:gc name b=false:=by rw[hO];rfl
  ((try with_reducible refine Cw.go [] ?_);(try simp(disch:=first|exact dD|fail) only[↓Sx.S0,Sx.S1,fx,fH,Nat.reduceAdd,Nat.reducePow,Int.reducePow,Nat.reduceBEq, ↓reduceIte,UInt8.reduceToNat,UInt16.reduceToNat,UInt32.reduceToNat,UInt64.reduceToNat,Int.reduceToNat,Bool.not_false,Bool.not_true,e0]))
  refine Ow.build _ rfl iM ?_
  refine ko @fH ?_
  refine ky @fH ?_
  refine⟨_,(ke @fH),Gk, ?_⟩
  rw[looK,looT,eF];rfl
 |true=>
  cases c2 with
  |false=>
   have eF:gc name b=false:=by rw[hO];rfl
   ((try with_reducible refine Cw.go [] ?_);(try simp(disch:=first|exact dD|fail) only[↓Sx.S0,Sx.S1,fx,fH,Nat.reduceAdd,Nat.reducePow,Int.reducePow,Nat.reduceBEq, ↓reduceIte,UInt8.reduceToNat,UInt16.reduceToNat,UInt32.reduceToNat,UInt64.reduceToNat,Int.reduceToNat,Bool.not_false,Bool.not_true,e0]))
   refine Ow.build _ rfl iM ?_
   refine ko @fH ?_
   refine ky @fH ?_
   refine⟨_,(ke @fH),Gk, ?_⟩
   rw[looK,looT,eF];rfl
  |true=>
   cases hf:f_ cs with
   |false=>
    have eF:gc name b=false:=by rw[hO,hf];rfl
    rw[show(if(false:Bool)=true then(0:Int) else 2)=2 from rfl]
    ((try with_reducible refine Cw.go [] ?_);(try simp(disch:=first|exact dD|fail) only[↓Sx.S0,Sx.S1,fx,fH,Nat.reduceAdd,Nat.reducePow,Int.reducePow,Nat.reduceBEq, ↓reduceIte,UInt8.reduceToNat,UInt16.reduceToNat,UInt32.reduceToNat,UInt64.reduceToNat,Int.reduceToNat,Bool.not_false,Bool.not_true,e2]))
    refine Ow.build _ rfl iM ?_
    refine ko @fH ?_
    refine ky @fH ?_
    refine⟨_,(ke @fH),Gk, ?_⟩
    rw[looK,looT,eF];rfl
   |true=>
    rw[show(if(true:Bool)=true then(0:Int) else 2)=0 from rfl]
    rw[hf,if_pos rfl] at hK hT
    have hr:cm K T=true:=by
     rw[←hK,←hT]
     unfold f_ at hf
     rw[Bool.and_eq_true] at hf
     exact hf.2
    rw[hr]
    rw[hf,hK,hT,Bool.true_and,Bool.true_and,Bool.true_and] at hO
    ((try with_reducible refine Cw.go [] ?_);(try simp(disch:=first|exact dD|fail) only[↓Sx.S0,Sx.S1,fx,fH,Nat.reduceAdd,Nat.reducePow,Int.reducePow,Nat.reduceBEq, ↓reduceIte,UInt8.reduceToNat,UInt16.reduceToNat,UInt32.reduceToNat,UInt64.reduceToNat,Int.reduceToNat,Bool.not_false,Bool.not_true,e0]))
    refine Ow.callFV rfl call31 (fun w' aA=>zH (idV K T).l gm w') ?_
    cases hq: (aL (idV K T).l==name) with
    |false=>
     have rX: (aL (idV K T).l !=name)=true:=by simp[bne,hq]
     have eF:gc name b=false:=by rw[hO,hq]
     refine ko (aN @fH @rX) ?_
     refine ky @fH ?_
     refine Ow.build _ rfl iM ?_
     refine ko @fH ?_
     refine ky @fH ?_
     refine⟨_,(ke @fH),Gk, ?_⟩
     rw[looK,looT,eF];rfl
    |true=>
     have rX: (aL (idV K T).l !=name)=false:=by simp[bne,hq]
     have eF:gc name b=true:=by rw[hO,hq]
     refine ko (aN @fH @rX) ?_
     refine ky @fH ?_
     refine⟨_,(ke @fH),Gk, ?_⟩
     rw[looK,looT,eF,if_pos rfl,if_pos rfl,hlc,hK,hT];rfl
end Go.Proofs
end
namespace Go.Dig
open Go.Sx
def Ee (id:List UInt8) (i:Nat) (h:i<id.length): (aL id).getD (2*i) 0=hexD ((id.getD i 0).toNat / 16)∧(aL id).getD (2*i+1) 0=hexD ((id.getD i 0).toNat%16):=by
 induction id generalizing i with
 |nil=>cases h
 |cons b r ih=>
  have e:aL (b::r)=hexD (b.toNat / 16)::hexD (b.toNat%16)::aL r:=rfl
  rw[e]
  cases i with
  |zero=>exact⟨rfl,rfl⟩
  |succ i=>
   have:=ih i (by simpa using h)
   rw[show 2* (i+1)=2*i+1+1 from by omega]
   simpa using this
def KO (n:Nat) (h:n<16):fr (hexD n)=n:=by
 have: ∀i:Fin 16,fr (hexD i.val)=(i.val:Int):=by decide+kernel
 exact this ⟨n,h⟩
def BI (id:List UInt8) (h:id.length=32):mj (aL id)=true:=by
 apply LP _ (by rw[pR,h])
 intro i hi
 have hb:=(id.getD (i / 2) 0).toNat_lt
 have:=Ee id (i / 2) oM
 rcases Nat.mod_two_eq_zero_or_one i with h2|h2
 ·rw[show i=2* (i / 2) by omega,this.1,KO _ oM];omega
 rw[show i=2* (i / 2)+1 by omega,this.2,KO _ oM];omega
def QP (b:UInt8):UInt8.ofInt (((b.toNat / 16:Nat):Int)*16+ ((b.toNat%16:Nat):Int))=b:=by
 apply UInt8.toNat.inj
 have hb:=b.toNat_lt
 rw[show∀n:Int,UInt8.ofInt n=UInt8.ofNat (n%2^8).toNat from fun _=>rfl,UInt8.toNat_ofNat']
 omega
def Oq (id:List UInt8) (h:id.length=32):mV (aL id)=id:=by
 unfold mV
 rw[BI id h,if_pos rfl]
 apply List.ext_getElem
 ·simp[pq,h]
 intro i h1 h2
 have hi:i<32:=by omega
 have:=Ee id i oM
 have hb:=(id.getD i 0).toNat_lt
 simp only[pq,List.getElem_map,List.getElem_range]
 rw[this.1,this.2,KO _ oM,KO _ oM,QP]
 simp[List.getD_eq_getElem?_getD,h,hi]
def MU (l:List UInt8): (mV l).length=32:=by
 unfold mV;split<;>simp[pq]
end Go.Dig
section
open Go Go.Proofs Go.Sx Go.StP Go.Dig
namespace Go.Proofs
def Do: ∀n:Fin 16,fN (hexD n.val)=false:=by decide+kernel
def U9 (id:List UInt8): (aL id).any fN=false:=by
 rw[List.any_eq_false]
 intro c hc
 obtain⟨b,-,hb⟩:=List.mem_flatMap.1 hc
 have aC:=b.toNat_lt
 unfold hexB at hb
 rcases List.mem_cons.1 hb with rfl|hb
 ·simpa using Do ⟨b.toNat / 16,by omega⟩
 rw[List.mem_singleton.1 hb]
 simpa using Do ⟨b.toNat%16,by omega⟩
def Au (x:IdL):bX (aL x.l)=true∧bX (aY (aL x.l))=true:=by
 have hl: (aL x.l).length=64:=by rw[pR,x.h]
 have hb:=U9 x.l
 have hn: ∀s:List UInt8,64≤s.length→(s== [])=false:=fun s h=>by
  cases s with
  |nil=>simp at h
  |cons a t=>rfl
 unfold bX aY
 rw[hn _ oM,hn _ (by rw[List.length_append];omega),List.any_append,hb,List.length_append,hl]
 exact⟨rfl,rfl⟩
def WZ {x y:IdL} (h:x.l=y.l):x=y:=by cases x;cases y;cases h;rfl
def N1 (s:List UInt8):d_ (nb s)=(s,true):=by
 have hl:=LW s
 have ht: (nb s).take ((nb s).length - 4)=s:=by rw[hl,Nat.add_sub_cancel];unfold nb;rw[List.take_left]
 unfold d_
 rw[if_neg oM,ht,if_pos rfl]
def Fj {k:Int} (h:1≤k∧k≤3): ∃c,lO k= [c]∧Lib.indexByte letL c=k:=by
 rcases(show k=1∨k=2∨k=3 by omega) with rfl|rfl|rfl
 ·exact⟨98,rfl,rfl⟩
 ·exact⟨116,rfl,rfl⟩
 exact⟨99,rfl,rfl⟩
def P5 {k:Int} {t:List UInt8} (h:cm k t=true):f_ (fI k t)=true∧frK (fI k t)=k∧(frT (fI k t)).1=t:=by
 obtain⟨h1,h2,h3⟩:=vx h
 obtain⟨c,hc,hi⟩:=Fj ⟨h1,h2⟩
 have e:fI k t=c::fy t:=by unfold fI;rw[hc];rfl
 have hk:frK (c::fy t)=k:=by
  have:frK (c::fy t)=Lib.indexByte letL c:=by unfold frK;rw[wm];rfl
  rw[this,hi]
 have ht:=Ql [] t [] 4096 oM oM
 rw[List.nil_append,List.append_nil,List.length_nil,Nat.zero_add] at ht
 have hl:lfT (fy t)=(t,(fy t).length,0):=ht
 rw[e]
 refine⟨?_,hk, ?_⟩
 ·unfold f_
  rw[hk,Id0,Ca,hl]
  simp[cJ,h]
 rw[Id0,hl]
def FN (s:List UInt8):cutV (83::76::79::49::s) [83,76,79,49]=(s,true):=by
 unfold cutV
 rw[if_pos (by simp)]
 rfl
def Wy (k:Int) (t:List UInt8): (d_ (ee k t))=(83::76::79::49::fI k t,true)∧looS (ee k t)=fI k t:=by
 have h1:=N1 (83::76::79::49::fI k t)
 refine⟨h1, ?_⟩
 unfold looS ee
 rw[h1,FN]
def Uk {k:Int} {t:List UInt8} (h:cm k t=true):gc (aL (idV k t).l) (ee k t)=true∧looK (aL (idV k t).l) (ee k t)=k∧looT (aL (idV k t).l) (ee k t)=t:=by
 obtain⟨e1,e2⟩:=Wy k t
 obtain⟨f1,f2,f3⟩:=P5 h
 have ho:gc (aL (idV k t).l) (ee k t)=true:=by
  unfold gc
  rw[e1,e2,f1,f2,f3,FN,beq_self_eq_true]
  rfl
 unfold looK looT
 rw[ho,if_pos rfl,if_pos rfl,e2]
 exact⟨rfl,f2,f3⟩
def Ep {k:Int} {t:List UInt8} (h:cm k t=true): (ee k t).length≤4200:=by
 obtain⟨h1,h2,h3⟩:=vx h
 obtain⟨c,hc,-⟩:=Fj ⟨h1,h2⟩
 have:=qP (t.length:Int)
 unfold ee fI fy
 rw[LW,hc]
 simp only[List.length_cons,List.length_append,List.length_nil]
 omega
structure GotR where
 k:Int
 t:List UInt8
 e:Nat
def gg (S:DiskL) (x:IdL):GotR:=
 if(d8 S aD (aL x.l)).2≠0 then⟨0,[],(d8 S aD (aL x.l)).2⟩ else if gc (aL x.l) (d8 S aD (aL x.l)).1=true then⟨looK (aL x.l) (d8 S aD (aL x.l)).1,looT (aL x.l) (d8 S aD (aL x.l)).1,0⟩ else⟨0,[],17⟩
structure PutR where
 x:IdL
 e:Nat
 S:DiskL
def putL (S:DiskL) (k:Int) (t:List UInt8):PutR:=
 if cm k t=false then⟨id0,1,S⟩ else if(gg S (idV k t)).e=0 then⟨idV k t,0,S⟩ else if(iV S aD (aL (idV k t).l) (ee k t) true).1=0 then⟨idV k t,0,(iV S aD (aL (idV k t).l) (ee k t) true).2⟩ else⟨id0,(iV S aD (aL (idV k t).l) (ee k t) true).1,(iV S aD (aL (idV k t).l) (ee k t) true).2⟩
def hexI (s:List UInt8):IdL:=⟨mV s,MU s⟩
def looP (S:DiskL) (s:List UInt8):Bool:=mj s&& (gg S (hexI s)).e==0
def mp (S:DiskL) (l:List (List UInt8)):List IdL:=(l.filter (looP S)).map hexI
def lB (S:DiskL):List IdL:=mp S (jE S aD)
def gB:List IdL→DiskL→Nat×DiskL
 | [],S=>(0,S)
 |x::l,S=>if(cu S aD (aL x.l)).2≠0∧(cu S aD (aL x.l)).2≠6 then((cu S aD (aL x.l)).2,(cu S aD (aL x.l)).1) else gB l (cu S aD (aL x.l)).1
def o6 (l:List IdL) (S:DiskL):Nat×DiskL:=
 if(gB l S).1≠0 then gB l S else if l= [] then(0,(gB l S).2) else((eZ (gB l S).2 aD).2,(eZ (gB l S).2 aD).1)
def XK {S:DiskL} {k:Int} {t:List UInt8} (h:cm k t=true) (hr:d8 S aD (aL (idV k t).l)=(ee k t,0)):gg S (idV k t)=⟨k,t,0⟩:=by
 obtain⟨h1,h2,h3⟩:=Uk h
 unfold gg
 rw[hr,if_neg (by simp),if_pos h1,h2,h3]
def SK {S:DiskL} (hc:kK S) (x:IdL):d8 S aD (aL x.l)=match cv S 0 (aL x.l) with|none=>([],6) |some d=>(d,0):=By hc (dir:=aD) rfl (Au x).1
def Zh {s:List UInt8} (h:lfOk s=true): (lfT (s.drop 1)).1.length≤4096:=by
 unfold lfOk at h
 rw[Bool.and_eq_true] at h
 have h2:=h.2
 rw[←AC] at h2
 exact Ie h2
def eo:=aN (aN (aN @j7 @jB) (aN @j9 @j8)) (aN (aN @Sx.tup2_0 @Sx.tup2_1) (aN @av @au))
def NE (name b:List UInt8) (w:World) (hb:b.length<1099511627776):Rets prog 52 #[vs name,vs b] w (fun v D=>v= .tuple #[obV (looK name b) (looT name b), .bool (gc name b)]∧D= []):=by
 have A1:=Ed b
 have iM:dl (cC prog 33) (an prog 33) []=some (obV 0 []):=id kR
 have hO:gc name b=((d_ b).2&& (cutV (d_ b).1 [83,76,79,49]).2&&f_ (looS b)&& (aL (idV (frK (looS b)) (frT (looS b)).1).l==name)):=rfl
 have hC:cutV (d_ b).1 [83,76,79,49]=if(decide (4≤ (d_ b).1.length)&& ((d_ b).1.take 4== [83,76,79,49]))=true then((d_ b).1.drop 4,true) else((d_ b).1,false):=rfl
 have hS:looS b=(cutV (d_ b).1 [83,76,79,49]).1:=rfl
 refine Rets.enterV func52 rfl (rs:= [.cell 4 33, .tmp 5]) results52 ntmps52 ?_
 refine kf ?_
 refine ky @eo ?_
 refine Ow.alloc rfl rfl fB fun b4 g4 cr=> ?_
 simp only[aS,List.nil_append,List.cons_append]
 refine ko @eo ?_
 refine ky @eo ?_
 have c_:New w.heap.size [(b4,Obj.cells #[vi 0,vs []] 33 (0,0))]:=⟨cr,trivial⟩
 refine Ow.callFV rfl call94 (fun w' aA=>Jb_ b w' oM) ?_
 generalize d_ b=u at*
 obtain⟨s,ok⟩:=u
 simp only at A1 hO hC hS ⊢
 refine ko @eo ?_
 cases ok with
 |false=>
  have eF:gc name b=false:=by rw[hO];rfl
  refine ky @eo ?_
  ((try with_reducible refine Cw.go [] ?_);(try simp(disch:=first|exact dD|fail) only[↓Sx.S0,Sx.S1,fx,eo,Nat.reduceAdd,Nat.reducePow,Int.reducePow,Nat.reduceBEq, ↓reduceIte,UInt8.reduceToNat,UInt16.reduceToNat,UInt32.reduceToNat,UInt64.reduceToNat,Int.reduceToNat,Bool.not_false,Bool.not_true,A1]))
  refine Ow.build _ rfl iM ?_
  refine ko @eo ?_
  refine ky @eo ?_
  refine⟨_,(ke @eo),c_, ?_⟩
  rw[looK,looT,eF];rfl
 |true=>
  by_cases h4:4≤s.length
  ·have d4:decide ((s.length:Int)<4)=false:=aO oM
   have d4':decide ((0:Int)≤4∧(4:Int)≤ (s.length:Int))=true:=aK oM
   have d4'':decide ((4:Int)≤ (s.length:Int)∧(s.length:Int)≤ (s.length:Int))=true:=aK oM
   by_cases hm:s.take 4= [83,76,79,49]
   ·have d5: (s.take 4 != [83,76,79,49])=false:=by simp[hm]
    rw[hm] at hC
    rw[if_pos (by rw[aK h4];rfl)] at hC
    rw[hC] at hO hS
    simp only at hO hS
    rw[hS] at hO
    ((try with_reducible refine Cw.go [] ?_);(try simp(disch:=first|exact dD|fail) only[↓Sx.S0,Sx.S1,fx,eo,Nat.reduceAdd,Nat.reducePow,Int.reducePow,Nat.reduceBEq, ↓reduceIte,UInt8.reduceToNat,UInt16.reduceToNat,UInt32.reduceToNat,UInt64.reduceToNat,Int.reduceToNat,Bool.not_false,Bool.not_true,d4,d4',d4'',d5]))
    refine Ow.callFV rfl call95 (fun w' aA=>Kn (s.drop 4) w' (by rw[List.length_drop];omega)) ?_
    obtain⟨HH,vB⟩:=te (s.drop 4)
    have aP:=Zh (s:=s.drop 4)
    rw[HH] at hO vB
    refine ko @eo ?_
    refine Ow.alloc rfl rfl fB fun b8 g5 jc=> ?_
    simp only[aS,List.nil_append,List.cons_append]
    have JX:b4<b8:=ak g5 (by simp[keys])
    refine ko @eo ?_
    cases hf:lfOk (s.drop 4) with
    |false=>
     have eF:gc name b=false:=by rw[hO,hf];rfl
     have j3:New w.heap.size [(b4,Obj.cells #[vi 0,vs []] 33 (0,0)),(b8,Obj.cells #[vi 0,vs []] 33 (0,0))]:=⟨cr,jc,trivial⟩
     rw[if_neg (by simp),if_neg (by simp)]
     ((try with_reducible refine Cw.go [] ?_);(try simp(disch:=first|exact dD|fail) only[↓Sx.S0,Sx.S1,fx,eo,Nat.reduceAdd,Nat.reducePow,Int.reducePow,Nat.reduceBEq, ↓reduceIte,UInt8.reduceToNat,UInt16.reduceToNat,UInt32.reduceToNat,UInt64.reduceToNat,Int.reduceToNat,Bool.not_false,Bool.not_true,A1]))
     refine Ow.build _ rfl iM ?_
     refine ko @eo ?_
     refine ky @eo ?_
     refine⟨_,(ke @eo),j3, ?_⟩
     rw[looK,looT,eF];rfl
    |true=>
     obtain⟨e1,e2⟩:=vB hf
     have sQ:=aP hf
     have bU:cm (lfK (s.drop 4)) (lfT ((s.drop 4).drop 1)).1=true:=by
      unfold lfOk at hf
      rw[Bool.and_eq_true] at hf
      rw[AC]
      exact hf.2
     rw[if_pos rfl,if_pos rfl]
     rw[hf,e1,e2] at hO
     generalize lfK (s.drop 4)=K at*
     generalize (lfT ((s.drop 4).drop 1)).1=T at*
     have lu:Dig.shaR (pT K T)=(idV K T).l:=by
      unfold idV
      rw[if_pos bU,JG bU]
     have gm:=(idV K T).h
     have j3:New w.heap.size [(b4,Obj.cells #[vi 0,vs []] 33 (0,0)),(b8,Obj.cells #[vi K,vs T] 33 (0,0))]:=⟨cr,jc,trivial⟩
     ((try with_reducible refine Cw.go [] ?_);(try simp(disch:=first|exact dD|fail) only[↓Sx.S0,Sx.S1,fx,eo,Nat.reduceAdd,Nat.reducePow,Int.reducePow,Nat.reduceBEq, ↓reduceIte,UInt8.reduceToNat,UInt16.reduceToNat,UInt32.reduceToNat,UInt64.reduceToNat,Int.reduceToNat,Bool.not_false,Bool.not_true]))
     refine Ow.callFV rfl call11 (fun w' aA=>J2 K T w' oM) ?_
     rw[lu]
     refine ko @eo ?_
     refine Ow.callFV rfl call32 (fun w' aA=>A8 (idV K T).l gm w') ?_
     cases hq: (aL (idV K T).l==name) with
     |false=>
      have rX: (aL (idV K T).l !=name)=true:=by simp[bne,hq]
      have eF:gc name b=false:=by rw[hO,hq];rfl
      refine ko (aN @eo @rX) ?_
      ((try with_reducible refine Cw.go [] ?_);(try simp(disch:=first|exact dD|fail) only[↓Sx.S0,Sx.S1,fx,eo,Nat.reduceAdd,Nat.reducePow,Int.reducePow,Nat.reduceBEq, ↓reduceIte,UInt8.reduceToNat,UInt16.reduceToNat,UInt32.reduceToNat,UInt64.reduceToNat,Int.reduceToNat,Bool.not_false,Bool.not_true,rX]))
      refine Ow.build _ rfl iM ?_
      refine ko @eo ?_
      refine ky @eo ?_
      refine⟨_,(ke @eo),j3, ?_⟩
      rw[looK,looT,eF];rfl
     |true=>
      have rX: (aL (idV K T).l !=name)=false:=by simp[bne,hq]
      have eF:gc name b=true:=by rw[hO,hq];rfl
      refine ko (aN @eo @rX) ?_
      refine ky @eo ?_
      refine⟨_,(ke @eo),j3, ?_⟩
      rw[looK,looT,eF,if_pos rfl,if_pos rfl,hS,e1,e2];rfl
   have d5: (s.take 4 != [83,76,79,49])=true:=by simp[bne,hm]
   rw[if_neg (fun h=>hm (by simp only[Bool.and_eq_true,beq_iff_eq] at h;exact h.2))] at hC
   rw[hC] at hO
   have eF:gc name b=false:=by rw[hO];rfl
   ((try with_reducible refine Cw.go [] ?_);(try simp(disch:=first|exact dD|fail) only[↓Sx.S0,Sx.S1,fx,eo,Nat.reduceAdd,Nat.reducePow,Int.reducePow,Nat.reduceBEq, ↓reduceIte,UInt8.reduceToNat,UInt16.reduceToNat,UInt32.reduceToNat,UInt64.reduceToNat,Int.reduceToNat,Bool.not_false,Bool.not_true,d4,d4',d4'',d5]))
   refine Ow.build _ rfl iM ?_
   refine ko @eo ?_
   refine ky @eo ?_
   refine⟨_,(ke @eo),c_, ?_⟩
   rw[looK,looT,eF];rfl
  have d4:decide ((s.length:Int)<4)=true:=aK oM
  rw[if_neg (fun h=>h4 (by simp only[Bool.and_eq_true,decide_eq_true_eq] at h;exact h.1))] at hC
  rw[hC] at hO
  have eF:gc name b=false:=by rw[hO];rfl
  ((try with_reducible refine Cw.go [] ?_);(try simp(disch:=first|exact dD|fail) only[↓Sx.S0,Sx.S1,fx,eo,Nat.reduceAdd,Nat.reducePow,Int.reducePow,Nat.reduceBEq, ↓reduceIte,UInt8.reduceToNat,UInt16.reduceToNat,UInt32.reduceToNat,UInt64.reduceToNat,Int.reduceToNat,Bool.not_false,Bool.not_true,d4]))
  refine Ow.build _ rfl iM ?_
  refine ko @eo ?_
  refine ky @eo ?_
  refine⟨_,(ke @eo),c_, ?_⟩
  rw[looK,looT,eF];rfl
def CV {S:DiskL} (ok:DkOk S) (dir nm:List UInt8): (d8 S dir nm).1.length≤1048576:=by
 unfold d8
 split
 ·simp
 cases hb: (bO dir).bind fun k=>aM (S.dir k).seen nm with
 |none=>simp
 |some n=>
  simp only
  rw[List.getD_eq_getElem?_getD]
  cases hf:S.files[n]? with
  |none=>simp[cg]
  |some f=>exact(ok.file f (List.mem_of_getElem? hf)).1
def jl:=aN (aN (aN @j7 @jB) (aN @j9 @j8)) (aN (aN @Sx.tup2_0 @Sx.tup2_1) (aN @av (aN @au @nz)))
def Il (w:World) (G:DkG) (S:DiskL) (x:IdL) (hD:DkW w G S) (ok:DkOk S) (hC:GlobC w) (hE:GlobE w):
  Rets prog 14 #[vp G.bd 0, .agg (a8 x.l)] w (fun v D=>v= .tuple #[obV (gg S x).k (gg S x).t,vi ((gg S x).e:Nat)]∧D= []):=by
 have hx:=x.h
 have gV: (aL x.l).length=64:=by rw[pR,x.h]
 have nR:=CV ok aD (aL x.l)
 have iM:dl (cC prog 33) (an prog 33) []=some (obV 0 []):=id kR
 refine Rets.enterV func14 rfl (rs:= [.cell 4 33, .tmp 5]) results14 ntmps14 ?_
 refine kf ?_
 refine ky @jl ?_
 refine Ow.box rfl rfl fun b3 da dV=> ?_
 simp only[dC,cy,dA,aS,List.nil_append]
 refine ko @jl ?_
 refine Ow.alloc rfl rfl fB fun b4 g4 cr=> ?_
 simp only[aS,List.nil_append,List.cons_append]
 have za:b3<b4:=ak g4 (by simp[keys])
 have c_:New w.heap.size [(b3,Obj.cells (a8 x.l) 39 (0,0)),(b4,Obj.cells #[vi 0,vs []] 33 (0,0))]:=⟨dV,cr,trivial⟩
 refine ko @jl ?_
 refine ky @jl ?_
 refine Ow.callFV rfl call31 (fun w' aA=>zH x.l hx w') ?_
 refine ko @jl ?_
 refine Ow.callFV rfl call49 (fun w' aA=>BL w' G S aD (aL x.l) (hD.old aA c_) oM) ?_
 have hg:gg S x=(if(d8 S aD (aL x.l)).2≠0 then⟨0,[],(d8 S aD (aL x.l)).2⟩ else if gc (aL x.l) (d8 S aD (aL x.l)).1=true then⟨looK (aL x.l) (d8 S aD (aL x.l)).1,looT (aL x.l) (d8 S aD (aL x.l)).1,0⟩ else⟨0,[],17⟩):=rfl
 rw[hg]
 clear hg
 generalize d8 S aD (aL x.l)=q at*
 obtain⟨d,e⟩:=q
 simp only at nR ⊢
 by_cases he:e≠0
 ·have e1:=kF he
  rw[if_pos he]
  refine ko @jl ?_
  refine ky (aN @jl @e1) ?_
  refine Ow.build _ rfl iM ?_
  refine ko @jl ?_
  refine ky @jl ?_
  refine⟨_,(ke @jl),c_, ?_⟩
  rfl
 obtain rfl:e=0:=by simpa using he
 have e1: (((0:Nat):Int) !=0)=false:=rfl
 rw[if_neg he]
 refine ko @jl ?_
 refine ky (aN @jl @e1) ?_
 refine Ow.callFV rfl call31 (fun w' aA=>zH x.l hx w') ?_
 refine ko @jl ?_
 refine Ow.callFV rfl call50 (fun w' aA=>Pd (aL x.l) d w' (hC.of aA (c_.not (Iy hC))) (hE.new aA c_) oM) ?_
 refine ko @jl ?_
 refine Ow.alloc rfl rfl fB fun b8 g5 jc=> ?_
 simp only[aS,List.nil_append,List.cons_append]
 have h38:b3<b8:=ak g5 (by simp[keys])
 have JX:b4<b8:=ak g5 (by simp[keys])
 have j3:New w.heap.size [(b3,Obj.cells (a8 x.l) 39 (0,0)),(b4,Obj.cells #[vi 0,vs []] 33 (0,0)),(b8,Obj.cells #[vi (looK (aL x.l) d),vs (looT (aL x.l) d)] 33 (0,0))]:=⟨dV,cr,jc,trivial⟩
 refine ko @jl ?_
 cases eF:gc (aL x.l) d with
 |false=>
  rw[if_neg (by simp)]
  refine ky @jl ?_
  refine Ow.build _ rfl iM ?_
  refine ko @jl ?_
  refine ky @jl ?_
  refine⟨_,(ke @jl),j3, ?_⟩
  rfl
 |true=>
  rw[if_pos rfl]
  refine ky @jl ?_
  refine⟨_,(ke @jl),j3, ?_⟩
  rfl
end Go.Proofs
end
namespace Go.Sx
open Go
def Ext.perm {w:World} {X D D':aB} (h:Ext w X D) (hp:D'.Perm D):Ext w X D':=
 ⟨fun c hc=>h.new c ((hp.map Prod.fst).mem_iff.1 hc),fun c hc=>(hp.map Prod.fst).mem_iff.2 (h.all c hc)⟩
section
variable {P:Program} {w0:World} {f:Fr} {L:aB} {N:Fr→aB→Prop} {ops:Array Oper} {rest:List Oper} {md:Md} {d:Option Tmp} {ty:TypeId} {ps:String} {af:Array Edge} {g:Option (Nat×Bool)}
def Ow.callFnX2 {x y y2:Operand} {b b2:Value} {ts:Array TypeId} {k:FuncId} {X Y:aB} {S:Value→aB→Prop} {md':Md} (hL:L=X++Y) (he:md.turn=some md')
  (hs:bT ops f ⟨d, .call ⟨.value x, #[y,y2],ts⟩,ty,ps,af,g⟩=false)
  (hx:ev f x= .func (.func k) #[] #[]) (hy:ev f y=b) (A5:ev f y2=b2)
  (hk: ∀a w,(callFunc k a).run P w= .ok (.enter k a) w)
  (hc: ∀w,Hp w0 L w→(∀p,p∈X→w.heap[p.1]? =some p.2)→(keys X).Nodup→Rets P k #[b,b2] w (XS w X S))
  (hn: ∀v D,Came w0 L X D→S v D→Ow P w0 ops md' rest (al f d v) (D++Y) N):
  Ow P w0 ops md (⟨d, .call ⟨.value x, #[y,y2],ts⟩,ty,ps,af,g⟩::rest) f L N:=by
 subst hL
 have bA: ∀w,Hp w0 (X++Y) w→(keys X).Nodup∧ ∀c,c∈keys Y→c∉keys X:=by
  intro w hw
  have:=hw.nodup
  rw[ao,List.nodup_append] at this
  exact⟨this.1,fun c hc hx=>this.2.2 c hx c hc rfl⟩
 refine Ow.call (S:=fun B v D=>((∀c,c∈keys D→c∈keys X∨B≤c)∧(∀c,c∈keys X→c∈keys D)∧S v D)∧ ∃w,Hp w0 (X++Y) w∧w.heap.size=B) he hs hx hk (fun w hw=> ?_) ?_
 ·show Rets P k (#[]++ #[y,y2].map (ev f)++ #[]) w _
  rw[show(#[]++ #[y,y2].map (ev f)++ #[]:Array Value)= #[b,b2] by simp[hy,A5]]
  refine Calls.mono (hc w hw (fun p hp=>hw.has _ _ (cz _ hp)) (bA w hw).1) ?_
  rintro e w' ⟨v,D,he,hp,hS⟩
  exact⟨v,D,he,hp,⟨hS.1.new,hS.1.all,hS.2⟩,w,hw,rfl⟩
 rintro B v D gR hB ⟨⟨h1,h2,h3⟩,w1,aI,hwB⟩
 refine⟨D++Y, ?_,hn v D ⟨fun c hc=>(h1 c hc).imp id fun h=>⟨io fun b hb=>by have:=aI.lt hb;omega,by have:=aI.size;omega⟩,h2⟩ h3⟩
 intro w w' yv h k
 have ht:=h.trans k
 have hY: ∀c,c∈keys Y→c∉keys D:=by
  intro c hc hd
  rcases h1 c hd with hx|hx
  ·exact(bA w h).2 c hc hx
  have:=h.lt (b:=c) (by rw[ao];exact dJ _ hc)
  omega
 have e1:X.filter (fun p=> !(keys D).contains p.1)= []:=by
  rw[List.filter_eq_nil_iff]
  intro p hp
  have:=h2 p.1 (List.mem_map.2 ⟨p,hp,rfl⟩)
  simpa using this
 have e2:Y.filter (fun p=> !(keys D).contains p.1)=Y:=A7 hY
 rw[List.filter_append,e1,e2,List.nil_append] at ht
 refine ht.same (fun p=>by simp[or_comm]) ?_
 have:=ht.nodup
 rw[ao] at this ⊢
 exact(List.perm_append_comm.nodup_iff).1 this
end
end Go.Sx
section
open Go Go.Proofs Go.Sx Go.StP
namespace Go.Proofs
def dtO (dir nm data:List UInt8) (v:Value) (made:Bool):Obj:= .cells #[vs dir,vs nm,vs data,v, .bool made] 207 (0,0)
def spO (light:Bool):Obj:= .cells ((cb light).map fun n:Nat=>vi (n:Int)).toArray 3 (0,0)
def spV (light:Bool) (k bs:Nat):Value:=vsl bs (if(cb light).length≤k then(cb light).length - 1 else k) ((cb light).length - k) ((cb light).length - k)
section
variable {dir nm data:List UInt8} {v:Value} {made:Bool}
def EW (n:Nat):aG (some (false,n)) (some (dtO dir nm data v made)) 0=some (vs dir):=(rfl)
def EK (n:Nat):aG (some (false,n)) (some (dtO dir nm data v made)) 1=some (vs nm):=(rfl)
def Ev (n:Nat):aG (some (false,n)) (some (dtO dir nm data v made)) 2=some (vs data):=(rfl)
def Eu (n:Nat):aG (some (false,n)) (some (dtO dir nm data v made)) 3=some v:=(rfl)
def EJ (n:Nat):aG (some (false,n)) (some (dtO dir nm data v made)) 4=some (.bool made):=(rfl)
def A' (a:Bool) {q:Value} (hq:Value.oneCell' q=true∧q.cells= #[q]):ad (some (a,1)) (some (dtO dir nm data v made)) 3 q=some (dtO dir nm data q made):=dR [vs dir,vs nm,vs data] [v] [q] [.bool made] a _ 207 rfl rfl hq.2 rfl (by simp[hq.1])
def IS (a b:Bool):ad (some (a,1)) (some (dtO dir nm data v made)) 4 (.bool b)=some (dtO dir nm data v b):=dR [vs dir,vs nm,vs data,v] [.bool made] [.bool b] [] a _ 207 rfl rfl rfl rfl rfl
end
def Zj (light:Bool) (k bs:Nat) (m:Bool×Nat):gY (.sl m) (spV light k bs)=some (vi (((cb light).length - k:Nat):Int)):=(rfl)
def G9 {light:Bool} {k:Nat} (bs:Nat) (hk:k< (cb light).length) (a:Bool):i_ (.sl (a,1)) (spV light k bs) (some 0)=some (vp bs k):=by
 have h:=pS (a,1) bs k ((cb light).length - k) ((cb light).length - k) 0 oM
 unfold spV
 rw[if_neg oM]
 simpa using h
def Lj (light:Bool): (cb light).length≤6:=by cases light<;>decide
def FA {light:Bool} {k:Nat} (hk:k< (cb light).length) (n:Nat):aG (some (false,n)) (some (spO light)) k=some (vi (((cb light).getD k 0:Nat):Int)):=by
 have h6:=Lj light
 have ns:k=0∨k=1∨k=2∨k=3∨k=4∨k=5:=by omega
 cases light with
 |true=>rcases ns with rfl|rfl|rfl|rfl|rfl|rfl<;>first|rfl|exact absurd hk (by decide)
 |false=>rcases ns with rfl|rfl|rfl|rfl|rfl|rfl<;>rfl
def EU {light:Bool} {k:Nat} (bs:Nat) (hk:k< (cb light).length) (a:Bool):gb (.sl (a,1)) (spV light k bs) (some (some 1)) none=some (spV light (k+1) bs):=by
 have hb: (0:Int)≤ ((1:Nat):Int)∧((1:Nat):Int)≤ (((cb light).length - k:Nat):Int):=⟨by omega,by omega⟩
 unfold spV
 rw[if_neg oM]
 show gb (.sl (a,1)) (vsl bs k ((cb light).length - k) ((cb light).length - k)) (some (some ((1:Nat):Int))) none=_
 unfold gb vsl
 simp only[xc _ _ _ hb,Int.toNat_natCast]
 by_cases h: (cb light).length - k=1
 ·rw[if_pos h,if_pos oM]
  simp only[h,Nat.sub_self]
  rw[show(cb light).length - 1=k by omega,show(cb light).length - (k+1)=0 by omega]<;>rfl
 rw[if_neg h,if_neg oM]
 simp only[o0,Option.map_some]
 rw[show(cb light).length - (k+1)=(cb light).length - k - 1 by omega]<;>rfl
def DF {light:Bool} {k:Nat} (hk:k< (cb light).length): ((((cb light).getD k 0:Nat):Int)==1)=decide (k=0):=by
 have h6:=Lj light
 have ns:k=0∨k=1∨k=2∨k=3∨k=4∨k=5:=by omega
 cases light with
 |true=>rcases ns with rfl|rfl|rfl|rfl|rfl|rfl<;>first|rfl|exact absurd hk (by decide)
 |false=>rcases ns with rfl|rfl|rfl|rfl|rfl|rfl<;>rfl
def xC (light:Bool) (k bs:Nat):Value.oneCell' (spV light k bs)=true∧(spV light k bs).cells= #[spV light k bs]:=⟨rfl,rfl⟩
def Dy (dir nm data:List UInt8) (bs n c:Nat):dl (cC prog 207) (an prog 207) [(0,vs dir),(1,vs nm),(2,vs data),(3,vsl bs 0 n c)]=some (.agg #[vs dir,vs nm,vs data,vsl bs 0 n c, .bool false]):=by
 rw[show cC prog 207=some [(0,1),(1,1),(2,1),(3,1),(4,1)] from id kR,zr207]
 rfl
def qi:=aN (aN (aN @av @au) (aN @Sx.tup2_0 (aN @Sx.tup2_1 @EW))) (aN (aN @EK @Ev) (aN @Eu (aN @EJ @IS)))
def QD (C:DcG) (S:DiskL) (N bt:Nat) (dir nm data:List UInt8) (v:Value) (made:Bool) (w:World) (hC:DcW w C S) (hA:DsA S N) (hN:N<900000) (hb:w.heap[bt]? =some (dtO dir nm data v made)) (gH:nm.length≤900000):
  Rets prog 149 #[vp C.bd 0,vp bt 0] w (fun r D=>r= .bool ((d8 S dir (aY nm)).2==0)∧D= []):=by
 have kC: (aY nm).length≤900004:=by unfold aY;rw[List.length_append];simp;omega
 have hi: ∀e:Nat,((e:Int)==0)=(e==0):=fun e=>by cases e<;>rfl
 refine Rets.enterV func149 rfl (rs:= [.tmp 4]) results149 ntmps149 ?_
 refine kf ?_
 refine kz [1] @qi ?_
 refine Cw.regionS [bt] [0,1,2,3,5,6,7,4,8,9,10,11,12,13,14,15] [] kR kR kR ?_
 simp only[ai, ↓ah, ↓ab, ↓ag, ↓ae,ac]
 refine kq (aN @qi @hb) ?_
 refine Ow.soft rfl rfl rfl ?_
 refine Ow.callFV rfl call51 (fun w' aA=>Bz w' C S dir (aY nm) (hC.old aA trivial) hA.ok (hA.B.b oM) oM) ?_
 with_reducible refine Ow.nil ?_
 refine⟨by intro b hb;simp only[List.mem_cons,List.not_mem_nil,or_false] at hb;(try subst hb);rfl, ?_⟩
 refine kq @qi ?_
 have rJ:=hi (d8 S dir (aY nm)).2
 refine ky (aN @qi @rJ) ?_
 refine⟨_,(ke @qi),trivial, ?_⟩
 rfl
def TP {light:Bool} {k:Nat} (hk:k< (cb light).length):1≤ (cb light).getD k 0∧(cb light).getD k 0≤6:=by
 have h6:=Lj light
 have ns:k=0∨k=1∨k=2∨k=3∨k=4∨k=5:=by omega
 cases light with
 |true=>rcases ns with rfl|rfl|rfl|rfl|rfl|rfl<;>first|decide|exact absurd hk (by decide)
 |false=>rcases ns with rfl|rfl|rfl|rfl|rfl|rfl<;>decide
def StC (C:DcG) (bt bs:Nat) (light:Bool) (dir nm data:List UInt8) (N:Nat) (R:DsR) (v:Value) (D:aB):Prop:=
 v= .tuple #[.bool R.done,vi (R.e:Nat)]∧ ∃X' C' q,(X'++ [(bt,dtO dir nm data q R.made),(bs,spO light)]).Perm D∧C'.bd=C.bd∧DcP X' C' R.S∧DsA R.S N∧(R.done=false→R.e=0→q=spV light R.k bs)
def GO {X:aB} {bt bs:Nat} {O1 O2:Obj} (h1:bt∉keys X) (h2:bs∉keys X) (h3:bt≠bs) (w:World):aU w (X++ [(bt,O1),(bs,O2)]) bt=some O1∧aU w (X++ [(bt,O1),(bs,O2)]) bs=some O2:=
 ⟨aQ (by rw[gO h1];simp[Sx.look]),aQ (by rw[gO h2];simp[Sx.look,h3])⟩
def Eh {X:aB} {bt bs:Nat} {O1 O2:Obj} (h1:bt∉keys X):Sx.look (X++ [(bt,O1),(bs,O2)]) bt=some O1:=by
 rw[gO h1];simp[Sx.look]
def G7 {X:aB} {bt bs:Nat} {O O1 O2:Obj} (h1:bt∉keys X):setB (X++ [(bt,O1),(bs,O2)]) bt O=X++ [(bt,O),(bs,O2)]:=by
 induction X with
 |nil=>simp[setB]
 |cons p X ih=>
  obtain⟨c,o⟩:=p
  simp only[keys,List.map_cons,List.mem_cons,not_or] at h1
  rw[List.cons_append,setB,if_neg (fun h=>h1.1 h.symm),ih h1.2,List.cons_append]
section
variable {S:DiskL} {dir nm data:List UInt8}
def Xp:doV S 5 dir (aY nm) []=bH 1 dir nm data S:=(rfl)
def Wq:doV S 0 dir (aY nm) []=bH 2 dir nm data S:=(rfl)
def WS:doV S 1 dir (aY nm) data=bH 3 dir nm data S:=(rfl)
def WJ:doV S 2 dir (aY nm) []=bH 4 dir nm data S:=(rfl)
def Xe:doV S 4 dir (aY nm) nm=bH 5 dir nm data S:=(rfl)
def Xt:doV S 3 dir [] []=bH 6 dir nm data S:=(rfl)
def Fz {made:Bool} {e:Nat}:gf 5 made e=(made&&e !=0):=(rfl)
end
structure SbG where
 C:DcG
 X:aB
def dW:=aN (aN (aN @av @au) (aN @Sx.tup2_0 (aN @Sx.tup2_1 @EW))) (aN (aN @EK (aN @Ev @Eu)) (aN @EJ (aN @IS @Zj)))
def NT (X:aB) (C:DcG) (S:DiskL) (N bt bs k:Nat) (light made:Bool) (dir nm data:List UInt8) (w:World) (hX: ∀p,p∈X++ [(bt,dtO dir nm data (spV light k bs) made),(bs,spO light)]→w.heap[p.1]? =some p.2) (hn: (keys (X++ [(bt,dtO dir nm data (spV light k bs) made),(bs,spO light)])).Nodup) (hP:DcP X C S) (hA:DsA S N) (hN:N<800000) (hk:k< (cb light).length) (cS:k=0→1< (cb light).length) (gH:nm.length≤900000) (sM:data.length≤1000000):
  Rets prog 123 #[vp bt 0,vp C.bd 0] w (XS w (X++ [(bt,dtO dir nm data (spV light k bs) made),(bs,spO light)]) (StC C bt bs light dir nm data (N+2) (fL light k made dir nm data S))):=by
 obtain⟨R,hR⟩: ∃R,fL light k made dir nm data S=R:=⟨_,rfl⟩
 rw[hR]
 refine Rets.enterX func123 rfl (rs:= [.tmp 4, .tmp 5]) results123 ntmps123 hX hn ?_
 refine kf ?_
 have mD:Ext w (X++ [(bt,dtO dir nm data (spV light k bs) made),(bs,spO light)]) ((bt,dtO dir nm data (spV light k bs) made):: (bs,spO light)::X):=(Ext.refl w (X++ [(bt,dtO dir nm data (spV light k bs) made),(bs,spO light)])).perm pM
 have bA: (keys X).Nodup∧bt∉keys X∧bs∉keys X∧bt≠bs:=by
  have h:=hn
  rw[ao] at h
  obtain⟨h1,h2,h3⟩:=List.nodup_append.1 h
  simp only[keys,List.map_cons,List.map_nil,List.mem_cons,List.not_mem_nil,or_false] at h2 h3
  refine⟨h1,fun hm=>h3 _ hm bt (.inl rfl) rfl,fun hm=>h3 _ hm bs (.inr rfl) rfl, ?_⟩
  simpa using h2
 obtain⟨cF,o_,kb,aX⟩:=bA
 have sP: ((((cb light).length - k:Nat):Int)==0)=false:=by rw[beq_eq_false_iff_ne];omega
 refine Cw.permL (M:=(bt,dtO dir nm data (spV light k bs) made):: (bs,spO light)::X) pM ?_
 have rds: ∀o w,aU w ((bt,o):: (bs,spO light)::X) bs=some (spO light):=fun o w=>aQ (by simp[Sx.look,aX])
 have ix:=fun a=>G9 (light:=light) bs hk a
 have ld:=fun n=>FA (light:=light) hk n
 have sl:=fun a=>EU (light:=light) bs hk a
 refine kz [1000003] (aN @dW @sP) ?_
 refine Cw.cutO (G:=Unit) [14,15,16,17,18,19,20,21,22,23,24,25,26,27,28,29,30,31,32,33,34] (fun g=> []) (fun g=>(bt,dtO dir nm data (spV light (atK k dir nm S) bs) made):: (bs,spO light)::X) (fun g=>True) ?_ ?_
 ·by_cases kh:k=0
  ·subst kh
   have s1: ((((cb light).getD 0 0:Nat):Int)==1)=true:=by rw[DF hk];rfl
   refine kz [4] (aN @dW (aN @rds (aN @ix (aN @ld @s1)))) ?_
   refine Ow.callFV rfl call149 (fun w' aA=>QD C S N bt dir nm data (spV light 0 bs) made w' (hP.worldM aA (fun p hp=>by simp[hp])) hA oM (aA.has _ _ (am ..)) gH) ?_
   cases hr: ((d8 S dir (aY nm)).2==0) with
   |true=>
    have ha:atK 0 dir nm S=0:=by unfold atK;rw[if_neg (fun h=>h.2 (by simpa using hr))]
    refine ko @dW ?_
    refine ky @dW ?_
    rw[ha]
    exact CutO.mk () trivial rfl rfl
   |false=>
    have ha:atK 0 dir nm S=1:=by unfold atK;rw[if_pos ⟨rfl,by simpa using hr⟩]
    have st:=fun a=>A' (dir:=dir) (nm:=nm) (data:=data) (v:=spV light 0 bs) (made:=made) a (xC light 1 bs)
    refine ko @dW ?_
    refine ky (aN @dW (aN @sl @st)) ?_
    rw[ha]
    exact CutO.mk () trivial rfl rfl
  have s1: ((((cb light).getD k 0:Nat):Int)==1)=false:=by rw[DF hk];simpa using kh
  have ha:atK k dir nm S=k:=by unfold atK;rw[if_neg (fun h=>kh h.1)]
  refine ky (aN @dW (aN @rds (aN @ix (aN @ld @s1)))) ?_
  rw[ha]
  exact CutO.mk () trivial rfl rfl
 intro g j hg
 refine kv ?_
 have uG:atK k dir nm S< (cb light).length:=by
  unfold atK
  split
  ·rename_i h;exact cS h.1
  exact hk
 have cE:Ext w (X++ [(bt,dtO dir nm data (spV light k bs) made),(bs,spO light)]) (X++ [(bt,dtO dir nm data (spV light (atK k dir nm S) bs) made),(bs,spO light)]):=(Ext.refl w _).keys (by simp[keys])
 unfold fL at hR
 simp only at hR
 generalize hX0:X++ [(bt,dtO dir nm data (spV light k bs) made),(bs,spO light)]=X0 at*
 clear hX hn mD ix ld sl hX0 cS hk sP
 generalize atK k dir nm S=k at*
 obtain⟨qI,hs6⟩:=TP uG
 generalize hsd: (cb light).getD k 0=s at*
 have kC: (aY nm).length≤900004:=by unfold aY;rw[List.length_append];simp;omega
 have ix:=fun a=>G9 (light:=light) bs uG a
 have ld: ∀n,aG (some (false,n)) (some (spO light)) k=some (vi (s:Int)):=fun n=>by rw[FA (light:=light) uG n,hsd]
 have sl:=fun a=>EU (light:=light) bs uG a
 refine kz [1000007] @dW ?_
 refine Cw.cutO (G:=SbG) [7,40,41,42,43,44,45,46,47,48,49,50,51,52,53,54,55,56,57,58,59,60,61,62,63,64,65,66,67,68,69,70,71,72,73,74,75,76,77,78,79,80,81,82,83,84,85,86,87,88,89,90,91,92,93,94,95,96,97,98,99,100,101,102,103,104,105,106,107,108,109,110,111,112,113,114,115,116] (fun g=> [(7,vi ((bH s dir nm data S).2:Nat))]) (fun g=>g.X++ [(bt,dtO dir nm data (spV light k bs) (gf s made (bH s dir nm data S).2)),(bs,spO light)]) (fun g=>DcP g.X g.C (bH s dir nm data S).1∧g.C.bd=C.bd∧bt∉keys g.X∧bs∉keys g.X∧Ext w X0 (g.X++ [(bt,dtO dir nm data (spV light k bs) made),(bs,spO light)])) ?_ ?_
 ·refine kz [8] (aN @dW (aN @rds (aN @ix @ld))) ?_
  have rd0:=GO (O1:=dtO dir nm data (spV light k bs) made) (O2:=spO light) o_ kb aX w
  obtain⟨rdt,-⟩:=rd0
  have i0: ∀e:Nat,((e:Int)==0)=(e==0):=fun e=>by cases e<;>rfl
  refine Cw.permL (M:=X++ [(bt,dtO dir nm data (spV light k bs) made),(bs,spO light)]) pM ?_
  rcases(by omega:s=1∨s=2∨s=3∨s=4∨s=5∨s=6) with rfl|rfl|rfl|rfl|rfl|rfl
  ·have q1: ((((1:Nat):Int))==1)=true:=rfl
   refine ky (aN @dW (aN @q1 @rdt)) ?_
   refine kq (aN @dW @rdt) ?_
   refine Ow.callX (X:=X) (Y:= [(bt,dtO dir nm data (spV light k bs) made),(bs,spO light)]) rfl rfl rfl call55 (fun w' aA aZ aT=>sb X C S N 5 dir (aY nm) [] w' aZ aT hP hA oM ⟨by decide,by decide⟩ oM (aV _)) (fun v4 D4 bD ar=> ?_)
   obtain⟨rfl,C4,g6,gE⟩:=ar
   rw[Xp (data:=data)] at gE ⊢
   have fE:=qM bD o_ (by simp[keys])
   have gi:=qM bD kb (by simp[keys])
   have cj:=cE.came bD
   refine kq @dW ?_
   exact CutO.mk ⟨C4,D4⟩ ⟨gE,g6,fE,gi,cj⟩ rfl rfl
  ·have q1: ((((2:Nat):Int))==1)=false:=rfl
   have q2: ((((2:Nat):Int))==2)=true:=rfl
   refine ky (aN @dW (aN @q1 (aN @q2 @rdt))) ?_
   refine kq (aN @dW @rdt) ?_
   refine Ow.callX (X:=X) (Y:= [(bt,dtO dir nm data (spV light k bs) made),(bs,spO light)]) rfl rfl rfl call55 (fun w' aA aZ aT=>sb X C S N 0 dir (aY nm) [] w' aZ aT hP hA oM ⟨by decide,by decide⟩ oM (aV _)) (fun v4 D4 bD ar=> ?_)
   obtain⟨rfl,C4,g6,gE⟩:=ar
   rw[Wq (data:=data)] at gE ⊢
   have fE:=qM bD o_ (by simp[keys])
   have gi:=qM bD kb (by simp[keys])
   have cj:=cE.came bD
   refine kq @dW ?_
   generalize bH 2 dir nm data S=q at*
   obtain⟨S1,e⟩:=q
   simp only at gE ⊢
   have ie:=i0 e
   have lk:=Eh (O1:=dtO dir nm data (spV light k bs) made) (bs:=bs) (O2:=spO light) fE
   have st:=fun a=>IS (dir:=dir) (nm:=nm) (data:=data) (v:=spV light k bs) (made:=made) a (e==0)
   refine ky (aN @dW (aN @ie (aN @lk (aN @st @lz)))) ?_
   exact CutO.mk ⟨C4,D4⟩ ⟨gE,g6,fE,gi,cj⟩ (G7 fE) rfl
  ·have q1: ((((3:Nat):Int))==1)=false:=rfl
   have q2: ((((3:Nat):Int))==2)=false:=rfl
   have q3: ((((3:Nat):Int))==3)=true:=rfl
   refine kz [14] (aN @dW (aN @q1 (aN @q2 @q3))) ?_
   refine Cw.regionO [0,1,2,3,5,6,7,8,4,9,10,11] [10] rfl kR kR ?_
   simp only[ai, ↓ah, ↓ab, ↓ag, ↓ae,ac]
   refine kq (aN @dW @rdt) ?_
   refine Ow.callX (X:=X) (Y:= [(bt,dtO dir nm data (spV light k bs) made),(bs,spO light)]) rfl rfl rfl call55 (fun w' aA aZ aT=>sb X C S N 1 dir (aY nm) data w' aZ aT hP hA oM ⟨by decide,by decide⟩ oM oM) (fun v4 D4 bD ar=> ?_)
   obtain⟨rfl,C4,g6,gE⟩:=ar
   rw[WS] at gE ⊢
   have fE:=qM bD o_ (by simp[keys])
   have gi:=qM bD kb (by simp[keys])
   have cj:=cE.came bD
   refine kq @dW ?_
   exact CutO.mk ⟨C4,D4⟩ ⟨gE,g6,fE,gi,cj⟩ rfl rfl
  ·have q1: ((((4:Nat):Int))==1)=false:=rfl
   have q2: ((((4:Nat):Int))==2)=false:=rfl
   have q3: ((((4:Nat):Int))==3)=false:=rfl
   have q4: ((((4:Nat):Int))==4)=true:=rfl
   refine ky (aN @dW (aN @q1 (aN @q2 (aN @q3 (aN @q4 @rdt))))) ?_
   refine kq (aN @dW @rdt) ?_
   refine Ow.callX (X:=X) (Y:= [(bt,dtO dir nm data (spV light k bs) made),(bs,spO light)]) rfl rfl rfl call55 (fun w' aA aZ aT=>sb X C S N 2 dir (aY nm) [] w' aZ aT hP hA oM ⟨by decide,by decide⟩ oM (aV _)) (fun v4 D4 bD ar=> ?_)
   obtain⟨rfl,C4,g6,gE⟩:=ar
   rw[WJ (data:=data)] at gE ⊢
   have fE:=qM bD o_ (by simp[keys])
   have gi:=qM bD kb (by simp[keys])
   have cj:=cE.came bD
   refine kq @dW ?_
   exact CutO.mk ⟨C4,D4⟩ ⟨gE,g6,fE,gi,cj⟩ rfl rfl
  ·have q1: ((((5:Nat):Int))==1)=false:=rfl
   have q2: ((((5:Nat):Int))==2)=false:=rfl
   have q3: ((((5:Nat):Int))==3)=false:=rfl
   have q4: ((((5:Nat):Int))==4)=false:=rfl
   have q5: ((((5:Nat):Int))==5)=true:=rfl
   refine kz [18] (aN @dW (aN @q1 (aN @q2 (aN @q3 (aN @q4 @q5))))) ?_
   refine Cw.regionO [0,1,2,3,5,6,7,8,4,9,10,11] [10] rfl kR kR ?_
   simp only[ai, ↓ah, ↓ab, ↓ag, ↓ae,ac]
   refine kq (aN @dW @rdt) ?_
   refine Ow.callX (X:=X) (Y:= [(bt,dtO dir nm data (spV light k bs) made),(bs,spO light)]) rfl rfl rfl call55 (fun w' aA aZ aT=>sb X C S N 4 dir (aY nm) nm w' aZ aT hP hA oM ⟨by decide,by decide⟩ oM oM) (fun v4 D4 bD ar=> ?_)
   obtain⟨rfl,C4,g6,gE⟩:=ar
   rw[Xe (data:=data)] at gE ⊢
   have fE:=qM bD o_ (by simp[keys])
   have gi:=qM bD kb (by simp[keys])
   have cj:=cE.came bD
   refine kq @dW ?_
   generalize bH 5 dir nm data S=q at*
   obtain⟨S1,e⟩:=q
   simp only at gE ⊢
   have ie:=i0 e
   cases he: (e==0) with
   |true=>
    rw[he] at ie
    have hm:gf 5 made e=false:=by rw[Fz,bne,he];simp
    rw[hm]
    have lk:=Eh (O1:=dtO dir nm data (spV light k bs) made) (bs:=bs) (O2:=spO light) fE
    have st:=fun a=>IS (dir:=dir) (nm:=nm) (data:=data) (v:=spV light k bs) (made:=made) a false
    refine ky (aN @dW (aN @ie (aN @lk (aN @st @lz)))) ?_
    exact CutO.mk ⟨C4,D4⟩ ⟨gE,g6,fE,gi,cj⟩ (G7 fE) rfl
   |false=>
    rw[he] at ie
    have hm:gf 5 made e=made:=by rw[Fz,bne,he];simp
    rw[hm]
    refine ky (aN @dW @ie) ?_
    exact CutO.mk ⟨C4,D4⟩ ⟨gE,g6,fE,gi,cj⟩ rfl rfl
  have q1: ((((6:Nat):Int))==1)=false:=rfl
  have q2: ((((6:Nat):Int))==2)=false:=rfl
  have q3: ((((6:Nat):Int))==3)=false:=rfl
  have q4: ((((6:Nat):Int))==4)=false:=rfl
  have q5: ((((6:Nat):Int))==5)=false:=rfl
  have q6: ((((6:Nat):Int))==6)=true:=rfl
  refine ky (aN @dW (aN @q1 (aN @q2 (aN @q3 (aN @q4 (aN @q5 (aN @q6 @rdt))))))) ?_
  refine kq (aN @dW @rdt) ?_
  refine Ow.callX (X:=X) (Y:= [(bt,dtO dir nm data (spV light k bs) made),(bs,spO light)]) rfl rfl rfl call55 (fun w' aA aZ aT=>sb X C S N 3 dir [] [] w' aZ aT hP hA oM ⟨by decide,by decide⟩ (aV _) (aV _)) (fun v4 D4 bD ar=> ?_)
  obtain⟨rfl,C4,g6,gE⟩:=ar
  rw[Xt (nm:=nm) (data:=data)] at gE ⊢
  have fE:=qM bD o_ (by simp[keys])
  have gi:=qM bD kb (by simp[keys])
  have cj:=cE.came bD
  refine kq @dW ?_
  exact CutO.mk ⟨C4,D4⟩ ⟨gE,g6,fE,gi,cj⟩ rfl rfl
 intro g j hg
 refine kv ?_
 clear hP o_ kb cE
 obtain⟨C1,X1⟩:=g
 simp only at hg ⊢
 obtain⟨hP,rA,o_,kb,cE⟩:=hg
 rw[←rA]
 have dN:DsA (bH s dir nm data S).1 (N+1):=by
  rcases(by omega:s=1∨s=2∨s=3∨s=4∨s=5∨s=6) with rfl|rfl|rfl|rfl|rfl|rfl
  ·exact hA.do oM 5 dir (aY nm) [] oM (aV _)
  ·exact hA.do oM 0 dir (aY nm) [] oM (aV _)
  ·exact hA.do oM 1 dir (aY nm) data oM oM
  ·exact hA.do oM 2 dir (aY nm) [] oM (aV _)
  ·exact hA.do oM 4 dir (aY nm) nm oM oM
  exact hA.do oM 3 dir [] [] (aV _) (aV _)
 generalize bH s dir nm data S=q at*
 obtain⟨S1,e⟩:=q
 simp only at hR hP dN ⊢
 generalize gf s made e=m at*
 refine Cw.permL (M:=(bt,dtO dir nm data (spV light k bs) m):: (bs,spO light)::X1) pM ?_
 have st1:=fun a=>A' (dir:=dir) (nm:=nm) (data:=data) (v:=spV light k bs) (made:=m) a (xC light (k+1) bs)
 by_cases he:e=0
 ·have e0: ((e:Int) !=0)=false:=by rw[he];rfl
  rw[if_neg (fun h=>h he)] at hR
  have hl: ((((cb light).length - (k+1):Nat):Int)==0)=(k+1==(cb light).length):=by
   rw[Bool.eq_iff_iff,beq_iff_eq,beq_iff_eq];omega
  refine ky (aN @dW (aN @sl (aN @st1 (aN @e0 @hl)))) ?_
  refine⟨_,(ke @dW), ?_⟩
  rw[←hR]
  exact⟨(cE.keys (D':=X1++ [(bt,dtO dir nm data (spV light (k+1) bs) m),(bs,spO light)]) (by simp[keys])).perm pM,rfl,X1,C1,spV light (k+1) bs,pM,rA,hP,dN.mono oM,fun _ _=>rfl⟩
 have e0: ((e:Int) !=0)=true:=by rw[bne_iff_ne];omega
 rw[if_pos he] at hR
 have st2:=fun a=>A' (dir:=dir) (nm:=nm) (data:=data) (v:=spV light (k+1) bs) (made:=m) a (q:= .slice none 0 0) ⟨rfl,rfl⟩
 by_cases hm:m=true∧e≠9
 ·rw[if_pos hm] at hR
  have m1:=hm.1
  have e9: ((e:Int) !=9)=true:=by
   rw[bne_iff_ne]
   have:=hm.2
   omega
  subst m1
  refine kz [27] (aN @dW (aN @sl (aN @st1 (aN @st2 (aN @e0 @e9))))) ?_
  refine Cw.permL (M:=X1++ [(bt,dtO dir nm data (.slice none 0 0) true),(bs,spO light)]) pM ?_
  obtain⟨rdt,-⟩:=GO (O1:=dtO dir nm data (.slice none 0 0) true) (O2:=spO light) o_ kb aX w
  refine ky (aN @dW @rdt) ?_
  refine kq (aN @dW @rdt) ?_
  refine Ow.callX (X:=X1) (Y:= [(bt,dtO dir nm data (.slice none 0 0) true),(bs,spO light)]) rfl rfl rfl call55 (fun w' aA aZ aT=>sb X1 C1 S1 (N+1) 5 dir (aY nm) [] w' aZ aT hP dN oM ⟨by decide,by decide⟩ oM (aV _)) (fun v4 D4 bD ar=> ?_)
  obtain⟨rfl,C4,g6,gE⟩:=ar
  have gQ:=dN.do oM 5 dir (aY nm) [] oM (aV _)
  have bZ:Ext w X0 (X1++ [(bt,dtO dir nm data (.slice none 0 0) true),(bs,spO light)]):=cE.keys (by simp[keys])
  refine kq @dW ?_
  refine ky @dW ?_
  refine⟨_,(ke @dW), ?_⟩
  rw[←hR]
  exact⟨bZ.came bD,rfl,D4,C4,_,List.Perm.refl _,g6.trans rA,gE,gQ,fun _ h=>absurd h he⟩
 rw[if_neg hm] at hR
 have bZ:Ext w X0 ((bt,dtO dir nm data (.slice none 0 0) m):: (bs,spO light)::X1):=(cE.keys (D':=X1++ [(bt,dtO dir nm data (.slice none 0 0) m),(bs,spO light)]) (by simp[keys])).perm pM
 by_cases fa:m=true
 ·have e9: ((e:Int) !=9)=false:=by
   have h9:e=9:=Decidable.byContradiction fun h=>hm ⟨fa,h⟩
   rw[h9];rfl
  subst fa
  refine ky (aN @dW (aN @sl (aN @st1 (aN @st2 (aN @e0 @e9))))) ?_
  refine⟨_,(ke @dW), ?_⟩
  rw[←hR]
  exact⟨bZ,rfl,X1,C1, .slice none 0 0,pM,rA,hP,dN.mono oM,fun _ h=>absurd h he⟩
 obtain rfl:m=false:=by simpa using fa
 refine ky (aN @dW (aN @sl (aN @st1 (aN @st2 @e0)))) ?_
 refine⟨_,(ke @dW), ?_⟩
 rw[←hR]
 exact⟨bZ,rfl,X1,C1, .slice none 0 0,pM,rA,hP,dN.mono oM,fun _ h=>absurd h he⟩
def Qd {light:Bool} {k:Nat} {made:Bool} {dir nm data:List UInt8} {S:DiskL} (hk:k< (cb light).length) (hd: (fL light k made dir nm data S).done=false) (he: (fL light k made dir nm data S).e=0): (fL light k made dir nm data S).k< (cb light).length:=by
 have cS:atK k dir nm S< (cb light).length:=by
  unfold atK
  split
  ·cases light<;>decide
  exact hk
 unfold fL at hd he ⊢
 simp only at hd he ⊢
 split at hd
 ·rename_i h
  rw[if_pos h] at he
  exact absurd he h
 rename_i h
 rw[if_neg h]
 have: ¬atK k dir nm S+1=(cb light).length:=beq_eq_false_iff_ne.1 hd
 show atK k dir nm S+1<_
 omega
def pu:=aN (aN @av @au) (aN @Sx.tup2_0 @Sx.tup2_1)
structure RkG where
 f:Nat
 k:Nat
 made:Bool
 S:DiskL
 C:DcG
 X:aB
def RkS (C:DcG) (R:Nat×DiskL) (N:Nat) (v:Value) (D:aB):Prop:=v=vi (R.1:Nat)∧ ∃C',C'.bd=C.bd∧DcP D C' R.2∧DsA R.2 N
def Ov (X:aB) (C:DcG) (S:DiskL) (N bt bs:Nat) (light:Bool) (dir nm data:List UInt8) (w:World) (hX: ∀p,p∈X++ [(bt,dtO dir nm data (spV light 0 bs) false),(bs,spO light)]→w.heap[p.1]? =some p.2) (hn: (keys (X++ [(bt,dtO dir nm data (spV light 0 bs) false),(bs,spO light)])).Nodup) (hP:DcP X C S) (hA:DsA S N) (hN:N<700000) (gH:nm.length≤900000) (sM:data.length≤1000000):
  Rets prog 86 #[vp C.bd 0,vp bt 0] w (XS w (X++ [(bt,dtO dir nm data (spV light 0 bs) false),(bs,spO light)]) (RkS C (fV 10 light 0 false dir nm data S) (N+20))):=by
 obtain⟨R,hR⟩: ∃R,fV 10 light 0 false dir nm data S=R:=⟨_,rfl⟩
 rw[hR]
 have rM:1< (cb light).length:=by cases light<;>decide
 refine Rets.enterX func86 rfl (rs:= [.tmp 4]) results86 ntmps86 hX hn ?_
 refine kf ?_
 refine ky @pu ?_
 refine Cw.loopG (G:=RkG) [8,9,13,14,15,12,16,17,6,7,18,19,20,21,22,23,4,10,11,5] (fun g=> [(5,vi ((10 - g.f:Nat):Int))]) (fun g=>g.X++ [(bt,dtO dir nm data (spV light g.k bs) g.made),(bs,spO light)]) (fun g=>fV g.f light g.k g.made dir nm data g.S=R∧g.k< (cb light).length∧g.C.bd=C.bd∧DcP g.X g.C g.S∧DsA g.S (N+2* (10 - g.f))∧g.f≤10∧Ext w (X++ [(bt,dtO dir nm data (spV light 0 bs) false),(bs,spO light)]) (g.X++ [(bt,dtO dir nm data (spV light g.k bs) g.made),(bs,spO light)])) (fun g=>g.f) ⟨10,0,false,S,C,X⟩ rfl rfl ?_ ?_
 ·exact⟨hR,by show 0<_;omega,rfl,hP,hA,bq 10,Ext.refl w _⟩
 intro g j hg
 refine kv ?_
 clear hR hP hA
 obtain⟨f,k,made,S,C1,X1⟩:=g
 obtain⟨hR,hk,bP,hP,hA,hf,hE⟩:=hg
 simp only at hR hk bP hP hA hf hE ⊢
 rw[←bP]
 cases f with
 |zero=>
  have d1:decide (((10 - 0:Nat):Int)<10)=false:=rfl
  refine ky (aN @pu @d1) ?_
  refine⟨_,(ke @pu), ?_⟩
  exact⟨hE,by rw[←hR];rfl,C1,bP,by rw[←hR];exact hP.mono fun b o h=>az h,by rw[←hR];exact hA.mono oM⟩
 |succ f=>
  have d1:decide (((10 - (f+1):Nat):Int)<10)=true:=aK oM
  rw[w3] at hR
  refine ky (aN @pu @d1) ?_
  refine Ow.callX (X:=X1++ [(bt,dtO dir nm data (spV light k bs) made),(bs,spO light)]) (Y:= []) (List.append_nil _).symm rfl rfl call123 (fun w' aA aZ aT=>NT X1 C1 S (N+2* (10 - (f+1))) bt bs k light made dir nm data w' aZ aT hP hA oM hk (fun _=>rM) gH sM) (fun v4 D4 bD ar=> ?_)
  obtain⟨rfl,X2,C2,q,k9,aw,bE,ay,hq⟩:=ar
  rw[List.append_nil]
  have bZ:=(hE.came0 bD).perm k9
  have hkn:=Qd (light:=light) (made:=made) (dir:=dir) (nm:=nm) (data:=data) (S:=S) hk
  refine Ow.permL k9 ?_
  generalize fL light k made dir nm data S=r at*
  have fO:=ay.mono (M:=N+20) oM
  by_cases hd:r.done=true
  ·rw[if_pos (.inl hd)] at hR
   refine ko (aN @pu @hd) ?_
   refine ky (aN @pu @hd) ?_
   refine⟨_,(ke @pu), ?_⟩
   rw[←hR]
   exact⟨bZ,rfl,C2,aw.trans bP,bE.mono fun b o h=>az h,fO⟩
  have iK:r.done=false:=by simpa using hd
  by_cases lD:r.e=0
  ·have e0: ((r.e:Int) !=0)=false:=by rw[lD];rfl
   rw[if_neg (fun h=>by rcases h with h|h;exact hd h;exact h lD)] at hR
   obtain rfl:=hq iK lD
   have hi1: ((10 - (f+1):Nat):Int)+1=((10 - f:Nat):Int):=by omega
   refine ko (aN @pu (aN @iK @e0)) ?_
   refine ky (aN @pu (aN @iK (aN @e0 @hi1))) ?_
   exact Again.mk ⟨f,r.k,r.made,r.S,C2,X2⟩ (Nat.lt_succ_self f) ⟨hR,hkn iK lD,aw,bE,ay.mono (by show _≤N+2* (10 - f);omega),by show f≤10;omega,bZ⟩ rfl rfl
  have e0: ((r.e:Int) !=0)=true:=by
   rw[bne_iff_ne];omega
  rw[if_pos (.inr lD)] at hR
  refine ko (aN @pu (aN @iK @e0)) ?_
  refine ky (aN @pu (aN @iK @e0)) ?_
  refine⟨_,(ke @pu), ?_⟩
  rw[←hR]
  exact⟨bZ,rfl,C2,aw.trans bP,bE.mono fun b o h=>az h,fO⟩
def NtS (dir nm data:List UInt8) (light:Bool) (v:Value) (D:aB):Prop:= ∃bt bs Z,v=vp bt 0∧(Z++ [(bt,dtO dir nm data (spV light 0 bs) false),(bs,spO light)]).Perm D
def mc:=aN (aN @av @au) (aN @Sx.tup2_0 (aN @Sx.tup2_1 @A'))
def Ol (dir nm data:List UInt8) (light:Bool) (w:World):
  Rets prog 87 #[vs dir,vs nm,vs data, .bool light] w (XS w [] (NtS dir nm data light)):=by
 cases light with
 |false=>
  refine Rets.enterX func87 rfl (rs:= [.tmp 8]) results87 ntmps87 (fun p hp=>by cases hp) (by simp[keys]) ?_
  refine kf ?_
  refine ky @mc ?_
  refine Ow.buildSlice (e:=3) ((cb false).map fun n:Nat=>vi (n:Int)).toArray rfl rfl kR fun b1 aW aI=> ?_
  refine ko @mc ?_
  refine Ow.build _ rfl (Dy dir nm data b1 6 6) ?_
  refine Ow.box rfl rfl fun b2 aq bV=> ?_
  simp only[aS,List.nil_append,List.cons_append]
  refine ko @mc ?_
  refine ky @mc ?_
  refine⟨_,(ke @mc), ?_⟩
  exact⟨Ext.of_new ⟨aI,bV,trivial⟩,b2,b1,[],rfl,List.Perm.swap _ _ []⟩
 |true=>
  refine Rets.enterX func87 rfl (rs:= [.tmp 8]) results87 ntmps87 (fun p hp=>by cases hp) (by simp[keys]) ?_
  refine kf ?_
  refine ky @mc ?_
  refine Ow.buildSlice (e:=3) ((cb false).map fun n:Nat=>vi (n:Int)).toArray rfl rfl kR fun b1 aW aI=> ?_
  refine ko @mc ?_
  refine Ow.build _ rfl (Dy dir nm data b1 6 6) ?_
  refine Ow.box rfl rfl fun b2 aq bV=> ?_
  simp only[aS,List.nil_append,List.cons_append]
  refine ko @mc ?_
  refine ky @mc ?_
  refine Ow.buildSlice (e:=3) ((cb true).map fun n:Nat=>vi (n:Int)).toArray rfl rfl kR fun b3 da dV=> ?_
  refine Ow.permL (M:=(b2,dtO dir nm data (spV false 0 b1) false):: (b1,spO false):: [(b3,spO true)]) (List.Perm.swap _ _ _) ?_
  have st:=fun a=>A' (dir:=dir) (nm:=nm) (data:=data) (v:=spV false 0 b1) (made:=false) a (xC true 0 b3)
  have hsb: ∀o o' L,setB ((b2,o)::L) b2 o'=(b2,o')::L:=fun _ _ _=>by simp[setB]
  refine ko (aN @mc @st) ?_
  refine ky @mc ?_
  refine⟨_,(ke @mc), ?_⟩
  rw[hsb]
  exact⟨Ext.of_new ⟨bV,aI,dV,trivial⟩,b2,b3,[(b1,spO false)],rfl,List.Perm.swap _ _ _⟩
def VU {w:World} {X D:aB} (h:New w.heap.size D):Ext w X (X++D):=
 ⟨fun c hc=>by
  rw[ao] at hc
  exact(List.mem_append.1 hc).imp id (h.le c),fun c hc=>by rw[ao];exact cz _ hc⟩
def N3 (X:aB) (C:DcG) (S:DiskL) (N:Nat) (dir nm data:List UInt8) (w:World) (hX: ∀p,p∈X→w.heap[p.1]? =some p.2) (hn: (keys X).Nodup) (hP:DcP X C S) (hA:DsA S N) (hN:N<700000) (gH:nm.length≤900000) (sM:data.length≤1000000):
  Rets prog 47 #[vp C.bd 0,vs dir,vs nm,vs data] w (XS w X (RkS C (iV S dir nm data true) (N+20))):=by
 refine Rets.enterX func47 rfl (rs:= [.tmp 8]) results47 ntmps47 hX hn ?_
 refine kf ?_
 refine ky @mc ?_
 refine Ow.callC rfl rfl call87 (fun w' aA=>Ol dir nm data true w') ?_
 rintro B v D gR u4 nj ⟨b1,bs,Z,rfl,hpZ⟩
 have mD:Ext w X ((X++Z)++ [(b1,dtO dir nm data (spV true 0 bs) false),(bs,spO true)]):=by
  rw[List.append_assoc]
  exact(VU (nj.mono u4)).perm (hpZ.append_left X)
 refine Ow.permL (M:=(X++Z)++ [(b1,dtO dir nm data (spV true 0 bs) false),(bs,spO true)]) (by rw[List.append_assoc];exact hpZ.append_left X) ?_
 refine Ow.callX (X:=(X++Z)++ [(b1,dtO dir nm data (spV true 0 bs) false),(bs,spO true)]) (Y:= []) (List.append_nil _).symm rfl rfl call86 (fun w' aA aZ aT=>Ov (X++Z) C S N b1 bs true dir nm data w' aZ aT (hP.mono fun b o h=>az h) hA hN gH sM) (fun v4 D4 bD ar=> ?_)
 obtain⟨rfl,C2,aw,bE,ay⟩:=ar
 rw[List.append_nil]
 have bZ:=mD.came0 bD
 have hr:fV 10 true 0 false dir nm data S=iV S dir nm data true:=UV true S
 rw[hr] at bE ay ⊢
 refine ko @mc ?_
 refine ky @mc ?_
 refine⟨_,(ke @mc), ?_⟩
 exact⟨bZ,rfl,C2,aw,bE,ay⟩
end Go.Proofs
end
section
open Go Go.Proofs Go.Sx Go.StP Go.Dig
namespace Go.Proofs
def jw:=aN (aN (aN @j7 @jB) (aN @j9 @j8)) (aN (aN @Sx.tup2_0 @Sx.tup2_1) (aN @av (aN @au @nz)))
def Kb (w:World) (C:DcG) (S:DiskL) (x:IdL) (hD:DcW w C S) (ok:DkOk S) (hB:DkB S):
  Rets prog 15 #[vp C.bd 0, .agg (a8 x.l)] w (fun v D=>v= .tuple #[obV (gg S x).k (gg S x).t,vi ((gg S x).e:Nat)]∧D= []):=by
 have hx:=x.h
 have gV: (aL x.l).length=64:=by rw[pR,x.h]
 have nR:=CV ok aD (aL x.l)
 have iM:dl (cC prog 33) (an prog 33) []=some (obV 0 []):=id kR
 refine Rets.enterV func15 rfl (rs:= [.cell 4 33, .tmp 5]) results15 ntmps15 ?_
 refine kf ?_
 refine ky @jw ?_
 refine Ow.box rfl rfl fun b3 da dV=> ?_
 simp only[dC,cy,dA,aS,List.nil_append]
 refine ko @jw ?_
 refine Ow.alloc rfl rfl fB fun b4 g4 cr=> ?_
 simp only[aS,List.nil_append,List.cons_append]
 have za:b3<b4:=ak g4 (by simp[keys])
 have c_:New w.heap.size [(b3,Obj.cells (a8 x.l) 39 (0,0)),(b4,Obj.cells #[vi 0,vs []] 33 (0,0))]:=⟨dV,cr,trivial⟩
 refine ko @jw ?_
 refine ky @jw ?_
 refine Ow.callFV rfl call32 (fun w' aA=>A8 x.l hx w') ?_
 refine ko @jw ?_
 refine ky @jw ?_
 refine Ow.callFV rfl call51 (fun w' aA=>Bz w' C S aD (aL x.l) (hD.old aA c_) ok hB oM) ?_
 have hg:gg S x=(if(d8 S aD (aL x.l)).2≠0 then⟨0,[],(d8 S aD (aL x.l)).2⟩ else if gc (aL x.l) (d8 S aD (aL x.l)).1=true then⟨looK (aL x.l) (d8 S aD (aL x.l)).1,looT (aL x.l) (d8 S aD (aL x.l)).1,0⟩ else⟨0,[],17⟩):=rfl
 rw[hg]
 clear hg
 generalize d8 S aD (aL x.l)=q at*
 obtain⟨d,e⟩:=q
 simp only at nR ⊢
 by_cases he:e≠0
 ·have e1:=kF he
  rw[if_pos he]
  refine ko @jw ?_
  refine ky (aN @jw @e1) ?_
  refine Ow.build _ rfl iM ?_
  refine ko @jw ?_
  refine ky @jw ?_
  refine⟨_,(ke @jw),c_, ?_⟩
  rfl
 obtain rfl:e=0:=by simpa using he
 have e1: (((0:Nat):Int) !=0)=false:=rfl
 rw[if_neg he]
 refine ko @jw ?_
 refine ky (aN @jw @e1) ?_
 refine Ow.callFV rfl call52 (fun w' aA=>NE (aL x.l) d w' oM) ?_
 refine ko @jw ?_
 refine Ow.alloc rfl rfl fB fun b8 g5 jc=> ?_
 simp only[aS,List.nil_append,List.cons_append]
 have h38:b3<b8:=ak g5 (by simp[keys])
 have JX:b4<b8:=ak g5 (by simp[keys])
 have j3:New w.heap.size [(b3,Obj.cells (a8 x.l) 39 (0,0)),(b4,Obj.cells #[vi 0,vs []] 33 (0,0)),(b8,Obj.cells #[vi (looK (aL x.l) d),vs (looT (aL x.l) d)] 33 (0,0))]:=⟨dV,cr,jc,trivial⟩
 refine ko @jw ?_
 cases eF:gc (aL x.l) d with
 |false=>
  rw[if_neg (by simp)]
  refine ky @jw ?_
  refine Ow.build _ rfl iM ?_
  refine ko @jw ?_
  refine ky @jw ?_
  refine⟨_,(ke @jw),j3, ?_⟩
  rfl
 |true=>
  rw[if_pos rfl]
  refine ky @jw ?_
  refine⟨_,(ke @jw),j3, ?_⟩
  rfl
end Go.Proofs
end
section
open Go Go.Proofs Go.Sx Go.StP
namespace Go.Proofs
def tkO (t:TkL):Obj:= .cells #[vs t.dir,vs t.name,vs t.data, .bool t.light,vi (t.next:Int), .bool t.made, .bool t.ended] 202 (0,0)
def Dk (t:TkL) (n:Nat):aG (some (false,n)) (some (tkO t)) 0=some (vs t.dir):=(rfl)
def El (t:TkL) (n:Nat):aG (some (false,n)) (some (tkO t)) 1=some (vs t.name):=(rfl)
def E9 (t:TkL) (n:Nat):aG (some (false,n)) (some (tkO t)) 2=some (vs t.data):=(rfl)
def Eo (t:TkL) (n:Nat):aG (some (false,n)) (some (tkO t)) 3=some (.bool t.light):=(rfl)
def EG (t:TkL) (n:Nat):aG (some (false,n)) (some (tkO t)) 4=some (vi (t.next:Int)):=(rfl)
def En (t:TkL) (n:Nat):aG (some (false,n)) (some (tkO t)) 5=some (.bool t.made):=(rfl)
def Ds (t:TkL) (n:Nat):aG (some (false,n)) (some (tkO t)) 6=some (.bool t.ended):=(rfl)
def C_ (t:TkL) (x:Nat) (a:Bool):ad (some (a,1)) (some (tkO t)) 4 (vi (x:Int))=some (tkO {t with next:=x}):=dR [vs t.dir,vs t.name,vs t.data, .bool t.light] [vi (t.next:Int)] [vi (x:Int)] [.bool t.made, .bool t.ended] a _ 202 rfl rfl rfl rfl rfl
def TT (t:TkL) (x:Bool) (a:Bool):ad (some (a,1)) (some (tkO t)) 5 (.bool x)=some (tkO {t with made:=x}):=dR [vs t.dir,vs t.name,vs t.data, .bool t.light,vi (t.next:Int)] [.bool t.made] [.bool x] [.bool t.ended] a _ 202 rfl rfl rfl rfl rfl
def LD (t:TkL) (x:Bool) (a:Bool):ad (some (a,1)) (some (tkO t)) 6 (.bool x)=some (tkO {t with ended:=x}):=dR [vs t.dir,vs t.name,vs t.data, .bool t.light,vi (t.next:Int), .bool t.made] [.bool t.ended] [.bool x] [] a _ 202 rfl rfl rfl rfl rfl
structure TkB (t:TkL):Prop where
 name:t.name.length≤900000
 data:t.data.length≤1000000
def wP {t:TkL} (h:TkB t): (aY t.name).length≤900004:=by
 unfold aY
 rw[List.length_append]
 have:=h.name
 simp
 omega
def DkA.step {X X':aB} {G G':DkG} {S S':DiskL} {N:Nat} {kind:Int} {dir name s:List UInt8} {e:Nat} (h:DkA X G S N) (hP:DkP X' G' S') (bK:StepD S kind dir name s S' e) (hn:name.length≤1000000) (hs:s.length≤1000000):DkA X' G' S' (N+1):=⟨hP,Ct h.H bK,EO h.B hn hs bK⟩
def DkA.up {X:aB} {G:DkG} {S:DiskL} {N:Nat} (h:DkA X G S N):DkA X G S (N+1):=⟨h.P,h.H,h.B.mono (Nat.le_succ N)⟩
def PhS (G:DkG) (bt:Nat) (r:PhR) (N:Nat) (v:Value) (D:aB):Prop:=v= .tuple #[.bool r.did,vi (r.e:Nat)]∧ ∃X' G',(X'++ [(bt,tkO r.t)]).Perm D∧G'.bd=G.bd∧DkA X' G' r.S N
def Zw (b o:Nat):bF prog .eql 156 (vp b o) (.pointer none)=some (.bool false):=by
 simp[bF,eqX,eu,eW,underlying156,vp]
def oI {X:aB} {bt:Nat} {t:TkL} (hn: (keys (X++ [(bt,tkO t)])).Nodup):bt∉keys X∧ ∀X' o,bt∉keys X'→ ∀w,aU w (X'++ [(bt,o)]) bt=some o:=by
 rw[ao,List.nodup_append] at hn
 refine⟨fun hm=>hn.2.2 bt hm bt (by simp[keys]) rfl,fun X' o h w=>aQ (@We_ _ [] _ _ h)⟩
def dg:=aN (aN (aN @av (aN @au @Dk)) (aN (aN @El @E9) (aN @Eo @EG))) (aN (aN @En (aN @Ds @C_)) (aN (aN @TT @LD) (aN @Sx.tup2_0 @Sx.tup2_1)))
def P_ (X:aB) (G:DkG) (S:DiskL) (N bt:Nat) (t:TkL) (w:World) (hX: ∀p,p∈X++ [(bt,tkO t)]→w.heap[p.1]? =some p.2) (hn: (keys (X++ [(bt,tkO t)])).Nodup) (hA:DkA X G S N) (hN:N<900000) (hB:TkB t):
  Rets prog 170 #[vp bt 0,vp G.bd 0] w (XS w (X++ [(bt,tkO t)]) (PhS G bt (sA t S) (N+1))):=by
 refine Rets.enterX func170 rfl (rs:= [.tmp 4, .tmp 5]) results170 ntmps170 hX hn ?_
 refine kf ?_
 have li:=(oI hn).1
 have rdt:=(oI hn).2 X (tkO t) li w
 have cT:=wP hB
 have bA:t.name.length≤900000:=hB.name
 have jW:=hB.data
 have ly:=hA.pend oM
 have nS:=hA.used oM
 unfold sA
 refine ky @dg ?_
 refine Cw.regionO [0,1,2,3,5,6,7,4,8,9,10,11,12,13,14,15] [] rfl kR kR ?_
 simp only[ai, ↓ah, ↓ab, ↓ag, ↓ae,ac]
 refine kq (aN @dg @rdt) ?_
 refine Ow.callFV rfl call49 (fun w' aA=>BL w' G S t.dir (aY t.name) ⟨X,fun b o hb=>aA.has b o (cz _ (cQ hb)),hA.P⟩ oM) ?_
 refine kq @dg ?_
 by_cases h0: (d8 S t.dir (aY t.name)).2≠0
 ·have e1:=kF h0
  rw[if_pos h0]
  refine ky (aN @dg @e1) ?_
  refine⟨_,(ke @dg), ?_⟩
  exact⟨Ext.refl w _,rfl,X,G,List.Perm.refl _,rfl,hA.up⟩
 have h0': (d8 S t.dir (aY t.name)).2=0:=by simpa using h0
 have e1: (((d8 S t.dir (aY t.name)).2:Int) !=0)=false:=by rw[h0'];rfl
 rw[if_neg h0]
 refine ky (aN @dg @e1) ?_
 refine Cw.regionO [0,1,2,3,5,6,7,4,8,9,10,11,12] [10] rfl kR kR ?_
 simp only[ai, ↓ah, ↓ab, ↓ag, ↓ae,ac]
 refine kq (aN @dg @rdt) ?_
 refine Ow.callX (X:=X) (Y:= [(bt,tkO t)]) rfl rfl rfl call56 (fun w' aA aZ aT=>K_ X G S t.dir (aY t.name) w' aZ aT hA.P oM ly) (fun v4 D4 bD ar=> ?_)
 obtain⟨rfl,G',bP,jT⟩:=ar
 refine kq @dg ?_
 refine ky @dg ?_
 refine⟨_,(ke @dg), ?_⟩
 exact⟨(Ext.refl w _).came bD,rfl,D4,G',List.Perm.refl _,bP,hA.step jT (A9 S _ _ []) oM (aV _)⟩
def Mn (X:aB) (G:DkG) (S:DiskL) (N bt:Nat) (t:TkL) (w:World) (hX: ∀p,p∈X++ [(bt,tkO t)]→w.heap[p.1]? =some p.2) (hn: (keys (X++ [(bt,tkO t)])).Nodup) (hA:DkA X G S N) (hN:N<900000) (hB:TkB t):
  Rets prog 171 #[vp bt 0,vp G.bd 0] w (XS w (X++ [(bt,tkO t)]) (PhS G bt (ww t S) (N+1))):=by
 refine Rets.enterX func171 rfl (rs:= [.tmp 4, .tmp 5]) results171 ntmps171 hX hn ?_
 refine kf ?_
 have li:=(oI hn).1
 have rdt:=(oI hn).2 X (tkO t) li w
 have cT:=wP hB
 have bA:t.name.length≤900000:=hB.name
 have jW:=hB.data
 have ly:=hA.pend oM
 have nS:=hA.used oM
 unfold ww
 refine kz [2] @dg ?_
 refine Cw.regionO [0,1,2,3,5,6,7,4,8,9,10,11] [10] rfl kR kR ?_
 simp only[ai, ↓ah, ↓ab, ↓ag, ↓ae,ac]
 refine kq (aN @dg @rdt) ?_
 refine Ow.callX (X:=X) (Y:= [(bt,tkO t)]) rfl rfl rfl call200 (fun w' aA aZ aT=>NU X G S t.dir (aY t.name) w' aZ aT hA.P oM ly) (fun v4 D4 bD ar=> ?_)
 obtain⟨rfl,G',bP,jT⟩:=ar
 refine kq @dg ?_
 refine Cw.permL (M:=(bt,tkO t)::D4) pM ?_
 have mB:=hA.step jT (KV S _ _ []) oM (aV _)
 have hE:=(Ext.refl w (X++ [(bt,tkO t)])).came bD
 generalize kE S t.dir (aY t.name)=q at*
 obtain⟨S',e⟩:=q
 simp only at mB ⊢
 have hi: ((e:Int)==0)=(e==0):=by
  cases e with
  |zero=>rfl
  |succ n=>rfl
 refine ky (aN @dg @hi) ?_
 refine⟨_,(ke @dg), ?_⟩
 exact⟨(hE.perm (List.perm_append_comm (l₁:= [(bt,tkO t)]) (l₂:=D4))).keys rfl,rfl,D4,G',List.perm_append_comm (l₁:=D4) (l₂:= [_]),bP,mB⟩
def Mc (X:aB) (G:DkG) (S:DiskL) (N bt:Nat) (t:TkL) (w:World) (hX: ∀p,p∈X++ [(bt,tkO t)]→w.heap[p.1]? =some p.2) (hn: (keys (X++ [(bt,tkO t)])).Nodup) (hA:DkA X G S N) (hN:N<900000) (hB:TkB t):
  Rets prog 172 #[vp bt 0,vp G.bd 0] w (XS w (X++ [(bt,tkO t)]) (PhS G bt (x8 t S) (N+1))):=by
 refine Rets.enterX func172 rfl (rs:= [.tmp 4, .tmp 5]) results172 ntmps172 hX hn ?_
 refine kf ?_
 have li:=(oI hn).1
 have rdt:=(oI hn).2 X (tkO t) li w
 have cT:=wP hB
 have bA:t.name.length≤900000:=hB.name
 have jW:=hB.data
 have ly:=hA.pend oM
 have nS:=hA.used oM
 unfold x8
 refine ky @dg ?_
 refine Cw.regionO [0,1,2,3,5,6,7,10,11,12,4,8,9,13,14,15,16] [14] rfl kR kR ?_
 simp only[ai, ↓ah, ↓ab, ↓ag, ↓ae,ac]
 refine kq (aN @dg @rdt) ?_
 refine Ow.callX (X:=X) (Y:= [(bt,tkO t)]) rfl rfl rfl call201 (fun w' aA aZ aT=>M_ X G S t.dir (aY t.name) t.data w' aZ aT hA.P oM oM nS) (fun v4 D4 bD ar=> ?_)
 obtain⟨rfl,jT⟩:=ar
 refine kq @dg ?_
 refine ky @dg ?_
 refine⟨_,(ke @dg), ?_⟩
 exact⟨(Ext.refl w _).came bD,rfl,D4,G,List.Perm.refl _,rfl,hA.step jT (Kg S _ _ _) oM oM⟩
def OY (X:aB) (G:DkG) (S:DiskL) (N bt:Nat) (t:TkL) (w:World) (hX: ∀p,p∈X++ [(bt,tkO t)]→w.heap[p.1]? =some p.2) (hn: (keys (X++ [(bt,tkO t)])).Nodup) (hA:DkA X G S N) (hN:N<900000) (hB:TkB t):
  Rets prog 173 #[vp bt 0,vp G.bd 0] w (XS w (X++ [(bt,tkO t)]) (PhS G bt (tu t S) (N+1))):=by
 refine Rets.enterX func173 rfl (rs:= [.tmp 4, .tmp 5]) results173 ntmps173 hX hn ?_
 refine kf ?_
 have li:=(oI hn).1
 have rdt:=(oI hn).2 X (tkO t) li w
 have cT:=wP hB
 have bA:t.name.length≤900000:=hB.name
 have jW:=hB.data
 have ly:=hA.pend oM
 have nS:=hA.used oM
 unfold tu
 by_cases hl:t.light=true
 ·rw[if_pos hl]
  refine ky (aN @dg (aN @rdt @hl)) ?_
  refine⟨_,(ke @dg), ?_⟩
  exact⟨Ext.refl w _,rfl,X,G,List.Perm.refl _,rfl,hA.up⟩
 rw[if_neg hl]
 have lw:t.light=false:=by simpa using hl
 refine ky (aN @dg (aN @rdt (@lw))) ?_
 refine Cw.regionO [0,1,2,3,5,6,7,4,8,9,10,11,12] [10] rfl kR kR ?_
 simp only[ai, ↓ah, ↓ab, ↓ag, ↓ae,ac]
 refine kq (aN @dg @rdt) ?_
 refine Ow.callX (X:=X) (Y:= [(bt,tkO t)]) rfl rfl rfl call53 (fun w' aA aZ aT=>BR X G S t.dir (aY t.name) w' aZ aT hA.P oM) (fun v4 D4 bD ar=> ?_)
 obtain⟨rfl,jT⟩:=ar
 refine kq @dg ?_
 refine ky @dg ?_
 refine⟨_,(ke @dg), ?_⟩
 exact⟨(Ext.refl w _).came bD,rfl,D4,G,List.Perm.refl _,rfl,hA.step jT (JL S _ _ []) oM (aV _)⟩
def Mj (X:aB) (G:DkG) (S:DiskL) (N bt:Nat) (t:TkL) (w:World) (hX: ∀p,p∈X++ [(bt,tkO t)]→w.heap[p.1]? =some p.2) (hn: (keys (X++ [(bt,tkO t)])).Nodup) (hA:DkA X G S N) (hN:N<900000) (hB:TkB t):
  Rets prog 175 #[vp bt 0,vp G.bd 0] w (XS w (X++ [(bt,tkO t)]) (PhS G bt (tG t S) (N+1))):=by
 refine Rets.enterX func175 rfl (rs:= [.tmp 4, .tmp 5]) results175 ntmps175 hX hn ?_
 refine kf ?_
 have li:=(oI hn).1
 have rdt:=(oI hn).2 X (tkO t) li w
 have cT:=wP hB
 have bA:t.name.length≤900000:=hB.name
 have jW:=hB.data
 have ly:=hA.pend oM
 have nS:=hA.used oM
 unfold tG
 by_cases hl:t.light=true
 ·rw[if_pos hl]
  refine ky (aN @dg (aN @rdt @hl)) ?_
  refine⟨_,(ke @dg), ?_⟩
  exact⟨Ext.refl w _,rfl,X,G,List.Perm.refl _,rfl,hA.up⟩
 rw[if_neg hl]
 have lw:t.light=false:=by simpa using hl
 refine ky (aN @dg (aN @rdt (@lw))) ?_
 refine kq (aN @dg @rdt) ?_
 refine Ow.callX (X:=X) (Y:= [(bt,tkO t)]) rfl rfl rfl call54 (fun w' aA aZ aT=>J8_ X G S t.dir w' aZ aT hA.P) (fun v4 D4 bD ar=> ?_)
 obtain⟨rfl,G',bP,jT⟩:=ar
 refine kq @dg ?_
 refine ky @dg ?_
 refine⟨_,(ke @dg), ?_⟩
 exact⟨(Ext.refl w _).came bD,rfl,D4,G',List.Perm.refl _,bP,hA.step jT (KK S _ [] []) (aV _) (aV _)⟩
def MT (X:aB) (G:DkG) (S:DiskL) (N bt:Nat) (t:TkL) (w:World) (hX: ∀p,p∈X++ [(bt,tkO t)]→w.heap[p.1]? =some p.2) (hn: (keys (X++ [(bt,tkO t)])).Nodup) (hA:DkA X G S N) (hN:N<900000) (hB:TkB t):
  Rets prog 174 #[vp bt 0,vp G.bd 0] w (XS w (X++ [(bt,tkO t)]) (PhS G bt (wv t S) (N+1))):=by
 refine Rets.enterX func174 rfl (rs:= [.tmp 4, .tmp 5]) results174 ntmps174 hX hn ?_
 refine kf ?_
 have li:=(oI hn).1
 have rdt:=(oI hn).2 X (tkO t) li w
 have cT:=wP hB
 have bA:t.name.length≤900000:=hB.name
 have jW:=hB.data
 have ly:=hA.pend oM
 have nS:=hA.used oM
 unfold wv
 refine kz [2] @dg ?_
 refine Cw.regionO [0,1,2,3,5,6,7,10,11,12,4,8,9,13,14,15] [14] rfl kR kR ?_
 simp only[ai, ↓ah, ↓ab, ↓ag, ↓ae,ac]
 refine kq (aN @dg @rdt) ?_
 refine Ow.callX (X:=X) (Y:= [(bt,tkO t)]) rfl rfl rfl call202 (fun w' aA aZ aT=>OE X G S t.dir (aY t.name) t.name w' aZ aT hA.P oM oM ly) (fun v4 D4 bD ar=> ?_)
 obtain⟨rfl,G',bP,jT⟩:=ar
 refine kq @dg ?_
 refine Cw.permL (M:=(bt,tkO t)::D4) pM ?_
 have mB:=hA.step jT (Kc S _ _ _) oM oM
 have hE:=(Ext.refl w (X++ [(bt,tkO t)])).came bD
 generalize jg S t.dir (aY t.name) t.name=q at*
 obtain⟨S',e⟩:=q
 simp only at mB ⊢
 have hi: ((e:Int) !=0)=(e !=0):=by
  cases e with
  |zero=>rfl
  |succ n=>rfl
 cases hm:t.made with
 |true=>
  rw[Bool.true_and]
  refine ky (aN @dg (aN @hi @hm)) ?_
  refine⟨_,(ke @dg), ?_⟩
  exact⟨(hE.perm (List.perm_append_comm (l₁:= [(bt,tkO t)]) (l₂:=D4))).keys rfl,rfl,D4,G',List.perm_append_comm (l₁:=D4) (l₂:= [_]),bP,mB⟩
 |false=>
  rw[Bool.false_and]
  refine ky (aN @dg (aN @hi @hm)) ?_
  refine⟨_,(ke @dg), ?_⟩
  exact⟨(hE.perm (List.perm_append_comm (l₁:= [(bt,tkO t)]) (l₂:=D4))).keys rfl,rfl,D4,G',List.perm_append_comm (l₁:=D4) (l₂:= [_]),bP,mB⟩
def phF (n:Nat):FuncId:=match n with
 |0=>170
 |1=>171
 |2=>172
 |3=>173
 |4=>174
 |_=>175
def stV:List Value:= [.func (.func (phF 0)) #[] #[], .func (.func (phF 1)) #[] #[], .func (.func (phF 2)) #[] #[], .func (.func (phF 3)) #[] #[], .func (.func (phF 4)) #[] #[], .func (.func (phF 5)) #[] #[]]
def stO:Obj:= .cells stV.toArray 232 (0,0)
def XM (n m:Nat) (h:n<6):aG (some (false,m)) (some stO) n=some (.func (.func (phF n)) #[] #[]):=by
 rcases(by omega:n=0∨n=1∨n=2∨n=3∨n=4∨n=5) with rfl|rfl|rfl|rfl|rfl|rfl<;>rfl
def Xi (n:Nat) (h:n<6) (X:aB) (G:DkG) (S:DiskL) (N bt:Nat) (t:TkL) (w:World) (hX: ∀p,p∈X++ [(bt,tkO t)]→w.heap[p.1]? =some p.2) (hn: (keys (X++ [(bt,tkO t)])).Nodup) (hA:DkA X G S N) (hN:N<900000) (hB:TkB t):
  Rets prog (phF n) #[vp bt 0,vp G.bd 0] w (XS w (X++ [(bt,tkO t)]) (PhS G bt (phT n t S) (N+1))):=by
 rcases(by omega:n=0∨n=1∨n=2∨n=3∨n=4∨n=5) with rfl|rfl|rfl|rfl|rfl|rfl
 ·exact P_ X G S N bt t w hX hn hA hN hB
 ·exact Mn X G S N bt t w hX hn hA hN hB
 ·exact Mc X G S N bt t w hX hn hA hN hB
 ·exact OY X G S N bt t w hX hn hA hN hB
 ·exact MT X G S N bt t w hX hn hA hN hB
 exact Mj X G S N bt t w hX hn hA hN hB
def Yd (n:Nat) (h:n<6): ∀a w,(callFunc (phF n) a).run prog w= .ok (.enter (phF n) a) w:=by
 rcases(by omega:n=0∨n=1∨n=2∨n=3∨n=4∨n=5) with rfl|rfl|rfl|rfl|rfl|rfl
 ·exact call170
 ·exact call171
 ·exact call172
 ·exact call173
 ·exact call174
 exact call175
def Mr (bt:Nat) (t:TkL) (w:World) (hX:w.heap[bt]? =some (tkO t)):Rets prog 147 #[vp bt 0] w (fun v D=>v= .bool t.ended∧D= []):=by
 have cT:=Zw bt 0
 refine Rets.enterV func147 rfl (rs:= [.tmp 2]) results147 ntmps147 ?_
 refine kf ?_
 refine ky (aN @hX @cT) ?_
 refine⟨_,(ke @Nat.add_zero),trivial, ?_⟩
 rfl
def U3:dl (cC prog 232) (an prog 232) [(0, .func (.func (phF 0)) #[] #[]),(1, .func (.func (phF 1)) #[] #[]),(2, .func (.func (phF 2)) #[] #[]),(3, .func (.func (phF 3)) #[] #[]),(4, .func (.func (phF 4)) #[] #[]),(5, .func (.func (phF 5)) #[] #[])]=some (.agg stV.toArray):=by
 rw[show cC prog 232=some [(0,1),(1,1),(2,1),(3,1),(4,1),(5,1)] from id kR,zr232];rfl
def LO:ad (some (true,6)) (some (.cells #[.nilFunc, .nilFunc, .nilFunc, .nilFunc, .nilFunc, .nilFunc] 232 (0,0))) 0 (.agg stV.toArray)=some stO:=(rfl)
def Q8 (w:World):Rets prog 148 #[] w (fun v D=>v= .agg stV.toArray∧D= []):=by
 refine Rets.enterV func148 rfl (rs:= [.cell 0 232]) results148 ntmps148 ?_
 refine kf ?_
 refine ky @Nat.add_zero ?_
 refine Ow.alloc rfl rfl zr232 fun b1 aW aI=> ?_
 refine ko @Nat.add_zero ?_
 refine Ow.build (.agg stV.toArray) rfl U3 ?_
 refine ko @LO ?_
 refine ky @LO ?_
 refine⟨_,(ke @Nat.add_zero),⟨aI,trivial⟩, ?_⟩
 rfl
def eK:=aN (aN (aN @av @au) (aN @Dk (aN @El @E9))) (aN (aN @Eo (aN @EG @En)) (aN @Ds (aN @Sx.tup2_0 @Sx.tup2_1)))
def ibeq (n k:Nat): ((n:Int)==(k:Int))=(n==k):=by
 rw[Bool.eq_iff_iff,beq_iff_eq,beq_iff_eq]
 omega
structure SG where
 lab:Nat
 did:Bool
 e:Nat
 t:TkL
 S:DiskL
 G:DkG
 X:aB
 b8:Nat
 c:Nat
def SJ (w:World) (L0:aB) (n bd bt N:Nat) (R:StR) (g:SG):Prop:=
 Ext w L0 ((bt,tkO g.t):: (g.b8,stO)::g.X)∧(keys ((bt,tkO g.t):: (g.b8,stO)::g.X)).Nodup∧n≤g.b8∧g.G.bd=bd∧DkA g.X g.G g.S (N+g.c)∧TkB g.t∧
 ((g.lab=0∧g.c+ (6 - g.t.next)≤6∧g.t.next<6∧gD (6 - g.t.next) g.t g.S=R)∨
 (g.lab=1∧g.c≤6∧ ∃r:PhR,g.t=nxT r∧g.S=r.S∧g.e=r.e∧jL r=R))
def SL (g:SG):Nat:=match g.lab with
 |0=>0
 |_=>1
def SL0 (a b c d e f g h):SL ⟨0,a,b,c,d,e,f,g,h⟩=0:=rfl
def SS (g:SG):List (Nat×Value):= [(6, .bool g.did),(7,vi (g.e:Nat)),(8,vp g.b8 0)]
def SH (bt:Nat) (g:SG):aB:=(bt,tkO g.t):: (g.b8,stO)::g.X
def StS (G:DkG) (bt:Nat) (R:StR) (N:Nat) (v:Value) (D:aB):Prop:=v= .tuple #[.bool R.done,vi (R.e:Nat)]∧ ∃X' G',(X'++ [(bt,tkO R.t)]).Perm D∧G'.bd=G.bd∧DkA X' G' R.S N
set_option maxHeartbeats 12000000 in
def Rk (X:aB) (G:DkG) (S:DiskL) (N bt:Nat) (t:TkL) (w:World) (hX: ∀p,p∈X++ [(bt,tkO t)]→w.heap[p.1]? =some p.2) (hn: (keys (X++ [(bt,tkO t)])).Nodup) (hA:DkA X G S N) (hN:N<800000) (hB:TkB t) (aX:t.ended=false→t.next<6):
  Rets prog 122 #[vp bt 0,vp G.bd 0] w (XS w (X++ [(bt,tkO t)]) (StS G bt (gJ t S) (N+7))):=by
 refine Rets.enterX func122 rfl (rs:= [.tmp 4, .tmp 5]) results122 ntmps122 hX hn ?_
 refine kf ?_
 have li:=(oI hn).1
 have rdt:=(oI hn).2 X (tkO t) li w
 unfold gJ
 refine ky @eK ?_
 refine Cw.scopeL (G:=SG) (fun g=>SL g) [9,10,4,5,6,7,11,8,13,14,15,16,17,18,19,20,21,12,22,23,24,25,26,27,28,29,30,31,32,33,34,35,36,37,38,39,40,41,42,43,44,45,46,47,48,49,50,51,52,53,54,55,56,57,58,59,60,61,62,63,64,65,66,67,68,69,70,71,72,73,74,75,76,77,78,79,80,81,82,83,84,85,86,87,88,89] (fun g=>SS g) (fun g=>SH bt g) (fun g=>SJ w (X++ [(bt,tkO t)]) w.heap.size G.bd bt N (if t.ended=true then⟨false,15,t,S⟩ else gD (6 - t.next) t S) g) (fun g=>(if g.lab=0 then 6 - g.t.next+1 else 0)) ?_ ?_ ?_
 ·intro g
  unfold SL
  split<;>rfl
 ·intro g j hg
  obtain⟨lab,did,e,t1,S1,G1,X1,b8,c⟩:=g
  obtain⟨hE,bA,g5,bP,dN,di,hg⟩:=hg
  simp only at hE bA g5 bP dN di hg
  rcases hg with⟨rfl,hc,cF,hR⟩ | ⟨rfl,hc,r,rfl,rfl,rfl,hR⟩
  ·simp only[SL,SS,SH]
   simp only[m9,hasL,Bool.or_false,Bool.false_or,Bool.or_true,Bool.true_or,Nat.reduceBEq,beq_self_eq_true, ↓reduceIte,Bool.false_eq_true]
   refine kv ?_
   try with_reducible refine KE ?_
   have hk:=bA
   simp only[keys,List.map_cons,List.nodup_cons,List.mem_cons,not_or] at hk
   have da:bt≠b8:=hk.1.1
   have aW:bt∉keys X1:=hk.1.2
   have aq:b8∉keys X1:=hk.2.1
   have rd8: ∀o w,aU w ((bt,o):: (b8,stO)::X1) b8=some stO:=fun o w=>aQ (by simp[Sx.look,da])
   have hix: ∀m,i_ (.arr 6 m) (vp b8 0) (some (t1.next:Int))=some (vp b8 (t1.next*m.2)):=fun m=>by
    rw[J7_ _ _ _ _ _ ⟨by omega,by omega⟩];simp
   have vJ: ∀m,aG (some (false,m)) (some stO) t1.next=some (.func (.func (phF t1.next)) #[] #[]):=fun m=>XM _ m cF
   refine ky (aN @eK (aN @rd8 (aN @hix @vJ))) ?_
   refine Ow.permL (M:=(X1++ [(bt,tkO t1)])++ [(b8,stO)]) pM ?_
   refine Ow.callFnX2 (X:=X1++ [(bt,tkO t1)]) (Y:= [(b8,stO)]) (b:=vp bt 0) (b2:=vp G.bd 0) rfl rfl rfl rfl rfl rfl (Yd t1.next cF) (fun w' aA aZ aT=>by rw[←bP];exact Xi t1.next cF X1 G1 S1 (N+c) bt t1 w' aZ aT dN oM di) (fun v4 D4 bD ar=> ?_)
   obtain⟨rfl,X2,G2,k9,aw,ay⟩:=ar
   obtain⟨rY,nP,pA,J',hr5,yl⟩:=tk t1.next t1 S1
   have dE:TkB (phT t1.next t1 S1).t:=⟨by rw[nP];exact di.name,by rw[pA];exact di.data⟩
   have hBn:TkB (nxT (phT t1.next t1 S1)):=⟨dE.name,dE.data⟩
   have hBf:TkB (iS (phT t1.next t1 S1)):=⟨dE.name,dE.data⟩
   obtain⟨q,hq⟩: ∃q,6 - t1.next=q+1:=⟨5 - t1.next,by omega⟩
   rw[hq] at hR
   replace hR: (if(phT t1.next t1 S1).e≠0 then jL (phT t1.next t1 S1)
    else if(phT t1.next t1 S1).did=false∧iI (nxT (phT t1.next t1 S1))=false then gD q (iS (phT t1.next t1 S1)) (phT t1.next t1 S1).S
    else⟨iI (nxT (phT t1.next t1 S1)),0,iS (phT t1.next t1 S1),(phT t1.next t1 S1).S⟩)=_:=hR
   generalize phT t1.next t1 S1=r at*
   have hp3: ((bt,tkO r.t):: (b8,stO)::X2).Perm (D4++ [(b8,stO)]):=(by simpa using(List.perm_append_comm (l₁:= [(bt,tkO r.t),(b8,stO)]) (l₂:=X2)): ((bt,tkO r.t):: (b8,stO)::X2).Perm (X2++ [(bt,tkO r.t),(b8,stO)])).trans (by simpa using k9.append_right [(b8,stO)])
   have cE:Ext w (X++ [(bt,tkO t)]) ((X1++ [(bt,tkO t1)])++ [(b8,stO)]):=hE.perm pM
   have bZ:Ext w (X++ [(bt,tkO t)]) ((bt,tkO r.t):: (b8,stO)::X2):=(Ext.came cE bD).perm hp3
   refine Ow.permL hp3 ?_
   refine Ow.world fun w9 IA=> ?_
   have kl: (keys ((bt,tkO r.t):: (b8,stO)::X2)).Nodup:=IA.nodup
   have fg: ∀a,ad (some (a,1)) (some (tkO r.t)) 4 (vi ((r.t.next:Int)+1))=some (tkO (nxT r)):=fun a=>C_ r.t (r.t.next+1) a
   have hnx2:r.t.next<6:=by omega
   have fO:DkA (X2++ [(b8,stO)]) G2 r.S (N+7):=⟨ay.P.mono (X':=X2++ [(b8,stO)]) fun b o h=>az h,ay.H,ay.B.mono oM⟩
   refine ko @eK ?_
   by_cases he:r.e=0
   ·have e0: ((r.e:Int) !=0)=false:=by rw[he];rfl
    rw[if_neg (fun h=>h he)] at hR
    have gz: ∀a,ad (some (a,1)) (some (tkO (nxT r))) 6 (.bool (iI (nxT r)))=some (tkO (iS r)):=fun a=>LD (nxT r) _ a
    have gF: (iS r).ended=iI (nxT r):=rfl
    have p4:iI (nxT r)=((nxT r).next==6|| ((nxT r).light&& (nxT r).next==5)):=rfl
    have i6: (((nxT r).next:Int)==6)=((nxT r).next==6):=ibeq _ 6
    have i5: (((nxT r).next:Int)==5)=((nxT r).next==5):=ibeq _ 5
    cases c6: ((nxT r).next==6) with
    |true=>
     have h9:iI (nxT r)=true:=by rw[p4,c6];rfl
     rw[c6] at i6
     rw[h9] at gz gF hR
     rw[if_neg (fun h=>by cases h.2)] at hR
     cases hd:r.did with
     |true=>
      refine ky (aN @eK (aN @fg (aN @e0 (aN @gz (aN @i6 @gF))))) ?_
      refine⟨_,(ke @eK), ?_⟩
      rw[←hR]
      exact⟨bZ.keys rfl,rfl,X2++ [(b8,stO)],G2,pM,aw.trans bP,fO⟩
     |false=>
      refine ky (aN @eK (aN @fg (aN @e0 (aN @gz (aN @i6 @gF))))) ?_
      refine⟨_,(ke @eK), ?_⟩
      rw[←hR]
      exact⟨bZ.keys rfl,rfl,X2++ [(b8,stO)],G2,pM,aw.trans bP,fO⟩
    |false=>
     have J_:r.t.next+1≠6:=beq_eq_false_iff_ne.1 c6
     rw[c6] at i6
     cases cl: (nxT r).light with
     |false=>
      have h9:iI (nxT r)=false:=by rw[p4,c6,cl];rfl
      rw[h9] at gz gF hR
      cases hd:r.did with
      |true=>
       rw[hd,if_neg (fun h=>by cases h.1)] at hR
       refine ky (aN @eK (aN @fg (aN @e0 (aN @gz (aN @i6 (aN @cl @gF)))))) ?_
       refine⟨_,(ke @eK), ?_⟩
       rw[←hR]
       exact⟨bZ.keys rfl,rfl,X2++ [(b8,stO)],G2,pM,aw.trans bP,fO⟩
      |false=>
       rw[hd,if_pos ⟨rfl,rfl⟩] at hR
       refine ky (aN @eK (aN @fg (aN @e0 (aN @gz (aN @i6 (aN @cl @gF)))))) ?_
       exact Jump.mk ⟨0,false,r.e,iS r,r.S,G2,X2,b8,c+1⟩ rfl (by show 6 - (r.t.next+1)+1<6 - t1.next+1;omega) ⟨bZ.keys rfl,kl,g5,aw.trans bP,ay,hBf, .inl ⟨rfl,by show c+1+ (6 - (r.t.next+1))≤6;omega,by show r.t.next+1<6;omega,by show gD (6 - (r.t.next+1)) _ _=_;rw[show 6 - (r.t.next+1)=q by omega];exact hR⟩⟩ rfl rfl
     |true=>
      cases c5: ((nxT r).next==5) with
      |true=>
       have h9:iI (nxT r)=true:=by rw[p4,c6,cl,c5];rfl
       rw[c5] at i5
       rw[h9] at gz gF hR
       rw[if_neg (fun h=>by cases h.2)] at hR
       cases hd:r.did with
       |true=>
        refine ky (aN @eK (aN @fg (aN @e0 (aN @gz (aN @i6 (aN @i5 (aN @cl @gF))))))) ?_
        refine⟨_,(ke @eK), ?_⟩
        rw[←hR]
        exact⟨bZ.keys rfl,rfl,X2++ [(b8,stO)],G2,pM,aw.trans bP,fO⟩
       |false=>
        refine ky (aN @eK (aN @fg (aN @e0 (aN @gz (aN @i6 (aN @i5 (aN @cl @gF))))))) ?_
        refine⟨_,(ke @eK), ?_⟩
        rw[←hR]
        exact⟨bZ.keys rfl,rfl,X2++ [(b8,stO)],G2,pM,aw.trans bP,fO⟩
      |false=>
       have h9:iI (nxT r)=false:=by rw[p4,c6,cl,c5];rfl
       rw[c5] at i5
       rw[h9] at gz gF hR
       cases hd:r.did with
       |true=>
        rw[hd,if_neg (fun h=>by cases h.1)] at hR
        refine ky (aN @eK (aN @fg (aN @e0 (aN @gz (aN @i6 (aN @i5 (aN @cl @gF))))))) ?_
        refine⟨_,(ke @eK), ?_⟩
        rw[←hR]
        exact⟨bZ.keys rfl,rfl,X2++ [(b8,stO)],G2,pM,aw.trans bP,fO⟩
       |false=>
        rw[hd,if_pos ⟨rfl,rfl⟩] at hR
        refine ky (aN @eK (aN @fg (aN @e0 (aN @gz (aN @i6 (aN @i5 (aN @cl @gF))))))) ?_
        exact Jump.mk ⟨0,false,r.e,iS r,r.S,G2,X2,b8,c+1⟩ rfl (by show 6 - (r.t.next+1)+1<6 - t1.next+1;omega) ⟨bZ.keys rfl,kl,g5,aw.trans bP,ay,hBf, .inl ⟨rfl,by show c+1+ (6 - (r.t.next+1))≤6;omega,by show r.t.next+1<6;omega,by show gD (6 - (r.t.next+1)) _ _=_;rw[show 6 - (r.t.next+1)=q by omega];exact hR⟩⟩ rfl rfl
   have e0: ((r.e:Int) !=0)=true:=by
    rw[bne_iff_ne];omega
   rw[if_pos he] at hR
   refine ky (aN @eK (aN @fg @e0)) ?_
   exact Jump.mk ⟨1,r.did,r.e,nxT r,r.S,G2,X2,b8,c+1⟩ rfl (by show 0<6 - t1.next+1;omega) ⟨bZ.keys rfl,kl,g5,aw.trans bP,ay,hBn, .inr ⟨rfl,by show c+1≤6;omega,r,rfl,rfl,rfl,hR⟩⟩ rfl rfl
  simp only[SL,SS,SH]
  simp only[m9,hasL,Bool.or_false,Bool.false_or,Bool.or_true,Bool.true_or,Nat.reduceBEq,beq_self_eq_true, ↓reduceIte,Bool.false_eq_true]
  refine kv ?_
  try with_reducible refine KE ?_
  have hk:=bA
  simp only[keys,List.map_cons,List.nodup_cons,List.mem_cons,not_or] at hk
  have da:bt≠b8:=hk.1.1
  have aW:bt∉keys X1:=hk.1.2
  have aq:b8∉keys X1:=hk.2.1
  have rd8: ∀o w,aU w ((bt,o):: (b8,stO)::X1) b8=some stO:=fun o w=>aQ (by simp[Sx.look,da])
  obtain⟨T1,zh⟩: ∃T1,T1=({nxT r with ended:=true}:TkL):=⟨_,rfl⟩
  have bK: ∀a,ad (some (a,1)) (some (tkO (nxT r))) 6 (.bool true)=some (tkO T1):=fun a=>by rw[zh];exact LD (nxT r) true a
  have d1:T1.dir=r.t.dir:=by rw[zh];rfl
  have d2:T1.name=r.t.name:=by rw[zh];rfl
  have d3:T1.made=(nxT r).made:=by rw[zh]
  have hnd1:T1.name.length≤900000:=by rw[d2];exact di.name
  have hBT: (aY T1.name).length≤900004:=by rw[d2];exact wP (t:=nxT r) di
  have fO:DkA (X1++ [(b8,stO)]) G1 r.S (N+7):=⟨dN.P.mono (X':=X1++ [(b8,stO)]) fun b o h=>az h,dN.H,dN.B.mono oM⟩
  by_cases hm: (nxT r).made=true∧r.e≠9
  ·have m1:T1.made=true:=d3.trans hm.1
   have e9: ((r.e:Int) !=9)=true:=by
    rw[bne_iff_ne]
    have:=hm.2
    omega
   have hw:jL r=⟨false,r.e,T1,(fo r.S T1.dir (aY T1.name)).1⟩:=by
    unfold jL
    rw[if_pos hm,d1,d2,zh]
   refine ky (aN @eK (aN @bK (aN @m1 @e9))) ?_
   refine Cw.permL (M:=X1++ [(bt,tkO T1),(b8,stO)]) pM ?_
   have rdT:aU w (X1++ [(bt,tkO T1),(b8,stO)]) bt=some (tkO T1):=aQ (by rw[gO aW];simp[Sx.look])
   have yq:=fun(w':World) (aZ: ∀p,p∈X1→w'.heap[p.1]? =some p.2) (aT: (keys X1).Nodup)=>K_ X1 G1 r.S T1.dir (aY T1.name) w' aZ aT dN.P oM (dN.pend oM)
   simp only[bP] at yq
   refine Cw.regionO [0,1,2,3,5,6,7,4,8,9,10] [10] rfl kR kR ?_
   simp only[ai, ↓ah, ↓ab, ↓ag, ↓ae,ac]
   refine kq (aN @eK @rdT) ?_
   refine Ow.callX (X:=X1) (Y:= [(bt,tkO T1),(b8,stO)]) rfl rfl rfl call56 (fun w' aA aZ aT=>yq w' aZ aT) (fun v4 D4 bD ar=> ?_)
   obtain⟨rfl,G',hbd',jT⟩:=ar
   refine kq @eK ?_
   refine ky @eK ?_
   refine⟨_,(ke @eK), ?_⟩
   rw[←hR,hw]
   have gQ:=dN.step jT (A9 r.S T1.dir (aY T1.name) []) oM (aV _)
   have cE:Ext w (X++ [(bt,tkO t)]) (X1++ [(bt,tkO T1),(b8,stO)]):=(hE.keys (D':=(bt,tkO T1):: (b8,stO)::X1) rfl).perm pM
   exact⟨cE.came bD,rfl,D4++ [(b8,stO)],G',pM,hbd',gQ.P.mono (X':=D4++ [(b8,stO)]) fun b o h=>az h,gQ.H,gQ.B.mono oM⟩
  have hw:jL r=⟨false,r.e,T1,r.S⟩:=by
   unfold jL
   rw[if_neg hm,zh]
  by_cases fa: (nxT r).made=true
  ·have h9:r.e=9:=Decidable.byContradiction fun h=>hm ⟨fa,h⟩
   have m1:T1.made=true:=d3.trans fa
   have e9: ((r.e:Int) !=9)=false:=by rw[h9];rfl
   refine ky (aN @eK (aN @bK (aN @m1 @e9))) ?_
   refine⟨_,(ke @eK), ?_⟩
   rw[←hR,hw]
   exact⟨hE.keys rfl,rfl,X1++ [(b8,stO)],G1,pM,bP,fO⟩
  have m1:T1.made=false:=d3.trans (by simpa using fa)
  refine ky (aN @eK (aN @bK @m1)) ?_
  refine⟨_,(ke @eK), ?_⟩
  rw[←hR,hw]
  exact⟨hE.keys rfl,rfl,X1++ [(b8,stO)],G1,pM,bP,fO⟩
 intro key
 repeat ((try with_reducible refine Cw.go [999999] ?_);(simp(disch:=first|exact dD|fail) only[↓Sx.S0,Sx.S1,fx,eK,Nat.reduceAdd,Nat.reducePow,Int.reducePow,Nat.reduceBEq, ↓reduceIte,UInt8.reduceToNat,UInt16.reduceToNat,UInt32.reduceToNat,UInt64.reduceToNat,Int.reduceToNat]))
 refine Ow.callFV rfl call147 (fun w' aA=>Mr bt t w' (aA.has _ _ (dJ _ (List.mem_singleton.2 rfl)))) ?_
 have htf:t.ended=true∨t.ended=false:=by cases t.ended<;>simp
 rcases htf with vT|vT
 ·refine ko (aN @eK @vT) ?_
  repeat ((try with_reducible refine Cw.go [999999] ?_);(simp(disch:=first|exact dD|fail) only[↓Sx.S0,Sx.S1,fx,eK,Nat.reduceAdd,Nat.reducePow,Int.reducePow,Nat.reduceBEq, ↓reduceIte,UInt8.reduceToNat,UInt16.reduceToNat,UInt32.reduceToNat,UInt64.reduceToNat,Int.reduceToNat,vT]))
  refine⟨_,(ke @eK), ?_⟩
  rw[if_pos vT]
  exact⟨Ext.refl w _,rfl,X,G,List.Perm.refl _,rfl,hA.P,hA.H,hA.B.mono oM⟩
 have rJ: (if t.ended=true then(⟨false,15,t,S⟩:StR) else gD (6 - t.next) t S)=gD (6 - t.next) t S:=by rw[if_neg (by rw[vT];simp)]
 refine ko (aN @eK @vT) ?_
 repeat ((try with_reducible refine Cw.go [999999] ?_);(simp(disch:=first|exact dD|fail) only[↓Sx.S0,Sx.S1,fx,eK,Nat.reduceAdd,Nat.reducePow,Int.reducePow,Nat.reduceBEq, ↓reduceIte,UInt8.reduceToNat,UInt16.reduceToNat,UInt32.reduceToNat,UInt64.reduceToNat,Int.reduceToNat,vT]))
 refine Ow.callFV rfl call148 (fun w' aA=>Q8 w') ?_
 refine ko @eK ?_
 repeat ((try with_reducible refine Cw.go [999999] ?_);(simp(disch:=first|exact dD|fail) only[↓Sx.S0,Sx.S1,fx,eK,Nat.reduceAdd,Nat.reducePow,Int.reducePow,Nat.reduceBEq, ↓reduceIte,UInt8.reduceToNat,UInt16.reduceToNat,UInt32.reduceToNat,UInt64.reduceToNat,Int.reduceToNat]))
 refine Ow.alloc rfl rfl zr232 fun b8 g5 jc=> ?_
 rw[aS]
 refine Ow.permL (M:=(b8, .cells #[.nilFunc, .nilFunc, .nilFunc, .nilFunc, .nilFunc, .nilFunc] 232 (0,0)):: (X++ [(bt,tkO t)])) pM ?_
 refine ko (aN @eK @LO) ?_
 repeat ((try with_reducible refine Cw.go [999999] ?_);(simp(disch:=first|exact dD|fail) only[↓Sx.S0,Sx.S1,fx,eK,Nat.reduceAdd,Nat.reducePow,Int.reducePow,Nat.reduceBEq, ↓reduceIte,UInt8.reduceToNat,UInt16.reduceToNat,UInt32.reduceToNat,UInt64.reduceToNat,Int.reduceToNat]))
 refine Cw.permL (M:=(bt,tkO t):: (b8,stO)::X) pM ?_
 refine Cw.world fun w9 IA=> ?_
 have hnd9:=IA.nodup
 have key0:=fun f'=>key (⟨0,false,0,t,S,G,X,b8,0⟩) f'
 simp only[m9,hasL,Bool.or_false,Bool.false_or,Bool.or_true,Bool.true_or,Nat.reduceBEq,beq_self_eq_true, ↓reduceIte,Bool.false_eq_true] at key0
 clear key
 simp only[SL0,m9,hasL,Bool.or_false,Bool.false_or,Bool.or_true,Bool.true_or,Nat.reduceBEq,beq_self_eq_true, ↓reduceIte,Bool.false_eq_true] at key0
 refine Cw.label ?_
 refine key0 _ ?_ ?_
 ·refine⟨(((Ext.refl w (X++ [(bt,tkO t)])).app (o:=stO) jc).perm pM),hnd9,jc,rfl,hA,hB, .inl ⟨rfl,by show 0+ (6 - t.next)≤6;omega,aX vT,rJ.symm⟩⟩
 rfl
theorem w_: ∀ (f:Nat) (t:TkL) (S:DiskL),(gD f t S).t.name=t.name∧(gD f t S).t.data=t.data
 |0,_,_=>⟨rfl,rfl⟩
 |f+1,t,S=>by
  obtain⟨-,h2,h3,-⟩:=tk t.next t S
  have hw: (jL (phT t.next t S)).t.name=t.name∧(jL (phT t.next t S)).t.data=t.data:=by
   unfold jL
   split<;>exact⟨h2,h3⟩
  obtain⟨-,f2,f3,-⟩:=E' t.next t S
  have ih:=w_ f (iS (phT t.next t S)) (phT t.next t S).S
  rw[f2,f3] at ih
  unfold gD
  split
  ·exact hw
  split
  ·exact ih
  exact⟨f2,f3⟩
def XN {t:TkL} (h:TkB t) (S:DiskL):TkB (gJ t S).t:=by
 unfold gJ
 split
 ·exact h
 exact⟨by rw[(w_ _ t S).1];exact h.name,by rw[(w_ _ t S).2];exact h.data⟩
def Sn {t:TkL} {S:DiskL} (he:t.ended=false) (hn:t.next<6): ((gJ t S).done=true∨(gJ t S).e≠0)∨((gJ t S).t.ended=false∧t.next< (gJ t S).t.next∧(gJ t S).t.next<6):=by
 have hs:gJ t S=gD (6 - t.next) t S:=by unfold gJ;rw[if_neg (by rw[he];simp)]
 rw[hs]
 rcases wt (6 - t.next) t S oM oM with⟨h1,-⟩ | ⟨-,h2,-⟩ | ⟨-,-,h3,h4,h5,-⟩
 ·exact .inl (.inr h1)
 ·exact .inl (.inl h2)
 exact .inr ⟨h3,h4,h5⟩
def Yx (f:Nat) (t:TkL) (S:DiskL):runG (f+1) t S=(if(gJ t S).done=true∨(gJ t S).e≠0 then((gJ t S).e,(gJ t S).t,(gJ t S).S) else runG f (gJ t S).t (gJ t S).S):=rfl
def s7:=aN (aN @av @au) (aN @Sx.tup2_0 @Sx.tup2_1)
structure RnG where
 f:Nat
 t:TkL
 S:DiskL
 G:DkG
 X:aB
def RnS (G:DkG) (bt:Nat) (R:Nat×TkL×DiskL) (N:Nat) (v:Value) (D:aB):Prop:=v=vi (R.1:Nat)∧ ∃X' G',(X'++ [(bt,tkO R.2.1)]).Perm D∧G'.bd=G.bd∧DkA X' G' R.2.2 N
def V9 (X:aB) (G:DkG) (S:DiskL) (N bt:Nat) (t:TkL) (w:World) (hX: ∀p,p∈X++ [(bt,tkO t)]→w.heap[p.1]? =some p.2) (hn: (keys (X++ [(bt,tkO t)])).Nodup) (hA:DkA X G S N) (hN:N<700000) (hB:TkB t) (he:t.ended=false) (aX:t.next<6):
  Rets prog 84 #[vp G.bd 0,vp bt 0] w (XS w (X++ [(bt,tkO t)]) (RnS G bt (runG 6 t S) (N+42))):=by
 refine Rets.enterX func84 rfl (rs:= [.tmp 4]) results84 ntmps84 hX hn ?_
 refine kf ?_
 refine ky @s7 ?_
 refine Cw.loopG (G:=RnG) [8,9,10,7,11,12,5,6,13,14,15,16,17,18,4] (fun g=> []) (fun g=>g.X++ [(bt,tkO g.t)]) (fun g=>runG g.f g.t g.S=runG 6 t S∧6 - g.t.next≤g.f∧g.t.ended=false∧g.t.next<6∧g.G.bd=G.bd∧DkA g.X g.G g.S (N+7* (6 - g.f))∧TkB g.t∧g.f≤6∧Ext w (X++ [(bt,tkO t)]) (g.X++ [(bt,tkO g.t)])) (fun g=>g.f) ⟨6,t,S,G,X⟩ rfl rfl ?_ ?_
 ·exact⟨rfl,by show 6 - t.next≤6;omega,he,aX,rfl,hA,hB,bq 6,Ext.refl w _⟩
 intro g j hg
 refine kv ?_
 obtain⟨f,t1,S1,G1,X1⟩:=g
 obtain⟨hR,hf,p4,cF,bP,dN,di,hf6,hE⟩:=hg
 simp only at hR hf p4 cF bP dN di hf6 hE
 obtain⟨f,rfl⟩: ∃q,f=q+1:=⟨f - 1,by omega⟩
 rw[Yx] at hR
 refine ky @s7 ?_
 have yq:=fun(w':World) (aZ: ∀p,p∈X1++ [(bt,tkO t1)]→w'.heap[p.1]? =some p.2) (aT: (keys (X1++ [(bt,tkO t1)])).Nodup)=>Rk X1 G1 S1 (N+7* (6 - (f+1))) bt t1 w' aZ aT dN oM di (fun _=>cF)
 simp only[bP] at yq
 refine Ow.callX (X:=X1++ [(bt,tkO t1)]) (Y:= []) (List.append_nil _).symm rfl rfl call122 (fun w' aA aZ aT=>yq w' aZ aT) (fun v4 D4 bD ar=> ?_)
 obtain⟨rfl,X2,G2,k9,aw,ay⟩:=ar
 rw[List.append_nil]
 have bZ:=(hE.came0 bD).perm k9
 have bK:=Sn (S:=S1) p4 cF
 have hsB:=XN di S1
 refine Ow.permL k9 ?_
 generalize gJ t1 S1=r at*
 have fO:DkA X2 G2 r.S (N+42):=⟨ay.P,ay.H,ay.B.mono oM⟩
 by_cases hd:r.done=true
 ·rw[if_pos (.inl hd)] at hR
  refine ko (aN @s7 @hd) ?_
  refine ky (aN @s7 @hd) ?_
  refine⟨_,(ke @s7), ?_⟩
  rw[←hR]
  exact⟨bZ,rfl,X2,G2,List.Perm.refl _,aw.trans bP,fO⟩
 have iK:r.done=false:=by simpa using hd
 by_cases lD:r.e=0
 ·have e0: ((r.e:Int) !=0)=false:=by rw[lD];rfl
  rw[if_neg (fun h=>by rcases h with h|h;exact hd h;exact h lD)] at hR
  obtain⟨s1,s2,s3⟩:=bK.resolve_left (fun h=>by rcases h with h|h;exact hd h;exact h lD)
  refine ko (aN @s7 (aN @iK @e0)) ?_
  refine ky (aN @s7 (aN @iK @e0)) ?_
  exact Again.mk ⟨f,r.t,r.S,G2,X2⟩ (Nat.lt_succ_self f) ⟨hR,by show 6 - r.t.next≤f;omega,s1,s3,aw.trans bP,⟨ay.P,ay.H,ay.B.mono (by show _≤N+7* (6 - f);omega)⟩,hsB,by show f≤6;omega,bZ⟩ rfl rfl
 have e0: ((r.e:Int) !=0)=true:=by
  rw[bne_iff_ne];omega
 rw[if_pos (.inr lD)] at hR
 refine ko (aN @s7 (aN @iK @e0)) ?_
 refine ky (aN @s7 (aN @iK @e0)) ?_
 refine⟨_,(ke @s7), ?_⟩
 rw[←hR]
 exact⟨bZ,rfl,X2,G2,List.Perm.refl _,aw.trans bP,fO⟩
def V5 (dir name data:List UInt8) (light:Bool):dl (cC prog 202) (an prog 202) [(0,vs dir),(1,vs name),(2,vs data),(3, .bool light)]=some (.agg #[vs dir,vs name,vs data, .bool light,vi 0, .bool false, .bool false]):=by
 rw[show cC prog 202=some [(0,1),(1,1),(2,1),(3,1),(4,1),(5,1),(6,1)] from id kR,zr202];rfl
def Q2 (dir name data:List UInt8) (light:Bool) (w:World):
  Rets prog 85 #[vs dir,vs name,vs data, .bool light] w (fun v D=> ∃b,w.heap.size≤b∧v=vp b 0∧D= [(b,tkO (tk0 dir name data light))]):=by
 refine Rets.enter func85 rfl (rs:= [.tmp 8]) results85 ntmps85 ?_
 refine kf ?_
 refine ky @Nat.add_zero ?_
 refine Ow.build (.agg #[vs dir,vs name,vs data, .bool light,vi 0, .bool false, .bool false]) rfl (V5 dir name data light) ?_
 refine Ow.box rfl rfl fun b1 aW aI=> ?_
 refine ko @Nat.add_zero ?_
 refine ky @Nat.add_zero ?_
 exact⟨_,rfl,b1,aI,rfl,rfl⟩
def PubS (G:DkG) (R:Nat×DiskL) (N:Nat) (v:Value) (D:aB):Prop:=v=vi (R.1:Nat)∧ ∃G',G'.bd=G.bd∧DkA D G' R.2 N
def Q0 (X:aB) (G:DkG) (S:DiskL) (N:Nat) (dir name data:List UInt8) (w:World) (hX: ∀p,p∈X→w.heap[p.1]? =some p.2) (hn: (keys X).Nodup) (hA:DkA X G S N) (hN:N<700000) (gH:name.length≤900000) (sM:data.length≤1000000):
  Rets prog 46 #[vp G.bd 0,vs dir,vs name,vs data] w (XS w X (PubS G (iV S dir name data true) (N+42))):=by
 have hB:TkB (tk0 dir name data true):=⟨gH,sM⟩
 refine Rets.enterX func46 rfl (rs:= [.tmp 8]) results46 ntmps46 hX hn ?_
 refine kf ?_
 refine ky @Nat.add_zero ?_
 refine Ow.callF rfl rfl call85 (S:=fun B v D=> ∃b',B≤b'∧v=vp b' 0∧D= [(b',tkO (tk0 dir name data true))]) (fun w' aA=>Q2 dir name data true w') ?_
 rintro B v D gR u4 ⟨b1,aW,rfl,rfl⟩
 refine⟨_,Mrg.fresh (by intro q hq;simp only[keys,List.map_cons,List.map_nil,List.mem_singleton] at hq;omega), ?_⟩
 refine Ow.callX (X:=X++ [(b1,tkO (tk0 dir name data true))]) (Y:= []) (List.append_nil _).symm rfl rfl call84 (fun w' aA aZ aT=>V9 X G S N b1 (tk0 dir name data true) w' aZ aT hA hN hB rfl (Nat.succ_pos 5)) (fun v4 D4 bD ar=> ?_)
 obtain⟨rfl,X2,G2,k9,aw,ay⟩:=ar
 rw[List.append_nil]
 have bZ:=(((Ext.refl w X).app (o:=tkO (tk0 dir name data true)) oM).came0 bD).perm k9
 refine Ow.permL k9 ?_
 have hr:=XX S dir name data true
 rw[←hr]
 refine ko @Nat.add_zero ?_
 refine ky @Nat.add_zero ?_
 refine⟨_,(ke @Nat.add_zero), ?_⟩
 exact⟨bZ,rfl,G2,aw,ay.P.mono fun b o h=>az h,ay.H,ay.B⟩
def FZ {S:DiskL} (hB:DkB S) (dir:List UInt8): (jE S dir).length≤1000000∧ ∀s,s∈jE S dir→s.length≤1000000:=by
 unfold jE
 split
 ·exact⟨aV _,fun s hs=>by cases hs⟩
 rename_i h
 obtain⟨k,hk,-⟩:=JF (S:=S) (dir:=dir) (names:= []) oM
 rw[hk]
 have aj:=(dT hk).1
 refine⟨by rw[List.length_map];exact(hB k aj).1,fun s hs=> ?_⟩
 obtain⟨p,hp,rfl⟩:=List.mem_map.1 hs
 exact(hB k aj).2 p hp
def F8 {S:DiskL} {N:Nat} (h:DkN N S) (dir:List UInt8): (jE S dir).length≤N:=by
 unfold jE
 split
 ·exact aV _
 rw[List.length_map]
 exact(h _).seen
def y' {A B:aB} (h: (keys (A++B)).Nodup) {b:Nat} {o:Obj} (hb:Sx.look B b=some o):Sx.look (A++B) b=some o:=by
 rw[ao,List.nodup_append] at h
 rw[gO fun hm=>h.2.2 b hm b (List.mem_map.2 ⟨_,cQ hb,rfl⟩) rfl]
 exact hb
structure ClnM (N k M:Nat):Prop where
 z:k=0→M≤N
 o:k≤1→M≤2*N
 t:k≤2→M≤4*N
 e:M≤8*N
def ClnM.next {N k M m:Nat} (h:ClnM N k M) (hk:k<3) (hm:m≤M):ClnM N (k+1) (M+m):=by
 obtain⟨a,b,c,d⟩:=h
 exact⟨by omega,by omega,by omega,by omega⟩
end Go.Proofs
end
section
open Go Go.Proofs Go.Sx Go.StP Go.Dig
namespace Go.Proofs
structure GlbA (w:World) (m:Nat):Prop where
 C:GlobC w
 E:GlobE w
 D:lU w
 le:m≤w.heap.size
 c: (4:Nat)<m
 e: (3:Nat)<m
 d: (0:Nat)<m
def GlbA.mk0 {w:World} (hC:GlobC w) (hE:GlobE w) (hD:lU w):GlbA w w.heap.size:=by
 have h1:=Iy hC
 obtain⟨e0,e1,f0,f1,h2,h3⟩:=id hE
 obtain⟨e,fz,h4⟩:=id hD
 exact⟨hC,hE,hD,bq _,h1,(Array.getElem?_eq_some_iff.1 h3).1,(Array.getElem?_eq_some_iff.1 h4).1⟩
theorem GlbA.of {w w':World} {L:aB} {m:Nat} (h:GlbA w m) (hw:Hp w L w') (hL: ∀b,b∈keys L→m≤b):GlbA w' m:=
 ⟨h.C.of hw fun hm=>by have:=hL _ hm;have:=h.c;omega,h.E.of hw fun b hb=>by have:=hL _ hb;have:=h.e;omega,by
  obtain⟨e,fz,h4⟩:=id h.D
  exact⟨e,fz,(hw.old _ (Array.getElem?_eq_some_iff.1 h4).1 fun hm=>by have:=hL _ hm;have:=h.d;omega).trans h4⟩,Nat.le_trans h.le hw.size,h.c,h.e,h.d⟩
def GlbA.new {w w':World} {L:aB} {m:Nat} (h:GlbA w m) (hw:Hp w L w') (hn:New w.heap.size L):GlbA w' m:=h.of hw fun b hb=>Nat.le_trans h.le (hn.le b hb)
def GlbA.ext {w w':World} {X L:aB} {m:Nat} (h:GlbA w m) (hX: ∀b,b∈keys X→m≤b) (hw:Hp w L w') (hE:Ext w X L):GlbA w' m:=h.of hw fun b hb=>(hE.new b hb).elim (hX b) fun hb=>Nat.le_trans h.le hb
def zO {w:World} {X D E:aB} (h:Ext w X D) (hk:keys E=keys D):Ext w X E:=⟨fun c hc=>h.new c (by rw[←hk];exact hc),fun c hc=>by rw[hk];exact h.all c hc⟩
def ET {w:World} {X D E:aB} (h:Ext w X D) (hN:New w.heap.size E):Ext w X (D++E):=
 ⟨fun c hc=>by
  rw[ao] at hc
  exact(List.mem_append.1 hc).elim (h.new c) fun hc=> .inr (hN.le c hc),fun c hc=>by rw[ao];exact cz _ (h.all c hc)⟩
def LpS (G:DkG) (R:PutR) (N:Nat) (v:Value) (D:aB):Prop:=v= .tuple #[.agg (a8 R.x.l),vi (R.e:Nat)]∧ ∃G',G'.bd=G.bd∧DkA D G' R.S N
def ga:=aN (aN (aN @j7 @jB) (aN @j9 @j8)) (aN (aN @Sx.tup2_0 @Sx.tup2_1) (aN @av (aN @au @nz)))
def Bi (X:aB) (G:DkG) (S:DiskL) (N m:Nat) (k:Int) (t:List UInt8) (w:World) (hX: ∀p,p∈X→w.heap[p.1]? =some p.2) (hn: (keys X).Nodup) (hA:DkA X G S N) (hN:N<700000) (hG:GlbA w m) (hm: ∀b,b∈keys X→m≤b):
  Rets prog 12 #[vp G.bd 0,obV k t] w (XS w X (LpS G (putL S k t) (N+42))):=by
 have iM:dl (cC prog 39) (an prog 39) []=some (.agg (a8 id0.l)):=id kR
 have rI:=id0.h
 have ik: ∀ {Y:aB} {G':DkG} {S':DiskL},DkA Y G' S' N→DkA Y G' S' (N+42):=fun h=>⟨h.P,h.H,h.B.mono oM⟩
 refine Rets.enterX func12 rfl (rs:= [.cell 4 39, .tmp 5]) results12 ntmps12 hX hn ?_
 refine kf ?_
 refine ky @ga ?_
 refine Ow.box rfl rfl fun b3 da dV=> ?_
 simp only[dC,cy,dA,aS,List.nil_append,List.cons_append]
 refine Ow.permL (M:=(b3, .cells #[vi k,vs t] 33 (0,0))::X) pM ?_
 refine ko @ga ?_
 refine Ow.alloc rfl rfl gM fun b4 g4 cr=> ?_
 simp only[aS,List.nil_append,List.cons_append]
 have za:b3<b4:=ak g4 (by simp[keys])
 refine Ow.permL (M:=(b4, .cells (a8 id0.l) 39 (0,0)):: (b3, .cells #[vi k,vs t] 33 (0,0))::X) pM ?_
 have cj:Ext w X ((b4, .cells (a8 id0.l) 39 (0,0)):: (b3, .cells #[vi k,vs t] 33 (0,0))::X):=sd (sd (Ext.refl w X) dV) cr
 have fO:=hA.mono fun b o h=>o7 (x:= .cells #[vi k,vs t] 33 (0,0)) da h
 have gQ:=fO.mono fun b o h=>o7 (x:= .cells (a8 id0.l) 39 (0,0)) g4 h
 refine ko @ga ?_
 refine ky @ga ?_
 refine Ow.callFV rfl call44 (fun w' aA=>Dl k t w' (hG.ext hm aA cj).E) ?_
 refine ko @ga ?_
 refine Ow.alloc rfl rfl gM fun b6 nB lG=> ?_
 simp only[aS,List.nil_append,List.cons_append]
 have h36:b3<b6:=ak nB (by simp[keys])
 have h46:b4<b6:=ak nB (by simp[keys])
 refine Ow.permL (M:=(b6, .cells (a8 id0.l) 39 (0,0)):: (b4, .cells (a8 id0.l) 39 (0,0)):: (b3, .cells #[vi k,vs t] 33 (0,0))::X) pM ?_
 have hP:putL S k t=if cm k t=false then⟨id0,1,S⟩ else if(gg S (idV k t)).e=0 then⟨idV k t,0,S⟩ else if(iV S aD (aL (idV k t).l) (ee k t) true).1=0 then⟨idV k t,0,(iV S aD (aL (idV k t).l) (ee k t) true).2⟩ else⟨id0,(iV S aD (aL (idV k t).l) (ee k t) true).1,(iV S aD (aL (idV k t).l) (ee k t) true).2⟩:=rfl
 have qF:=fun h=>Ep (k:=k) (t:=t) h
 generalize idV k t=x at*
 have hx:=x.h
 have gV: (aL x.l).length=64:=by rw[pR,x.h]
 have mE:Ext w X ((b6, .cells (a8 x.l) 39 (0,0)):: (b4, .cells (a8 id0.l) 39 (0,0)):: (b3, .cells #[vi k,vs t] 33 (0,0))::X):=sd cj lG
 have qz:=gQ.mono fun b o h=>o7 (x:= .cells (a8 x.l) 39 (0,0)) nB h
 refine ko @ga ?_
 cases hr:cm k t with
 |false=>
  rw[hr,if_pos rfl] at hP
  refine ky @ga ?_
  refine Ow.build _ rfl iM ?_
  refine ko @ga ?_
  refine ky @ga ?_
  refine⟨_,(ke @ga), ?_⟩
  rw[hP]
  exact⟨mE,rfl,G,rfl,ik qz⟩
 |true=>
  rw[hr,if_neg (by simp)] at hP
  have nN:=qF hr
  refine ky @ga ?_
  refine Ow.callFV rfl call14 (fun w' aA=>Il w' G S x (qz.P.world aA) qz.P.ok (hG.ext hm aA mE).C (hG.ext hm aA mE).E) ?_
  generalize gg S x=g at*
  obtain⟨gk,gt,ge⟩:=g
  simp only at hP ⊢
  refine ko @ga ?_
  refine Ow.alloc rfl rfl fB fun b8 g5 jc=> ?_
  simp only[aS,List.nil_append,List.cons_append]
  have h38:b3<b8:=ak g5 (by simp[keys])
  have JX:b4<b8:=ak g5 (by simp[keys])
  have h68:b6<b8:=ak g5 (by simp[keys])
  refine Ow.permL (M:=(b8, .cells #[vi 0,vs []] 33 (0,0)):: (b6, .cells (a8 x.l) 39 (0,0)):: (b4, .cells (a8 id0.l) 39 (0,0)):: (b3, .cells #[vi k,vs t] 33 (0,0))::X) pM ?_
  refine Ow.world fun wz fP=> ?_
  have bA:=fP.nodup
  clear fP
  have sG:Ext w X ((b8, .cells #[vi gk,vs gt] 33 (0,0)):: (b6, .cells (a8 x.l) 39 (0,0)):: (b4, .cells (a8 id0.l) 39 (0,0)):: (b3, .cells #[vi k,vs t] 33 (0,0))::X):=sd mE jc
  have hA8:=qz.mono fun b o h=>o7 (x:= .cells #[vi gk,vs gt] 33 (0,0)) g5 h
  refine ko @ga ?_
  by_cases he:ge=0
  ·subst he
   rw[if_pos rfl] at hP
   have e1: (((0:Nat):Int)==0)=true:=rfl
   refine ky (aN @ga @e1) ?_
   refine⟨_,(ke @ga), ?_⟩
   rw[hP]
   exact⟨zO sG rfl,rfl,G,rfl,ik (hA.mono fun b o h=>y' (A:= [(b8, .cells #[vi gk,vs gt] 33 (0,0)),(b6, .cells (a8 x.l) 39 (0,0)),(b4, .cells (a8 x.l) 39 (0,0)),(b3, .cells #[vi k,vs t] 33 (0,0))]) bA h)⟩
  rw[if_neg he] at hP
  have e1: ((ge:Int)==0)=false:=beq_eq_false_iff_ne.2 oM
  refine ky (aN @ga @e1) ?_
  refine Ow.callC rfl rfl call45 (fun w' aA=>Ny k t w' (hG.ext hm aA sG).C) (fun B9 v9 D9 hA9 JY p' Jc=> ?_)
  rw[hr,if_pos rfl] at Jc
  subst Jc
  have x_:New w.heap.size D9:=p'.mono JY
  refine ko @ga ?_
  have Gf:Ext w X (X++ ((b8, .cells #[vi gk,vs gt] 33 (0,0)):: (b6, .cells (a8 x.l) 39 (0,0)):: (b4, .cells (a8 id0.l) 39 (0,0)):: (b3, .cells #[vi k,vs t] 33 (0,0))::D9)):=(ET sG x_).perm pM
  refine ky @ga ?_
  refine Ow.callFV rfl call31 (fun w' aA=>zH x.l hx w') ?_
  refine ko @ga ?_
  refine Ow.permL (M:=X++ ((b8, .cells #[vi gk,vs gt] 33 (0,0)):: (b6, .cells (a8 x.l) 39 (0,0)):: (b4, .cells (a8 id0.l) 39 (0,0)):: (b3, .cells #[vi k,vs t] 33 (0,0))::D9)) pM ?_
  refine Ow.callX (X:=X) (Y:=(b8, .cells #[vi gk,vs gt] 33 (0,0)):: (b6, .cells (a8 x.l) 39 (0,0)):: (b4, .cells (a8 id0.l) 39 (0,0)):: (b3, .cells #[vi k,vs t] 33 (0,0))::D9) rfl rfl rfl call46 (fun w' aA aZ aT=>Q0 X G S N aD (aL x.l) (ee k t) w' aZ aT hA hN oM oM) (fun v4 D4 bD ar=> ?_)
  obtain⟨rfl,G',bP,mB⟩:=ar
  generalize iV S aD (aL x.l) (ee k t) true=q at*
  obtain⟨e,S'⟩:=q
  simp only at hP mB ⊢
  have q_:Ext w X ((b8, .cells #[vi gk,vs gt] 33 (0,0)):: (b6, .cells (a8 x.l) 39 (0,0)):: (b4, .cells (a8 id0.l) 39 (0,0)):: (b3, .cells #[vi k,vs t] 33 (0,0)):: (D4++D9)):=(Gf.came bD).perm pM
  refine Ow.permL (M:=(b8, .cells #[vi gk,vs gt] 33 (0,0)):: (b6, .cells (a8 x.l) 39 (0,0)):: (b4, .cells (a8 id0.l) 39 (0,0)):: (b3, .cells #[vi k,vs t] 33 (0,0)):: (D4++D9)) pM ?_
  refine Ow.world fun wz fP=> ?_
  have kl:=fP.nodup
  clear fP
  refine ko @ga ?_
  by_cases lD:e=0
  ·subst lD
   rw[if_pos rfl] at hP
   have e2: (((0:Nat):Int) !=0)=false:=rfl
   refine ky (aN @ga @e2) ?_
   refine⟨_,(ke @ga), ?_⟩
   rw[hP]
   exact⟨zO q_ rfl,rfl,G',bP,mB.mono fun b o h=>y' (A:= [(b8, .cells #[vi gk,vs gt] 33 (0,0)),(b6, .cells (a8 x.l) 39 (0,0)),(b4, .cells (a8 x.l) 39 (0,0)),(b3, .cells #[vi k,vs t] 33 (0,0))]) kl (az h)⟩
  rw[if_neg lD] at hP
  have e2:=kF lD
  refine ky (aN @ga @e2) ?_
  refine Ow.build _ rfl iM ?_
  refine ko @ga ?_
  refine ky @ga ?_
  refine⟨_,(ke @ga), ?_⟩
  rw[hP]
  exact⟨zO q_ rfl,rfl,G',bP,mB.mono fun b o h=>y' (A:= [(b8, .cells #[vi gk,vs gt] 33 (0,0)),(b6, .cells (a8 x.l) 39 (0,0)),(b4, .cells (a8 id0.l) 39 (0,0)),(b3, .cells #[vi k,vs t] 33 (0,0))]) kl (az h)⟩
def zE {w0:World} {L X D:aB} {b:Nat} (hC:Came w0 L X D) (hX:b∉keys X) (hL:b∈keys L):b∉keys D:=fun hm=>by
 rcases hC.new b hm with h| ⟨h,-⟩
 ·exact hX h
 have:=ak h hL;omega
def LpcS (C:DcG) (R:PutR) (N:Nat) (v:Value) (D:aB):Prop:=v= .tuple #[.agg (a8 R.x.l),vi (R.e:Nat)]∧ ∃C',C'.bd=C.bd∧DcP D C' R.S∧DsA R.S N
def g8:=aN (aN (aN @j7 @jB) (aN @j9 @j8)) (aN (aN @Sx.tup2_0 @Sx.tup2_1) (aN @av (aN @au @nz)))
def Nt (X:aB) (C:DcG) (S:DiskL) (N:Nat) (k:Int) (t:List UInt8) (w:World) (hX: ∀p,p∈X→w.heap[p.1]? =some p.2) (hn: (keys X).Nodup) (hP:DcP X C S) (hA:DsA S N) (hN:N<700000):
  Rets prog 13 #[vp C.bd 0,obV k t] w (XS w X (LpcS C (putL S k t) (N+20))):=by
 have iM:dl (cC prog 39) (an prog 39) []=some (.agg (a8 id0.l)):=id kR
 have rI:=id0.h
 have ik:DsA S (N+20):=hA.mono oM
 have rC:DkB S:=hA.B.b oM
 refine Rets.enterX func13 rfl (rs:= [.cell 4 39, .tmp 5]) results13 ntmps13 hX hn ?_
 refine kf ?_
 refine kz [8] @g8 ?_
 refine Ow.box rfl rfl fun b3 da dV=> ?_
 simp only[dC,cy,dA,aS,List.nil_append,List.cons_append]
 refine Ow.permL (M:=(b3, .cells #[vi k,vs t] 33 (0,0))::X) pM ?_
 refine ko @g8 ?_
 refine Ow.alloc rfl rfl gM fun b4 g4 cr=> ?_
 simp only[aS,List.nil_append,List.cons_append]
 have za:b3<b4:=ak g4 (by simp[keys])
 refine Ow.permL (M:=(b4, .cells (a8 id0.l) 39 (0,0)):: (b3, .cells #[vi k,vs t] 33 (0,0))::X) pM ?_
 have cj:Ext w X ((b4, .cells (a8 id0.l) 39 (0,0)):: (b3, .cells #[vi k,vs t] 33 (0,0))::X):=sd (sd (Ext.refl w X) dV) cr
 have j4:=hP.mono fun b o h=>o7 (x:= .cells #[vi k,vs t] 33 (0,0)) da h
 have gE:=j4.mono fun b o h=>o7 (x:= .cells (a8 id0.l) 39 (0,0)) g4 h
 have hL:putL S k t=if cm k t=false then⟨id0,1,S⟩ else if(gg S (idV k t)).e=0 then⟨idV k t,0,S⟩ else if(iV S aD (aL (idV k t).l) (ee k t) true).1=0 then⟨idV k t,0,(iV S aD (aL (idV k t).l) (ee k t) true).2⟩ else⟨id0,(iV S aD (aL (idV k t).l) (ee k t) true).1,(iV S aD (aL (idV k t).l) (ee k t) true).2⟩:=rfl
 refine ko @g8 ?_
 refine kz [7,8] @g8 ?_
 refine Ow.callFV rfl call10 (fun w' aA=>KP k t w') ?_
 rw[←AC]
 cases hr:cm k t with
 |false=>
  rw[hr,if_pos rfl] at hL
  refine ko @g8 ?_
  refine ky @g8 ?_
  refine Ow.build _ rfl iM ?_
  refine ko @g8 ?_
  refine ky @g8 ?_
  refine⟨_,(ke @g8), ?_⟩
  rw[hL]
  exact⟨cj,rfl,C,rfl,gE,ik⟩
 |true=>
  rw[hr,if_neg (by simp)] at hL
  have nN:=Ep hr
  have kC:=Ie hr
  have lu:Dig.shaR (pT k t)=(idV k t).l:=by
   have e:idV k t=⟨Dig.shaR (fI k t),zP _⟩:=if_pos hr
   rw[e]
   exact congrArg Dig.shaR (JG hr)
  refine ko @g8 ?_
  refine kz [7,8] @g8 ?_
  refine Ow.callFV rfl call11 (fun w' aA=>J2 k t w' oM) ?_
  rw[lu]
  clear lu
  generalize idV k t=x at*
  have hx:=x.h
  have gV: (aL x.l).length=64:=by rw[pR,x.h]
  refine ko @g8 ?_
  refine Ow.alloc rfl rfl gM fun b6 nB lG=> ?_
  simp only[aS,List.nil_append,List.cons_append]
  have h36:b3<b6:=ak nB (by simp[keys])
  have h46:b4<b6:=ak nB (by simp[keys])
  refine Ow.permL (M:=(b6, .cells (a8 id0.l) 39 (0,0)):: (b4, .cells (a8 id0.l) 39 (0,0)):: (b3, .cells #[vi k,vs t] 33 (0,0))::X) pM ?_
  have mE:Ext w X ((b6, .cells (a8 x.l) 39 (0,0)):: (b4, .cells (a8 id0.l) 39 (0,0)):: (b3, .cells #[vi k,vs t] 33 (0,0))::X):=sd cj lG
  have n8:=gE.mono fun b o h=>o7 (x:= .cells (a8 x.l) 39 (0,0)) nB h
  refine ko @g8 ?_
  refine kz [7,8] @g8 ?_
  refine Ow.callFV rfl call15 (fun w' aA=>Kb w' C S x (n8.world aA) hA.ok rC) ?_
  generalize gg S x=g at*
  obtain⟨gk,gt,ge⟩:=g
  simp only at hL ⊢
  refine ko @g8 ?_
  refine Ow.alloc rfl rfl fB fun b8 g5 jc=> ?_
  simp only[aS,List.nil_append,List.cons_append]
  have h38:b3<b8:=ak g5 (by simp[keys])
  have JX:b4<b8:=ak g5 (by simp[keys])
  have h68:b6<b8:=ak g5 (by simp[keys])
  refine Ow.permL (M:=(b8, .cells #[vi 0,vs []] 33 (0,0)):: (b6, .cells (a8 x.l) 39 (0,0)):: (b4, .cells (a8 id0.l) 39 (0,0)):: (b3, .cells #[vi k,vs t] 33 (0,0))::X) pM ?_
  refine Ow.world fun wz fP=> ?_
  have bA:=fP.nodup
  clear fP
  have sG:Ext w X ((b8, .cells #[vi gk,vs gt] 33 (0,0)):: (b6, .cells (a8 x.l) 39 (0,0)):: (b4, .cells (a8 id0.l) 39 (0,0)):: (b3, .cells #[vi k,vs t] 33 (0,0))::X):=sd mE jc
  refine ko @g8 ?_
  by_cases he:ge=0
  ·subst he
   rw[if_pos rfl] at hL
   have e1: (((0:Nat):Int)==0)=true:=rfl
   refine ky (aN @g8 @e1) ?_
   refine⟨_,(ke @g8), ?_⟩
   rw[hL]
   exact⟨zO sG rfl,rfl,C,rfl,hP.mono fun b o h=>y' (A:= [(b8, .cells #[vi gk,vs gt] 33 (0,0)),(b6, .cells (a8 x.l) 39 (0,0)),(b4, .cells (a8 x.l) 39 (0,0)),(b3, .cells #[vi k,vs t] 33 (0,0))]) bA h,ik⟩
  rw[if_neg he] at hL
  have e1: ((ge:Int)==0)=false:=beq_eq_false_iff_ne.2 oM
  have Gf:Ext w X (X++ [(b8, .cells #[vi gk,vs gt] 33 (0,0)),(b6, .cells (a8 x.l) 39 (0,0)),(b4, .cells (a8 id0.l) 39 (0,0)),(b3, .cells #[vi k,vs t] 33 (0,0))]):=sG.perm pM
  refine kz [7,8] (aN @g8 @e1) ?_
  have nX6:b6∉keys X:=fun hm=>by have:=ak nB (show b6∈keys _ from cN _ (cN _ hm));omega
  have nX3:b3∉keys X:=fun hm=>by have:=ak da (show b3∈keys _ from hm);omega
  have rd6:aU w (X++ [(b8, .cells #[vi gk,vs gt] 33 (0,0)),(b6, .cells (a8 x.l) 39 (0,0)),(b4, .cells (a8 id0.l) 39 (0,0)),(b3, .cells #[vi k,vs t] 33 (0,0))]) b6=some (.cells (a8 x.l) 39 (0,0)):=aQ (by rw[gO nX6];simp[Sx.look,show b8≠b6 by omega,show b6≠b8 by omega])
  have rd3:aU w (X++ [(b8, .cells #[vi gk,vs gt] 33 (0,0)),(b6, .cells (a8 x.l) 39 (0,0)),(b4, .cells (a8 id0.l) 39 (0,0)),(b3, .cells #[vi k,vs t] 33 (0,0))]) b3=some (.cells #[vi k,vs t] 33 (0,0)):=aQ (by rw[gO nX3];simp[Sx.look,show b8≠b3 by omega,show b3≠b8 by omega,show b6≠b3 by omega,show b3≠b6 by omega,show b4≠b3 by omega,show b3≠b4 by omega])
  refine Cw.permL (M:=X++ [(b8, .cells #[vi gk,vs gt] 33 (0,0)),(b6, .cells (a8 x.l) 39 (0,0)),(b4, .cells (a8 id0.l) 39 (0,0)),(b3, .cells #[vi k,vs t] 33 (0,0))]) pM ?_
  refine Cw.regionS [b6,b3] [0,1,3,2,4,5,6] [] kR kR kR ?_
  simp only[ai, ↓ah, ↓ab, ↓ag, ↓ae,ac]
  refine kq (aN @g8 (aN @rd6 @rd3)) ?_
  refine Ow.soft rfl rfl rfl ?_
  refine Ow.callFV rfl call32 (fun w' aA=>A8 x.l hx w') ?_
  with_reducible refine Ow.nil ?_
  refine⟨by intro b hb;simp only[List.mem_cons,List.not_mem_nil,or_false] at hb;(try subst hb);rfl, ?_⟩
  refine kq @g8 ?_
  refine Ow.soft rfl rfl rfl ?_
  refine Ow.callFV rfl call48 (fun w' aA=>MQ k t w' hr) ?_
  with_reducible refine Ow.nil ?_
  refine⟨by intro b hb;simp only[List.mem_cons,List.not_mem_nil,or_false] at hb;(try subst hb);rfl, ?_⟩
  refine kq @g8 ?_
  refine Ow.soft rfl rfl rfl ?_
  refine Ow.callX (X:=X) (Y:= [(b8, .cells #[vi gk,vs gt] 33 (0,0)),(b6, .cells (a8 x.l) 39 (0,0)),(b4, .cells (a8 id0.l) 39 (0,0)),(b3, .cells #[vi k,vs t] 33 (0,0))]) rfl rfl rfl call47 (fun w' aA aZ aT=>N3 X C S N aD (aL x.l) (ee k t) w' aZ aT hP hA hN oM oM) (fun v4 D4 bD ar=> ?_)
  obtain⟨rfl,C',bP,jT,mB⟩:=ar
  have q_:Ext w X ((b8, .cells #[vi gk,vs gt] 33 (0,0)):: (b6, .cells (a8 x.l) 39 (0,0)):: (b4, .cells (a8 id0.l) 39 (0,0)):: (b3, .cells #[vi k,vs t] 33 (0,0))::D4):=(Gf.came bD).perm pM
  have nD6:=zE bD nX6 (by simp[keys])
  have nD3:=zE bD nX3 (by simp[keys])
  have rd6':aU w (D4++ [(b8, .cells #[vi gk,vs gt] 33 (0,0)),(b6, .cells (a8 x.l) 39 (0,0)),(b4, .cells (a8 id0.l) 39 (0,0)),(b3, .cells #[vi k,vs t] 33 (0,0))]) b6=some (.cells (a8 x.l) 39 (0,0)):=aQ (by rw[gO nD6];simp[Sx.look,show b8≠b6 by omega,show b6≠b8 by omega])
  have rd3':aU w (D4++ [(b8, .cells #[vi gk,vs gt] 33 (0,0)),(b6, .cells (a8 x.l) 39 (0,0)),(b4, .cells (a8 id0.l) 39 (0,0)),(b3, .cells #[vi k,vs t] 33 (0,0))]) b3=some (.cells #[vi k,vs t] 33 (0,0)):=aQ (by rw[gO nD3];simp[Sx.look,show b8≠b3 by omega,show b3≠b8 by omega,show b6≠b3 by omega,show b3≠b6 by omega,show b4≠b3 by omega,show b3≠b4 by omega])
  with_reducible refine Ow.nil ?_
  refine⟨fun r hr=>by
   simp only[List.mem_cons,List.not_mem_nil,or_false] at hr
   rcases hr with rfl|rfl
   ·exact rd6'.trans rd6.symm
   exact rd3'.trans rd3.symm, ?_⟩
  generalize iV S aD (aL x.l) (ee k t) true=q at*
  obtain⟨e,S'⟩:=q
  simp only at hL mB jT ⊢
  refine kq @g8 ?_
  refine Cw.permL (M:=(b8, .cells #[vi gk,vs gt] 33 (0,0)):: (b6, .cells (a8 x.l) 39 (0,0)):: (b4, .cells (a8 id0.l) 39 (0,0)):: (b3, .cells #[vi k,vs t] 33 (0,0))::D4) pM ?_
  refine Cw.world fun wz fP=> ?_
  have kl:=fP.nodup
  clear fP
  by_cases lD:e=0
  ·subst lD
   rw[if_pos rfl] at hL
   have e2: (((0:Nat):Int) !=0)=false:=rfl
   refine ky (aN @g8 @e2) ?_
   refine⟨_,(ke @g8), ?_⟩
   rw[hL]
   exact⟨zO q_ rfl,rfl,C',bP,jT.mono fun b o h=>y' (A:= [(b8, .cells #[vi gk,vs gt] 33 (0,0)),(b6, .cells (a8 x.l) 39 (0,0)),(b4, .cells (a8 x.l) 39 (0,0)),(b3, .cells #[vi k,vs t] 33 (0,0))]) kl h,mB⟩
  rw[if_neg lD] at hL
  have e2:=kF lD
  refine ky (aN @g8 @e2) ?_
  refine Ow.build _ rfl iM ?_
  refine ko @g8 ?_
  refine ky @g8 ?_
  refine⟨_,(ke @g8), ?_⟩
  rw[hL]
  exact⟨zO q_ rfl,rfl,C',bP,jT.mono fun b o h=>y' (A:= [(b8, .cells #[vi gk,vs gt] 33 (0,0)),(b6, .cells (a8 x.l) 39 (0,0)),(b4, .cells (a8 id0.l) 39 (0,0)),(b3, .cells #[vi k,vs t] 33 (0,0))]) kl h,mB⟩
def iA:=aN (aN (aN @j7 @jB) (aN @j9 @j8)) (aN (aN @Sx.tup2_0 @Sx.tup2_1) (aN @av (aN @au @nz)))
def LsS (G:DkG) (R:Nat×DiskL) (N:Nat) (v:Value) (D:aB):Prop:=v=vi (R.1:Nat)∧ ∃G',G'.bd=G.bd∧DkA D G' R.2 N
def Mp (X:aB) (G:DkG) (S:DiskL) (N:Nat) (x:IdL) (w:World) (hX: ∀p,p∈X→w.heap[p.1]? =some p.2) (hn: (keys X).Nodup) (hA:DkA X G S N) (hN:N<700000):
  Rets prog 18 #[vp G.bd 0, .agg (a8 x.l)] w (XS w X (LsS G ((fo S aD (aL x.l)).2,(fo S aD (aL x.l)).1) (N+1))):=by
 have hx:=x.h
 have gV: (aL x.l).length=64:=by rw[pR,x.h]
 refine Rets.enterX func18 rfl (rs:= [.tmp 4]) results18 ntmps18 hX hn ?_
 refine kf ?_
 refine ky @iA ?_
 refine Ow.box rfl rfl fun b3 da dV=> ?_
 simp only[dC,cy,dA,aS,List.nil_append,List.cons_append]
 have lY:Ext w X (X++ [(b3, .cells (a8 x.l) 39 (0,0))]):=(Ext.refl w X).app dV
 refine Ow.permL (M:=(b3, .cells (a8 x.l) 39 (0,0))::X) pM ?_
 refine ko @iA ?_
 refine ky @iA ?_
 refine Ow.callFV rfl call31 (fun w' aA=>zH x.l hx w') ?_
 refine ko @iA ?_
 refine Ow.permL (M:=X++ [(b3, .cells (a8 x.l) 39 (0,0))]) pM ?_
 refine Ow.callX (X:=X) (Y:= [(b3, .cells (a8 x.l) 39 (0,0))]) rfl rfl rfl call56 (fun w' aA aZ aT=>K_ X G S aD (aL x.l) w' aZ aT hA.P oM (hA.pend oM)) (fun v4 D4 bD ar=> ?_)
 obtain⟨rfl,G',bP,jT⟩:=ar
 have cj:=lY.came bD
 refine ko @iA ?_
 refine ky @iA ?_
 refine⟨_,(ke @iA), ?_⟩
 exact⟨cj,rfl,G',bP,(hA.step jT (A9 S aD (aL x.l) []) oM (by simp)).mono fun b o h=>az h⟩
structure SetG where
 i:Nat
 S:DiskL
 G:DkG
 X:aB
 DG:aB
def Bd {ids:List IdL} {i:Nat} (hi:i<ids.length) (S:DiskL):gB (ids.drop i) S=if(cu S aD (aL (ids.getD i id0).l)).2≠0∧(cu S aD (aL (ids.getD i id0).l)).2≠6 then((cu S aD (aL (ids.getD i id0).l)).2,(cu S aD (aL (ids.getD i id0).l)).1) else gB (ids.drop (i+1)) (cu S aD (aL (ids.getD i id0).l)).1:=by
 rw[LE (z:=id0) hi]
 rfl
def w1_ (X:aB) (G:DkG) (S:DiskL) (N:Nat) (v:Value) (ids:List IdL) (b off:Nat) (arr:Array Value) (E:TypeId) (fz:Nat×Nat) (w:World) (hX: ∀p,p∈X→w.heap[p.1]? =some p.2) (hn: (keys X).Nodup) (hA:DkA X G S N) (hN:N+ids.length<700000) (hr:RowS 32 eT id0 w v ids b off arr E fz) (H8:0<ids.length→b<w.heap.size) (uE:0<ids.length→b∉keys X):
  Rets prog 16 #[vp G.bd 0,v] w (XS w X (LsS G (o6 ids S) (N+ids.length+1))):=by
 have ln:=fun x=>hr.len x
 have hS:o6 ids S=if(gB ids S).1≠0 then gB ids S else if ids= [] then(0,(gB ids S).2) else((eZ (gB ids S).2 aD).2,(eZ (gB ids S).2 aD).1):=rfl
 refine Rets.enterX func16 rfl (rs:= [.tmp 4]) results16 ntmps16 hX hn ?_
 refine kf ?_
 refine ky (aN @iA @ln) ?_
 refine Cw.permL (M:=X++ []) (by rw[List.append_nil]) ?_
 refine Cw.loopG (G:=SetG) [11,12,13,6,14,15,16,17,7,18,19,20,21,22,23,24,4,25,10] (fun g=> [(10,vi g.i)]) (fun g=>g.X++g.DG) (fun g=>g.i≤ids.length∧gB (ids.drop g.i) g.S=gB ids S∧g.G.bd=G.bd∧DkA g.X g.G g.S (N+g.i)∧Ext w X (g.X++g.DG)) (fun g=>ids.length - g.i) ⟨0,S,G,X,[]⟩ rfl rfl ?_ ?_
 ·exact⟨aV _,rfl,rfl,hA,by rw[List.append_nil];exact Ext.refl w X⟩
 intro g j hg
 refine kv ?_
 clear hA
 obtain⟨i,S1,G1,X1,DG⟩:=g
 simp only at hg ⊢
 obtain⟨hi,hR,bP,dN,hE⟩:=hg
 rw[←bP]
 by_cases aC:i<ids.length
 ·have d1:decide ((i:Int)< (ids.length:Int))=true:=aK oM
  have h0:0<ids.length:=by omega
  have p7:b∉keys (X1++DG):=fun hm=>(hE.new b hm).elim (uE h0) fun h=>by have:=H8 h0;omega
  have rd:aU w (X1++DG) b=some (.cells arr E fz):=by rw[jn p7];exact hr.has h0
  have ix:=hr.idx true i aC
  have ld:=su hr aC
  rw[Bd aC] at hR
  generalize ids.getD i id0=x at*
  have hx:=x.h
  have gV: (aL x.l).length=64:=by rw[pR,x.h]
  refine ky (aN @iA (aN @d1 (aN @ln (aN @ix (aN @rd @ld))))) ?_
  refine Ow.alloc rfl rfl gM fun b6 nB lG=> ?_
  simp only[aS,List.nil_append,List.cons_append]
  refine Ow.permL (M:=(b6, .cells (a8 id0.l) 39 (0,0)):: (X1++DG)) pM ?_
  have rI:=id0.h
  have mE:Ext w X (X1++ ((b6, .cells (a8 x.l) 39 (0,0))::DG)):=(sd (o:= .cells (a8 x.l) 39 (0,0)) hE lG).perm pM
  refine ko @iA ?_
  refine ky @iA ?_
  refine Ow.callFV rfl call31 (fun w' aA=>zH x.l hx w') ?_
  refine ko @iA ?_
  refine Ow.permL (M:=X1++ ((b6, .cells (a8 x.l) 39 (0,0))::DG)) pM ?_
  refine Ow.callX (X:=X1) (Y:=(b6, .cells (a8 x.l) 39 (0,0))::DG) rfl rfl rfl call53 (fun w' aA aZ aT=>BR X1 G1 S1 aD (aL x.l) w' aZ aT dN.P oM) (fun v4 D4 bD ar=> ?_)
  obtain⟨rfl,bE⟩:=ar
  have cj:=mE.came bD
  have ay:=dN.step bE (JL S1 aD (aL x.l) []) oM (by simp)
  generalize cu S1 aD (aL x.l)=q at*
  obtain⟨S2,e⟩:=q
  simp only at hR ay ⊢
  by_cases he:e≠0∧e≠6
  ·have e1:=kF he.1
   have e2: ((e:Int) !=6)=true:=bne_iff_ne.2 (by have:=he.2;omega)
   rw[if_pos he] at hR
   rw[←hR,if_pos he.1] at hS
   refine ko @iA ?_
   refine ky (aN @iA (aN @e1 @e2)) ?_
   refine⟨_,(ke @iA), ?_⟩
   rw[hS]
   refine⟨cj,rfl,G1,bP, ?_⟩
   exact⟨ay.P.mono fun b o h=>az h,ay.H,ay.B.mono (show N+i+1≤N+ids.length+1 by omega)⟩
  rw[if_neg he] at hR
  by_cases e0:e=0
  ·subst e0
   have e1: (((0:Nat):Int) !=0)=false:=rfl
   refine ko @iA ?_
   refine ky (aN @iA @e1) ?_
   exact Again.mk ⟨i+1,S2,G1,D4,(b6, .cells (a8 x.l) 39 (0,0))::DG⟩ (by show ids.length - (i+1)<ids.length - i;omega) ⟨aC,hR,rfl,ay,cj⟩ rfl rfl
  obtain rfl:e=6:=Classical.byContradiction fun h6=>he ⟨e0,h6⟩
  have e1: (((6:Nat):Int) !=0)=true:=rfl
  have e2: (((6:Nat):Int) !=6)=false:=rfl
  refine ko @iA ?_
  refine ky (aN @iA (aN @e1 @e2)) ?_
  exact Again.mk ⟨i+1,S2,G1,D4,(b6, .cells (a8 x.l) 39 (0,0))::DG⟩ (by show ids.length - (i+1)<ids.length - i;omega) ⟨aC,hR,rfl,ay,cj⟩ rfl rfl
 obtain rfl:i=ids.length:=by omega
 have d1:decide ((ids.length:Int)< (ids.length:Int))=false:=aO oM
 rw[List.drop_length] at hR
 have hR1:gB ids S=(0,S1):=hR.symm
 rw[hR1,if_neg (by simp)] at hS
 by_cases h0:ids.length=0
 ·have h1:ids= []:=List.length_eq_zero_iff.1 h0
  have e1: ((ids.length:Int)==0)=true:=by rw[h0];rfl
  rw[if_pos h1] at hS
  refine ky (aN @iA (aN @d1 (aN @ln @e1))) ?_
  refine⟨_,(ke @iA), ?_⟩
  rw[hS]
  exact⟨hE,rfl,G1,bP,(dN.mono fun b o h=>az h).up⟩
 have h1:ids≠ []:=fun h=>h0 (by rw[h];rfl)
 have e1: ((ids.length:Int)==0)=false:=beq_eq_false_iff_ne.2 oM
 rw[if_neg h1] at hS
 refine ky (aN @iA (aN @d1 (aN @ln @e1))) ?_
 refine Ow.callX (X:=X1) (Y:=DG) rfl rfl rfl call54 (fun w' aA aZ aT=>J8_ X1 G1 S1 aD w' aZ aT dN.P) (fun v4 D4 bD ar=> ?_)
 obtain⟨rfl,G2,aw,bE⟩:=ar
 have cj:=hE.came bD
 refine ko @iA ?_
 refine ky @iA ?_
 refine⟨_,(ke @iA), ?_⟩
 rw[hS]
 exact⟨cj,rfl,G2,aw.trans bP,(dN.step bE (KK S1 aD [] []) (by simp) (by simp)).mono fun b o h=>az h⟩
def Bk (S:DiskL) {nms:List (List UInt8)} {k:Nat} (h:k<nms.length):mp S (nms.take (k+1))=mp S (nms.take k)++ (if looP S (nms.getD k [])=true then [hexI (nms.getD k [])] else []):=by
 unfold mp
 rw[StP.take_snoc (z:= []) h,List.filter_append,List.map_append]
 generalize nms.getD k []=s
 cases hp:looP S s<;>simp[hp]
def JD (S:DiskL) (l:List (List UInt8)): (mp S l).length≤l.length:=by
 unfold mp
 rw[List.length_map]
 exact List.length_filter_le _ _
structure LilG where
 i:Nat
 v:Value
 D:aB
 DG:aB
def ma:=aN (aN (aN @j7 @jB) (aN @j9 @j8)) (aN (aN @Sx.tup2_0 @Sx.tup2_1) (aN @av (aN @au @nz)))
def Kf (G:DkG) (S:DiskL) (m:Nat) (w:World) (hD:DkW w G S) (ok:DkOk S) (hB:DkB S) (hG:GlbA w m):
  Rets prog 20 #[vp G.bd 0] w (XS w [] (fun v D=>GrI D 39 32 v (lB S).length ((lB S).map eT).flatten)):=by
 have hLL:lB S=mp S (jE S aD):=rfl
 have qF:=FZ hB aD
 refine Rets.enterX func20 rfl (rs:= [.tmp 2]) results20 ntmps20 (fun p hp=>by cases hp) (by simp[keys]) ?_
 refine kf ?_
 refine ky @ma ?_
 refine Ow.callC rfl rfl call57 (fun w' aA=>Km w' G S aD (hD.old aA trivial) hB) (fun B3 v3 D3 fO mC fC eO=> ?_)
 rw[←IW] at eO
 rw[List.nil_append]
 generalize jE S aD=nms at*
 have iW:New w.heap.size D3:=fC.mono mC
 have ln3:=ru eO
 refine ko (aN @ma @ln3) ?_
 refine Cw.world fun w1 aI=> ?_
 obtain⟨rb,off,arr,E,fz,pA,bQ⟩:=eO.rowL (z:= []) rfl aI I'
 have rd3: ∀ (Y:aB),0<nms.length→aU w (D3++Y) rb=some (.cells arr E fz):=fun Y h0=>aQ (az (bQ h0))
 clear aI bQ
 refine Cw.permL (M:=D3++ ([]++ [])) (by simp) ?_
 refine Cw.loopG (G:=LilG) [14,15,16,5,18,19,17,20,21,6,7,22,23,25,26,27,24,28,29,8,9,30,31,32,33,34,35,3,36,13] (fun g=> [(3,g.v),(13,vi g.i)]) (fun g=>D3++ (g.D++g.DG)) (fun g=>g.i≤nms.length∧New w.heap.size g.D∧New w.heap.size g.DG∧Gr g.D 39 32 g.v (mp S (nms.take g.i)).length ((mp S (nms.take g.i)).map eT).flatten) (fun g=>nms.length - g.i) ⟨0, .slice none 0 0,[],[]⟩ rfl rfl ?_ ?_
 ·exact⟨aV _,trivial,trivial,Gr.nl⟩
 intro g j hg
 refine kv ?_
 obtain⟨i,vo,D,DG⟩:=g
 simp only at hg ⊢
 obtain⟨hi,hN,bG,cI⟩:=hg
 by_cases aC:i<nms.length
 ·have d1:decide ((i:Int)< (nms.length:Int))=true:=aK oM
  have ix3:=pA.idx false i aC
  have ld3:=fun n=>Ac pA aC n
  have rdj:=rd3 (D++DG) oM
  have dk:=Bk S aC
  have bh:=qF.2 _ (n_ (z:= []) aC)
  have ja:=JD S (nms.take i)
  rw[List.length_take,Nat.min_eq_left oM] at ja
  have eE:=qF.1
  generalize nms.getD i []=s at*
  generalize mp S (nms.take i)=os at*
  refine kz [6,8] (aN @ma (aN @d1 (aN @ln3 (aN @ix3 (aN @rdj @ld3))))) ?_
  refine Ow.callFV rfl call58 (fun w' aA=>QQ s w') ?_
  have hxu:mV s=(hexI s).l:=rfl
  have cD:looP S s=(mj s&& (gg S (hexI s)).e==0):=rfl
  rw[hxu]
  generalize hexI s=x at*
  have hx:=x.h
  have rI:=id0.h
  refine ko @ma ?_
  refine Ow.alloc rfl rfl gM fun b6 nB lG=> ?_
  simp only[aS,List.nil_append,List.cons_append]
  refine Ow.permL (M:=(b6, .cells (a8 id0.l) 39 (0,0)):: (D3++ (D++DG))) pM ?_
  refine ko @ma ?_
  cases bU:mj s with
  |false=>
   rw[bU,Bool.false_and] at cD
   rw[cD,if_neg (by simp),List.append_nil] at dk
   refine Cw.permL (M:=D3++ (D++ ((b6, .cells (a8 x.l) 39 (0,0))::DG))) pM ?_
   refine ky @ma ?_
   exact Again.mk ⟨i+1,vo,D,(b6, .cells (a8 x.l) 39 (0,0))::DG⟩ (by show nms.length - (i+1)<nms.length - i;omega) ⟨aC,hN,⟨lG,bG⟩,by rw[dk];exact cI⟩ rfl rfl
  |true=>
   rw[bU,Bool.true_and] at cD
   refine ky @ma ?_
   have fD:New w.heap.size ((b6,Obj.cells (a8 x.l) 39 (0,0)):: (D3++ (D++DG))):=⟨lG,iW.app (hN.app bG)⟩
   refine Ow.callFV rfl call14 (fun w' aA=>Il w' G S x (hD.old aA fD) ok (hG.new aA fD).C (hG.new aA fD).E) ?_
   generalize gg S x=q at*
   obtain⟨gk,gt,ge⟩:=q
   simp only at cD ⊢
   refine ko @ma ?_
   refine Ow.alloc rfl rfl fB fun b8 g5 jc=> ?_
   simp only[aS,List.nil_append,List.cons_append]
   have h68:b6<b8:=ak g5 (by simp[keys])
   refine Ow.permL (M:=(b8, .cells #[vi 0,vs []] 33 (0,0)):: (b6, .cells (a8 x.l) 39 (0,0)):: (D3++ (D++DG))) pM ?_
   refine ko @ma ?_
   by_cases he:ge=0
   ·subst he
    have e1: (((0:Nat):Int)==0)=true:=rfl
    rw[show((0:Nat)==0)=true from rfl] at cD
    rw[cD,if_pos rfl] at dk
    refine ky (aN @ma @e1) ?_
    refine Ow.buildSlice (e:=39) (a8 x.l) rfl rfl (gX (cs:=x.l.map v8) underlying53 pb gM (by decide) (by simp[x.h])) fun ba lh im=> ?_
    refine ko @ma ?_
    refine Ow.permL (M:=D++ (D3++ ((b8, .cells #[vi gk,vs gt] 33 (0,0)):: (b6, .cells (a8 x.l) 39 (0,0)):: (ba, .cells (a8 x.l) 39 (0,0))::DG))) pM ?_
    refine Ow.appendXG (e:=39) (k:=1) (new:=eT x) (X:=D) vo rfl rfl rfl rfl underlying53 pb kR gM (by rw[aS,sg,id0.h]) underlying53 (by intro k h;cases h) cI (fun w' aA=>AppX.one1 (by rw[Ae];exact aA.has ba (.cells (a8 x.l) 39 (0,0)) (by simp)) (pJ _) (A_ _)) oM (fun B4 v4 D4 gQ ng mF rL ig rP=> ?_)
    have c_:New w.heap.size D4:=New.of_le fun q hq=>by
     rcases ig q hq with h|h
     ·exact hN.le q h
     omega
    refine Ow.permL (M:=D3++ (D4++ ((b8, .cells #[vi gk,vs gt] 33 (0,0)):: (b6, .cells (a8 x.l) 39 (0,0)):: (ba, .cells (a8 x.l) 39 (0,0))::DG))) pM ?_
    refine ko @ma ?_
    refine ky @ma ?_
    exact Again.mk ⟨i+1,v4,D4,(b8, .cells #[vi gk,vs gt] 33 (0,0)):: (b6, .cells (a8 x.l) 39 (0,0)):: (ba, .cells (a8 x.l) 39 (0,0))::DG⟩ (by show nms.length - (i+1)<nms.length - i;omega) ⟨aC,c_,⟨jc,lG,im,bG⟩,by rw[dk];simpa using mF⟩ rfl rfl
   have e1: ((ge:Int)==0)=false:=beq_eq_false_iff_ne.2 oM
   rw[show(ge==0)=false from beq_eq_false_iff_ne.2 he] at cD
   rw[cD,if_neg (by simp),List.append_nil] at dk
   refine Cw.permL (M:=D3++ (D++ ((b8, .cells #[vi gk,vs gt] 33 (0,0)):: (b6, .cells (a8 x.l) 39 (0,0))::DG))) pM ?_
   refine ky (aN @ma @e1) ?_
   exact Again.mk ⟨i+1,vo,D,(b8, .cells #[vi gk,vs gt] 33 (0,0)):: (b6, .cells (a8 x.l) 39 (0,0))::DG⟩ (by show nms.length - (i+1)<nms.length - i;omega) ⟨aC,hN,⟨jc,lG,bG⟩,by rw[dk];exact cI⟩ rfl rfl
 obtain rfl:i=nms.length:=by omega
 have d1:decide ((nms.length:Int)< (nms.length:Int))=false:=aO oM
 rw[List.take_length,←hLL] at cI
 refine ky (aN @ma (aN @d1 @ln3)) ?_
 refine⟨_,(ke @ma), ?_⟩
 exact⟨Ext.of_new (iW.app (hN.app bG)),cI.i fun p hp=>by simp[hp]⟩
def dy:=aN (aN (aN @j7 @jB) (aN @j9 @j8)) (aN (aN @Sx.tup2_0 @Sx.tup2_1) (aN @av (aN @au @nz)))
def LscS (C:DcG) (R:Nat×DiskL) (N:Nat) (v:Value) (D:aB):Prop:=v=vi (R.1:Nat)∧ ∃C',C'.bd=C.bd∧DcP D C' R.2∧DsA R.2 N
def W8_ (X:aB) (C:DcG) (S:DiskL) (N:Nat) (x:IdL) (w:World) (hX: ∀p,p∈X→w.heap[p.1]? =some p.2) (hn: (keys X).Nodup) (hP:DcP X C S) (hA:DsA S N) (hN:N<700000):
  Rets prog 19 #[vp C.bd 0, .agg (a8 x.l)] w (XS w X (LscS C ((fo S aD (aL x.l)).2,(fo S aD (aL x.l)).1) (N+1))):=by
 have hx:=x.h
 have gV: (aL x.l).length=64:=by rw[pR,x.h]
 refine Rets.enterX func19 rfl (rs:= [.tmp 4]) results19 ntmps19 hX hn ?_
 refine kf ?_
 refine ky @dy ?_
 refine Ow.box rfl rfl fun b3 da dV=> ?_
 simp only[dC,cy,dA,aS,List.nil_append,List.cons_append]
 have lY:Ext w X (X++ [(b3, .cells (a8 x.l) 39 (0,0))]):=(Ext.refl w X).app dV
 refine Ow.permL (M:=(b3, .cells (a8 x.l) 39 (0,0))::X) pM ?_
 refine ko @dy ?_
 refine ky @dy ?_
 refine Ow.callFV rfl call32 (fun w' aA=>A8 x.l hx w') ?_
 refine ko @dy ?_
 refine Ow.permL (M:=X++ [(b3, .cells (a8 x.l) 39 (0,0))]) pM ?_
 refine Ow.callX (X:=X) (Y:= [(b3, .cells (a8 x.l) 39 (0,0))]) rfl rfl rfl call55 (fun w' aA aZ aT=>sb X C S N 5 aD (aL x.l) [] w' aZ aT hP hA oM ⟨by decide,by decide⟩ oM (aV _)) (fun v4 D4 bD ar=> ?_)
 obtain⟨rfl,C',bP,jT⟩:=ar
 have cj:=lY.came bD
 have mB:=hA.do oM 5 aD (aL x.l) [] oM (aV _)
 refine ko @dy ?_
 refine ky @dy ?_
 refine⟨_,(ke @dy), ?_⟩
 exact⟨cj,rfl,C',bP,jT.mono fun b o h=>az h,mB⟩
structure SelG where
 i:Nat
 S:DiskL
 C:DcG
 X:aB
def Jc_ (X:aB) (C:DcG) (S:DiskL) (N:Nat) (v:Value) (ids:List IdL) (b off:Nat) (arr:Array Value) (E:TypeId) (fz:Nat×Nat) (w:World) (hX: ∀p,p∈X→w.heap[p.1]? =some p.2) (hn: (keys X).Nodup) (hP:DcP X C S) (hA:DsA S N) (hN:N+ids.length<700000) (hr:RowS 32 eT id0 w v ids b off arr E fz) (H8:0<ids.length→b<w.heap.size) (uE:0<ids.length→b∉keys X):
  Rets prog 17 #[vp C.bd 0,v] w (XS w X (LscS C (o6 ids S) (N+ids.length+1))):=by
 have ln:=fun x=>hr.len x
 have hS:o6 ids S=if(gB ids S).1≠0 then gB ids S else if ids= [] then(0,(gB ids S).2) else((eZ (gB ids S).2 aD).2,(eZ (gB ids S).2 aD).1):=rfl
 refine Rets.enterX func17 rfl (rs:= [.tmp 4]) results17 ntmps17 hX hn ?_
 refine kf ?_
 refine ky (aN @dy @ln) ?_
 refine Cw.loopG (G:=SelG) [7,8,9,10,13,14,15,16,17,18,19,6,20,21,22,23,24,25,26,4,11,12,5] (fun g=> [(5,vi g.i)]) (fun g=>g.X) (fun g=>g.i≤ids.length∧gB (ids.drop g.i) g.S=gB ids S∧g.C.bd=C.bd∧DcP g.X g.C g.S∧DsA g.S (N+g.i)∧Ext w X g.X) (fun g=>ids.length - g.i) ⟨0,S,C,X⟩ rfl rfl ?_ ?_
 ·exact⟨aV _,rfl,rfl,hP,hA,Ext.refl w X⟩
 intro g j hg
 refine kv ?_
 clear hP hA
 obtain⟨i,S1,C1,X1⟩:=g
 simp only at hg ⊢
 obtain⟨hi,hR,bP,ap,dN,hE⟩:=hg
 rw[←bP]
 by_cases aC:i<ids.length
 ·have d1:decide ((i:Int)< (ids.length:Int))=true:=aK oM
  have h0:0<ids.length:=by omega
  have p7:b∉keys X1:=fun hm=>(hE.new b hm).elim (uE h0) fun h=>by have:=H8 h0;omega
  have rd:aU w X1 b=some (.cells arr E fz):=by rw[jn p7];exact hr.has h0
  have ix:=hr.idx true i aC
  have ld:=su hr aC
  rw[Bd aC] at hR
  generalize ids.getD i id0=x at*
  have hx:=x.h
  have gV: (aL x.l).length=64:=by rw[pR,x.h]
  refine ky (aN @dy (aN @d1 (aN @ln (aN @ix (aN @rd @ld))))) ?_
  refine Ow.callFV rfl call32 (fun w' aA=>A8 x.l hx w') ?_
  refine ko @dy ?_
  refine Ow.callX (X:=X1) (Y:= []) (List.append_nil _).symm rfl rfl call55 (fun w' aA aZ aT=>sb X1 C1 S1 (N+i) 2 aD (aL x.l) [] w' aZ aT ap dN oM ⟨by decide,by decide⟩ oM (aV _)) (fun v4 D4 bD ar=> ?_)
  rw[List.append_nil]
  obtain⟨rfl,C2,aw,bE⟩:=ar
  have cj:=hE.came0 bD
  have ay:=dN.do oM 2 aD (aL x.l) [] oM (aV _)
  rw[show doV S1 2 aD (aL x.l) []=cu S1 aD (aL x.l) from rfl] at ay bE ⊢
  generalize cu S1 aD (aL x.l)=q at*
  obtain⟨S2,e⟩:=q
  simp only at hR ay bE ⊢
  by_cases he:e≠0∧e≠6
  ·have e1:=kF he.1
   have e2: ((e:Int) !=6)=true:=bne_iff_ne.2 (by have:=he.2;omega)
   rw[if_pos he] at hR
   rw[←hR,if_pos he.1] at hS
   refine ko @dy ?_
   refine ky (aN @dy (aN @e1 @e2)) ?_
   refine⟨_,(ke @dy), ?_⟩
   rw[hS]
   exact⟨cj,rfl,C2,aw.trans bP,bE,ay.mono (show N+i+1≤N+ids.length+1 by omega)⟩
  rw[if_neg he] at hR
  by_cases e0:e=0
  ·subst e0
   have e1: (((0:Nat):Int) !=0)=false:=rfl
   refine ko @dy ?_
   refine ky (aN @dy @e1) ?_
   exact Again.mk ⟨i+1,S2,C2,D4⟩ (by show ids.length - (i+1)<ids.length - i;omega) ⟨aC,hR,aw,bE,ay,cj⟩ rfl rfl
  obtain rfl:e=6:=Classical.byContradiction fun h6=>he ⟨e0,h6⟩
  have e1: (((6:Nat):Int) !=0)=true:=rfl
  have e2: (((6:Nat):Int) !=6)=false:=rfl
  refine ko @dy ?_
  refine ky (aN @dy (aN @e1 @e2)) ?_
  exact Again.mk ⟨i+1,S2,C2,D4⟩ (by show ids.length - (i+1)<ids.length - i;omega) ⟨aC,hR,aw,bE,ay,cj⟩ rfl rfl
 obtain rfl:i=ids.length:=by omega
 have d1:decide ((ids.length:Int)< (ids.length:Int))=false:=aO oM
 rw[List.drop_length] at hR
 have hR1:gB ids S=(0,S1):=hR.symm
 rw[hR1,if_neg (by simp)] at hS
 by_cases h0:ids.length=0
 ·have h1:ids= []:=List.length_eq_zero_iff.1 h0
  have e1: ((ids.length:Int)==0)=true:=by rw[h0];rfl
  rw[if_pos h1] at hS
  refine ky (aN @dy (aN @d1 (aN @ln @e1))) ?_
  refine⟨_,(ke @dy), ?_⟩
  rw[hS]
  exact⟨hE,rfl,C1,bP,ap,dN.mono (Nat.le_succ _)⟩
 have h1:ids≠ []:=fun h=>h0 (by rw[h];rfl)
 have e1: ((ids.length:Int)==0)=false:=beq_eq_false_iff_ne.2 oM
 rw[if_neg h1] at hS
 refine ky (aN @dy (aN @d1 (aN @ln @e1))) ?_
 refine Ow.callX (X:=X1) (Y:= []) (List.append_nil _).symm rfl rfl call55 (fun w' aA aZ aT=>sb X1 C1 S1 (N+ids.length) 3 aD [] [] w' aZ aT ap dN oM ⟨by decide,by decide⟩ (aV _) (aV _)) (fun v4 D4 bD ar=> ?_)
 rw[List.append_nil]
 obtain⟨rfl,C2,aw,bE⟩:=ar
 have cj:=hE.came0 bD
 have ay:=dN.do oM 3 aD [] [] (aV _) (aV _)
 refine ko @dy ?_
 refine ky @dy ?_
 refine⟨_,(ke @dy), ?_⟩
 rw[hS]
 exact⟨cj,rfl,C2,aw.trans bP,bE,ay⟩
def KP_ (C:DcG) (S:DiskL) (w:World) (hD:DcW w C S) (ok:DkOk S) (hB:DkB S):
  Rets prog 21 #[vp C.bd 0] w (XS w [] (fun v D=>GrI D 39 32 v (lB S).length ((lB S).map eT).flatten)):=by
 have hLL:lB S=mp S (jE S aD):=rfl
 have qF:=FZ hB aD
 refine Rets.enterX func21 rfl (rs:= [.tmp 2]) results21 ntmps21 (fun p hp=>by cases hp) (by simp[keys]) ?_
 refine kf ?_
 refine ky @dy ?_
 refine Ow.callC rfl rfl call59 (fun w' aA=>Qu w' C S aD (hD.old aA trivial) hB) (fun B3 v3 D3 fO mC fC eO=> ?_)
 rw[←IW] at eO
 rw[List.nil_append]
 generalize jE S aD=nms at*
 have iW:New w.heap.size D3:=fC.mono mC
 have ln3:=ru eO
 refine ko (aN @dy @ln3) ?_
 refine Cw.world fun w1 aI=> ?_
 obtain⟨rb,off,arr,E,fz,pA,bQ⟩:=eO.rowL (z:= []) rfl aI I'
 have rd3: ∀ (Y:aB),0<nms.length→aU w (D3++Y) rb=some (.cells arr E fz):=fun Y h0=>aQ (az (bQ h0))
 clear aI bQ
 refine Cw.permL (M:=D3++ ([]++ [])) (by simp) ?_
 refine Cw.loopG (G:=LilG) [12,13,14,15,19,20,21,22,23,18,24,25,6,7,26,27,29,30,31,28,32,33,8,9,34,35,36,37,38,39,3,16,17,5] (fun g=> [(3,g.v),(5,vi g.i)]) (fun g=>D3++ (g.D++g.DG)) (fun g=>g.i≤nms.length∧New w.heap.size g.D∧New w.heap.size g.DG∧Gr g.D 39 32 g.v (mp S (nms.take g.i)).length ((mp S (nms.take g.i)).map eT).flatten) (fun g=>nms.length - g.i) ⟨0, .slice none 0 0,[],[]⟩ rfl rfl ?_ ?_
 ·exact⟨aV _,trivial,trivial,Gr.nl⟩
 intro g j hg
 refine kv ?_
 obtain⟨i,vo,D,DG⟩:=g
 simp only at hg ⊢
 obtain⟨hi,hN,bG,cI⟩:=hg
 by_cases aC:i<nms.length
 ·have d1:decide ((i:Int)< (nms.length:Int))=true:=aK oM
  have ix3:=pA.idx false i aC
  have ld3:=fun n=>Ac pA aC n
  have rdj:=rd3 (D++DG) oM
  have dk:=Bk S aC
  have bh:=qF.2 _ (n_ (z:= []) aC)
  have ja:=JD S (nms.take i)
  rw[List.length_take,Nat.min_eq_left oM] at ja
  have eE:=qF.1
  generalize nms.getD i []=s at*
  generalize mp S (nms.take i)=os at*
  refine kz [7,9] (aN @dy (aN @d1 (aN @ln3 (aN @ix3 (aN @rdj @ld3))))) ?_
  refine Ow.callFV rfl call60 (fun w' aA=>Mo s w') ?_
  have hxu:mV s=(hexI s).l:=rfl
  have cD:looP S s=(mj s&& (gg S (hexI s)).e==0):=rfl
  rw[hxu]
  generalize hexI s=x at*
  have hx:=x.h
  have rI:=id0.h
  refine ko @dy ?_
  refine Ow.alloc rfl rfl gM fun b6 nB lG=> ?_
  simp only[aS,List.nil_append,List.cons_append]
  refine Ow.permL (M:=(b6, .cells (a8 id0.l) 39 (0,0)):: (D3++ (D++DG))) pM ?_
  refine ko @dy ?_
  cases bU:mj s with
  |false=>
   rw[bU,Bool.false_and] at cD
   rw[cD,if_neg (by simp),List.append_nil] at dk
   refine Cw.permL (M:=D3++ (D++ ((b6, .cells (a8 x.l) 39 (0,0))::DG))) pM ?_
   refine ky @dy ?_
   exact Again.mk ⟨i+1,vo,D,(b6, .cells (a8 x.l) 39 (0,0))::DG⟩ (by show nms.length - (i+1)<nms.length - i;omega) ⟨aC,hN,⟨lG,bG⟩,by rw[dk];exact cI⟩ rfl rfl
  |true=>
   rw[bU,Bool.true_and] at cD
   refine ky @dy ?_
   have fD:New w.heap.size ((b6,Obj.cells (a8 x.l) 39 (0,0)):: (D3++ (D++DG))):=⟨lG,iW.app (hN.app bG)⟩
   refine Ow.callFV rfl call15 (fun w' aA=>Kb w' C S x (hD.old aA fD) ok hB) ?_
   generalize gg S x=q at*
   obtain⟨gk,gt,ge⟩:=q
   simp only at cD ⊢
   refine ko @dy ?_
   refine Ow.alloc rfl rfl fB fun b8 g5 jc=> ?_
   simp only[aS,List.nil_append,List.cons_append]
   have h68:b6<b8:=ak g5 (by simp[keys])
   refine Ow.permL (M:=(b8, .cells #[vi 0,vs []] 33 (0,0)):: (b6, .cells (a8 x.l) 39 (0,0)):: (D3++ (D++DG))) pM ?_
   refine ko @dy ?_
   by_cases he:ge=0
   ·subst he
    have e1: (((0:Nat):Int)==0)=true:=rfl
    rw[show((0:Nat)==0)=true from rfl] at cD
    rw[cD,if_pos rfl] at dk
    refine ky (aN @dy @e1) ?_
    refine Ow.buildSlice (e:=39) (a8 x.l) rfl rfl (gX (cs:=x.l.map v8) underlying53 pb gM (by decide) (by simp[x.h])) fun ba lh im=> ?_
    refine ko @dy ?_
    refine Ow.permL (M:=D++ (D3++ ((b8, .cells #[vi gk,vs gt] 33 (0,0)):: (b6, .cells (a8 x.l) 39 (0,0)):: (ba, .cells (a8 x.l) 39 (0,0))::DG))) pM ?_
    refine Ow.appendXG (e:=39) (k:=1) (new:=eT x) (X:=D) vo rfl rfl rfl rfl underlying53 pb kR gM (by rw[aS,sg,id0.h]) underlying53 (by intro k h;cases h) cI (fun w' aA=>AppX.one1 (by rw[Ae];exact aA.has ba (.cells (a8 x.l) 39 (0,0)) (by simp)) (pJ _) (A_ _)) oM (fun B4 v4 D4 gQ ng mF rL ig rP=> ?_)
    have c_:New w.heap.size D4:=New.of_le fun q hq=>by
     rcases ig q hq with h|h
     ·exact hN.le q h
     omega
    refine Ow.permL (M:=D3++ (D4++ ((b8, .cells #[vi gk,vs gt] 33 (0,0)):: (b6, .cells (a8 x.l) 39 (0,0)):: (ba, .cells (a8 x.l) 39 (0,0))::DG))) pM ?_
    refine ko @dy ?_
    refine ky @dy ?_
    exact Again.mk ⟨i+1,v4,D4,(b8, .cells #[vi gk,vs gt] 33 (0,0)):: (b6, .cells (a8 x.l) 39 (0,0)):: (ba, .cells (a8 x.l) 39 (0,0))::DG⟩ (by show nms.length - (i+1)<nms.length - i;omega) ⟨aC,c_,⟨jc,lG,im,bG⟩,by rw[dk];simpa using mF⟩ rfl rfl
   have e1: ((ge:Int)==0)=false:=beq_eq_false_iff_ne.2 oM
   rw[show(ge==0)=false from beq_eq_false_iff_ne.2 he] at cD
   rw[cD,if_neg (by simp),List.append_nil] at dk
   refine Cw.permL (M:=D3++ (D++ ((b8, .cells #[vi gk,vs gt] 33 (0,0)):: (b6, .cells (a8 x.l) 39 (0,0))::DG))) pM ?_
   refine ky (aN @dy @e1) ?_
   exact Again.mk ⟨i+1,vo,D,(b8, .cells #[vi gk,vs gt] 33 (0,0)):: (b6, .cells (a8 x.l) 39 (0,0))::DG⟩ (by show nms.length - (i+1)<nms.length - i;omega) ⟨aC,hN,⟨jc,lG,bG⟩,by rw[dk];exact cI⟩ rfl rfl
 obtain rfl:i=nms.length:=by omega
 have d1:decide ((nms.length:Int)< (nms.length:Int))=false:=aO oM
 rw[List.take_length,←hLL] at cI
 refine ky (aN @dy (aN @d1 @ln3)) ?_
 refine⟨_,(ke @dy), ?_⟩
 exact⟨Ext.of_new (iW.app (hN.app bG)),cI.i fun p hp=>by simp[hp]⟩
def P' {S:DiskL} {x:IdL} (h1: (cu S aD (aL x.l)).2=0):o6 [x] S=((eZ (cu S aD (aL x.l)).1 aD).2,(eZ (cu S aD (aL x.l)).1 aD).1):=by
 have e:gB [x] S=(0,(cu S aD (aL x.l)).1):=by
  unfold gB
  rw[if_neg (by rw[h1];simp)];rfl
 unfold o6
 rw[e,if_neg (by simp),if_neg (by simp)]
structure KeepI (all:List ObL) (S:DiskL) (had:List ObL) (n:Nat):Prop where
 alls:FulS S
 max:S.max=1000000
 used:ct S≤n*4300
 names: ∀ (x:IdL) (d:List UInt8),cv S 0 (aL x.l)=some d→ ∃o,o∈all∧cm o.k o.t=true∧idV o.k o.t=x∧d=ee o.k o.t
 had: ∀o,o∈had→cm o.k o.t=true∧o∈all∧cv S 0 (aL (idV o.k o.t).l)=some (ee o.k o.t)
def U6 (q:Int):ct (dI q)=0:=rfl
def Zm (q:Int):dI q=ofD q []:=by
 unfold ofD dI setV
 simp only[List.foldl_nil]
 congr 1
 funext k
 split<;>rfl
def WF {q:Int} {l:List FiL} (ok:DkOk (ofD q l)):FulS (ofD q l):=⟨ok,Xo q l,F4 q l,(Xz q l).1,YD q l⟩
def Um {q:Int} (ok:DkOk (dI q)):FulS (dI q):=by
 rw[Zm] at ok ⊢
 exact WF ok
def YX: ∀s:List UInt8,ltB s s=true→False:=fun s h=>by
 have:=(show SrtN [(s,0),(s,1)] from List.pairwise_cons.2 ⟨fun q hq=>by rw[List.mem_singleton.1 hq];exact h,List.pairwise_singleton _ _⟩).nodup
 simp at this
def V4 {l:NmL} (h:SrtN l) {nm:List UInt8} (h1: ∀x,x≠nm→aM l x=none) {n:Nat} (h2:aM l nm=some n):l.map Prod.fst= [nm]:=by
 have ha: ∀p,p∈l→p.1=nm:=fun p hp=>Classical.byContradiction fun aX=>by
  have:=zW h.nodup (s:=p.1) (n:=p.2) hp
  rw[h1 p.1 aX] at this
  cases this
 match l,h,ha,h2 with
 | [],_,_,h2=>cases h2
 | [p],_,ha,_=>rw[List.map_cons,ha p am];rfl
 |p::q::r,h,ha,_=>
  have h3:=(List.pairwise_cons.1 h).1 q am
  rw[ha p am,ha q (cN _ am)] at h3
  exact absurd h3 (YX nm)
def abT:List UInt8:= [97,98]
def GP:cm 1 abT=true:=by decide
structure AliveI (p:PutR) (q:Nat×DiskL):Prop where
 e:p.e=0
 x:p.x=idV 1 abT
 f:q.1=0
 got:gg (eL q.2 []) p.x=⟨1,abT,0⟩
 list: (lB (eL q.2 [])).length=1
def NP (ok:DkOk (dI 1000)):AliveI (putL (dI 1000) 1 abT) (o6 [(putL (dI 1000) 1 abT).x] (putL (dI 1000) 1 abT).S):=by
 have ha:=Um ok
 have uU: ∀x,cv (dI 1000) 0 x=none:=fun x=>rfl
 have hg: (gg (dI 1000) (idV 1 abT)).e=6:=by
  have ce:=SK ha.calm (idV 1 abT)
  rw[uU] at ce
  unfold gg
  rw[ce,if_pos (by simp)]
 obtain⟨e,S',hp,a1,-,hoth,-,I2,hor⟩:=SX ha (Au (idV 1 abT)).1 (Au (idV 1 abT)).2 (ee 1 abT)
 have qF: (ee 1 abT).length≤100:=by
  have h3:=qP (abT.length:Int)
  have h4:abT.length=2:=rfl
  have h5: (lO 1).length=1:=rfl
  unfold ee fI fy
  rw[LW]
  simp only[List.length_cons,List.length_append]
  omega
 obtain⟨rfl,h2⟩:e=0∧cv S' 0 (aL (idV 1 abT).l)=some (ee 1 abT):=by
  rcases hor with h| ⟨-,-,h⟩
  ·exact h
  exact absurd ⟨by omega,by rw[U6];show((0:Nat):Int)+_≤1000;omega⟩ h
 have gP:putL (dI 1000) 1 abT=⟨idV 1 abT,0,S'⟩:=by
  unfold putL
  rw[GP,if_neg (by simp),hg,if_neg (by decide),hp]
  simp
 rw[gP]
 obtain⟨s1,s2,s3,s4,s5,n,s6⟩:=O5 a1 (Au (idV 1 abT)).1 h2
 have cV:o6 [idV 1 abT] S'=(0,(eZ (cu S' aD (aL (idV 1 abT).l)).1 aD).1):=by rw[P' s1,s2]
 simp only
 rw[cV]
 generalize (eZ (cu S' aD (aL (idV 1 abT).l)).1 aD).1=S2 at*
 have HM:gg (eL S2 []) (idV 1 abT)=⟨1,abT,0⟩:=XK GP (QN (by decide) (Au _).1 s6 [])
 refine⟨rfl,rfl,rfl,HM, ?_⟩
 obtain⟨i,h3,h4⟩:=CB S2 [] (k:=0) (by decide)
 rw[s5] at h3
 obtain rfl:i=0:=by simpa using h3
 have h5: ((eL S2 []).dir 0).seen=(S'.dir 0).seen:=by
  rw[h4]
  show eQ S2 0 0=_
  unfold eQ
  rw[s5];rfl
 have h6: ((eL S2 []).dir 0).seen.map Prod.fst= [aL (idV 1 abT).l]:=by
  rw[h5]
  refine V4 (n:=n) (a1.ok.seen 0 (by decide)) (fun x hx=> ?_) ?_
  ·by_cases uW:x=aY (aL (idV 1 abT).l)
   ·rw[uW];exact LV I2
   exact LV ((hoth x hx uW).trans (uU x))
  have:=s6.at_
  rw[s5] at this
  exact this
 have h7:jE (eL S2 []) aD= [aL (idV 1 abT).l]:=by
  have:=BB (S:=eL S2 []) (k:=0) (by decide)
  rw[CC,if_neg (by decide),h6] at this
  exact this
 unfold lB mp
 rw[h7]
 have h8:looP (eL S2 []) (aL (idV 1 abT).l)=true:=by
  unfold looP
  rw[BI _ (idV 1 abT).h,show hexI (aL (idV 1 abT).l)=idV 1 abT from WZ (Oq _ (idV 1 abT).h),HM]
  rfl
 rw[List.filter_cons,if_pos h8]
 rfl
end Go.Proofs
end
section
open Go Go.Proofs Go.Sx Go.StP Go.Flo
namespace Go.Proofs
end Go.Proofs
end
