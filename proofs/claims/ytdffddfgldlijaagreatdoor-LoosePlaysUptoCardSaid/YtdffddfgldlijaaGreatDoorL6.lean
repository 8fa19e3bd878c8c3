/-
  Part 6 of the walk: contracts of the functions that the law reaches, and the calculus they stand on.
  No conditions.
-/
import Derived.Test.YtdffddfgldlijaaGreatDoorL5
import Derived.ProofKit
import Derived.OpenShut
import Derived.WideKeyArgs
import Derived.ChangeSame
import Derived.ChangeMaps5
import Derived.Lib.LaidTab
import Derived.SliceStrings
import Derived.DataReads
import Derived.Deep.Strs
set_option maxRecDepth 10000
set_option maxHeartbeats 2000000
set_option linter.unusedSimpArgs false
set_option linter.defProp false
open Go.Proofs.Tryz
section
open Go Go.Proofs Go.Sx Go.StP Go.Dig
namespace Go.Proofs
def wq {w:World} {x:IdL} {b:Nat} {E:TypeId} (h:w.heap[b]? =some (.cells (a8 x.l) E (0,0))):RowS 32 eT id0 w (vsl b 0 1 1) [x] b 0 (a8 x.l) E (0,0):=
 RowS.sl rfl h fun k hk j hj=>by
  obtain rfl:k=0:=by simpa using hk
  rw[←Ae]
  simp
def l6:=aN (aN (aN @j7 @jB) (aN @j9 @j8)) (aN (aN @Sx.tup2_0 @Sx.tup2_1) (aN @av (aN @au @nz)))
def KJ (m:Nat) (w:World) (hG:GlbA w m):Rets prog 4 #[] w (fun v D=>v= .bool true∧D= []):=by
 refine Rets.enterV func4 rfl (rs:= [.tmp 0]) results4 ntmps4 ?_
 refine kf ?_
 refine ky @l6 ?_
 refine Ow.callC rfl rfl call30 (fun w' aA=>CW 1000 w' (by decide) (hG.new aA trivial).D) (fun B0 v0 D0 hA0 u4 nj Gw=> ?_)
 obtain⟨G0,rfl,mG⟩:=Gw
 rw[List.nil_append]
 have mD:Ext w [] D0:=Ext.of_new (nj.mono u4)
 have kh: ∀b,b∈keys D0→m≤b:=fun b hb=>Nat.le_trans hG.le (mD.new0.le b hb)
 have Ja:DkA D0 G0 (dI 1000) 0:=⟨mG,Ve 1000,F9 1000⟩
 obtain⟨a1,a2,a3,a4,a5⟩:=NP mG.ok
 generalize dI 1000=S0 at*
 refine ko @l6 ?_
 refine ky @l6 ?_
 refine Ow.build (obV 1 abT) rfl (Ck 1 abT) ?_
 refine ko @l6 ?_
 refine Ow.callX (X:=D0) (Y:= []) (List.append_nil _).symm rfl rfl call12 (fun w' aA aZ aT=>Bi D0 G0 S0 0 m 1 abT w' aZ aT Ja oM (hG.new aA mD.new0) kh) (fun v1 D1 hC1 dr=> ?_)
 rw[List.append_nil]
 obtain⟨rfl,G1,aW,dN⟩:=dr
 have cE:=mD.came0 hC1
 generalize putL S0 1 abT=p at*
 obtain⟨x,pe,S1⟩:=p
 simp only at a1 a2 a3 a4 a5 dN ⊢
 subst a1
 rw[←aW]
 refine ko @l6 ?_
 refine Ow.alloc rfl rfl gM fun b2 aq bV=> ?_
 simp only[aS,List.nil_append,List.cons_append]
 have hx:=x.h
 have rI:=id0.h
 refine Ow.permL (M:=(b2, .cells (a8 id0.l) 39 (0,0))::D1) pM ?_
 refine ko @l6 ?_
 refine ky @l6 ?_
 refine Ow.buildSlice (e:=39) (a8 x.l) rfl rfl (gX (cs:=x.l.map v8) underlying53 pb gM (by decide) (by simp[x.h])) fun ba lh im=> ?_
 refine ko @l6 ?_
 have h2a:b2<ba:=ak lh (by simp[keys])
 have hn1a:ba∉keys D1:=fun hm=>by
  have:=ak lh (show ba∈keys _ from cN _ hm)
  omega
 have hYE:Ext w [] (D1++ [(b2, .cells (a8 x.l) 39 (0,0)),(ba, .cells (a8 x.l) 39 (0,0))]):=ET cE ⟨bV,im,trivial⟩
 refine Ow.permL (M:=D1++ [(b2, .cells (a8 x.l) 39 (0,0)),(ba, .cells (a8 x.l) 39 (0,0))]) pM ?_
 refine Ow.callX (X:=D1) (Y:= [(b2, .cells (a8 x.l) 39 (0,0)),(ba, .cells (a8 x.l) 39 (0,0))]) rfl rfl rfl call16 (fun w' aA aZ aT=>w1_ D1 G1 S1 (0+42) _ [x] ba 0 _ _ _ w' aZ aT dN (by simp) (wq (aA.has ba (.cells (a8 x.l) 39 (0,0)) (by simp))) (fun _=>(Array.getElem?_eq_some_iff.1 (aA.has ba (.cells (a8 x.l) 39 (0,0)) (by simp))).1) (fun _=>hn1a)) (fun v2 D2 j1 bM=> ?_)
 obtain⟨rfl,G2,hb2',ay⟩:=bM
 have bZ:=hYE.came j1
 generalize o6 [x] S1=q at*
 obtain⟨qe,S2⟩:=q
 simp only at a3 a4 a5 ay ⊢
 subst a3
 rw[←hb2']
 refine ko @l6 ?_
 refine ky @l6 ?_
 refine Ow.callX (X:=D2) (Y:= [(b2, .cells (a8 x.l) 39 (0,0)),(ba, .cells (a8 x.l) 39 (0,0))]) rfl rfl rfl call24 (fun w' aA aZ aT=>Vz_ D2 G2 S2 (.slice none 0 0) [] w' aZ aT ay.P (hG.new aA bZ.new0).D (fun hm=>by have:=bZ.new0.le _ (show _∈keys _ by rw[ao];exact cz _ hm);have:=hG.d;have:=hG.le;omega) ((AB (q:=(S2,[])) ay.B 3).b (by simp)) (.inl (SlV.nil w')) (fun h=>absurd rfl h) (by decide) (fun k hk=>⟨(ay.H k).2,ay.pend (by simp) k hk⟩)) (fun v3 D3 oq eO=> ?_)
 obtain⟨G3,da,j4⟩:=eO
 have lY:=bZ.came oq
 have fO:DkA D3 G3 (eL S2 []) (0+42+ [x].length+1):=⟨j4,BY ay.H _,CS ay.B _⟩
 generalize eL S2 []=S3 at*
 rw[←da]
 refine Ow.permL (M:=(b2, .cells (a8 x.l) 39 (0,0)):: (D3++ [(ba, .cells (a8 x.l) 39 (0,0))])) pM ?_
 have xy:Ext w [] ((b2, .cells (a8 x.l) 39 (0,0)):: (D3++ [(ba, .cells (a8 x.l) 39 (0,0))])):=lY.perm pM
 refine Ow.world fun wz fP=> ?_
 have gQ:DkA ((b2, .cells (a8 x.l) 39 (0,0)):: (D3++ [(ba, .cells (a8 x.l) 39 (0,0))])) G3 S3 (0+42+ [x].length+1):=fO.mono fun b o h=>y' (A:= [(b2, .cells (a8 x.l) 39 (0,0))]) fP.nodup (az h)
 clear fP
 generalize D3++ [(ba,Obj.cells (a8 x.l) 39 (0,0))]=D4 at*
 refine ko @l6 ?_
 refine kz [6] @l6 ?_
 refine Ow.callFV rfl call14 (fun w' aA=>Il w' G3 S3 x (gQ.P.world aA) gQ.P.ok (hG.new aA xy.new0).C (hG.new aA xy.new0).E) ?_
 rw[a4]
 refine ko @l6 ?_
 refine Ow.alloc rfl rfl fB fun b5 uD sW=> ?_
 simp only[aS,List.nil_append,List.cons_append]
 have h25:b2<b5:=ak uD (by simp[keys])
 refine Ow.permL (M:=(b5, .cells #[vi 0,vs []] 33 (0,0)):: (b2, .cells (a8 x.l) 39 (0,0))::D4) pM ?_
 have dq:New w.heap.size ((b5, .cells #[vi 1,vs abT] 33 (0,0)):: (b2, .cells (a8 x.l) 39 (0,0))::D4):=⟨sW,xy.new0⟩
 have lX:DkA ((b5, .cells #[vi 1,vs abT] 33 (0,0)):: (b2, .cells (a8 x.l) 39 (0,0))::D4) G3 S3 (0+42+ [x].length+1):=gQ.mono fun b o h=>o7 uD h
 refine ko @l6 ?_
 have z0: (((0:Nat):Int)==0)=true:=rfl
 have zb: (abT== [97,98])=true:=rfl
 refine Cw.regionS [b5,b2] [0,1,2,3,4,5,6,7,8,9,10,11,12,13,14,15,16,17,18,19,20,21,22,24,23,25,26,27,28] [] kR kR kR ?_
 simp only[ai, ↓ah, ↓ab, ↓ag, ↓ae,ac]
 refine kq (aN @l6 (aN @z0 @zb)) ?_
 refine Ow.soft rfl rfl rfl ?_
 refine Ow.callC rfl rfl call20 (fun w' aA=>Kf G3 S3 m w' (lX.P.world aA) lX.P.ok (lX.b (by simp)) (hG.new aA dq)) (fun B6 v6 D6 qz ni fD r4=> ?_)
 have hN56:=dq.app (fD.mono ni)
 have ln6:=ru r4
 rw[a5] at ln6
 with_reducible refine Ow.nil ?_
 refine⟨vn (by simp[keys]), ?_⟩
 have z1: (((1:Nat):Int)==1)=true:=rfl
 refine kq (aN @l6 (aN @ln6 @z1)) ?_
 refine Ow.soft rfl rfl rfl ?_
 refine Ow.callFV rfl call31 (fun w' aA=>zH x.l hx w') ?_
 with_reducible refine Ow.nil ?_
 refine⟨by intro b hb;simp only[List.mem_cons,List.not_mem_nil,or_false] at hb;(try subst hb);rfl, ?_⟩
 refine kq @l6 ?_
 refine Ow.soft rfl rfl rfl ?_
 refine Ow.callFV rfl call32 (fun w' aA=>A8 x.l hx w') ?_
 with_reducible refine Ow.nil ?_
 refine⟨by intro b hb;simp only[List.mem_cons,List.not_mem_nil,or_false] at hb;(try subst hb);rfl, ?_⟩
 refine kq (aN @l6 @decide_true) ?_
 refine⟨_,(ke @l6),hN56, ?_⟩
 rfl
structure A5L where
 kind:Int
 n:Int
 ok:Int
 ot:List UInt8
 picks:PkL
def a5C (r:A5L):List Value:= [vi r.kind]++ ([vi r.n]++ ([vi r.ok]++ ([vs r.ot]++ ([r.picks.v]))))
def a50:A5L:=⟨0,0,0,[],pk0⟩
def zM (r:A5L): (a5C r).length=5:=by simp[a5C]
def wh (r:A5L):Value.cells (.agg (a5C r).toArray)=(a5C r).toArray:=aS _
def Wz (r:A5L): (a5C r).all Value.oneCell'=true:=by
 unfold a5C
 simp only[List.all_append,List.all_cons,List.all_nil,qW,Bool.and_true,Bool.true_and]
 rw[r.picks.h.1];rfl
def zrA5:an prog 36=some (.agg (a5C a50).toArray):=id kR
def X_ (r:A5L):a5C r=([]:List Value)++ (([vi r.kind])++ ([vi r.n]++ ([vi r.ok]++ ([vs r.ot]++ ([r.picks.v]))))):=by
 unfold a5C;simp only[List.append_assoc,List.nil_append,List.append_nil]
def wi (r:A5L) (n:Nat) (E:TypeId) (fz:Nat×Nat):aG (some (false,n)) (some (.cells (a5C r).toArray E fz)) 0=some (vi r.kind):=by
 rw[X_];exact iR _ _ _ n E fz (by simp)
def ZD (r:A5L):a5C r=(([vi r.kind]))++ (([vi r.n])++ ([vi r.ok]++ ([vs r.ot]++ ([r.picks.v])))):=by
 unfold a5C;simp only[List.append_assoc,List.nil_append,List.append_nil]
def wa (r:A5L) (n:Nat) (E:TypeId) (fz:Nat×Nat):aG (some (false,n)) (some (.cells (a5C r).toArray E fz)) 1=some (vi r.n):=by
 rw[ZD];exact iR _ _ _ n E fz (by simp)
def Yh (r:A5L):a5C r=(([vi r.kind])++ ([vi r.n]))++ (([vi r.ok])++ ([vs r.ot]++ ([r.picks.v]))):=by
 unfold a5C;simp only[List.append_assoc,List.nil_append,List.append_nil]
def wk (r:A5L) (n:Nat) (E:TypeId) (fz:Nat×Nat):aG (some (false,n)) (some (.cells (a5C r).toArray E fz)) 2=some (vi r.ok):=by
 rw[Yh];exact iR _ _ _ n E fz (by simp)
def Zl (r:A5L):a5C r=(([vi r.kind])++ ([vi r.n])++ ([vi r.ok]))++ (([vs r.ot])++ ([r.picks.v])):=by
 unfold a5C;simp only[List.append_assoc,List.nil_append,List.append_nil]
def wc (r:A5L) (n:Nat) (E:TypeId) (fz:Nat×Nat):aG (some (false,n)) (some (.cells (a5C r).toArray E fz)) 3=some (vs r.ot):=by
 rw[Zl];exact iR _ _ _ n E fz (by simp)
def YH (r:A5L):a5C r=(([vi r.kind])++ ([vi r.n])++ ([vi r.ok])++ ([vs r.ot]))++ (([r.picks.v])++ (([]:List Value))):=by
 unfold a5C;simp only[List.append_assoc,List.nil_append,List.append_nil]
def wV (r:A5L) (n:Nat) (E:TypeId) (fz:Nat×Nat):aG (some (false,n)) (some (.cells (a5C r).toArray E fz)) 4=some (r.picks.v):=by
 rw[YH];exact iR _ _ _ n E fz (by simp)
def xA (r:A5L) (E:TypeId) (fz:Nat×Nat):aG (some (true,5)) (some (.cells (a5C r).toArray E fz)) 0=some (.agg (a5C r).toArray):=rx _ E fz 5 (by rw[List.size_toArray,zM])
def VB (old:Array Value) (r:A5L) (a:Bool) (E:TypeId) (h:old.size=5):ad (some (a,5)) (some (.cells old E (0,0))) 0 (.agg (a5C r).toArray)=some (.cells (a5C r).toArray E (0,0)):=vq _ a old E (zM r) (Wz r) h
def Sj (r r':A5L) (a:Bool) (E:TypeId):ad (some (a,5)) (some (.cells (a5C r').toArray E (0,0))) 0 (.agg (a5C r).toArray)=some (.cells (a5C r).toArray E (0,0)):=VB _ r a E (by rw[List.size_toArray,zM])
def Fw {w:World} {v:Value} {l:List A5L} {b off:Nat} {arr:Array Value} {E:TypeId} {fz:Nat×Nat} (h:RowS 5 a5C a50 w v l b off arr E fz) {k:Nat} (hk:k<l.length):aG (some (true,5)) (some (.cells arr E fz)) (off+k*5)=some (.agg (a5C (l.getD k a50)).toArray):=RowS.load h zM oM hk
def a5O (r:A5L):ObL:=⟨r.ok,r.ot⟩
def wX (r:A5L) (E:TypeId) (fz:Nat×Nat):aG (some (true,2)) (some (.cells (a5C r).toArray E fz)) 2=some (obV r.ok r.ot):=rfl
def Wi {w:World} {v:Value} {l:List A5L} {b off:Nat} {arr:Array Value} {E:TypeId} {fz:Nat×Nat} (h:RowS 5 a5C a50 w v l b off arr E fz) {k:Nat} (hk:k<l.length):aG (some (true,2)) (some (.cells arr E fz)) (off+k*5+2)=some (obV (l.getD k a50).ok (l.getD k a50).ot):=by
 rw[RowS.part h zM hk oM oM];rfl
abbrev A5Sl (w:World) (v:Value) (l:List A5L):Prop:=SlV 5 a5C a50 w v l
structure A5Ok (w:World) (a:A5L):Prop where
 pk:PkS w a.picks.v a.picks.l
 n: -9223372036854775808≤a.n∧a.n<9223372036854775808
def uq (a:A5L):Bool:=decide ((5000:Int)< (a.ot.length:Int)) ||decide ((100:Int)< (a.picks.l.length:Int))
def oW:=aN (aN (aN @av @au) (aN @xA (aN @wi @wa))) (aN (aN @wk @wc) (aN @wV (aN @wX @wh)))
def KL_ (a:A5L) (w:World) (ha:A5Ok w a):Rets prog 9 #[.agg (a5C a).toArray] w (fun v D=>v= .bool (uq a)∧D= []):=by
 have lnp:=ha.pk.len
 refine Rets.enterV func9 rfl (rs:= [.tmp 2]) results9 ntmps9 ?_
 refine kf ?_
 refine kz [1] @oW ?_
 refine Ow.box rfl rfl fun b1 aW aI=> ?_
 simp only[dC,cy,dA,aS,List.nil_append,List.cons_append]
 refine Ow.go rfl ?_
 simp(disch:=first|exact dD|fail) only[↓Sx.S0,Sx.S1,fx,oW,Nat.reduceAdd,Nat.reducePow,Int.reducePow,Nat.reduceBEq, ↓reduceIte,UInt8.reduceToNat,UInt16.reduceToNat,UInt32.reduceToNat,UInt64.reduceToNat,Int.reduceToNat]
 unfold uq
 cases h1:decide ((5000:Int)< (a.ot.length:Int)) with
 |true=>
  refine ky (aN @oW @h1) ?_
  refine⟨_,(ke @oW),⟨aI,trivial⟩, ?_⟩
  rfl
 |false=>
  refine ky (aN @oW (aN @h1 @lnp)) ?_
  refine⟨_,(ke @oW),⟨aI,trivial⟩, ?_⟩
  rfl
def sE (l:List A5L):List ObL:=(l.filter fun a=> !uq a).map a5O
def mu (l:List A5L):List ObL:=sE (l.take 60)
def QG {l:List A5L} {k:Nat} (h:k<l.length):sE (l.take (k+1))=sE (l.take k)++ (if uq (l.getD k a50)=true then [] else [a5O (l.getD k a50)]):=by
 unfold sE
 rw[StP.take_snoc (z:=a50) h,List.filter_append,List.map_append]
 generalize l.getD k a50=s
 cases hp:uq s<;>simp[hp]
def DL (l:List A5L): (sE l).length≤l.length:=by
 unfold sE
 rw[List.length_map]
 exact List.length_filter_le _ _
theorem A5Ok.old {w w':World} {L:aB} {a:A5L} (h:A5Ok w a) (hw:Hp w L w') (hn:New w.heap.size L):A5Ok w' a:=
 ⟨h.pk.old hw fun hl b hb hm=>by have:=hn.le b hm;have:=h.pk.blk hl hb;omega,h.n⟩
structure ObaG where
 i:Nat
 v:Value
 D:aB
 DG:aB
def pV:=aN (aN (aN @av @au) (aN @xA (aN @wi @wa))) (aN (aN @wk @wc) (aN @wV (aN @wX @wh)))
def MM (v:Value) (l:List A5L) (w:World) (hv:A5Sl w v l) (ha: ∀a,a∈l→A5Ok w a):
  Rets prog 6 #[v] w (XS w [] (fun v D=>GrI D 33 2 v (mu l).length ((mu l).map obC).flatten)):=by
 have ln:=hv.len
 obtain⟨rb,off,arr,E,fz,hr⟩:=hv.row
 refine Rets.enterX func6 rfl (rs:= [.tmp 2]) results6 ntmps6 (fun p hp=>by cases hp) (by simp[keys]) ?_
 refine kf ?_
 refine ky @pV ?_
 refine Cw.permL (M:= []++ []) (List.Perm.refl _) ?_
 refine Cw.loopG (G:=ObaG) [5,6,7,8,9,10,11,12,15,16,17,18,19,20,21,22,23,24,25,26,27,28,3,13,14,4] (fun g=> [(3,g.v),(4,vi g.i)]) (fun g=>g.D++g.DG) (fun g=>g.i≤l.length∧g.i≤60∧New w.heap.size g.D∧New w.heap.size g.DG∧Gr g.D 33 2 g.v (sE (l.take g.i)).length ((sE (l.take g.i)).map obC).flatten) (fun g=>l.length - g.i) ⟨0, .slice none 0 0,[],[]⟩ rfl rfl ?_ ?_
 ·exact⟨aV _,aV _,trivial,trivial,Gr.nl⟩
 intro g j hg
 refine kv ?_
 obtain⟨i,vo,D,DG⟩:=g
 simp only at hg ⊢
 obtain⟨hi,h6,hN,bG,cI⟩:=hg
 by_cases aC:i<l.length
 ·have d1:decide ((i:Int)< (l.length:Int))=true:=aK oM
  by_cases vH:i<60
  ·have d2:decide ((i:Int)<60)=true:=aK oM
   have nR:=hr.lt oM
   have ix:=hr.idx true i aC
   have ld:=Fw hr aC
   have ldo:=Wi hr aC
   have fX:=hr.has (show 0<l.length by omega)
   have rdl: ∀L,New w.heap.size L→aU w L rb=some (.cells arr E fz):=fun L hL=>by rw[jn (hL.not nR)];exact fX
   have rd1:=rdl _ (hN.app bG)
   have Gz:=ha (l.getD i a50) (n_ (z:=a50) aC)
   have dk:=QG aC
   have ja:=DL (l.take i)
   rw[List.length_take,Nat.min_eq_left oM] at ja
   generalize l.getD i a50=a at*
   generalize sE (l.take i)=os at*
   refine kz [6] (aN @pV (aN @d1 (aN @d2 (aN @ln (aN @ix (aN @rd1 @ld)))))) ?_
   refine Ow.callFV rfl call9 (fun w' aA=>KL_ a w' (Gz.old aA (hN.app bG))) ?_
   cases hg:uq a with
   |true=>
    rw[hg,if_pos rfl,List.append_nil] at dk
    refine ko @pV ?_
    refine ky @pV ?_
    exact Again.mk ⟨i+1,vo,D,DG⟩ (by show l.length - (i+1)<l.length - i;omega) ⟨aC,vH,hN,bG,by rw[dk];exact cI⟩ rfl rfl
   |false=>
    rw[hg,if_neg (by simp)] at dk
    refine ko @pV ?_
    refine ky (aN @pV (aN @ln (aN @ix (aN @rd1 @ldo)))) ?_
    refine Ow.buildSlice (e:=33) #[vi a.ok,vs a.ot] rfl rfl (gX (cs:=obC (a5O a)) underlying26 ag33 fB (by decide) rfl) fun bc qA jd=> ?_
    refine ko @pV ?_
    refine Ow.permL (M:=D++ (DG++ [(bc, .cells #[vi a.ok,vs a.ot] 33 (0,0))])) pM ?_
    refine Ow.appendXG (e:=33) (k:=1) (new:=obC (a5O a)) (X:=D) vo rfl rfl rfl rfl underlying26 ag33 kR fB (by rw[obV,aS];rfl) underlying26 (by intro k h;cases h) cI (fun w' aA=>AppX.one1 (aA.has bc (.cells (obC (a5O a)).toArray 33 (0,0)) (by simp[obC,a5O])) (rt _) (zL _)) oM (fun B5 v5 D5 lX jS j2 jZ dU fZ=> ?_)
    have dq:New w.heap.size D5:=New.of_le fun q hq=>by
     rcases dU q hq with h|h
     ·exact hN.le q h
     omega
    refine ko @pV ?_
    refine ky @pV ?_
    exact Again.mk ⟨i+1,v5,D5,DG++ [(bc, .cells #[vi a.ok,vs a.ot] 33 (0,0))]⟩ (by show l.length - (i+1)<l.length - i;omega) ⟨aC,vH,dq,bG.app ⟨jd,trivial⟩,by rw[dk];simpa using j2⟩ rfl rfl
  have d2:decide ((i:Int)<60)=false:=aO oM
  obtain rfl:i=60:=by omega
  refine ky (aN @pV (aN @d1 (aN @d2 @ln))) ?_
  refine⟨_,(ke @pV), ?_⟩
  exact⟨Ext.of_new (hN.app bG),cI.i fun p hp=>by simp[hp]⟩
 have d1:decide ((i:Int)< (l.length:Int))=false:=aO oM
 obtain rfl:i=l.length:=by omega
 have he:mu l=sE (l.take l.length):=by
  unfold mu
  rw[List.take_of_length_le oM,List.take_of_length_le (bq _)]
 refine ky (aN @pV (aN @d1 @ln)) ?_
 refine⟨_,(ke @pV), ?_⟩
 rw[he]
 exact⟨Ext.of_new (hN.app bG),cI.i fun p hp=>by simp[hp]⟩
def KeepI.up {all:List ObL} {S:DiskL} {had:List ObL} {n m:Nat} (h:KeepI all S had n) (hm:n≤m):KeepI all S had m:=⟨h.alls,h.max,Nat.le_trans h.used oM,h.names,h.had⟩
def DkA.upto {X:aB} {G:DkG} {S:DiskL} {N M:Nat} (h:DkA X G S N) (hm:N≤M):DkA X G S M:=⟨h.P,h.H,h.B.mono hm⟩
def rem7 (a:Int):aJ .rem (vi a) (vi 7)=some (vi (a.tmod 7)):=by
 unfold vi aJ
 rfl
def UL (S:DiskL) (dir nm:List UInt8): (cu S dir nm).1.files.length=S.files.length:=by
 have hb:=(jA S).2.1
 unfold cu
 split
 ·rfl
 split
 ·rfl
 split
 ·rw[hb]
 show(eG (aH S).1 _ _).files.length=_
 unfold eG
 rw[List.length_set,hb]
def PC (S:DiskL) (dir:List UInt8): (eZ S dir).1.files.length=S.files.length:=by
 have hb:=(jA S).2.1
 unfold eZ
 split
 ·rfl
 split
 ·rw[hb]
 show(aH S).1.files.length=_
 rw[hb]
theorem Bo {N:Nat}: ∀ (l:List IdL) {S:DiskL},DkN N S→DkN N (gB l S).2∧(gB l S).2.files.length=S.files.length
 | [],S,h=>⟨h,rfl⟩
 |x::l,S,h=>by
  have h1:=U2 h aD (aL x.l)
  have h2: (cu S aD (aL x.l)).1.files.length=S.files.length:=UL S aD (aL x.l)
  unfold gB
  split
  ·exact⟨h1,h2⟩
  obtain⟨h3,h4⟩:=Bo l h1
  exact⟨h3,h4.trans h2⟩
def KI_ {N:Nat} (l:List IdL) {S:DiskL} (h:DkN N S):DkN N (o6 l S).2∧(o6 l S).2.files.length=S.files.length:=by
 obtain⟨h1,h2⟩:=Bo l h
 unfold o6
 split
 ·exact⟨h1,h2⟩
 split
 ·exact⟨h1,h2⟩
 exact⟨Nq h1 aD,(PC _ aD).trans h2⟩
structure PlG where
 i:Nat
 S:DiskL
 G:DkG
 X:aB
 C:DcG
 Y:aB
 DG:aB
structure PlH where
 e:Nat
 S:DiskL
 G:DkG
 X:aB
 C:DcG
 Y:aB
 DG:aB
def a_:=aN (aN (aN (aN @av @au) (aN @xA @wi)) (aN (aN @wa @wk) (aN @wc (aN @wV @wX)))) (aN (aN (aN @wh @Sj) (aN @j7 @jB)) (aN (aN @j9 @j8) (aN @Sx.tup2_0 (aN @Sx.tup2_1 @nz))))
def VB_ (quota:Int) (v0:Value) (l0:List FiL) (v:Value) (l:List A5L) (m:Nat) (w:World) (hG:GlbA w m) (hq: -9223372036854775808≤quota∧quota<9223372036854775808) (uU:FiSl w v0 l0) (jy:FiB l0) (hv:A5Sl w v l) (ha: ∀a,a∈l→A5Ok w a):
  Rets prog 3 #[vi quota,v0,v] w (fun v D=>v= .bool true∧D= []):=by
 have ln:=hv.len
 obtain⟨rb,off,arr,E,fz,hr⟩:=hv.row
 refine Rets.enterV func3 rfl (rs:= [.tmp 6]) results3 ntmps3 ?_
 refine kf ?_
 refine kz [1000012,1000015] @a_ ?_
 refine Ow.callFV rfl call4 (fun w' aA=>KJ m w' (hG.new aA trivial)) ?_
 refine ko @a_ ?_
 refine ky @a_ ?_
 refine Ow.callC rfl rfl call6 (fun w' aA=>MM v l w' (hv.oldN aA trivial) (fun a h=>(ha a h).old aA trivial)) (fun B1 v1 D1 dN di cR dr=> ?_)
 rw[List.nil_append]
 have cL:New w.heap.size D1:=cR.mono di
 have ja: (mu l).length≤60:=Nat.le_trans (DL _) (by rw[List.length_take];omega)
 refine ko @a_ ?_
 refine Ow.callFV rfl call5 (fun w' aA=>Nl v0 v1 l0 (mu l) w' (uU.oldN aA cL) jy ((dr.mono (fun q hq=>by simp[hq])).slV (z:=ob0) aA rfl rfl rt) oM) ?_
 cases lj:vz l0 (mu l) with
 |true=>
  refine ko @a_ ?_
  refine ky @a_ ?_
  refine Ow.callFV rfl call4 (fun w' aA=>KJ m w' (hG.new aA cL)) ?_
  refine ko @a_ ?_
  refine ky @a_ ?_
  refine⟨_,(ke @a_),cL, ?_⟩
  rfl
 |false=>
  obtain⟨nN,-,qF⟩:=TU lj
  refine ko @a_ ?_
  refine ky @a_ ?_
  refine Ow.callC rfl rfl call7 (fun w' aA=>U8 quota v0 l0 w' hq (hG.new aA cL).D (uU.oldN aA cL) oM jy) (fun B0 vd D0 hA0 u4 nj Gw=> ?_)
  obtain⟨G0,rfl,mG⟩:=Gw
  have q':New w.heap.size D0:=nj.mono u4
  have Ja:DkA D0 G0 (ofD quota l0) l0.length:=⟨mG,F4 _ l0,Z0 _ l0 fun f hf=>by have:=(qF f hf).1;omega⟩
  have Gi:=cL.app q'
  refine ko @a_ ?_
  refine Ow.callC rfl rfl call8 (fun w' aA=>UU quota v0 l0 w' hq (uU.oldN aA Gi) oM jy) (fun B2 vc E0 ay dE be bM=> ?_)
  obtain⟨C0,rfl,JZ⟩:=bM
  have ou:New w.heap.size E0:=be.mono dE
  have HI:=XY quota l0
  generalize ofD quota l0=S0 at*
  refine ko @a_ ?_
  refine ky @a_ ?_
  refine Cw.permL (M:=D0++ (E0++D1)) pM ?_
  refine Cw.loopG (G:=PlG) [35,36,37,38,39,40,41,42,45,46,47,48,10,49,50,51,11,52,53,54,55,56,57,12,13,58,59,60,62,61,64,65,66,67,63,68,69,14,15,71,72,73,74,70,75,76,16,17,77,78,79,80,81,6,83,82,85,86,87,84,88,89,18,19,91,92,93,90,94,95,20,21,96,97,98,99,100,102,101,103,104,105,106,107,108,109,110,112,111,113,114,115,116,117,118,120,119,121,122,123,124,125,126,127,128,130,129,131,132,133,134,135,136,137,138,140,139,141,142,143,144,145,146,147,148,149,150,151,152,153,154,155,156,157,158,159,160,161,162,163,164,165,166,167,43,44,9] (fun g=> [(9,vi g.i)]) (fun g=>g.X++ (g.Y++g.DG)) (fun g=>g.i≤l.length∧g.i≤25∧DkA g.X g.G g.S (l0.length+42*g.i)∧DcP g.Y g.C g.S∧g.S.files.length≤l0.length+42*g.i∧g.G.bd=G0.bd∧g.C.bd=C0.bd∧New w.heap.size g.X∧New w.heap.size g.Y∧New w.heap.size g.DG) (fun g=>l.length - g.i) ⟨0,S0,G0,D0,C0,E0,D1⟩ rfl rfl ?_ ?_
  ·exact⟨aV _,aV _,Ja,JZ,HI,rfl,rfl,q',ou,cL⟩
  intro g j hg
  refine kv ?_
  clear Ja q' mG JZ Gi ou HI
  obtain⟨i,S,G,X,C,Y,DG⟩:=g
  simp only at hg ⊢
  obtain⟨hi,hi25,hA,hC,eV,bP,rA,hN,n5,bG⟩:=hg
  rw[←bP,←rA]
  have dK:New w.heap.size (X++ (Y++DG)):=hN.app (n5.app bG)
  by_cases aC:i<l.length∧i<25
  ·have d1:decide ((i:Int)< (l.length:Int))=true:=aK oM
   have d2:decide ((i:Int)<25)=true:=aK oM
   have ix:=hr.idx true i aC.1
   have rda:aU w (X++ (Y++DG)) rb=some (.cells arr E fz):=by rw[jn (dK.not (hr.lt oM))];exact hr.has oM
   have lda:=Fw hr aC.1
   have bU:=ha (l.getD i a50) (n_ (z:=a50) aC.1)
   generalize l.getD i a50=a at*
   refine kz [11,1000012,1000015] (aN @a_ (aN @ln (aN @d1 (aN @d2 (aN @ix (aN @rda @lda)))))) ?_
   refine Ow.alloc rfl rfl zrA5 fun b10 ox gU=> ?_
   simp only[aS,List.nil_append,List.cons_append]
   refine Ow.permL (M:=(b10, .cells (a5C a50).toArray 36 (0,0)):: (X++ (Y++DG))) pM ?_
   have p':New w.heap.size ((b10,Obj.cells (a5C a).toArray 36 (0,0)):: (X++ (Y++DG))):=⟨gU,dK⟩
   refine ko @a_ ?_
   refine kz [11,1000012,1000015] @a_ ?_
   refine Ow.callFV rfl call9 (fun w' aA=>KL_ a w' (bU.old aA p')) ?_
   have ik:DkA X G S (l0.length+42* (i+1)):=hA.upto oM
   cases hga:uq a with
   |true=>
    refine Ow.permL (M:=X++ (Y++ ((b10, .cells (a5C a).toArray 36 (0,0))::DG))) pM ?_
    refine ko @a_ ?_
    refine ky @a_ ?_
    exact Again.mk ⟨i+1,S,G,X,C,Y,(b10, .cells (a5C a).toArray 36 (0,0))::DG⟩ (by show l.length - (i+1)<l.length - i;omega) ⟨aC.1,aC.2,ik,hC,by show S.files.length≤l0.length+42* (i+1);omega,rfl,rfl,hN,n5,⟨gU,bG⟩⟩ rfl rfl
   |false=>
    have fc:a.picks.l.length≤100:=by
     have:=hga
     unfold uq at this
     rw[Bool.or_eq_false_iff] at this
     have:=of_decide_eq_false this.2
     omega
    have iM:dl (cC prog 39) (an prog 39) []=some (.agg (a8 id0.l)):=id kR
    have rI:=id0.h
    refine ko @a_ ?_
    refine kz [1000012,1000015] @a_ ?_
    refine Ow.build _ rfl iM ?_
    refine ko @a_ ?_
    refine Ow.alloc rfl rfl gM fun b11 r8 pF=> ?_
    simp only[aS,List.nil_append,List.cons_append]
    have h1011:b10<b11:=ak r8 (by simp[keys])
    refine Ow.permL (M:=(b11, .cells (a8 id0.l) 39 (0,0)):: (b10, .cells (a5C a).toArray 36 (0,0)):: (X++ (Y++DG))) pM ?_
    refine ko @a_ ?_
    obtain⟨x,hxe⟩: ∃x,idV a.ok a.ot=x:=⟨_,rfl⟩
    have hx:=x.h
    refine Cw.cutO (G:=Unit) [52,53,54,55,56,57] (fun g=> []) (fun g=>(b11, .cells (a8 x.l) 39 (0,0)):: (b10, .cells (a5C a).toArray 36 (0,0)):: (X++ (Y++DG))) (fun g=>True) ?_ ?_
    ·refine ky @a_ ?_
     refine Ow.callFV rfl call10 (fun w' aA=>KP a.ok a.ot w') ?_
     rw[←AC]
     cases K0:cm a.ok a.ot with
     |false=>
      have e:id0=x:=by rw[←hxe];unfold idV;rw[K0,if_neg (by simp)]
      subst e
      refine ko @a_ ?_
      refine ky @a_ ?_
      exact CutO.mk () trivial rfl rfl
     |true=>
      have kC:=Ie K0
      have lu:Dig.shaR (pT a.ok a.ot)=x.l:=by
       have e:idV a.ok a.ot=⟨Dig.shaR (fI a.ok a.ot),zP _⟩:=if_pos K0
       rw[←hxe,e]
       exact congrArg Dig.shaR (JG K0)
      refine ko @a_ ?_
      refine ky @a_ ?_
      refine Ow.callFV rfl call11 (fun w' aA=>J2 a.ok a.ot w' oM) ?_
      rw[lu]
      refine ko @a_ ?_
      exact CutO.mk () trivial rfl rfl
    intro g j hg
    refine kv ?_
    have vQ:=rem7 a.kind
    refine kz [1000015] @a_ ?_
    refine Cw.permL (M:=X++ (Y++ ((b11, .cells (a8 x.l) 39 (0,0)):: (b10, .cells (a5C a).toArray 36 (0,0))::DG))) pM ?_
    have gR:=fun(c:Nat) (hc:c∈keys (X++ (Y++DG)))=>ak ox hc
    have n10X:b10∉keys X:=fun hm=>by have:=gR b10 (by rw[ao];exact cz _ hm);omega
    have n10Y:b10∉keys Y:=fun hm=>by have:=gR b10 (by rw[ao,ao];exact dJ _ (cz _ hm));omega
    have n11X:b11∉keys X:=fun hm=>by have:=gR b11 (by rw[ao];exact cz _ hm);omega
    have n11Y:b11∉keys Y:=fun hm=>by have:=gR b11 (by rw[ao,ao];exact dJ _ (cz _ hm));omega
    obtain⟨T,hT⟩: ∃T:aB,(b11, .cells (a8 x.l) 39 (0,0)):: (b10, .cells (a5C a).toArray 36 (0,0))::DG=T:=⟨_,rfl⟩
    have r5:Sx.look T b11=some (.cells (a8 x.l) 39 (0,0)):=by rw[←hT];simp[Sx.look]
    have lg:Sx.look T b10=some (.cells (a5C a).toArray 36 (0,0)):=by rw[←hT];simp[Sx.look,show b11≠b10 by omega,show b10≠b11 by omega]
    have Gq:New w.heap.size T:=by rw[←hT];exact⟨pF,gU,bG⟩
    have rdt: ∀ {A B:aB} {b:Nat} {o:Obj},b∉keys A→b∉keys B→Sx.look T b=some o→aU w (A++ (B++T)) b=some o:=fun h1 h2 h3=>aQ (by rw[gO h1,gO h2];exact h3)
    have r10:=rdt n10X n10Y lg
    have r11:=rdt n11X n11Y r5
    have sH:New w.heap.size (X++ (Y++T)):=hN.app (n5.app Gq)
    have hkX: ∀b,b∈keys X→m≤b:=fun b hb=>Nat.le_trans hG.le (hN.le b hb)
    have Ge:DsA S (l0.length+42*i):=⟨hA.P.ok,hA.B,eV⟩
    rw[hT]
    refine Cw.cutO (G:=PlH) [12,13,14,15,16,17,18,19,20,21,58,59,60,61,62,63,64,65,66,67,68,69,70,71,72,73,74,75,76,77,78,79,80,81,82,83,84,85,86,87,88,89,90,91,92,93,94,95,96,97,98,99,100,101,102,103,104,105,106,107,108,109,110,111,112,113,114,115,116,117,118,119,120,121,122,123,124,125,126,127,128,129,130,131,132,133,134,135,136,137,138,139,140,141,142,143,144,145,146,147,148] (fun g=> [(12,vi (g.e:Nat)),(13,vi (g.e:Nat))]) (fun g=>g.DG++ (g.X++ (g.Y++T))) (fun g=>DkA g.X g.G g.S (l0.length+42* (i+1))∧DcP g.Y g.C g.S∧g.S.files.length≤l0.length+42* (i+1)∧g.G.bd=G.bd∧g.C.bd=C.bd∧New w.heap.size g.X∧New w.heap.size g.Y∧New w.heap.size g.DG) ?_ ?_
    ·by_cases k0:a.kind.tmod 7=0
     ·have e0: (a.kind.tmod 7==0)=true:=beq_iff_eq.2 k0
      refine ky (aN @a_ (aN @vQ (aN @e0 @r10))) ?_
      refine Ow.callX (X:=X) (Y:=Y++T) rfl rfl rfl call12 (fun w' aA aZ aT=>Bi X G S (l0.length+42*i) m a.ok a.ot w' aZ aT hA oM (hG.new aA sH) hkX) (fun v4 X2 j1 bM=> ?_)
      obtain⟨rfl,G2,aw,ay⟩:=bM
      have be:New w.heap.size X2:=pI j1 hN
      have n10X2:=zE j1 n10X (by rw[ao,ao];exact dJ _ (dJ _ (bY lg)))
      have pk:LpcS C (putL S a.ok a.ot)=LpcS C (putL S a.ok a.ot):=rfl
      refine ko @a_ ?_
      refine Ow.alloc rfl rfl gM fun b14 uB I8=> ?_
      simp only[aS,List.nil_append,List.cons_append]
      have h1014:b10<b14:=ak uB (by rw[ao,ao];exact dJ _ (dJ _ (bY lg)))
      refine Ow.permL (M:=(b14, .cells (a8 id0.l) 39 (0,0)):: (Y++ (X2++T))) pM ?_
      have hxp:=(putL S a.ok a.ot).x.h
      have r10':=rdt n10Y n10X2 lg
      refine ko @a_ ?_
      refine ky (aN @a_ @r10') ?_
      refine Ow.permL (M:=Y++ ((b14, .cells (a8 (putL S a.ok a.ot).x.l) 39 (0,0)):: (X2++T))) pM ?_
      refine Ow.callX (X:=Y) (Y:=(b14, .cells (a8 (putL S a.ok a.ot).x.l) 39 (0,0)):: (X2++T)) rfl rfl rfl call13 (fun w' aA aZ aT=>Nt Y C S (l0.length+42*i) a.ok a.ot w' aZ aT hC Ge oM) (fun v5 Y2 oq eO=> ?_)
      obtain⟨rfl,C2,gT,nA,xx⟩:=eO
      have g3:New w.heap.size Y2:=pI oq n5
      generalize putL S a.ok a.ot=p at*
      obtain⟨px,pe,S2⟩:=p
      simp only at ay nA xx hxp ⊢
      refine ko @a_ ?_
      refine Ow.alloc rfl rfl gM fun b16 hb16 hw16=> ?_
      simp only[aS,List.nil_append,List.cons_append]
      have h1416:b14<b16:=ak hb16 (by rw[ao];exact dJ _ am)
      refine Ow.permL (M:=(b16, .cells (a8 id0.l) 39 (0,0)):: (b14, .cells (a8 px.l) 39 (0,0)):: (X2++ (Y2++T))) pM ?_
      have nq:bF prog .neq 39 (.agg (a8 px.l)) (.agg (a8 px.l))=some (.bool false):=(qt px px).trans (by rw[beq_self_eq_true];rfl)
      refine ko @a_ ?_
      refine ky (aN @a_ @nq) ?_
      exact CutO.mk ⟨pe,S2,G2,X2,C2,Y2,[(b16, .cells (a8 px.l) 39 (0,0)),(b14, .cells (a8 px.l) 39 (0,0))]⟩ ⟨ay,nA,by show S2.files.length≤_;have:=xx.fl;omega,aw,gT,be,g3,⟨hw16,I8,trivial⟩⟩ rfl rfl
     have e0: (a.kind.tmod 7==0)=false:=beq_eq_false_iff_ne.2 k0
     have rC:=hA.b oM
     have yr:DkA X G S (l0.length+42* (i+1)):=hA.upto oM
     have nk:b11∈keys T:=bY r5
     have ux:b10∈keys T:=bY lg
     by_cases k1:a.kind.tmod 7=1
     ·have e1: (a.kind.tmod 7==1)=true:=beq_iff_eq.2 k1
      refine ky (aN @a_ (aN @vQ (aN @e0 (aN @e1 (aN @r10 @r11))))) ?_
      refine Ow.callFV rfl call14 (fun w' aA=>Il w' G S x (hA.P.worldM aA (fun p hp=>by simp[hp])) hA.P.ok (hG.new aA sH).C (hG.new aA sH).E) ?_
      obtain⟨o,ho⟩: ∃o,gg S x=o:=⟨_,rfl⟩
      rw[ho]
      obtain⟨gk,gt,ge⟩:=o
      simp only
      refine ko @a_ ?_
      refine Ow.alloc rfl rfl fB fun b18 uC I9=> ?_
      simp only[aS,List.nil_append,List.cons_append]
      have h1118:b11<b18:=ak uC (by rw[ao,ao];exact dJ _ (dJ _ nk))
      refine Ow.permL (M:=(b18, .cells #[vi 0,vs []] 33 (0,0)):: (X++ (Y++T))) pM ?_
      refine ko @a_ ?_
      refine ky (aN @a_ @r11) ?_
      refine Ow.callFV rfl call15 (fun w' aA=>Kb w' C S x (hC.worldM aA (fun p hp=>by simp[hp])) hA.P.ok rC) ?_
      rw[ho]
      simp only
      refine ko @a_ ?_
      refine Ow.alloc rfl rfl fB fun b20 hb20 hw20=> ?_
      simp only[aS,List.nil_append,List.cons_append]
      have h1820:b18<b20:=ak hb20 (show b18∈keys _ from am)
      refine Ow.permL (M:=(b20, .cells #[vi 0,vs []] 33 (0,0)):: (b18, .cells #[vi gk,vs gt] 33 (0,0)):: (X++ (Y++T))) pM ?_
      have nq:bF prog .neq 33 (obV gk gt) (obV gk gt)=some (.bool false):=(Zt ⟨gk,gt⟩ ⟨gk,gt⟩).trans (by rw[aK rfl];rfl)
      refine ko @a_ ?_
      refine ky (aN @a_ @nq) ?_
      exact CutO.mk ⟨ge,S,G,X,C,Y,[(b20, .cells #[vi gk,vs gt] 33 (0,0)),(b18, .cells #[vi gk,vs gt] 33 (0,0))]⟩ ⟨yr,hC,by show S.files.length≤_;omega,rfl,rfl,hN,n5,⟨hw20,I9,trivial⟩⟩ rfl rfl
     have e1: (a.kind.tmod 7==1)=false:=beq_eq_false_iff_ne.2 k1
     by_cases k2:a.kind.tmod 7=2
     ·have e2: (a.kind.tmod 7==2)=true:=beq_iff_eq.2 k2
      refine ky (aN @a_ (aN @vQ (aN @e0 (aN @e1 (aN @e2 (aN @r10 @r11)))))) ?_
      refine Ow.buildSlice (e:=39) (a8 x.l) rfl rfl (gX (cs:=x.l.map v8) underlying53 pb gM (by decide) (by simp[x.h])) fun ba lh im=> ?_
      refine ko @a_ ?_
      have h11a:b11<ba:=ak lh (by rw[ao,ao];exact dJ _ (dJ _ nk))
      have naX:ba∉keys X:=fun hm=>by have:=ak lh (show ba∈keys (X++ (Y++T)) by rw[ao];exact cz _ hm);omega
      have naY:ba∉keys Y:=fun hm=>by have:=ak lh (show ba∈keys (X++ (Y++T)) by rw[ao,ao];exact dJ _ (cz _ hm));omega
      refine Ow.permL (M:=X++ ((ba, .cells (a8 x.l) 39 (0,0)):: (Y++T))) pM ?_
      refine Ow.callX (X:=X) (Y:=(ba, .cells (a8 x.l) 39 (0,0)):: (Y++T)) rfl rfl rfl call16 (fun w' aA aZ aT=>w1_ X G S (l0.length+42*i) _ [x] ba 0 _ _ _ w' aZ aT hA (by simp;omega) (wq (aA.has ba (.cells (a8 x.l) 39 (0,0)) (by simp))) (fun _=>(Array.getElem?_eq_some_iff.1 (aA.has ba (.cells (a8 x.l) 39 (0,0)) (by simp))).1) (fun _=>naX)) (fun v4 X2 j1 bM=> ?_)
      obtain⟨rfl,G2,aw,ay⟩:=bM
      have be:New w.heap.size X2:=pI j1 hN
      have n11X2:=zE j1 n11X (by rw[ao];exact dJ _ (cN _ (by rw[←keys,ao];exact dJ _ nk)))
      refine Ow.permL (M:=(ba, .cells (a8 x.l) 39 (0,0)):: (Y++ (X2++T))) pM ?_
      have r11':=rdt n11Y n11X2 r5
      refine ko @a_ ?_
      refine ky (aN @a_ @r11') ?_
      refine Ow.buildSlice (e:=39) (a8 x.l) rfl rfl (gX (cs:=x.l.map v8) underlying53 pb gM (by decide) (by simp[x.h])) fun bb yA yv=> ?_
      refine ko @a_ ?_
      have nbY:bb∉keys Y:=fun hm=>by have:=ak yA (show bb∈keys _ from cN _ (by rw[←keys,ao];exact cz _ hm));omega
      refine Ow.permL (M:=Y++ ((ba, .cells (a8 x.l) 39 (0,0)):: (bb, .cells (a8 x.l) 39 (0,0)):: (X2++T))) pM ?_
      refine Ow.callX (X:=Y) (Y:=(ba, .cells (a8 x.l) 39 (0,0)):: (bb, .cells (a8 x.l) 39 (0,0)):: (X2++T)) rfl rfl rfl call17 (fun w' aA aZ aT=>Jc_ Y C S (l0.length+42*i) _ [x] bb 0 _ _ _ w' aZ aT hC Ge (by simp;omega) (wq (aA.has bb (.cells (a8 x.l) 39 (0,0)) (by simp))) (fun _=>(Array.getElem?_eq_some_iff.1 (aA.has bb (.cells (a8 x.l) 39 (0,0)) (by simp))).1) (fun _=>nbY)) (fun v5 Y2 oq eO=> ?_)
      obtain⟨rfl,C2,gT,nA,xx⟩:=eO
      have g3:New w.heap.size Y2:=pI oq n5
      obtain⟨cS,cZ⟩:=KI_ [x] hA.B
      generalize o6 [x] S=q at*
      obtain⟨qe,S2⟩:=q
      simp only at ay nA cS cZ ⊢
      refine Ow.permL (M:= [(ba, .cells (a8 x.l) 39 (0,0)),(bb, .cells (a8 x.l) 39 (0,0))]++ (X2++ (Y2++T))) pM ?_
      refine ko @a_ ?_
      exact CutO.mk ⟨qe,S2,G2,X2,C2,Y2,[(ba, .cells (a8 x.l) 39 (0,0)),(bb, .cells (a8 x.l) 39 (0,0))]⟩ ⟨⟨ay.P,ay.H,cS.mono oM⟩,nA,by show S2.files.length≤_;omega,aw,gT,be,g3,⟨im,yv,trivial⟩⟩ rfl rfl
     have e2: (a.kind.tmod 7==2)=false:=beq_eq_false_iff_ne.2 k2
     by_cases k3:a.kind.tmod 7=3
     ·have e3: (a.kind.tmod 7==3)=true:=beq_iff_eq.2 k3
      refine ky (aN @a_ (aN @vQ (aN @e0 (aN @e1 (aN @e2 (aN @e3 (aN @r10 @r11))))))) ?_
      refine Ow.callX (X:=X) (Y:=Y++T) rfl rfl rfl call18 (fun w' aA aZ aT=>Mp X G S (l0.length+42*i) x w' aZ aT hA oM) (fun v4 X2 j1 bM=> ?_)
      obtain⟨rfl,G2,aw,ay⟩:=bM
      have be:New w.heap.size X2:=pI j1 hN
      have n11X2:=zE j1 n11X (by rw[ao,ao];exact dJ _ (dJ _ nk))
      refine Ow.permL (M:=Y++ (X2++T)) pM ?_
      have r11':=rdt n11Y n11X2 r5
      refine ko @a_ ?_
      refine ky (aN @a_ @r11') ?_
      refine Ow.callX (X:=Y) (Y:=X2++T) rfl rfl rfl call19 (fun w' aA aZ aT=>W8_ Y C S (l0.length+42*i) x w' aZ aT hC Ge oM) (fun v5 Y2 oq eO=> ?_)
      obtain⟨rfl,C2,gT,nA,xx⟩:=eO
      have g3:New w.heap.size Y2:=pI oq n5
      generalize fo S aD (aL x.l)=q at*
      obtain⟨S2,qe⟩:=q
      simp only at ay nA xx ⊢
      refine Ow.permL (M:= []++ (X2++ (Y2++T))) pM ?_
      refine ko @a_ ?_
      exact CutO.mk ⟨qe,S2,G2,X2,C2,Y2,[]⟩ ⟨ay.upto oM,nA,by show S2.files.length≤_;have:=xx.fl;omega,aw,gT,be,g3,trivial⟩ rfl rfl
     have e3: (a.kind.tmod 7==3)=false:=beq_eq_false_iff_ne.2 k3
     by_cases k4:a.kind.tmod 7=4
     ·have e4: (a.kind.tmod 7==4)=true:=beq_iff_eq.2 k4
      have gm: (lB S).length≤l0.length+42*i:=Nat.le_trans (JD _ _) (F8 hA.B aD)
      refine ky (aN @a_ (aN @vQ (aN @e0 (aN @e1 (aN @e2 (aN @e3 (aN @e4 (aN @r10 @r11)))))))) ?_
      refine Ow.callC rfl rfl call20 (fun w' aA=>Kf G S m w' (hA.P.worldM aA (fun p hp=>by simp[hp])) hA.P.ok rC (hG.new aA sH)) (fun B5 v5 D5 lX jS dq Gx=> ?_)
      have u9:New w.heap.size D5:=dq.mono jS
      refine ko @a_ ?_
      refine Ow.permL (M:=X++ (D5++ (Y++T))) pM ?_
      refine Ow.callX (X:=X) (Y:=D5++ (Y++T)) rfl rfl rfl call16 (fun w' aA aZ aT=>by
       obtain⟨b,off',arr',F,fz',Hm,lw⟩:=Gx.rowL (z:=id0) rfl ((aA.perm (M:=D5++ (X++ (Y++T))) pM).part) pJ
       exact w1_ X G S (l0.length+42*i) v5 (lB S) b off' arr' F fz' w' aZ aT hA oM Hm (fun h0=>Hm.lt h0) (fun h0 hm=>by
        have h1:=dq.le b (bY (lw h0))
        have h2:=ak lX (show b∈keys (X++ (Y++T)) by rw[ao];exact cz _ hm)
        omega)) (fun v4 X2 j1 bM=> ?_)
      obtain⟨rfl,G2,aw,ay⟩:=bM
      have be:New w.heap.size X2:=pI j1 hN
      refine ko @a_ ?_
      refine ky @a_ ?_
      have hNq:New w.heap.size (X2++ (D5++ (Y++T))):=be.app (u9.app (n5.app Gq))
      refine Ow.callC rfl rfl call21 (fun w' aA=>KP_ C S w' (hC.worldM aA (fun p hp=>by simp[hp])) hA.P.ok rC) (fun B6 v6 D6 qz ni fD r4=> ?_)
      have lc:New w.heap.size D6:=fD.mono ni
      refine ko @a_ ?_
      refine Ow.permL (M:=Y++ (D6++ (D5++ (X2++T)))) pM ?_
      refine Ow.callX (X:=Y) (Y:=D6++ (D5++ (X2++T))) rfl rfl rfl call17 (fun w' aA aZ aT=>by
       obtain⟨b,off',arr',F,fz',Hm,lw⟩:=r4.rowL (z:=id0) rfl ((aA.perm (M:=D6++ (Y++ (D5++ (X2++T)))) pM).part) pJ
       exact Jc_ Y C S (l0.length+42*i) v6 (lB S) b off' arr' F fz' w' aZ aT hC Ge oM Hm (fun h0=>Hm.lt h0) (fun h0 hm=>by
        have h1:=fD.le b (bY (lw h0))
        have h2:=ak qz (show b∈keys (X2++ (D5++ (Y++T))) by rw[ao,ao,ao];exact dJ _ (dJ _ (cz _ hm)))
        omega)) (fun v7 Y2 oq eO=> ?_)
      obtain⟨rfl,C2,gT,nA,xx⟩:=eO
      have g3:New w.heap.size Y2:=pI oq n5
      obtain⟨cS,cZ⟩:=KI_ (lB S) hA.B
      generalize o6 (lB S) S=q at*
      obtain⟨qe,S2⟩:=q
      simp only at ay nA cS cZ ⊢
      refine Ow.permL (M:=(D5++D6)++ (X2++ (Y2++T))) pM ?_
      refine ko @a_ ?_
      exact CutO.mk ⟨qe,S2,G2,X2,C2,Y2,D5++D6⟩ ⟨⟨ay.P,ay.H,cS.mono oM⟩,nA,by show S2.files.length≤_;omega,aw,gT,be,g3,u9.app lc⟩ rfl rfl
     have e4: (a.kind.tmod 7==4)=false:=beq_eq_false_iff_ne.2 k4
     by_cases k5:a.kind.tmod 7=5
     ·have e5: (a.kind.tmod 7==5)=true:=beq_iff_eq.2 k5
      refine ky (aN @a_ (aN @vQ (aN @e0 (aN @e1 (aN @e2 (aN @e3 (aN @e4 (aN @e5 (aN @r10 @r11))))))))) ?_
      refine Ow.callX (X:=X) (Y:=Y++T) rfl rfl rfl call22 (fun w' aA aZ aT=>Q6 X G S a.n w' aZ aT hA.P bU.n) (fun v4 X2 j1 bM=> ?_)
      obtain⟨rfl,G2,aw,bE⟩:=bM
      have be:New w.heap.size X2:=pI j1 hN
      have n10X2:=zE j1 n10X (by rw[ao,ao];exact dJ _ (dJ _ ux))
      refine Ow.permL (M:=Y++ (X2++T)) pM ?_
      have r10':=rdt n10Y n10X2 lg
      refine ko @a_ ?_
      refine ky (aN @a_ @r10') ?_
      refine Ow.callX (X:=Y) (Y:=X2++T) rfl rfl rfl call23 (fun w' aA aZ aT=>PN Y C S a.n w' aZ aT hC bU.n) (fun v5 Y2 oq eO=> ?_)
      obtain⟨rfl,C2,gT,nA⟩:=eO
      have g3:New w.heap.size Y2:=pI oq n5
      refine Ow.permL (M:= []++ (X2++ (Y2++T))) pM ?_
      refine ko @a_ ?_
      exact CutO.mk ⟨0,{S with fuse:=a.n,fused:=decide (0≤a.n)},G2,X2,C2,Y2,[]⟩ ⟨⟨bE,wO hA.H rfl,t7 yr.B rfl⟩,nA,by show S.files.length≤_;omega,aw,gT,be,g3,trivial⟩ rfl rfl
     have e5: (a.kind.tmod 7==5)=false:=beq_eq_false_iff_ne.2 k5
     by_cases k6:a.kind.tmod 7=6
     ·have e6: (a.kind.tmod 7==6)=true:=beq_iff_eq.2 k6
      have Ji: (eL S a.picks.l).files.length≤S.files.length:=Nat.le_of_eq (TB S a.picks.l)
      refine ky (aN @a_ (aN @vQ (aN @e0 (aN @e1 (aN @e2 (aN @e3 (aN @e4 (aN @e5 (aN @e6 (aN @r10 @r11)))))))))) ?_
      refine Ow.callX (X:=X) (Y:=Y++T) rfl rfl rfl call24 (fun w' aA aZ aT=>Vz_ X G S a.picks.v a.picks.l w' aZ aT hA.P (hG.new aA sH).D (Uu hG.D hN) ((AB (q:=(S,a.picks.l)) hA.B 3).b oM) (bU.pk.old aA fun hl b hb=>sH.not (bU.pk.blk hl hb)) (fun hl b hb=>⟨Nat.lt_of_lt_of_le (bU.pk.blk hl hb) aA.size,hN.not (bU.pk.blk hl hb)⟩) oM (fun k hk=>⟨(hA.H k).2,hA.pend oM k hk⟩)) (fun v4 X2 j1 bM=> ?_)
      obtain⟨G2,aw,bE⟩:=bM
      have be:New w.heap.size X2:=pI j1 hN
      have n10X2:=zE j1 n10X (by rw[ao,ao];exact dJ _ (dJ _ ux))
      refine Ow.permL (M:=Y++ (X2++T)) pM ?_
      have r10':=rdt n10Y n10X2 lg
      have hNz2:New w.heap.size (Y++ (X2++T)):=n5.app (be.app Gq)
      refine ko @a_ ?_
      refine ky (aN @a_ @r10') ?_
      refine Ow.callX (X:=Y) (Y:=X2++T) rfl rfl rfl call25 (fun w' aA aZ aT=>OU Y C S (l0.length+42*i) a.picks.v a.picks.l w' aZ aT hC hA.P.ok bE.ok hA.H hA.B oM (bU.pk.old aA fun hl b hb=>hNz2.not (bU.pk.blk hl hb)) (fun hl b hb=>⟨Nat.lt_of_lt_of_le (bU.pk.blk hl hb) aA.size,n5.not (bU.pk.blk hl hb)⟩) oM) (fun v5 Y2 oq eO=> ?_)
      obtain⟨C2,gT,nA⟩:=eO
      have g3:New w.heap.size Y2:=pI oq n5
      refine Ow.permL (M:= []++ (X2++ (Y2++T))) pM ?_
      refine ko @a_ ?_
      exact CutO.mk ⟨0,eL S a.picks.l,G2,X2,C2,Y2,[]⟩ ⟨⟨bE,BY hA.H _,(CS hA.B _).mono oM⟩,nA,by show(eL S a.picks.l).files.length≤_;omega,aw,gT,be,g3,trivial⟩ rfl rfl
     have e6: (a.kind.tmod 7==6)=false:=beq_eq_false_iff_ne.2 k6
     refine ky (aN @a_ (aN @vQ (aN @e0 (aN @e1 (aN @e2 (aN @e3 (aN @e4 (aN @e5 (aN @e6 @r10))))))))) ?_
     exact CutO.mk ⟨0,S,G,X,C,Y,[]⟩ ⟨yr,hC,by show S.files.length≤_;omega,rfl,rfl,hN,n5,trivial⟩ rfl rfl
    intro g j hg
    refine kv ?_
    clear hC hA sH hN n5 rA bP eV Ge r10 r11 n10X n10Y n11X n11Y ik p' dK gR r5 lg hkX rda
    obtain⟨e,S2,G2,X2,C2,Y2,DH⟩:=g
    simp only at hg ⊢
    obtain⟨ay,j1,nG,aw,gT,be,g3,hNH⟩:=hg
    rw[←aw,←gT]
    have sH:New w.heap.size (DH++ (X2++ (Y2++T))):=hNH.app (be.app (g3.app Gq))
    have rC:=ay.b oM
    have gm: (lB S2).length≤l0.length+42* (i+1):=Nat.le_trans (JD _ _) (F8 ay.B aD)
    have lE: (qT S2).length≤3000000:=Io rC 3 (bq _)
    have z1: ((e:Int) !=(e:Int))=false:=bne_self_eq_false _
    refine ky (aN @a_ @z1) ?_
    refine Ow.callC rfl rfl call20 (fun w' aA=>Kf G2 S2 m w' (ay.P.worldM aA (fun p hp=>by simp[hp])) ay.P.ok rC (hG.new aA sH)) (fun B5 v5 D5 lX jS dq Gx=> ?_)
    have u9:=sH.app (dq.mono jS)
    refine ko @a_ ?_
    refine Ow.callC rfl rfl call21 (fun w' aA=>KP_ C2 S2 w' (j1.worldM aA (fun p hp=>by simp[hp])) ay.P.ok rC) (fun B6 v6 D6 qz ni fD r4=> ?_)
    have lc:=u9.app (fD.mono ni)
    refine ko @a_ ?_
    refine Ow.callFV rfl call26 (fun w' aA=>N8 v5 v6 (lB S2) (lB S2) w' ((Gx.mono (fun q hq=>by simp[hq])).slV (z:=id0) aA rfl rfl pJ) ((r4.mono (fun q hq=>by simp[hq])).slV (z:=id0) aA rfl rfl pJ) oM oM) ?_
    have zs:decide (lB S2=lB S2)=true:=aK rfl
    rw[zs]
    refine Ow.go rfl ?_
    simp(disch:=first|exact dD|fail) only[↓Sx.S0,Sx.S1,fx,a_,Nat.reduceAdd,Nat.reducePow,Int.reducePow,Nat.reduceBEq, ↓reduceIte,UInt8.reduceToNat,UInt16.reduceToNat,UInt32.reduceToNat,UInt64.reduceToNat,Int.reduceToNat,Bool.not_true]
    refine Ow.callC rfl rfl call28 (fun w' aA=>PU w' G2 S2 (ay.P.worldM aA (fun p hp=>by simp[hp])) (hG.new aA lc).D rC) (fun B7 v7 D7 hA7 u6 n4 ow=> ?_)
    have Gj:=lc.app (n4.mono u6)
    refine ko @a_ ?_
    refine Ow.callC rfl rfl call29 (fun w' aA=>Ts w' C2 S2 (j1.worldM aA (fun p hp=>by simp[hp])) ay.P.ok rC) (fun B8 v8' D8 hA8 hB8 j3 Gy=> ?_)
    refine ko @a_ ?_
    refine Ow.callFV rfl call27 (fun w' aA=>W2_ v7 v8' (qT S2) (qT S2) w' ((ow.mono (fun q hq=>by simp[hq])).slV (z:=fi0) aA rfl rfl oJ) ((Gy.mono (fun q hq=>by simp[hq])).slV (z:=fi0) aA rfl rfl oJ) oM) ?_
    have zf:decide (qT S2=qT S2)=true:=aK rfl
    rw[zf]
    refine Ow.permL (M:=X2++ (Y2++ (DH++ (T++ (D5++ (D6++ (D7++D8))))))) pM ?_
    refine Ow.go rfl ?_
    simp(disch:=first|exact dD|fail) only[↓Sx.S0,Sx.S1,fx,a_,Nat.reduceAdd,Nat.reducePow,Int.reducePow,Nat.reduceBEq, ↓reduceIte,UInt8.reduceToNat,UInt16.reduceToNat,UInt32.reduceToNat,UInt64.reduceToNat,Int.reduceToNat,Bool.not_true]
    refine ky @a_ ?_
    exact Again.mk ⟨i+1,S2,G2,X2,C2,Y2,DH++ (T++ (D5++ (D6++ (D7++D8))))⟩ (by show l.length - (i+1)<l.length - i;omega) ⟨aC.1,aC.2,ay,j1,nG,rfl,rfl,be,g3,hNH.app (Gq.app ((dq.mono jS).app ((fD.mono ni).app ((n4.mono u6).app (j3.mono hB8)))))⟩ rfl rfl
  have d1: (decide ((i:Int)< (l.length:Int))=true∧decide ((i:Int)<25)=false)∨decide ((i:Int)< (l.length:Int))=false:=by
   by_cases h1:i<l.length
   ·exact .inl ⟨aK oM,aO oM⟩
   exact .inr (aO oM)
  rcases d1 with⟨d1,d2⟩ |d1
  ·refine ky (aN @a_ (aN @ln (aN @d1 @d2))) ?_
   refine Ow.callFV rfl call4 (fun w' aA=>KJ m w' (hG.new aA dK)) ?_
   refine ko @a_ ?_
   refine ky @a_ ?_
   refine⟨_,(ke @a_),dK, ?_⟩
   rfl
  refine ky (aN @a_ (aN @ln @d1)) ?_
  refine Ow.callFV rfl call4 (fun w' aA=>KJ m w' (hG.new aA dK)) ?_
  refine ko @a_ ?_
  refine ky @a_ ?_
  refine⟨_,(ke @a_),dK, ?_⟩
  rfl
end Go.Proofs
end
section
open Go Go.Proofs Go.Sx Go.StP Go.Flo
namespace Go.Proofs
end Go.Proofs
end
namespace Go.Sx
open Go Go.ChangeShapes Go.WideShapes Go.RowKit
def Hp.same0 {W W':World} (h:Hp W [] W') {b:Nat} (hb:b<W.heap.size):W'.heap[b]? =W.heap[b]? :=h.old b hb (fun hm=>by cases hm)
def Hp.kept {W W':World} (h:Hp W [] W') (may:MemPlace→Prop):W.keptBut W' may:=by
 refine⟨h.os,h.output,fun i hi=> ?_⟩
 rw[h.same0 hi]
 cases ho:W.heap[i]? with
 |none=>rfl
 |some o=>
  cases o<;>first
   |exact⟨rfl,rfl,rfl,fun _ _=>rfl⟩
   |exact .inr ⟨rfl,rfl⟩
   |rfl
theorem Hp.sameAt {W W':World} (h:Hp W [] W') {p:MemPlace} (hp:p.block<W.heap.size):W.sameAt W' p:=by
 cases p with
 |cell b off=>
  have:=h.same0 (b:=b) hp
  simp only[World.sameAt,World.cell?,this]
 |map b=>exact h.same0 hp
theorem Hp.frozen {W W':World} (h:Hp W [] W') {a:Addr} (ha:a.block<W.heap.size):W'.frozen? a=W.frozen? a:=by
 simp only[World.frozen?,h.same0 ha]
section
variable {H:Type} {enc:TypeId×Value→H} {P:Program}
theorem XH_ (hl:laidOutB P=true) {W W':World} {sp:Nat→Bool} (hp:Hp W [] W'): ∀ {ts:List TypeId} {vs:List Value} {ds:List (DataW H)} {ps:List MemPlace},
  (∀t∈ts,P.readableRec t=true∧t<P.types.size)→(∀p∈ps,p.block<W.heap.size)→(∀p∈ps,sp p.block=true)→
  DataW.TrodAll enc P W 0 (fun _=>true) true ts vs ds ps→DataW.TrodAll enc P W' 0 sp true ts vs ds ps
 | [],_,_,_,_,_,_,h=>by
  obtain⟨rfl,rfl,rfl⟩:=trodAll_nil h
  exact trodAll_mk0
 |t::ts,_,_,_,ht,aC,hs,h=>by
  obtain⟨v,vs,d,ds,p,q,rfl,rfl,rfl,h1,h2⟩:=trodAll_cons h
  have hlt1: ∀x∈p,x.block<W.heap.size:=fun x hx=>aC x (cz _ hx)
  exact trodAll_cons_mk (WideElems.Trod_stays hl (ht t am).1 (ht t am).2 h1 (fun x hx=>hp.sameAt (hlt1 x hx)) (fun x hx=>hs x (cz _ hx)))
   (XH_ hl hp (fun u hu=>ht u (cN _ hu)) (fun x hx=>aC x (dJ _ hx)) (fun x hx=>hs x (dJ _ hx)) h2)
def T2 {f:Func} {s:ChangeSpec} {W W':World} {args:Array Value} {ds gs:List (DataW H)} {before:List MemPlace} {tb:TypeId} (hl:laidOutB P=true)
  (hW:DataW.Whole enc P f.params.toList s.vars false W args.toList ds gs before) (hv:s.vars= []) (hpar: ∀t∈f.params.toList,P.readableRec t=true∧t<P.types.size)
  (hr:f.resultTypes= #[tb]) (htb:P.underlying tb=some .bool) (fG:s.fn H ds={results:= [.lit (.bool true)],args:=ds}) (hp:Hp W [] W'):
  s.post enc P f false true false false W args (.bool true) W':=by
 have aC:=hW.lt
 have hW0:=hW
 obtain⟨p,q,hA,hV,rfl,hz,hn⟩:=hW
 rw[hv] at hV
 obtain⟨rfl,rfl⟩:=trodVars_none hV
 rw[List.append_nil] at hW0 aC hz
 have r7: ∀sp:Nat→Bool,(∀x∈p,sp x.block=true)→DataW.TrodAll enc P W' 0 sp true f.params.toList args.toList (s.fn H (ds++ [])).args p:=fun sp hs=>by
  rw[List.append_nil,fG]
  exact XH_ hl hp hpar aC hs hA
 have vU: ∀sp:Nat→Bool,DataW.TrodVars enc P W' sp s.vars (s.fn H (ds++ [])).vars []:=fun sp=>by
  rw[List.append_nil,fG,hv];rfl
 have Hr: ∀ (b:Nat) (sp:Nat→Bool) (hd:Bool),DataW.TrodAll enc P W' b sp hd f.resultTypes.toList ((Value.bool true).resultList f.resultTypes.size) (s.fn H (ds++ [])).results []:=fun b sp hd=>by
  rw[List.append_nil,fG,hr]
  exact trodAll_cons_mk (shut_bool htb true) trodAll_mk0
 have ku: ∀x∈p,(fun b=>decide (b<W.heap.size)) x.block=true:=fun x hx=>by simpa using aC x hx
 refine⟨ds,[],p,[],p,[],hW0,Hr _ _ _,r7 _ ku,vU _,hp.kept _,fun _=> ?_⟩
 refine⟨ok_one hr rfl (okWide_bool_mk htb true),_,_,([]++p)++ [],⟨[]++p,[],trodAll_append (r7 _ (fun _ _=>rfl)) (Hr _ _ _),vU _,rfl, ?_,fun h=>by cases h⟩, ?_⟩
 ·intro b off hx
  have hx':MemPlace.cell b off∈p:=by simpa using hx
  rw[hp.frozen (aC _ hx')]
  exact hz b off hx'
 intro x hx _
 simpa using hx
end
section
variable {P:Program} {W:World} {name:String} {k:IntKind} {zs:List Int}
theorem JT {t e:TypeId} {g n:Nat} (hg:P.globalNamed name=some g) (K4: (P.globals[g]?).map (·.type)=some t) (ht:P.underlying t=some (.array n e)) (he:P.underlying e=some (.int k)) (hce:P.cellsOf e=1) (Jk:P.cellsOf t=n):
  ∀ {laid:List (String×DataW Unit)} {ps:List MemPlace},DataW.LaidVars P W laid ps→(name,Lib.tabData k zs)∈laid→Lib.TabIs P W name k zs
 | [],_,_,hm=>by cases hm
 | (n',d')::rest,ps,h,hm=>by
  obtain⟨g',t',cs,fuel,p,q,HL,z',pD,hd,hr,-⟩:=h
  rcases List.mem_cons.1 hm with hm|hm
  ·cases hm
   obtain rfl:=Option.some.inj (hg.symm.trans HL)
   obtain rfl:=Option.some.inj (K4.symm.trans z')
   unfold Lib.TabIs
   rw[pD,←Lib.cells_of_tab ht he hce Jk hd]
  exact JT hg K4 ht he hce Jk hr hm
def Kd {g:Nat} (hg:P.globalNamed name=some g) (h:Lib.TabIs P W name k zs): ∃e f,W.heap[g]? =some (.cells (zs.map fun z=>Value.int k z).toArray e f):=by
 unfold Lib.TabIs at h
 simp only[World.var?,hg,Option.bind_some] at h
 split at h
 ·rename_i cs e f hb
  cases h
  exact⟨e,f,hb⟩
 cases h
end
section
variable {H:Type} {enc:TypeId×Value→H} {P:Program}
end
end Go.Sx
namespace Go.Sx
open Go
section
variable {P:Program}
def UY {fits:TypeId→Bool} {d:Nat} {e:TypeId} {count off n:Nat} (h:rowAt P fits d e count off n=true):off≤count*P.cellsOf e:=by
 cases d with
 |zero=>simp[rowAt] at h
 |succ d=>
  unfold rowAt at h
  simp only at h
  split at h
  ·cases h
  rename_i hs
  have vR:0<P.cellsOf e:=Nat.pos_of_ne_zero hs
  have hd:=Nat.div_add_mod off (P.cellsOf e)
  have hm:=Nat.mod_lt off vR
  rw[Bool.or_eq_true] at h
  rcases h with h|h
  ·simp only[Bool.and_eq_true,beq_iff_eq,decide_eq_true_eq] at h
   have:off / P.cellsOf e*P.cellsOf e≤count*P.cellsOf e:=Nat.mul_le_mul_right _ oM
   rw[Nat.mul_comm (P.cellsOf e)] at hd
   omega
  simp only[Bool.and_eq_true,decide_eq_true_eq] at h
  have: (off / P.cellsOf e+1)*P.cellsOf e≤count*P.cellsOf e:=Nat.mul_le_mul_right _ oM
  rw[Nat.add_mul,Nat.one_mul] at this
  rw[Nat.mul_comm (P.cellsOf e)] at hd
  omega
theorem CZ {e:TypeId} {count off:Nat}: ∀ {d:Nat} {u:TypeId} {n:Nat},liesAt P d e count off u n=true→off≤count*P.cellsOf e
 |0,u,n,h=>by simp[liesAt] at h
 |d+1,u,n,h=>by
  unfold liesAt at h
  rw[Bool.or_eq_true] at h
  rcases h with h|h
  ·exact UY h
  split at h
  ·exact CZ h
  cases h
def ZB {W:World} {r:Reach} {base:Nat} {a:Addr} {e:TypeId} {n:Nat} (h:W.has P r base a e n):a.spot=none∧ ∃arr E fz,W.heap[a.block]? =some (.cells arr E fz)∧a.off≤arr.size:=by
 obtain⟨-,hs,row,cells,gw,hl⟩:=h
 refine⟨hs, ?_⟩
 unfold World.shape? at gw
 split at gw
 ·rename_i c el fz hh
  cases gw
  refine⟨c,_,fz,hh,Nat.le_trans (CZ hl) ?_⟩
  exact Nat.div_mul_le_self _ _
 cases gw
def TC {W:World} {r:Reach} {base:Nat} {t e:TypeId} {v:Value} (ht:P.underlying t=some (.slice e)) (h:Value.okWide P W r base t v):
  v= .slice none 0 0∨ ∃b off len cap arr E fz,v=vsl b off len cap∧len≤cap∧W.heap[b]? =some (.cells arr E fz)∧off≤arr.size:=by
 obtain⟨a,len,cap,rfl⟩:=Go.WideShapes.okWide_slice ht h
 unfold Value.okWide at h
 rw[ht] at h
 unfold Cell.okWide at h
 rw[ht] at h
 simp only at h
 unfold Cell.ok at h
 rw[ht] at h
 cases a with
 |none=>
  left
  simp only at h
  split at h
  all_goals first| (cases h;done) |simp_all
 |some a=>
  right
  simp only at h
  obtain⟨dc,-,hh⟩:=h
  obtain⟨hs,arr,E,fz,hb,ho⟩:=ZB hh
  obtain⟨b,off,sp⟩:=a
  simp only at hs
  subst hs
  exact⟨b,off,len,cap,arr,E,fz,rfl,dc,hb,ho⟩
def GG {α:Type} {enc:α→List Value} {z:α} {m:Nat} {W:World} {base b off c:Nat} {l:List α} {arr:Array Value} {E:TypeId} {fz:Nat×Nat} (vK:0<m) (hm: ∀x,(enc x).length=m)
  (yG: ∀i,i<l.length→W.cells? base ((Addr.mk b off none).add (i*m)) m=some (enc (l.getD i z))) (vD:W.heap[b]? =some (.cells arr E fz)) (hoff:off≤arr.size) (hc:l.length≤c):SlV m enc z W (vsl b off l.length c) l:=by
 have get: ∀k,k<l.length→ ∀j,j<m→arr[off+k*m+j]? =(enc (l.getD k z))[j]? :=by
  intro k hk j hj
  obtain⟨-,hl,hg⟩:=World.cells?_some (yG k hk)
  have:=hg j oM
  rw[o0,o0] at this
  simp only[World.cell?,vD,Option.isSome_none,Bool.false_eq_true,if_false] at this
  exact this
 refine SlV.sl vD get hc ?_
 by_cases h0:l.length=0
 ·rw[h0];omega
 have h1:=get (l.length - 1) oM (m - 1) oM
 rw[List.getElem?_eq_getElem (by rw[hm];omega)] at h1
 have h2:=(Array.getElem?_eq_some_iff.1 h1).1
 have h3: (l.length - 1)*m+m=l.length*m:=by
  rw[←Nat.succ_mul];congr 1;omega
 omega
end
end Go.Sx
section
open Go Go.Proofs Go.Sx Go.StP Go.Flo
open Go.ChangeShapes Go.WideShapes Go.ChangeAt Go.RowKit Go.ChangeMaps
namespace Go.Proofs
def Em {H:Type} {tell:TypeId×Value→H} {α:Type} {enc:α→List Value} {z:α} {m:Nat} {W:World} {r:Reach} {base b0:Nat} {sp:Nat→Bool} {db:Bool} {fuel:Nat} {t e:TypeId} {v:Value} {x:DataW H×List MemPlace} {R:α→DataW H→Prop}
  (ht: (prog).underlying t=some (.slice e)) (he: (prog).cellsOf e=m) (vK:0<m) (hm: ∀x,(enc x).length=m) (g7:Value.okWide prog W r b0 t v)
  (hdec: ∀n cs y,DataW.trod tell prog W base sp db n e cs=some y→ ∃a,cs=enc a∧R a y.1) (hd:DataW.trod tell prog W base sp db fuel t [v]=some x):
  ∃l,SlV m enc z W v l∧(l= []∨ ∃es sp',x.1= .slice es sp'∧ ∀i,i<l.length→ ∃d,d∈es∧R (l.getD i z) d):=by
 rcases DataW.trod_slice ht hd with⟨eD,-⟩ | ⟨a,len,cap,elems,rest,n,-,eD,hx,-,hl,-,aP,lm,-,-⟩
 ·simp only[List.cons.injEq,and_true] at eD
  subst eD
  exact⟨[],SlV.nil W, .inl rfl⟩
 simp only[List.cons.injEq,and_true] at eD
 subst eD
 rcases TC ht g7 with h0| ⟨b,off,len',cap',arr,E,fz,h1,-,hb,ho⟩
 ·cases h0
 unfold vsl at h1
 cases h1
 rw[he] at lm
 have HG: ∀i,i<len→ ∃q,W.cells? base ((Addr.mk b off none).add (i*m)) m=some (enc q)∧ ∃d,d∈elems.map (·.1)∧R q d:=by
  intro i hi
  have h2:=lm i hi
  rw[List.getElem?_eq_getElem oM] at h2
  cases hc:W.cells? base ((Addr.mk b off none).add (i*m)) m with
  |none=>rw[hc] at h2;cases h2
  |some cs=>
   rw[hc] at h2
   obtain⟨q,rfl,hR⟩:=hdec _ _ _ h2
   exact⟨q,rfl,_,List.mem_map_of_mem (List.getElem_mem oM),hR⟩
 obtain⟨f,hf⟩: ∃f:Nat→α,∀i,i<len→W.cells? base ((Addr.mk b off none).add (i*m)) m=some (enc (f i))∧ ∃d,d∈elems.map (·.1)∧R (f i) d:=by
  classical
  refine⟨fun i=>if h:i<len then Classical.choose (HG i h) else z,fun i hi=> ?_⟩
  simp only[dif_pos hi]
  exact Classical.choose_spec (HG i hi)
 have nN: ((List.range len).map f).length=len:=by simp
 have yO: ∀i,i<len→((List.range len).map f).getD i z=f i:=fun i hi=>by
  rw[List.getD_eq_getElem?_getD,List.getElem?_map,List.getElem?_range hi];rfl
 refine⟨(List.range len).map f, ?_, .inr ⟨_,_,by rw[hx],fun i hi=> ?_⟩⟩
 ·have:=GG (W:=W) (base:=base) (b:=b) (off:=off) (c:=cap) (l:=(List.range len).map f) (z:=z) vK hm (fun i hi=>by
   rw[nN] at hi
   rw[(hf i hi).1,yO i hi]) hb ho (by rw[nN];exact hl)
  rw[nN] at this
  exact this
 rw[nN] at hi
 rw[yO i hi]
 exact(hf i hi).2
def YY {H:Type} {tell:TypeId×Value→H} {W:World} {base:Nat} {sp:Nat→Bool} {db:Bool} (n:Nat) (cs:List Value) (y:DataW H×List MemPlace)
  (h:DataW.trod tell prog W base sp db n 68 cs=some y): ∃a:FiL,cs=fiC a∧y.1= .agg [.lit (.string a.dir), .lit (.string a.name), .lit (.string a.data)]:=by
 obtain⟨y0,y1,y2,n',hy,aP,h0,h1,h2⟩:=Deep.trod_struct3 underlying68 h
 have hc: (prog).cellsOf 68=3:=by kernel_rfl
 have lC: (prog).cellsOf 9=1:=by kernel_rfl
 simp only at h0 h1 h2
 rw[lC,List.drop_zero] at h0
 rw[lC] at h1 h2
 rw[hc] at aP
 obtain⟨s,hs,hys,-⟩:=DataW.trod_string underlying9 h0
 obtain⟨u,hu,hyu,-⟩:=DataW.trod_string underlying9 h1
 obtain⟨x,hx,hyx,-⟩:=DataW.trod_string underlying9 h2
 refine⟨⟨s.data.toList,u.data.toList,x.data.toList⟩, ?_,by rw[hy,hys,hyu,hyx]⟩
 have hd:cs=cs.take 1++ ((cs.drop 1).take 1++ (cs.drop 2).take 1):=by
  rw[show(cs.drop 2).take 1=cs.drop 2 from List.take_of_length_le (by rw[List.length_drop];omega),show cs.drop 2=(cs.drop 1).drop 1 by rw[List.drop_drop],List.take_append_drop,List.take_append_drop]
 rw[hd,hs,hu,hx]
 rfl
def Ob {H:Type} {enc:TypeId×Value→H} {W:World} {r:Reach} {b0 base:Nat} {sp:Nat→Bool} {db:Bool} {v:Value} {d:DataW H} {p:List MemPlace}
  (g7:Value.okWide prog W r b0 22 v) (hd:DataW.Trod enc prog W base sp db 22 v d p):
  ∃l,FiSl W v l∧(l= []∨ ∃es sp',d= .slice es sp'∧ ∀i,i<l.length→ ∃e,e∈es∧e= .agg [.lit (.string (l.getD i fi0).dir), .lit (.string (l.getD i fi0).name), .lit (.string (l.getD i fi0).data)]):=by
 obtain⟨a0,len,cap,rfl⟩:=WideShapes.okWide_slice underlying22 g7
 obtain⟨fu,hf⟩:=hd
 exact Em (z:=fi0) (R:=fun a e=>e= .agg [.lit (.string a.dir), .lit (.string a.name), .lit (.string a.data)]) underlying22 kR (by decide) oJ g7 YY hf
def XB {n:Int} (h: (Lit.int .u16 n).wf=true): ∃x:UInt16,Value.int .u16 n=v16 x:=by
 simp only[Lit.wf,Bool.and_eq_true,decide_eq_true_eq] at h
 have h1: (0:Int)≤n:=h.1
 have h2:n≤65535:=h.2
 refine⟨UInt16.ofNat n.toNat, ?_⟩
 unfold v16
 rw[UInt16.toNat_ofNat',Nat.mod_eq_of_lt oM,Int.toNat_of_nonneg h1]
def Zo {H:Type} {tell:TypeId×Value→H} {W:World} {base:Nat} {sp:Nat→Bool} {db:Bool} {n:Nat} {cs:List Value} {y:DataW H×List MemPlace}
  (h:DataW.trod tell prog W base sp db n 34 cs=some y): ∃p:PkL,cs= [p.v]∧PkS W p.v p.l:=by
 have h1: (prog).cellsOf 122=1:=by kernel_rfl
 rcases DataW.trod_slice underlying34 h with⟨rfl,-⟩ | ⟨a,len,cap,elems,rest,m,-,rfl,-,-,hl,-,aP,lm,-,-⟩
 ·exact⟨pk0,rfl, .inl (SlV.nil W)⟩
 rw[h1] at lm
 by_cases h0:len=0
 ·subst h0
  exact⟨⟨.slice (some a) 0 cap,[],rfl,rfl⟩,rfl, .inr ⟨rfl,a,cap,rfl⟩⟩
 have HG: ∀i,i<len→ ∃q:UInt16,W.cells? base (a.add (i*1)) 1=some (u16C q):=by
  intro i hi
  have h2:=lm i hi
  rw[List.getElem?_eq_getElem oM] at h2
  cases hc:W.cells? base (a.add (i*1)) 1 with
  |none=>rw[hc] at h2;cases h2
  |some cs=>
   rw[hc] at h2
   obtain⟨z,hz,-,hw⟩:=DataW.trod_int underlying122 h2
   obtain⟨q,hq⟩:=XB hw
   exact⟨q,by rw[hz,hq];rfl⟩
 obtain⟨f,hf⟩: ∃f:Nat→UInt16,∀i,i<len→W.cells? base (a.add (i*1)) 1=some (u16C (f i)):=by
  classical
  refine⟨fun i=>if h:i<len then Classical.choose (HG i h) else 0,fun i hi=> ?_⟩
  simp only[dif_pos hi]
  exact Classical.choose_spec (HG i hi)
 obtain⟨-,-,hg⟩:=World.cells?_some (hf 0 oM)
 have hg0:=hg 0 oM
 obtain⟨blk,off,spt⟩:=a
 have iY:W.cell? ((Addr.mk blk off spt).add (0*1) |>.add 0)=some (v16 (f 0)):=hg0
 unfold World.cell? at iY
 have hb: ((Addr.mk blk off spt).add (0*1) |>.add 0).block=blk:=rfl
 rw[hb] at iY
 split at iY
 ·rename_i arr E fz hh
  split at iY
  ·cases iY
  rename_i yq
  have hspt:spt=none:=by
   cases spt with
   |none=>rfl
   |some q=>exact absurd rfl yq
  subst hspt
  have hoff:off<arr.size:=(Array.getElem?_eq_some_iff.1 iY).1
  have nN: ((List.range len).map f).length=len:=by simp
  have yO: ∀i,i<len→((List.range len).map f).getD i 0=f i:=fun i hi=>by
   rw[List.getD_eq_getElem?_getD,List.getElem?_map,List.getElem?_range hi];rfl
  have hs:=GG (W:=W) (base:=base) (b:=blk) (off:=off) (c:=cap) (l:=(List.range len).map f) (enc:=u16C) (z:=0) (by decide) VC (fun i hi=>by
   rw[nN] at hi
   rw[hf i hi,yO i hi]) hh oM (by rw[nN];exact hl)
  rw[nN] at hs
  exact⟨⟨.slice (some ⟨blk,off,none⟩) len cap,(List.range len).map f,rfl,rfl⟩,rfl, .inl hs⟩
 cases iY
end Go.Proofs
end
section
open Go Go.Proofs Go.Sx Go.StP Go.Flo
namespace Go.Proofs
def wW:DataW Unit:= .agg [.lit (.string aD), .lit (.string lN), .lit (.string refD)]
def MC {W:World} {base:Nat} {sp:Nat→Bool} {db:Bool} {fuel:Nat} {cs:List Value} {p:List MemPlace}
  (hd:DataW.trod (fun _=>()) prog W base sp db fuel 124 cs=some (wW,p)):cs= [vs aD,vs lN,vs refD]:=by
 obtain⟨xs,m,-,hx,aP,gV,lm⟩:=DataW.trod_array underlying124 hd
 have hc: (prog).cellsOf 124=3:=by kernel_rfl
 have h1: (prog).cellsOf 9=1:=by kernel_rfl
 rw[hc] at aP
 rw[h1] at lm
 have hm:xs.map (·.1)= [.lit (.string aD), .lit (.string lN), .lit (.string refD)]:=by
  have:=congrArg Prod.fst hx
  unfold wW at this
  simp only[DataW.agg.injEq] at this
  exact this.symm
 have h0:=lm 0 oM
 have h2:=lm 1 oM
 have h3:=lm 2 oM
 rw[List.getElem?_eq_getElem oM] at h0 h2 h3
 obtain⟨s0,hs0,K9,-⟩:=DataW.trod_string underlying9 h0
 obtain⟨s1,qI,KA,-⟩:=DataW.trod_string underlying9 h2
 obtain⟨s2,eA,A5,-⟩:=DataW.trod_string underlying9 h3
 match xs,gV,hm,K9,KA,A5 with
 | [x0,x1,x2],_,hm,K9,KA,A5=>
  simp only[List.map_cons,List.map_nil,List.cons.injEq,and_true] at hm
  simp only[List.getElem_cons_zero,List.getElem_cons_succ] at K9 KA A5
  obtain⟨m0,m1,m2⟩:=hm
  rw[K9] at m0
  rw[KA] at m1
  rw[A5] at m2
  simp only[DataW.lit.injEq,Lit.string.injEq] at m0 m1 m2
  match cs,aP with
  | [c0,c1,c2],_=>
   simp only[Nat.zero_mul,List.drop_zero,List.take_succ_cons,List.take_zero,List.cons.injEq,and_true,Nat.one_mul,List.drop_succ_cons,Nat.reduceMul] at hs0 qI eA
   rw[hs0,qI,eA,←m0,←m1,←m2]
   rfl
theorem J4_ {W:World}: ∀ {laid:List (String×DataW Unit)} {ps:List MemPlace},DataW.LaidVars prog W laid ps→("sediment/disk.order",wW)∈laid→lU W
 | [],_,_,hm=>by cases hm
 | (n',d')::rest,ps,h,hm=>by
  obtain⟨g',t',cs,fuel,p,q,HL,z',pD,hd,hr,-⟩:=h
  rcases List.mem_cons.1 hm with hm|hm
  ·cases hm
   have hg: (prog).globalNamed "sediment/disk.order" =some 0:=by kernel_rfl
   have K4: ((prog).globals[(0:Nat)]?).map (·.type)=some 124:=by kernel_rfl
   obtain rfl:=Option.some.inj (hg.symm.trans HL)
   obtain rfl:=Option.some.inj (K4.symm.trans z')
   have eD:=MC hd
   simp only[World.var?,hg,Option.bind_some] at pD
   split at pD
   ·rename_i cs' e f hb
    cases pD
    refine⟨e,f, ?_⟩
    rw[hb]
    congr 2
    apply Array.ext'
    rw[eD]
   cases pD
  exact J4_ hr hm
end Go.Proofs
end
section
open Go Go.Proofs Go.Sx Go.StP Go.Flo
open Go.ChangeShapes Go.WideShapes Go.ChangeAt Go.RowKit Go.ChangeMaps
namespace Go.Proofs
end Go.Proofs
end
section
open Go Go.Proofs Go.Sx Go.StP Go.ChangeShapes
namespace Go.Proofs
end Go.Proofs
end
section
open Go Go.Proofs Go.Sx Go.StP Go.Flo
open Go.ChangeShapes Go.WideShapes Go.ChangeAt Go.RowKit Go.ChangeMaps
namespace Go.Proofs
def Yl {H:Type} {tell:TypeId×Value→H} {W:World} {base:Nat} {sp:Nat→Bool} {db:Bool} {n:Nat} {cs:List Value} {y:DataW H×List MemPlace}
  (h:DataW.trod tell prog W base sp db n 33 cs=some y): ∃o:ObL,cs=obC o:=by
 have hc: (prog).cellsOf 33=2:=by kernel_rfl
 have jV: (prog).cellsOf 3=1:=by kernel_rfl
 have Jh: (prog).cellsOf 9=1:=by kernel_rfl
 obtain⟨y0,y1,n',-,aP,h0,h1⟩:=ChangeShapes.trod_struct2 underlying33 h
 simp only at h0 h1 aP
 rw[jV,List.drop_zero] at h0
 rw[Jh] at h1
 rw[hc] at aP
 obtain⟨z,hz,-,-⟩:=DataW.trod_int underlying3 h0
 obtain⟨s,eA,-,-⟩:=DataW.trod_string underlying9 h1
 have hd:cs=cs.take 1++ (cs.drop 1).take 1:=by
  rw[show(cs.drop 1).take 1=cs.drop 1 from List.take_of_length_le (by rw[List.length_drop];omega),List.take_append_drop]
 rw[hz,eA] at hd
 exact⟨⟨z,s.data.toList⟩,by rw[hd];rfl⟩
def Ys {H:Type} {tell:TypeId×Value→H} {W:World} {base:Nat} {sp:Nat→Bool} {db:Bool} (n:Nat) (cs:List Value) (y:DataW H×List MemPlace)
  (h:DataW.trod tell prog W base sp db n 36 cs=some y): ∃a:A5L,cs=a5C a∧A5Ok W a:=by
 obtain⟨xs,m,-,-,aP,gV,lm⟩:=DataW.trod_struct underlying36 h
 have hc: (prog).cellsOf 36=5:=by kernel_rfl
 have Jj: (prog).cellsOf 3=1:=by kernel_rfl
 have hco: (prog).cellsOf 33=2:=by kernel_rfl
 have hcp: (prog).cellsOf 34=1:=by kernel_rfl
 rw[hc] at aP
 have gV:xs.length=4:=gV
 have h0:DataW.trod tell prog W base sp db m 3 ((cs.drop 0).take ((prog).cellsOf 3))=xs[0]? :=lm 0 _ rfl
 rw[Jj,List.getElem?_eq_getElem oM] at h0
 have h1:DataW.trod tell prog W base sp db m 3 ((cs.drop 1).take ((prog).cellsOf 3))=xs[1]? :=lm 1 _ rfl
 rw[Jj,List.getElem?_eq_getElem oM] at h1
 have h2:DataW.trod tell prog W base sp db m 33 ((cs.drop 2).take ((prog).cellsOf 33))=xs[2]? :=lm 2 _ rfl
 rw[hco,List.getElem?_eq_getElem oM] at h2
 have h3:DataW.trod tell prog W base sp db m 34 ((cs.drop 4).take ((prog).cellsOf 34))=xs[3]? :=lm 3 _ rfl
 rw[hcp,List.getElem?_eq_getElem oM] at h3
 obtain⟨k,hk,-,-⟩:=DataW.trod_int underlying3 h0
 obtain⟨i,hi,-,hiw⟩:=DataW.trod_int underlying3 h1
 obtain⟨q,hq⟩:=Yl h2
 obtain⟨p,hp,vN⟩:=Zo h3
 refine⟨⟨k,i,q.k,q.t,p⟩, ?_,vN, ?_⟩
 ·have yI:cs=(cs.drop 0).take 1++ ((cs.drop 1).take 1++ ((cs.drop 2).take 2++ (cs.drop 4).take 1)):=by
   match cs,aP with
   | [c0,c1,c2,c3,c4],_=>rfl
  rw[yI,hk,hi,hq,hp]
  rfl
 simp only[Lit.wf,Bool.and_eq_true,decide_eq_true_eq] at hiw
 have g1: (-9223372036854775808:Int)≤i:=by simpa [IntKind.min,IntKind.bits,IntKind.signed] using hiw.1
 have g2:i≤9223372036854775807:=by simpa [IntKind.max,IntKind.bits,IntKind.signed] using hiw.2
 exact⟨g1,by show i<9223372036854775808;omega⟩
def O' {H:Type} {enc:TypeId×Value→H} {W:World} {r:Reach} {b0 base:Nat} {sp:Nat→Bool} {db:Bool} {v:Value} {d:DataW H} {p:List MemPlace}
  (g7:Value.okWide prog W r b0 23 v) (hd:DataW.Trod enc prog W base sp db 23 v d p):
  ∃l,A5Sl W v l∧ ∀a,a∈l→A5Ok W a:=by
 obtain⟨a0,len,cap,rfl⟩:=WideShapes.okWide_slice underlying23 g7
 obtain⟨fu,hf⟩:=hd
 obtain⟨l,h1,h2⟩:=Em (z:=a50) (R:=fun a _=>A5Ok W a) underlying23 kR (by decide) zM g7 (fun n cs y h=>Ys n cs y h) hf
 refine⟨l,h1,fun a ha=> ?_⟩
 rcases h2 with rfl| ⟨es,sp',-,h3⟩
 ·cases ha
 obtain⟨i,hi,rfl⟩:=List.getElem_of_mem ha
 obtain⟨-,-,h4⟩:=h3 i hi
 rw[List.getD_eq_getElem?_getD,List.getElem?_eq_getElem hi] at h4
 exact h4
end Go.Proofs
end
open Go Go.Proofs Go.Sx Go.StP Go.Flo
namespace Go.Proofs
end Go.Proofs
namespace Go.Sx
open Go
def Uf {P:Program} {f:FuncId} {fn:Func} {s:ChangeSpec} {c:OpenClaim}
  (h1: (c.wf (OpenSpec.ofChange s))=true)
  (h2: (laidOutB P)=true)
  (h3: (mapsRowed P)=true)
  (h4: (fn.params.all (P.readableRec ·))=true)
  (h5: (namedTie P c.named s.vars)=true)
  (h6: ((c.stops== []))=true)
  (h7: ((P.stops== []))=true)
  (h8: ((c.knobs== []))=true)
  (h9: ((P.stopKnobs== []))=true)
  (h10: ((c.inPlace==P.inPlace f))=true)
  (h11: ((c.unfollowed==P.unfollowed f))=true)
  (oe: ((c.recurses==P.recurses f))=true)
  (xq: ((c.named==P.varsNamed f))=true)
  (JW: ((c.maps==(fn.params.toList++s.plain.varTypes P).any (P.mapsRec ·)))=true)
  (h15: ((c.ifaces==(fn.params.toList++s.plain.varTypes P).any (P.ifacesRec ·)))=true)
  (h16: ((c.mapsOut==P.mapsAmong fn.resultTypes.toList))=true)
  (h17: ((c.loops==(fn.params.toList++s.plain.varTypes P).any (P.loopsFrom ·)))=true)
  (h18: ((c.wideKeys==(fn.params.toList++s.plain.varTypes P++fn.resultTypes.toList).any (P.wideKeysFrom ·)))=true)
  (h19: (s.vars.all (P.varReadable ·))=true)
  (h20: (fn.resultTypes.all (fun t=>P.readableRec t&&decide (t<P.types.size)))=true)
  (h21: ((c.ifacesOut==fn.resultTypes.toList.any (P.ifacesRec ·)))=true)
  (h22: ((c.loopsOut==fn.resultTypes.toList.any (P.loopsFrom ·)))=true)
  (zZ: ((c.plainKeys==P.plainKeys))=true)
  (h24: (c.shortTexts.isNone)=true)
  (h25: (P.stopsHeard)=true)
  (h26: (P.mayEnter)=true)
  (h27: ((c.lifted==P.liftsFinal))=true)
  (h28: ((P.make==some c.make))=true)
  (h29: ((c.kinds==(if c.domain.isEmpty then [] else fn.params.toList.map fun t=>match P.underlying t with|some (.int k)=>some k|_=>none)))=true)
  (h30: ((c.pinned==c.pinnedBy))=true)
  (h31: ((c.veiled==(fn.params.toList++s.plain.varTypes P++fn.resultTypes.toList).any (P.veiledRec ·)))=true)
  (h32: (c.veiledFits P fn.params.toList (fn.params.toList++s.plain.varTypes P++fn.resultTypes.toList))=true):
  joinedFacts P f fn s c=true:=by
 unfold joinedFacts
 exact(Bool.and_eq_true_iff.2 ⟨(Bool.and_eq_true_iff.2 ⟨(Bool.and_eq_true_iff.2 ⟨(Bool.and_eq_true_iff.2 ⟨(Bool.and_eq_true_iff.2 ⟨(Bool.and_eq_true_iff.2 ⟨(Bool.and_eq_true_iff.2 ⟨(Bool.and_eq_true_iff.2 ⟨(Bool.and_eq_true_iff.2 ⟨(Bool.and_eq_true_iff.2 ⟨(Bool.and_eq_true_iff.2 ⟨(Bool.and_eq_true_iff.2 ⟨(Bool.and_eq_true_iff.2 ⟨(Bool.and_eq_true_iff.2 ⟨(Bool.and_eq_true_iff.2 ⟨(Bool.and_eq_true_iff.2 ⟨(Bool.and_eq_true_iff.2 ⟨(Bool.and_eq_true_iff.2 ⟨(Bool.and_eq_true_iff.2 ⟨(Bool.and_eq_true_iff.2 ⟨(Bool.and_eq_true_iff.2 ⟨(Bool.and_eq_true_iff.2 ⟨(Bool.and_eq_true_iff.2 ⟨(Bool.and_eq_true_iff.2 ⟨(Bool.and_eq_true_iff.2 ⟨(Bool.and_eq_true_iff.2 ⟨(Bool.and_eq_true_iff.2 ⟨(Bool.and_eq_true_iff.2 ⟨(Bool.and_eq_true_iff.2 ⟨(Bool.and_eq_true_iff.2 ⟨(Bool.and_eq_true_iff.2 ⟨h1,h2⟩),h3⟩),h4⟩),h5⟩),h6⟩),h7⟩),h8⟩),h9⟩),h10⟩),h11⟩),oe⟩),xq⟩),JW⟩),h15⟩),h16⟩),h17⟩),h18⟩),h19⟩),h20⟩),h21⟩),h22⟩),zZ⟩),h24⟩),h25⟩),h26⟩),h27⟩),h28⟩),h29⟩),h30⟩),h31⟩),h32⟩)
end Go.Sx
