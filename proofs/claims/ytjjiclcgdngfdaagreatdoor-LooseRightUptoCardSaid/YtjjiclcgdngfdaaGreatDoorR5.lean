/-
  Part 5 of the walk: contracts of the functions that the law reaches, and the calculus they stand on.
  No conditions.
-/
import Derived.Test.YtjjiclcgdngfdaaGreatDoorR4
import Derived.ProofKit
import Derived.OpenShut
import Derived.WideKeyArgs
import Derived.ChangeSame
import Derived.ChangeMaps5
import Derived.Lib.LaidTab
import Derived.SliceStrings
import Derived.DataReads
import Derived.Deep.Strs
section
open Go Go.Proofs Go.Sx Go.StP Go.Dig
namespace Go.Proofs
set_option maxRecDepth 10000
set_option maxHeartbeats 1000000
set_option linter.unusedSimpArgs false
theorem Pr {S:DiskL} (hh:iE S) {k n:Nat} {nm d:List UInt8} (h:KeepS S k nm n d):bP S k nm=some d:=by
 unfold bP
 rw[h.seen hh]
 exact congrArg some h.data
structure RightI (all:List ObL) (S:DiskL) (sts:List ObL):Prop where
 alls:FulS S
 obj: ∀ (x:IdL) (d:List UInt8),bP S 0 (aK x.l)=some d→iH (aK x.l) d=true→(⟨looK (aK x.l) d,iM (aK x.l) d⟩:ObL)∈all
 keep: ∀o,o∈sts→bS o.k o.t=true∧o∈all∧ ∃n,KeepS S 0 (aK (idV o.k o.t).l) n (eD o.k o.t)
theorem OF {all:List ObL} {S:DiskL} {sts:List ObL} (h:RightI all S sts) (j4:qC all=false) {o:ObL} (ho:o∈all):
  RightI all (putL S o.k o.t).S sts∧((putL S o.k o.t).e=0→bS o.k o.t=true∧(putL S o.k o.t).x=idV o.k o.t∧bP (putL S o.k o.t).S 0 (aK (idV o.k o.t).l)=some (eD o.k o.t)):=by
 unfold putL
 cases hr:bS o.k o.t with
 |false=>rw[if_pos rfl];exact⟨h,fun e=>by cases e⟩
 |true=>
  rw[if_neg (by simp)]
  by_cases hg: (fA S (idV o.k o.t)).e=0
  ·rw[if_pos hg]
   refine⟨h,fun _=>⟨rfl,rfl, ?_⟩⟩
   obtain⟨d,h1,h2,-⟩:=Bi hg
   have hi:=uV h2
   have hv:=Pb h.alls.calm h1
   have he:=Ab j4 (h.obj _ d hv h2) ho hi.right hr (qE hi.name)
   have e1:looK _ d=o.k:=congrArg ObL.k he
   have e2:iM _ d=o.t:=congrArg ObL.t he
   have hb:=hi.bytes
   rw[e1,e2] at hb
   show bP S 0 _=_
   rw[hv,hb]
  ·rw[if_neg hg]
   obtain⟨e,S',hp,ha,-,vy,-,-,vx⟩:=z7 h.alls (rZ (idV o.k o.t)).1 (rZ (idV o.k o.t)).2 (eD o.k o.t)
   have hI:RightI all S' sts:=by
    refine⟨ha,fun x d hv bX=> ?_,fun o' lK=> ?_⟩
    ·by_cases hx:aK x.l=aK (idV o.k o.t).l
     ·rw[hx] at hv bX ⊢
      rcases vx with⟨-,h2⟩ | ⟨-,h2,-⟩
      ·rw[h2] at hv
       cases hv
       obtain⟨-,r2,r3⟩:=Ah hr
       rw[r2,r3];exact ho
      ·rw[h2] at hv
       exact h.obj _ d hv bX
     ·rw[vy _ hx (BR x _)] at hv
      exact h.obj x d hv bX
    ·obtain⟨k1,k2,n,k3⟩:=h.keep o' lK
     refine⟨k1,k2,n, ?_⟩
     have:=Rd h.alls (by decide) k3 (dir:=aG) (nm:=aK (idV o.k o.t).l) (eD o.k o.t) true fun _=>⟨fun e=>hg ?_,BR _ _⟩
     ·rw[hp] at this;exact this
     ·have hv:=Pr h.alls.hist k3
      have bY:=HL h.alls.calm (idV o'.k o'.t)
      rw[hv] at bY
      rw[←qE e,uI k1 bY]
   rw[hp]
   simp only
   rcases vx with⟨rfl,h2⟩ | ⟨rfl,-⟩
   ·rw[if_pos rfl]
    exact⟨hI,fun _=>⟨by trivial,by rfl,h2⟩⟩
   ·rw[if_neg (by decide)]
    exact⟨hI,fun e=>by cases e⟩
theorem Yr {S:DiskL} {x:IdL} (h1: (ct S aG (aK x.l)).2=0):py [x] S=((fQ (ct S aG (aK x.l)).1 aG).2,(fQ (ct S aG (aK x.l)).1 aG).1):=by
 have e:jb [x] S=(0,(ct S aG (aK x.l)).1):=by
  unfold jb
  rw[if_neg (by rw[h1];simp)];rfl
 unfold py
 rw[e,if_neg (by simp),if_neg (by simp)]
theorem Ir {all:List ObL} {S:DiskL} {sts:List ObL} (h:RightI all S sts) (j4:qC all=false) {o:ObL} (ho:o∈all) (hr:bS o.k o.t=true) (hv:bP S 0 (aK (idV o.k o.t).l)=some (eD o.k o.t)):
  (py [idV o.k o.t] S).1=0∧RightI all (py [idV o.k o.t] S).2 (sts++ [o]):=by
 obtain⟨s1,s2,s3,s4,-,n,s5⟩:=Z2 h.alls (rZ (idV o.k o.t)).1 hv
 rw[Yr s1]
 refine⟨s2,s3,fun x d hx bX=>h.obj x d (by rw[←s4];exact hx) bX,fun o' lK=> ?_⟩
 rcases List.mem_append.1 lK with lK|lK
 ·obtain⟨k1,k2,m,k3⟩:=h.keep o' lK
  refine⟨k1,k2, ?_⟩
  by_cases he:aK (idV o'.k o'.t).l=aK (idV o.k o.t).l
  ·have:=Ab j4 k2 ho k1 hr (qE he)
   subst this
   exact⟨n,s5⟩
  ·exact⟨m,LZ h.alls he k3⟩
 ·rw[List.mem_singleton.1 lK]
  exact⟨hr,ho,n,s5⟩
theorem YA {all:List ObL} {S:DiskL} {sts:List ObL} (h:RightI all S sts) (pl:List UInt16) {o:ObL} (ho:o∈sts):bS o.k o.t=true∧fA (eW S pl) (idV o.k o.t)=⟨o.k,o.t,0⟩:=by
 obtain⟨k1,-,n,k3⟩:=h.keep o ho
 exact⟨k1,uI k1 (yL (by decide) (rZ _).1 k3 pl)⟩
theorem Bl (l0:List FiL): ∀ (l:List FiL) {S:DiskL},(∀f,f∈l→f∈l0)→gy S∧LtS S→(∀k,k<3→ ∀p,p∈ (S.dir k).seen→ ∃f,f∈l0∧f.data=(aH S p.2).data)→ ∀k,k<3→ ∀p,p∈ ((l.foldl ck S).dir k).seen→ ∃f,f∈l0∧f.data=(aH (l.foldl ck S) p.2).data
 | [],S,_,_,hd=>hd
 |f::l,S,hl,hu,hd=>by
  rw[List.foldl_cons]
  refine Bl l0 l (fun g hg=>hl g (List.mem_cons_of_mem _ hg)) (Yc hu f) fun k hk p hp=> ?_
  have hf:=hl f List.mem_cons_self
  unfold ck at hp ⊢
  cases hw:bv f.dir with
  |none=>rw[hw] at hp;exact hd k hk p hp
  |some j=>
   rw[hw] at hp
   simp only at hp ⊢
   split at hp
   ·rename_i hc
    rw[if_pos hc]
    have fy: ∀q,q∈ (S.dir k).seen→ ∃g,g∈l0∧g.data=(aH (fF S ⟨f.data,f.data.length⟩) q.2).data:=fun q hq=>by
     obtain⟨g,g1,g2⟩:=hd k hk q hq
     exact⟨g,g1,by rw[El _ _ (hu.2 k hk q hq)];exact g2⟩
    rw[Ol]
    unfold dV at hp
    simp only at hp
    split at hp
    ·rename_i Wi
     subst Wi
     rcases mem_put.1 hp with rfl| ⟨hp,-⟩
     ·exact⟨f,hf,by rw[HC]⟩
     ·exact fy p hp
    ·exact fy p hp
   ·rename_i hc
    rw[if_neg hc]
    exact hd k hk p hp
theorem TN {q:Int} {l:List FiL} {k:Nat} (hk:k<3) {nm d:List UInt8} (h:bP (ofD q l) k nm=some d): ∃f,f∈l∧f.data=d:=by
 obtain⟨n,hn,rfl⟩:=wJ h
 have hm:=fp hn
 have e: ((ofD q l).dir k).seen=((l.foldl ck (d7 q)).dir k).seen:=H8 _ k
 rw[e] at hm
 exact Bl l l (S:=d7 q) (fun f hf=>hf) ⟨fun j k _ _ p hp=>(by cases hp),fun k _ p hp=>(by cases hp)⟩ (fun k _ p hp=>(by cases hp)) k hk _ hm
theorem LV {l:List FiL} {f:FiL} (hf:f∈l) {o:ObL} (ho:o∈ru f.data):o∈jE l:=
 List.mem_flatten.2 ⟨mL f.data,List.mem_map.2 ⟨f,hf,rfl⟩,List.mem_append_left _ ho⟩
theorem QM {q:Int} {l:List FiL} (more:List ObL) (h:FulS (ofD q l)):RightI (jE l++more) (ofD q l) []:=
 ⟨h,fun x d hv bX=>by
  obtain⟨f,f1,rfl⟩:=TN (by decide) hv
  exact List.mem_append_left _ (LV f1 (uV bX).obj),fun o ho=>by cases ho⟩
structure KeepI (all:List ObL) (S:DiskL) (had:List ObL) (n:Nat):Prop where
 alls:FulS S
 max:S.max=1000000
 used:cy S≤n*4300
 names: ∀ (x:IdL) (d:List UInt8),bP S 0 (aK x.l)=some d→ ∃o,o∈all∧bS o.k o.t=true∧idV o.k o.t=x∧d=eD o.k o.t
 had: ∀o,o∈had→bS o.k o.t=true∧o∈all∧bP S 0 (aK (idV o.k o.t).l)=some (eD o.k o.t)
theorem Qb (q:Int):cy (d7 q)=0:=rfl
end Go.Proofs
end
section
open Go Go.Proofs Go.Sx Go.StP Go.Dig
namespace Go.Proofs
set_option maxRecDepth 10000
set_option maxHeartbeats 1000000
set_option linter.unusedSimpArgs false
theorem Va (q:Int):d7 q=ofD q []:=by
 unfold ofD d7 setV
 simp only[List.foldl_nil]
 congr 1
 funext k
 split<;>rfl
theorem BS {q:Int} {l:List FiL} (ok:DkOk (ofD q l)):FulS (ofD q l):=⟨ok,TB q l,BL q l,(Sh q l).1,Th q l⟩
theorem Qt {q:Int} (ok:DkOk (d7 q)):FulS (d7 q):=by
 rw[Va] at ok ⊢
 exact BS ok
theorem Tv: ∀s:List UInt8,ltB s s=true→False:=fun s h=>by
 have:=(show SrtN [(s,0),(s,1)] from List.pairwise_cons.2 ⟨fun q hq=>by rw[List.mem_singleton.1 hq];exact h,List.pairwise_singleton _ _⟩).nodup
 simp at this
theorem Rr {l:NmL} (h:SrtN l) {nm:List UInt8} (h1: ∀x,x≠nm→aR l x=none) {n:Nat} (h2:aR l nm=some n):l.map Prod.fst= [nm]:=by
 have ha: ∀p,p∈l→p.1=nm:=fun p hp=>Classical.byContradiction fun aO=>by
  have:=xv h.nodup (s:=p.1) (n:=p.2) hp
  rw[h1 p.1 aO] at this
  cases this
 match l,h,ha,h2 with
 | [],_,_,h2=>cases h2
 | [p],_,ha,_=>rw[List.map_cons,ha p List.mem_cons_self];rfl
 |p::q::r,h,ha,_=>
  have h3:=(List.pairwise_cons.1 h).1 q List.mem_cons_self
  rw[ha p List.mem_cons_self,ha q (List.mem_cons_of_mem _ List.mem_cons_self)] at h3
  exact absurd h3 (Tv nm)
def abT:List UInt8:= [97,98]
theorem Ca:bS 1 abT=true:=by decide
structure AliveI (p:PutR) (q:Nat×DiskL):Prop where
 e:p.e=0
 x:p.x=idV 1 abT
 f:q.1=0
 got:fA (eW q.2 []) p.x=⟨1,abT,0⟩
 list: (n3 (eW q.2 [])).length=1
theorem J4 (ok:DkOk (d7 1000)):AliveI (putL (d7 1000) 1 abT) (py [(putL (d7 1000) 1 abT).x] (putL (d7 1000) 1 abT).S):=by
 have ha:=Qt ok
 have sZ: ∀x,bP (d7 1000) 0 x=none:=fun x=>rfl
 have hg: (fA (d7 1000) (idV 1 abT)).e=6:=by
  have bY:=HL ha.calm (idV 1 abT)
  rw[sZ] at bY
  unfold fA
  rw[bY,if_pos (by simp)]
 obtain⟨e,S',hp,a1,-,vy,-,E7,vx⟩:=z7 ha (rZ (idV 1 abT)).1 (rZ (idV 1 abT)).2 (eD 1 abT)
 have r9: (eD 1 abT).length≤100:=by
  have h3:=nY (abT.length:Int)
  have h4:abT.length=2:=rfl
  have h5: (jx 1).length=1:=rfl
  unfold eD dk eo
  rw[Hr]
  simp only[List.length_cons,List.length_append]
  omega
 obtain⟨rfl,h2⟩:e=0∧bP S' 0 (aK (idV 1 abT).l)=some (eD 1 abT):=by
  rcases vx with h| ⟨-,-,h⟩
  ·exact h
  ·exact absurd ⟨by omega,by rw[Qb];show((0:Nat):Int)+_≤1000;omega⟩ h
 have eX:putL (d7 1000) 1 abT=⟨idV 1 abT,0,S'⟩:=by
  unfold putL
  rw[Ca,if_neg (by simp),hg,if_neg (by decide),hp]
  simp
 rw[eX]
 obtain⟨s1,s2,s3,s4,s5,n,s6⟩:=Z2 a1 (rZ (idV 1 abT)).1 h2
 have bO:py [idV 1 abT] S'=(0,(fQ (ct S' aG (aK (idV 1 abT).l)).1 aG).1):=by rw[Yr s1,s2]
 simp only
 rw[bO]
 generalize (fQ (ct S' aG (aK (idV 1 abT).l)).1 aG).1=S2 at*
 have DW:fA (eW S2 []) (idV 1 abT)=⟨1,abT,0⟩:=uI Ca (yL (by decide) (rZ _).1 s6 [])
 refine⟨rfl,rfl,rfl,DW, ?_⟩
 obtain⟨i,h3,h4⟩:=yt S2 [] (k:=0) (by decide)
 rw[s5] at h3
 obtain rfl:i=0:=by simpa using h3
 have h5: ((eW S2 []).dir 0).seen=(S'.dir 0).seen:=by
  rw[h4]
  show g7 S2 0 0=_
  unfold g7
  rw[s5];rfl
 have h6: ((eW S2 []).dir 0).seen.map Prod.fst= [aK (idV 1 abT).l]:=by
  rw[h5]
  refine Rr (n:=n) (a1.ok.seen 0 (by decide)) (fun x hx=> ?_) ?_
  ·by_cases wD:x=ah (aK (idV 1 abT).l)
   ·rw[wD];exact Hq E7
   ·exact Hq ((vy x hx wD).trans (sZ x))
  ·have:=s6.at_
   rw[s5] at this
   exact this
 have h7:my (eW S2 []) aG= [aK (idV 1 abT).l]:=by
  have:=zC (S:=eW S2 []) (k:=0) (by decide)
  rw[zf,if_neg (by decide),h6] at this
  exact this
 unfold n3 nZ
 rw[h7]
 have h8:looP (eW S2 []) (aK (idV 1 abT).l)=true:=by
  unfold looP
  rw[ya _ (idV 1 abT).h,show hexI (aK (idV 1 abT).l)=idV 1 abT from BZ (Hz _ (idV 1 abT).h),DW]
  rfl
 rw[List.filter_cons,if_pos h8]
 rfl
end Go.Proofs
end
section
open Go Go.Proofs Go.Sx Go.StP Go.Flo
namespace Go.Proofs
set_option maxRecDepth 10000
set_option maxHeartbeats 400000
set_option linter.unusedSimpArgs false
set_option linter.defProp false
set_option linter.defProp false
set_option linter.defProp false
end Go.Proofs
end
section
open Go Go.Proofs Go.Sx Go.StP Go.Dig
namespace Go.Proofs
set_option maxRecDepth 10000
set_option maxHeartbeats 1000000
set_option linter.unusedSimpArgs false
theorem AL {w:World} {x:IdL} {b:Nat} {E:TypeId} (h:w.heap[b]? =some (.cells (a8 x.l) E (0,0))):RowS 32 eZ id0 w (vsl b 0 1 1) [x] b 0 (a8 x.l) E (0,0):=
 RowS.sl rfl h fun k hk j hj=>by
  obtain rfl:k=0:=by simpa using hk
  rw[←qH]
  simp
set_option linter.defProp false
def gM:=And.intro (And.intro (And.intro (@jV) (@jY)) (And.intro (@jX) (@jW))) (And.intro (And.intro (@Sx.tup2_0) (@Sx.tup2_1)) (And.intro (@ay) (And.intro (@ax) (@pC))))
theorem Ee (m:Nat) (w:World) (hG:GlbA w m):Rets Tryz.prog 48 #[] w (fun v D=>v= .bool true∧D= []):=by
 refine Rets.enterV Tryz.func48 rfl (rs:= [.tmp 0]) Tryz.results48 Tryz.ntmps48 ?_
 refine kf ?_
 first|with_reducible refine ks [] @gM ?_|refine kp @gM ?_
 refine Ow.callC rfl rfl Tryz.call28 (fun w' aB=>yv 1000 w' (by decide) (hG.new aB trivial).D) (fun B0 v0 D0 Vv uu pP Cx=> ?_)
 obtain⟨G0,rfl,nC⟩:=Cx
 rw[List.nil_append]
 have nA:Ext w [] D0:=Ext.of_new (pP.mono uu)
 have oI: ∀b,b∈keys D0→m≤b:=fun b hb=>Nat.le_trans hG.le (nA.new0.le b hb)
 have Ff:DkA D0 G0 (d7 1000) 0:=⟨nC,Rg 1000,BU 1000⟩
 obtain⟨a1,a2,a3,a4,a5⟩:=J4 nC.ok
 generalize d7 1000=S0 at*
 refine ko @gM ?_
 first|with_reducible refine ks [] @gM ?_|refine kp @gM ?_
 refine Ow.build (obV 1 abT) rfl (zU 1 abT) ?_
 refine ko @gM ?_
 refine Ow.callX (X:=D0) (Y:= []) (List.append_nil _).symm rfl rfl Tryz.call60 (fun w' aB bD aw=>yS D0 G0 S0 0 m 1 abT w' bD aw Ff (by omega) (hG.new aB nA.new0) oI) (fun v1 D1 W0 fS=> ?_)
 rw[List.append_nil]
 obtain⟨rfl,G1,aQ,fa⟩:=fS
 have cm:=nA.came0 W0
 generalize putL S0 1 abT=p at*
 obtain⟨x,pe,S1⟩:=p
 simp only at a1 a2 a3 a4 a5 fa ⊢
 subst a1
 rw[←aQ]
 refine ko @gM ?_
 refine Ow.alloc rfl rfl iV fun b2 aZ bH=> ?_
 simp only[aV,List.nil_append,List.cons_append]
 have hx:=x.h
 have r6:=id0.h
 refine Ow.permL (M:=(b2, .cells (a8 id0.l) 84 (0,0))::D1) (by classical exact List.perm_iff_count.2 fun a=>by simp only[List.count_append,List.count_cons,List.count_nil]<;>omega) ?_
 refine ko @gM ?_
 first|with_reducible refine ks [] @gM ?_|refine kp @gM ?_
 refine Ow.buildSlice (e:=84) (a8 x.l) rfl rfl (lV (cs:=x.l.map v8) Tryz.underlying106 pI iV (by decide) (by simp[x.h])) fun ba pT ou=> ?_
 refine ko @gM ?_
 have h2a:b2<ba:=ae pT (by simp[keys])
 have XA:ba∉keys D1:=fun hm=>by
  have:=ae pT (show ba∈keys _ from List.mem_cons_of_mem _ hm)
  omega
 have hYE:Ext w [] (D1++ [(b2, .cells (a8 x.l) 84 (0,0)),(ba, .cells (a8 x.l) 84 (0,0))]):=AV cm ⟨bH,ou,trivial⟩
 refine Ow.permL (M:=D1++ [(b2, .cells (a8 x.l) 84 (0,0)),(ba, .cells (a8 x.l) 84 (0,0))]) (by classical exact List.perm_iff_count.2 fun a=>by simp only[List.count_append,List.count_cons,List.count_nil]<;>omega) ?_
 refine Ow.callX (X:=D1) (Y:= [(b2, .cells (a8 x.l) 84 (0,0)),(ba, .cells (a8 x.l) 84 (0,0))]) rfl rfl rfl Tryz.call63 (fun w' aB bD aw=>YO D1 G1 S1 (0+42) _ [x] ba 0 _ _ _ w' bD aw fa (by simp) (AL (aB.has ba (.cells (a8 x.l) 84 (0,0)) (by simp))) (fun _=>(Array.getElem?_eq_some_iff.1 (aB.has ba (.cells (a8 x.l) 84 (0,0)) (by simp))).1) (fun _=>XA)) (fun v2 D2 hC2 be=> ?_)
 obtain⟨rfl,G2,WH,bz⟩:=be
 have cP:=hYE.came hC2
 generalize py [x] S1=q at*
 obtain⟨qe,S2⟩:=q
 simp only at a3 a4 a5 bz ⊢
 subst a3
 rw[←WH]
 refine ko @gM ?_
 first|with_reducible refine ks [] @gM ?_|refine kp @gM ?_
 refine Ow.callX (X:=D2) (Y:= [(b2, .cells (a8 x.l) 84 (0,0)),(ba, .cells (a8 x.l) 84 (0,0))]) rfl rfl rfl Tryz.call22 (fun w' aB bD aw=>Hw D2 G2 S2 (.slice none 0 0) [] w' bD aw bz.P (hG.new aB cP.new0).D (fun hm=>by have:=cP.new0.le _ (show _∈keys _ by rw[bM];exact List.mem_append_left _ hm);have:=hG.d;have:=hG.le;omega) ((ER (q:=(S2,[])) bz.B 3).b (by simp)) (.inl (SlV.nil w')) (fun h=>absurd rfl h) (by decide) (fun k hk=>⟨(bz.H k).2,bz.pend (by simp) k hk⟩)) (fun v3 D3 hC3 nE=> ?_)
 obtain⟨G3,ed,nD⟩:=nE
 have uv:=cP.came hC3
 have ew:DkA D3 G3 (eW S2 []) (0+42+ [x].length+1):=⟨nD,Gt bz.H _,HP bz.B _⟩
 generalize eW S2 []=S3 at*
 rw[←ed]
 refine Ow.permL (M:=(b2, .cells (a8 x.l) 84 (0,0)):: (D3++ [(ba, .cells (a8 x.l) 84 (0,0))])) (by classical exact List.perm_iff_count.2 fun a=>by simp only[List.count_append,List.count_cons,List.count_nil]<;>omega) ?_
 have uw:Ext w [] ((b2, .cells (a8 x.l) 84 (0,0)):: (D3++ [(ba, .cells (a8 x.l) 84 (0,0))])):=uv.perm (by classical exact List.perm_iff_count.2 fun a=>by simp only[List.count_append,List.count_cons,List.count_nil]<;>omega)
 refine Ow.world fun wz jw=> ?_
 have i1:DkA ((b2, .cells (a8 x.l) 84 (0,0)):: (D3++ [(ba, .cells (a8 x.l) 84 (0,0))])) G3 S3 (0+42+ [x].length+1):=ew.mono fun b o h=>xN (A:= [(b2, .cells (a8 x.l) 84 (0,0))]) jw.nodup (bL h)
 clear jw
 generalize D3++ [(ba,Obj.cells (a8 x.l) 84 (0,0))]=D4 at*
 refine ko @gM ?_
 first|with_reducible refine ks [6] @gM ?_|refine kp @gM ?_
 refine Ow.callFV rfl Tryz.call62 (fun w' aB=>wV w' G3 S3 x (i1.P.world aB) i1.P.ok (hG.new aB uw.new0).C (hG.new aB uw.new0).E) ?_
 rw[a4]
 refine ko @gM ?_
 refine Ow.alloc rfl rfl eb fun b5 qy pd=> ?_
 simp only[aV,List.nil_append,List.cons_append]
 have Fb:b2<b5:=ae qy (by simp[keys])
 refine Ow.permL (M:=(b5, .cells #[vi 0,vs []] 82 (0,0)):: (b2, .cells (a8 x.l) 84 (0,0))::D4) (by classical exact List.perm_iff_count.2 fun a=>by simp only[List.count_append,List.count_cons,List.count_nil]<;>omega) ?_
 have gC:New w.heap.size ((b5, .cells #[vi 1,vs abT] 82 (0,0)):: (b2, .cells (a8 x.l) 84 (0,0))::D4):=⟨pd,uw.new0⟩
 have n5:DkA ((b5, .cells #[vi 1,vs abT] 82 (0,0)):: (b2, .cells (a8 x.l) 84 (0,0))::D4) G3 S3 (0+42+ [x].length+1):=i1.mono fun b o h=>xP qy h
 refine ko @gM ?_
 have z0: (((0:Nat):Int)==0)=true:=rfl
 have zb: (abT== [97,98])=true:=rfl
 refine Cw.regionS [b5,b2] [0,1,2,3,4,5,6,7,8,9,10,11,12,13,14,15,16,17,18,19,20,21,22,24,23,25,26,27,28] [] (by kernel_rfl) (by kernel_rfl) (by kernel_rfl) ?_
 simp only[ap, ↓ao, ↓ac, ↓aj, ↓ai,ad]
 refine kq (And.intro @gM (And.intro @z0 (@zb))) ?_
 refine Ow.soft rfl rfl rfl ?_
 refine Ow.callC rfl rfl Tryz.call64 (fun w' aB=>Hy G3 S3 m w' (n5.P.world aB) n5.P.ok (n5.b (by simp)) (hG.new aB gC)) (fun B6 v6 D6 Cj Fd jL hS6=> ?_)
 have W9:=gC.app (jL.mono Fd)
 have ln6:=rk hS6
 rw[a5] at ln6
 with_reducible refine Ow.nil ?_
 refine⟨FX (by simp[keys]), ?_⟩
 have z1: (((1:Nat):Int)==1)=true:=rfl
 refine kq (And.intro @gM (And.intro @ln6 (@z1))) ?_
 refine Ow.soft rfl rfl rfl ?_
 refine Ow.callFV rfl Tryz.call52 (fun w' aB=>xi x.l hx w') ?_
 with_reducible refine Ow.nil ?_
 refine⟨by intro b hb;simp only[List.mem_cons,List.not_mem_nil,or_false] at hb;(try subst hb);rfl, ?_⟩
 refine kq @gM ?_
 refine Ow.soft rfl rfl rfl ?_
 refine Ow.callFV rfl Tryz.call53 (fun w' aB=>Jc x.l hx w') ?_
 with_reducible refine Ow.nil ?_
 refine⟨by intro b hb;simp only[List.mem_cons,List.not_mem_nil,or_false] at hb;(try subst hb);rfl, ?_⟩
 refine kq (And.intro @gM @decide_true) ?_
 refine⟨_,(ke @gM),W9, ?_⟩
 rfl
end Go.Proofs
end
section
open Go Go.Proofs Go.Sx Go.StP Go.Dig
namespace Go.Proofs
set_option maxRecDepth 10000
set_option maxHeartbeats 1000000
set_option linter.unusedSimpArgs false
structure A5L where
 kind:Int
 n:Int
 ok:Int
 ot:List UInt8
 picks:PkL
def a5C (r:A5L):List Value:= [vi r.kind]++ ([vi r.n]++ ([vi r.ok]++ ([vs r.ot]++ ([r.picks.v]))))
def a50:A5L:=⟨0,0,0,[],pk0⟩
theorem wa (r:A5L): (a5C r).length=5:=by simp[a5C]
theorem te (r:A5L):Value.cells (.agg (a5C r).toArray)=(a5C r).toArray:=aV _
theorem UJ (r:A5L): (a5C r).all Value.oneCell'=true:=by
 unfold a5C
 simp only[List.all_append,List.all_cons,List.all_nil,rr,Bool.and_true,Bool.true_and]
 rw[r.picks.h.1];rfl
theorem zrA5:am Tryz.prog 97=some (.agg (a5C a50).toArray):=id (by kernel_rfl)
theorem Ux (r:A5L):a5C r=([]:List Value)++ (([vi r.kind])++ ([vi r.n]++ ([vi r.ok]++ ([vs r.ot]++ ([r.picks.v]))))):=by
 unfold a5C;simp only[List.append_assoc,List.nil_append,List.append_nil]
theorem tf (r:A5L) (n:Nat) (E:TypeId) (fz:Nat×Nat):aI (some (false,n)) (some (.cells (a5C r).toArray E fz)) 0=some (vi r.kind):=by
 rw[Ux];exact lS _ _ _ n E fz (by simp)
theorem Uk (r:A5L):a5C r=(([vi r.kind]))++ (([vi r.n])++ ([vi r.ok]++ ([vs r.ot]++ ([r.picks.v])))):=by
 unfold a5C;simp only[List.append_assoc,List.nil_append,List.append_nil]
theorem tW (r:A5L) (n:Nat) (E:TypeId) (fz:Nat×Nat):aI (some (false,n)) (some (.cells (a5C r).toArray E fz)) 1=some (vi r.n):=by
 rw[Uk];exact lS _ _ _ n E fz (by simp)
theorem VV (r:A5L):a5C r=(([vi r.kind])++ ([vi r.n]))++ (([vi r.ok])++ ([vs r.ot]++ ([r.picks.v]))):=by
 unfold a5C;simp only[List.append_assoc,List.nil_append,List.append_nil]
theorem th (r:A5L) (n:Nat) (E:TypeId) (fz:Nat×Nat):aI (some (false,n)) (some (.cells (a5C r).toArray E fz)) 2=some (vi r.ok):=by
 rw[VV];exact lS _ _ _ n E fz (by simp)
theorem VZ (r:A5L):a5C r=(([vi r.kind])++ ([vi r.n])++ ([vi r.ok]))++ (([vs r.ot])++ ([r.picks.v])):=by
 unfold a5C;simp only[List.append_assoc,List.nil_append,List.append_nil]
theorem tX (r:A5L) (n:Nat) (E:TypeId) (fz:Nat×Nat):aI (some (false,n)) (some (.cells (a5C r).toArray E fz)) 3=some (vs r.ot):=by
 rw[VZ];exact lS _ _ _ n E fz (by simp)
theorem Ut (r:A5L):a5C r=(([vi r.kind])++ ([vi r.n])++ ([vi r.ok])++ ([vs r.ot]))++ (([r.picks.v])++ (([]:List Value))):=by
 unfold a5C;simp only[List.append_assoc,List.nil_append,List.append_nil]
theorem tR (r:A5L) (n:Nat) (E:TypeId) (fz:Nat×Nat):aI (some (false,n)) (some (.cells (a5C r).toArray E fz)) 4=some (r.picks.v):=by
 rw[Ut];exact lS _ _ _ n E fz (by simp)
theorem uL (r:A5L) (E:TypeId) (fz:Nat×Nat):aI (some (true,5)) (some (.cells (a5C r).toArray E fz)) 0=some (.agg (a5C r).toArray):=rV _ E fz 5 (by rw[List.size_toArray,wa])
theorem Ry (old:Array Value) (r:A5L) (a:Bool) (E:TypeId) (h:old.size=5):ab (some (a,5)) (some (.cells old E (0,0))) 0 (.agg (a5C r).toArray)=some (.cells (a5C r).toArray E (0,0)):=xh _ a old E (wa r) (UJ r) h
theorem PL (r r':A5L) (a:Bool) (E:TypeId):ab (some (a,5)) (some (.cells (a5C r').toArray E (0,0))) 0 (.agg (a5C r).toArray)=some (.cells (a5C r).toArray E (0,0)):=Ry _ r a E (by rw[List.size_toArray,wa])
theorem CN {w:World} {v:Value} {l:List A5L} {b off:Nat} {arr:Array Value} {E:TypeId} {fz:Nat×Nat} (h:RowS 5 a5C a50 w v l b off arr E fz) {k:Nat} (hk:k<l.length):aI (some (true,5)) (some (.cells arr E fz)) (off+k*5)=some (.agg (a5C (l.getD k a50)).toArray):=RowS.load h wa (by omega) hk
def a5O (r:A5L):ObL:=⟨r.ok,r.ot⟩
theorem tT (r:A5L) (E:TypeId) (fz:Nat×Nat):aI (some (true,2)) (some (.cells (a5C r).toArray E fz)) 2=some (obV r.ok r.ot):=rfl
theorem TU {w:World} {v:Value} {l:List A5L} {b off:Nat} {arr:Array Value} {E:TypeId} {fz:Nat×Nat} (h:RowS 5 a5C a50 w v l b off arr E fz) {k:Nat} (hk:k<l.length):aI (some (true,2)) (some (.cells arr E fz)) (off+k*5+2)=some (obV (l.getD k a50).ok (l.getD k a50).ot):=by
 rw[RowS.part h wa hk (by omega) (by omega)];rfl
abbrev A5Sl (w:World) (v:Value) (l:List A5L):Prop:=SlV 5 a5C a50 w v l
structure A5Ok (w:World) (a:A5L):Prop where
 pk:PkS w a.picks.v a.picks.l
 n: -9223372036854775808≤a.n∧a.n<9223372036854775808
def s9 (a:A5L):Bool:=decide ((5000:Int)< (a.ot.length:Int)) ||decide ((100:Int)< (a.picks.l.length:Int))
set_option linter.defProp false
def ik:=And.intro (And.intro (And.intro (@ay) (@ax)) (And.intro (@uL) (And.intro (@tf) (@tW)))) (And.intro (And.intro (@th) (@tX)) (And.intro (@tR) (And.intro (@tT) (@te))))
theorem ZG (a:A5L) (w:World) (ha:A5Ok w a):Rets Tryz.prog 59 #[.agg (a5C a).toArray] w (fun v D=>v= .bool (s9 a)∧D= []):=by
 have lnp:=ha.pk.len
 refine Rets.enterV Tryz.func59 rfl (rs:= [.tmp 2]) Tryz.results59 Tryz.ntmps59 ?_
 refine kf ?_
 first|with_reducible refine ks [1] @ik ?_|refine kp @ik ?_
 refine Ow.box rfl rfl fun b1 aQ aF=> ?_
 simp only[d9,cu,d8,aV,List.nil_append,List.cons_append]
 refine Ow.go rfl ?_
 simp(disch:=(first|assumption|omega| (simp only[cT,cS,UInt64.reduceToNat];try omega))) only[↓Sx.S0,Sx.S1,Tryz.fx,ik,Nat.reduceAdd,Nat.reducePow,Int.reducePow,Nat.reduceBEq, ↓reduceIte,UInt8.reduceToNat,UInt16.reduceToNat,UInt32.reduceToNat,UInt64.reduceToNat,Int.reduceToNat]
 unfold s9
 cases h1:decide ((5000:Int)< (a.ot.length:Int)) with
 |true=>
  first|with_reducible refine ks [] (And.intro @ik @h1) ?_|refine kp (And.intro @ik @h1) ?_
  refine⟨_,(ke @ik),⟨aF,trivial⟩, ?_⟩
  rfl
 |false=>
  first|with_reducible refine ks [] (And.intro @ik (And.intro @h1 (@lnp))) ?_|refine kp (And.intro @ik (And.intro @h1 (@lnp))) ?_
  refine⟨_,(ke @ik),⟨aF,trivial⟩, ?_⟩
  rfl
end Go.Proofs
end
section
open Go Go.Proofs Go.Sx Go.StP Go.Dig
namespace Go.Proofs
set_option maxRecDepth 10000
set_option maxHeartbeats 1000000
set_option linter.unusedSimpArgs false
def pD (l:List A5L):List ObL:=(l.filter fun a=> !s9 a).map a5O
def mu (l:List A5L):List ObL:=pD (l.take 60)
theorem MB {l:List A5L} {k:Nat} (h:k<l.length):pD (l.take (k+1))=pD (l.take k)++ (if s9 (l.getD k a50)=true then [] else [a5O (l.getD k a50)]):=by
 unfold pD
 rw[StP.take_snoc (z:=a50) h,List.filter_append,List.map_append]
 generalize l.getD k a50=s
 cases hp:s9 s<;>simp[hp]
theorem zq (l:List A5L): (pD l).length≤l.length:=by
 unfold pD
 rw[List.length_map]
 exact List.length_filter_le _ _
theorem PV {l:List A5L} {i:Nat} (h:i<l.length) (h6:i<60) (hg:s9 (l.getD i a50)=false):a5O (l.getD i a50)∈mu l:=by
 have hm:l.getD i a50∈l.take 60:=by
  rw[List.getD_eq_getElem?_getD,List.getElem?_eq_getElem h]
  exact List.mem_iff_getElem.2 ⟨i,by rw[List.length_take];omega,by rw[List.getElem_take];rfl⟩
 exact List.mem_map.2 ⟨_,List.mem_filter.2 ⟨hm,by rw[hg];rfl⟩,rfl⟩
theorem A5Ok.old {w w':World} {L:aA} {a:A5L} (h:A5Ok w a) (hw:Hp w L w') (hn:New w.heap.size L):A5Ok w' a:=
 ⟨h.pk.old hw fun hl b hb hm=>by have:=hn.le b hm;have:=h.pk.blk hl hb;omega,h.n⟩
structure ObaG where
 i:Nat
 v:Value
 D:aA
 DG:aA
set_option linter.defProp false
def ia:=And.intro (And.intro (And.intro (@ay) (@ax)) (And.intro (@uL) (And.intro (@tf) (@tW)))) (And.intro (And.intro (@th) (@tX)) (And.intro (@tR) (And.intro (@tT) (@te))))
theorem WC_ (v:Value) (l:List A5L) (w:World) (hv:A5Sl w v l) (ha: ∀a,a∈l→A5Ok w a):
  Rets Tryz.prog 58 #[v] w (XS w [] (fun v D=>GrI D 82 2 v (mu l).length ((mu l).map obC).flatten)):=by
 have ln:=hv.len
 obtain⟨rb,off,arr,E,fz,hr⟩:=hv.row
 refine Rets.enterX Tryz.func58 rfl (rs:= [.tmp 2]) Tryz.results58 Tryz.ntmps58 (fun p hp=>by cases hp) (by simp[keys]) ?_
 refine kf ?_
 first|with_reducible refine ks [] @ia ?_|refine kp @ia ?_
 refine Cw.permL (M:= []++ []) (List.Perm.refl _) ?_
 refine Cw.loopG (G:=ObaG) [5,6,7,8,9,10,11,12,15,16,17,18,19,20,21,22,23,24,25,26,27,28,3,13,14,4] (fun g=> [(3,g.v),(4,vi g.i)]) (fun g=>g.D++g.DG) (fun g=>g.i≤l.length∧g.i≤60∧New w.heap.size g.D∧New w.heap.size g.DG∧Gr g.D 82 2 g.v (pD (l.take g.i)).length ((pD (l.take g.i)).map obC).flatten) (fun g=>l.length - g.i) ⟨0, .slice none 0 0,[],[]⟩ rfl rfl ?_ ?_
 ·exact⟨Nat.zero_le _,Nat.zero_le _,trivial,trivial,Gr.nl⟩
 intro g j hg
 refine kv ?_
 obtain⟨i,vo,D,DG⟩:=g
 simp only at hg ⊢
 obtain⟨hi,h6,hN,bQ,fL⟩:=hg
 by_cases aD:i<l.length
 ·have d1:decide ((i:Int)< (l.length:Int))=true:=decide_eq_true (by omega)
  by_cases sQ:i<60
  ·have d2:decide ((i:Int)<60)=true:=decide_eq_true (by omega)
   have lQ:=hr.lt (by omega)
   have ix:=hr.idx true i aD
   have ld:=CN hr aD
   have ldo:=TU hr aD
   have dq:=hr.has (show 0<l.length by omega)
   have rdl: ∀L,New w.heap.size L→aP w L rb=some (.cells arr E fz):=fun L hL=>by rw[lW (hL.not lQ)];exact dq
   have rd1:=rdl _ (hN.app bQ)
   have vE:=ha (l.getD i a50) (nX (z:=a50) aD)
   have fi:=MB aD
   have lL:=zq (l.take i)
   rw[List.length_take,Nat.min_eq_left (by omega)] at lL
   generalize l.getD i a50=a at*
   generalize pD (l.take i)=os at*
   first|with_reducible refine ks [6] (And.intro @ia (And.intro @d1 (And.intro @d2 (And.intro @ln (And.intro @ix (And.intro @rd1 (@ld))))))) ?_|refine kp (And.intro @ia (And.intro @d1 (And.intro @d2 (And.intro @ln (And.intro @ix (And.intro @rd1 (@ld))))))) ?_
   refine Ow.callFV rfl Tryz.call59 (fun w' aB=>ZG a w' (vE.old aB (hN.app bQ))) ?_
   cases hg:s9 a with
   |true=>
    rw[hg,if_pos rfl,List.append_nil] at fi
    refine ko @ia ?_
    first|with_reducible refine ks [] @ia ?_|refine kp @ia ?_
    exact Again.mk ⟨i+1,vo,D,DG⟩ (by show l.length - (i+1)<l.length - i;omega) ⟨aD,sQ,hN,bQ,by rw[fi];exact fL⟩ rfl rfl
   |false=>
    rw[hg,if_neg (by simp)] at fi
    refine ko @ia ?_
    first|with_reducible refine ks [] (And.intro @ia (And.intro @ln (And.intro @ix (And.intro @rd1 (@ldo))))) ?_|refine kp (And.intro @ia (And.intro @ln (And.intro @ix (And.intro @rd1 (@ldo))))) ?_
    refine Ow.buildSlice (e:=82) #[vi a.ok,vs a.ot] rfl rfl (lV (cs:=obC (a5O a)) Tryz.underlying94 Tryz.ag82 eb (by decide) rfl) fun bc sF mj=> ?_
    refine ko @ia ?_
    refine Ow.permL (M:=D++ (DG++ [(bc, .cells #[vi a.ok,vs a.ot] 82 (0,0))])) (by classical exact List.perm_iff_count.2 fun a=>by simp only[List.count_append,List.count_cons,List.count_nil]<;>omega) ?_
    refine Ow.appendXG (e:=82) (k:=1) (new:=obC (a5O a)) (X:=D) vo rfl rfl rfl rfl Tryz.underlying94 Tryz.ag82 (by kernel_rfl) eb (by rw[obV,aV];rfl) Tryz.underlying94 (by intro k h;cases h) fL (fun w' aB=>AppX.one1 (aB.has bc (.cells (obC (a5O a)).toArray 82 (0,0)) (by simp[obC,a5O])) (la _) (tG _)) (by omega) (fun B5 v5 D5 n5 n9 lj mY fU gX=> ?_)
    have gC:New w.heap.size D5:=New.of_le fun q hq=>by
     rcases fU q hq with h|h
     ·exact hN.le q h
     ·omega
    refine ko @ia ?_
    first|with_reducible refine ks [] @ia ?_|refine kp @ia ?_
    exact Again.mk ⟨i+1,v5,D5,DG++ [(bc, .cells #[vi a.ok,vs a.ot] 82 (0,0))]⟩ (by show l.length - (i+1)<l.length - i;omega) ⟨aD,sQ,gC,bQ.app ⟨mj,trivial⟩,by rw[fi];simpa using lj⟩ rfl rfl
  ·have d2:decide ((i:Int)<60)=false:=decide_eq_false (by omega)
   obtain rfl:i=60:=by omega
   first|with_reducible refine ks [] (And.intro @ia (And.intro @d1 (And.intro @d2 (@ln)))) ?_|refine kp (And.intro @ia (And.intro @d1 (And.intro @d2 (@ln)))) ?_
   refine⟨_,(ke @ia), ?_⟩
   exact⟨Ext.of_new (hN.app bQ),fL.i fun p hp=>by simp[hp]⟩
 ·have d1:decide ((i:Int)< (l.length:Int))=false:=decide_eq_false (by omega)
  obtain rfl:i=l.length:=by omega
  have he:mu l=pD (l.take l.length):=by
   unfold mu
   rw[List.take_of_length_le (by omega),List.take_of_length_le (Nat.le_refl _)]
  first|with_reducible refine ks [] (And.intro @ia (And.intro @d1 (@ln))) ?_|refine kp (And.intro @ia (And.intro @d1 (@ln))) ?_
  refine⟨_,(ke @ia), ?_⟩
  rw[he]
  exact⟨Ext.of_new (hN.app bQ),fL.i fun p hp=>by simp[hp]⟩
end Go.Proofs
end
section
open Go Go.Proofs Go.Sx Go.StP Go.Dig
namespace Go.Proofs
set_option maxRecDepth 10000
set_option maxHeartbeats 1000000
set_option linter.unusedSimpArgs false
set_option linter.defProp false
end Go.Proofs
end
section
open Go Go.Proofs Go.Sx Go.StP Go.Dig
namespace Go.Proofs
set_option maxRecDepth 10000
set_option maxHeartbeats 1000000
set_option linter.unusedSimpArgs false
set_option linter.defProp false
end Go.Proofs
end
section
open Go Go.Proofs Go.Sx Go.StP Go.Dig
namespace Go.Proofs
set_option maxRecDepth 10000
set_option maxHeartbeats 1000000
set_option linter.unusedSimpArgs false
structure KeG where
 i:Nat
 v:Value
 had:List ObL
 S:DiskL
 G:DkG
 X:aA
 D:aA
 DG:aA
set_option linter.defProp false
structure TlG where
 j:Nat
 DG:aA
theorem KeepI.up {all:List ObL} {S:DiskL} {had:List ObL} {n m:Nat} (h:KeepI all S had n) (hm:n≤m):KeepI all S had m:=⟨h.alls,h.max,Nat.le_trans h.used (by omega),h.names,h.had⟩
theorem DkA.upto {X:aA} {G:DkG} {S:DiskL} {N M:Nat} (h:DkA X G S N) (hm:N≤M):DkA X G S M:=⟨h.P,h.H,h.B.mono hm⟩
end Go.Proofs
end
section
open Go Go.Proofs Go.Sx Go.StP Go.Dig
namespace Go.Proofs
set_option maxRecDepth 10000
set_option maxHeartbeats 1000000
set_option linter.unusedSimpArgs false
set_option linter.defProp false
def aN:=And.intro (And.intro (And.intro (And.intro (@ay) (@ax)) (And.intro (@uL) (@tf))) (And.intro (And.intro (@tW) (@th)) (And.intro (@tX) (And.intro (@tR) (@tT))))) (And.intro (And.intro (And.intro (@te) (@PL)) (And.intro (@jV) (@jY))) (And.intro (And.intro (@jX) (@jW)) (And.intro (@Sx.tup2_0) (And.intro (@Sx.tup2_1) (@pC)))))
theorem VQ_ (v0:Value) (l0:List FiL) (v:Value) (l:List A5L) (c:UInt8) (pk:PkL) (m:Nat) (w:World) (hG:GlbA w m) (sZ:FiSl w v0 l0) (fT:FiB l0) (hv:A5Sl w v l) (ha: ∀a,a∈l→A5Ok w a) (lP:PkS w pk.v pk.l):
  Rets Tryz.prog 12 #[v0,v,v8 c,pk.v] w (fun v D=>v= .bool true∧D= []):=by
 have ln:=hv.len
 have lnp:=lP.len
 obtain⟨rb,off,arr,E,fz,hr⟩:=hv.row
 refine Rets.enterV Tryz.func12 rfl (rs:= [.tmp 8]) Tryz.results12 Tryz.ntmps12 ?_
 refine kf ?_
 first|with_reducible refine ks [] @aN ?_|refine kp @aN ?_
 refine Ow.callFV rfl Tryz.call48 (fun w' aB=>Ee m w' (hG.new aB trivial)) ?_
 refine ko @aN ?_
 cases pZ:decide ((100:Int)< (pk.l.length:Int)) with
 |true=>
  first|with_reducible refine ks [] (And.intro @aN (And.intro @lnp (@pZ))) ?_|refine kp (And.intro @aN (And.intro @lnp (@pZ))) ?_
  refine Ow.callFV rfl Tryz.call48 (fun w' aB=>Ee m w' (hG.new aB trivial)) ?_
  refine ko @aN ?_
  first|with_reducible refine ks [] @aN ?_|refine kp @aN ?_
  refine⟨_,(ke @aN),trivial, ?_⟩
  rfl
 |false=>
  have gG:=of_decide_eq_false pZ
  first|with_reducible refine ks [] (And.intro @aN (And.intro @lnp (@pZ))) ?_|refine kp (And.intro @aN (And.intro @lnp (@pZ))) ?_
  refine Ow.callC rfl rfl Tryz.call58 (fun w' aB=>WC_ v l w' (hv.oldN aB trivial) (fun a h=>(ha a h).old aB trivial)) (fun B1 v1 D1 fa fK eE fS=> ?_)
  rw[List.nil_append]
  have cZ:New w.heap.size D1:=eE.mono fK
  have lL: (mu l).length≤60:=Nat.le_trans (zq _) (by rw[List.length_take];omega)
  refine ko @aN ?_
  refine Ow.callFV rfl Tryz.call15 (fun w' aB=>JA v0 v1 l0 (mu l) w' (sZ.oldN aB cZ) fT ((fS.mono (fun q hq=>by simp[hq])).slV (z:=ob0) aB rfl rfl la) (by omega)) ?_
  cases ll:tA l0 (mu l) with
  |true=>
   refine ko @aN ?_
   first|with_reducible refine ks [] @aN ?_|refine kp @aN ?_
   refine Ow.callFV rfl Tryz.call48 (fun w' aB=>Ee m w' (hG.new aB cZ)) ?_
   refine ko @aN ?_
   first|with_reducible refine ks [] @aN ?_|refine kp @aN ?_
   refine⟨_,(ke @aN),cZ, ?_⟩
   rfl
  |false=>
   obtain⟨pW,j4,r9⟩:=Px ll
   refine ko @aN ?_
   first|with_reducible refine ks [] @aN ?_|refine kp @aN ?_
   refine Ow.callC rfl rfl Tryz.call16 (fun w' aB=>Qe 1000000 v0 l0 w' (by decide) (hG.new aB cZ).D (sZ.oldN aB cZ) (by omega) fT) (fun B0 vd D0 Vv uu pP Cx=> ?_)
   obtain⟨G0,rfl,nC⟩:=Cx
   have uy:New w.heap.size D0:=pP.mono uu
   have Zb:=QM (mu l) (BS nC.ok)
   have Ff:DkA D0 G0 (ofD 1000000 l0) l0.length:=⟨nC,BL _ l0,VR _ l0 fun f hf=>by have:=(r9 f hf).1;omega⟩
   have gm: ∀o,o∈mu l→o∈jE l0++mu l:=fun o h=>List.mem_append_right _ h
   generalize jE l0++mu l=all at*
   generalize ofD 1000000 l0=S0 at*
   refine ko @aN ?_
   first|with_reducible refine ks [] @aN ?_|refine kp @aN ?_
   refine Cw.permL (M:=D0++ ([]++D1)) (by classical exact List.perm_iff_count.2 fun a=>by simp only[List.count_append,List.count_cons,List.count_nil]<;>omega) ?_
   refine Cw.loopG (G:=KeG) [36,37,38,39,40,41,42,43,46,47,48,49,12,50,51,53,54,55,56,52,57,58,13,14,59,60,61,62,63,64,65,66,67,68,69,70,71,72,73,8,74,75,76,77,78,10,44,45,11] (fun g=> [(10,g.v),(11,vi g.i)]) (fun g=>g.X++ (g.D++g.DG)) (fun g=>g.i≤l.length∧g.i≤25∧g.G.bd=G0.bd∧DkA g.X g.G g.S (l0.length+44*g.i)∧RightI all g.S g.had∧New w.heap.size g.X∧New w.heap.size g.D∧New w.heap.size g.DG∧Gr g.D 82 2 g.v g.had.length (g.had.map obC).flatten∧g.had.length≤g.i) (fun g=>l.length - g.i) ⟨0, .slice none 0 0,[],S0,G0,D0,[],D1⟩ rfl rfl ?_ ?_
   ·exact⟨Nat.zero_le _,Nat.zero_le _,rfl,Ff,Zb,uy,trivial,cZ,Gr.nl,Nat.le_refl _⟩
   intro g j hg
   refine kv ?_
   clear Ff Zb
   obtain⟨i,vh,had,S,G,X,D,DG⟩:=g
   simp only at hg ⊢
   obtain⟨hi,Fb,cW,hA,hK,l8,mR,bQ,fL,x8⟩:=hg
   have hN:=l8.app (mR.app bQ)
   have hkX: ∀b,b∈keys X→m≤b:=fun b hb=>Nat.le_trans hG.le (l8.le b hb)
   rw[←cW]
   by_cases hc:i<l.length∧i<25
   ·obtain⟨aD,r8⟩:=hc
    have d1:decide ((i:Int)< (l.length:Int))=true:=decide_eq_true (by omega)
    have d2:decide ((i:Int)<25)=true:=decide_eq_true (by omega)
    have lQ:=hr.lt (by omega)
    have ix:=hr.idx true i aD
    have ld:=CN hr aD
    have dq:=hr.has (show 0<l.length by omega)
    have rd1:aP w (X++ (D++DG)) rb=some (.cells arr E fz):=by rw[lW (hN.not lQ)];exact dq
    have vE:=ha (l.getD i a50) (nX (z:=a50) aD)
    have lJ:=fun h=>gm _ (PV aD (by omega) h)
    generalize l.getD i a50=a at*
    first|with_reducible refine ks [13,23,29] (And.intro @aN (And.intro @d1 (And.intro @d2 (And.intro @ln (And.intro @ix (And.intro @rd1 (@ld))))))) ?_|refine kp (And.intro @aN (And.intro @d1 (And.intro @d2 (And.intro @ln (And.intro @ix (And.intro @rd1 (@ld))))))) ?_
    refine Ow.alloc rfl rfl zrA5 fun b6 pS j7=> ?_
    simp only[aV,List.nil_append,List.cons_append]
    refine Ow.permL (M:=(b6, .cells (a5C a50).toArray 97 (0,0)):: (X++ (D++DG))) (by classical exact List.perm_iff_count.2 fun a=>by simp only[List.count_append,List.count_cons,List.count_nil]<;>omega) ?_
    have jL:New w.heap.size ((b6, .cells (a5C a).toArray 97 (0,0)):: (X++ (D++DG))):=⟨j7,hN⟩
    have WA:New w.heap.size (X++ ((b6, .cells (a5C a).toArray 97 (0,0)):: (D++DG))):=l8.app ⟨j7,mR.app bQ⟩
    refine ko @aN ?_
    first|with_reducible refine ks [] @aN ?_|refine kp @aN ?_
    refine Ow.callFV rfl Tryz.call59 (fun w' aB=>ZG a w' (vE.old aB jL)) ?_
    cases hga:s9 a with
    |true=>
     refine Ow.permL (M:=X++ (D++ ((b6, .cells (a5C a).toArray 97 (0,0))::DG))) (by classical exact List.perm_iff_count.2 fun a=>by simp only[List.count_append,List.count_cons,List.count_nil]<;>omega) ?_
     refine ko @aN ?_
     first|with_reducible refine ks [] @aN ?_|refine kp @aN ?_
     exact Again.mk ⟨i+1,vh,had,S,G,X,D,(b6, .cells (a5C a).toArray 97 (0,0))::DG⟩ (by show l.length - (i+1)<l.length - i;omega) ⟨aD,r8,rfl,hA.upto (by show l0.length+44*i≤l0.length+44* (i+1);omega),hK,l8,mR,⟨j7,bQ⟩,fL,Nat.le_succ_of_le x8⟩ rfl rfl
    |false=>
     have ho:=lJ hga
     refine ko @aN ?_
     first|with_reducible refine ks [] @aN ?_|refine kp @aN ?_
     refine Ow.permL (M:=X++ ((b6, .cells (a5C a).toArray 97 (0,0)):: (D++DG))) (by classical exact List.perm_iff_count.2 fun a=>by simp only[List.count_append,List.count_cons,List.count_nil]<;>omega) ?_
     refine Ow.callX (X:=X) (Y:=(b6, .cells (a5C a).toArray 97 (0,0)):: (D++DG)) rfl rfl rfl Tryz.call60 (fun w' aB bD aw=>yS X G S (l0.length+44*i) m a.ok a.ot w' bD aw hA (by omega) (hG.new aB WA) hkX) (fun v4 X2 cv bK=> ?_)
     obtain⟨rfl,G2,cr,bz⟩:=bK
     have qu:New w.heap.size X2:=yE cv l8
     obtain⟨Cu,eX⟩:=OF hK j4 ho
     rw[show putL S (a5O a).k (a5O a).t=putL S a.ok a.ot from rfl] at eX Cu
     generalize putL S a.ok a.ot=p at*
     obtain⟨x,pe,S2⟩:=p
     simp only at eX Cu bz ⊢
     have hx:=x.h
     have r6:=id0.h
     refine ko @aN ?_
     refine Ow.alloc rfl rfl iV fun b7 x3 ol=> ?_
     simp only[aV,List.nil_append,List.cons_append]
     have h67:b6<b7:=ae x3 (by simp[keys])
     refine Ow.permL (M:=(b7, .cells (a8 id0.l) 84 (0,0)):: (b6, .cells (a5C a).toArray 97 (0,0)):: (X2++ (D++DG))) (by classical exact List.perm_iff_count.2 fun a=>by simp only[List.count_append,List.count_cons,List.count_nil]<;>omega) ?_
     have nB:New w.heap.size ((b7, .cells (a8 x.l) 84 (0,0)):: (b6, .cells (a5C a).toArray 97 (0,0)):: (X2++ (D++DG))):=⟨ol,j7,qu.app (mR.app bQ)⟩
     refine ko @aN ?_
     by_cases he:pe=0
     ·subst he
      obtain⟨hrk,rfl,hvw⟩:=eX rfl
      have e1: (((0:Nat):Int)==0)=true:=rfl
      have oW:=FM (UInt8.ofInt (i:Int)) 4 (by decide)
      have ly:=FM c 4 (by decide)
      cases hq: (UInt8.ofInt (i:Int)%4==c%4) with
      |true=>
       have Dx:=Ir Cu j4 ho hrk hvw
       obtain⟨xo,Xt⟩: ∃xo,idV (a5O a).k (a5O a).t=xo:=⟨_,rfl⟩
       rw[Xt] at Dx hx ⊢
       first|with_reducible refine ks [] (And.intro @aN (And.intro @e1 (And.intro @oW (And.intro @ly (@hq))))) ?_|refine kp (And.intro @aN (And.intro @e1 (And.intro @oW (And.intro @ly (@hq))))) ?_
       refine Ow.buildSlice (e:=84) (a8 xo.l) rfl rfl (lV (cs:=xo.l.map v8) Tryz.underlying106 pI iV (by decide) (by simp[xo.h])) fun ba pT ou=> ?_
       refine ko @aN ?_
       have h7a:b7<ba:=ae pT (by simp[keys])
       have h6a:b6<ba:=ae pT (by simp[keys])
       have hna:ba∉keys X2:=fun hm=>by
        have:=ae pT (show ba∈keys _ from List.mem_cons_of_mem _ (List.mem_cons_of_mem _ (by rw[←keys,bM];exact List.mem_append_left _ hm)))
        omega
       refine Ow.permL (M:=X2++ ((b7, .cells (a8 xo.l) 84 (0,0)):: (b6, .cells (a5C a).toArray 97 (0,0)):: (ba, .cells (a8 xo.l) 84 (0,0)):: (D++DG))) (by classical exact List.perm_iff_count.2 fun a=>by simp only[List.count_append,List.count_cons,List.count_nil]<;>omega) ?_
       rw[←cr]
       refine Ow.callX (X:=X2) (Y:=(b7, .cells (a8 xo.l) 84 (0,0)):: (b6, .cells (a5C a).toArray 97 (0,0)):: (ba, .cells (a8 xo.l) 84 (0,0)):: (D++DG)) rfl rfl rfl Tryz.call63 (fun w' aB bD aw=>YO X2 G2 S2 (l0.length+44*i+42) _ [xo] ba 0 _ _ _ w' bD aw bz (by simp;omega) (AL (aB.has ba (.cells (a8 xo.l) 84 (0,0)) (by simp))) (fun _=>(Array.getElem?_eq_some_iff.1 (aB.has ba (.cells (a8 xo.l) 84 (0,0)) (by simp))).1) (fun _=>hna)) (fun v5 X3 W1 vC=> ?_)
       obtain⟨rfl,G3,WJ,ew⟩:=vC
       have WC:New w.heap.size X3:=yE W1 qu
       generalize py [xo] S2=q at*
       obtain⟨qe,S3⟩:=q
       simp only at Dx ew ⊢
       obtain⟨rfl,hR3⟩:=Dx
       rw[←WJ]
       refine Ow.permL (M:=(b7, .cells (a8 xo.l) 84 (0,0)):: (b6, .cells (a5C a).toArray 97 (0,0)):: (ba, .cells (a8 xo.l) 84 (0,0)):: (X3++ (D++DG))) (by classical exact List.perm_iff_count.2 fun a=>by simp only[List.count_append,List.count_cons,List.count_nil]<;>omega) ?_
       have e0: (((0:Nat):Int) !=0)=false:=rfl
       refine ko @aN ?_
       first|with_reducible refine ks [] (And.intro @aN @e0) ?_|refine kp (And.intro @aN @e0) ?_
       refine Ow.buildSlice (e:=82) #[vi a.ok,vs a.ot] rfl rfl (lV (cs:=obC (a5O a)) Tryz.underlying94 Tryz.ag82 eb (by decide) rfl) fun bc sF mj=> ?_
       refine ko @aN ?_
       refine Ow.permL (M:=D++ (X3++ ((b7, .cells (a8 xo.l) 84 (0,0)):: (b6, .cells (a5C a).toArray 97 (0,0)):: (ba, .cells (a8 xo.l) 84 (0,0)):: (bc, .cells #[vi a.ok,vs a.ot] 82 (0,0))::DG))) (by classical exact List.perm_iff_count.2 fun a=>by simp only[List.count_append,List.count_cons,List.count_nil]<;>omega) ?_
       refine Ow.appendXG (e:=82) (k:=1) (new:=obC (a5O a)) (X:=D) vh rfl rfl rfl rfl Tryz.underlying94 Tryz.ag82 (by kernel_rfl) eb (by rw[obV,aV];rfl) Tryz.underlying94 (by intro k h;cases h) fL (fun w' aB=>AppX.one1 (aB.has bc (.cells (obC (a5O a)).toArray 82 (0,0)) (by simp[obC,a5O])) (la _) (tG _)) (by omega) (fun B5 v5 D5 n5 n9 lj mY fU gX=> ?_)
       have gC:New w.heap.size D5:=New.of_le fun q hq=>by
        rcases fU q hq with h|h
        ·exact mR.le q h
        ·omega
       refine Ow.permL (M:=X3++ (D5++ ((b7, .cells (a8 xo.l) 84 (0,0)):: (b6, .cells (a5C a).toArray 97 (0,0)):: (ba, .cells (a8 xo.l) 84 (0,0)):: (bc, .cells #[vi a.ok,vs a.ot] 82 (0,0))::DG))) (by classical exact List.perm_iff_count.2 fun a=>by simp only[List.count_append,List.count_cons,List.count_nil]<;>omega) ?_
       refine ko @aN ?_
       first|with_reducible refine ks [] @aN ?_|refine kp @aN ?_
       exact Again.mk ⟨i+1,v5,had++ [a5O a],S3,G3,X3,D5,(b7, .cells (a8 xo.l) 84 (0,0)):: (b6, .cells (a5C a).toArray 97 (0,0)):: (ba, .cells (a8 xo.l) 84 (0,0)):: (bc, .cells #[vi a.ok,vs a.ot] 82 (0,0))::DG⟩ (by show l.length - (i+1)<l.length - i;omega) ⟨aD,r8,rfl,ew.upto (by show l0.length+44*i+42+1+1≤l0.length+44* (i+1);omega),hR3,WC,gC,⟨ol,j7,ou,mj,bQ⟩,by simpa using lj,by show(had++ [a5O a]).length≤i+1;rw[List.length_append];simp;exact x8⟩ rfl rfl
      |false=>
       obtain⟨xo,Xt⟩: ∃xo,idV (a5O a).k (a5O a).t=xo:=⟨_,rfl⟩
       rw[Xt]
       refine Cw.permL (M:=X2++ (D++ ((b7, .cells (a8 xo.l) 84 (0,0)):: (b6, .cells (a5C a).toArray 97 (0,0))::DG))) (by classical exact List.perm_iff_count.2 fun a=>by simp only[List.count_append,List.count_cons,List.count_nil]<;>omega) ?_
       first|with_reducible refine ks [] (And.intro @aN (And.intro @e1 (And.intro @oW (And.intro @ly (@hq))))) ?_|refine kp (And.intro @aN (And.intro @e1 (And.intro @oW (And.intro @ly (@hq))))) ?_
       exact Again.mk ⟨i+1,vh,had,S2,G2,X2,D,(b7, .cells (a8 xo.l) 84 (0,0)):: (b6, .cells (a5C a).toArray 97 (0,0))::DG⟩ (by show l.length - (i+1)<l.length - i;omega) ⟨aD,r8,cr,bz.upto (by show l0.length+44*i+42≤l0.length+44* (i+1);omega),Cu,qu,mR,⟨ol,j7,bQ⟩,fL,Nat.le_succ_of_le x8⟩ rfl rfl
     ·have e1: ((pe:Int)==0)=false:=beq_eq_false_iff_ne.2 (by omega)
      refine Cw.permL (M:=X2++ (D++ ((b7, .cells (a8 x.l) 84 (0,0)):: (b6, .cells (a5C a).toArray 97 (0,0))::DG))) (by classical exact List.perm_iff_count.2 fun a=>by simp only[List.count_append,List.count_cons,List.count_nil]<;>omega) ?_
      first|with_reducible refine ks [] (And.intro @aN @e1) ?_|refine kp (And.intro @aN @e1) ?_
      exact Again.mk ⟨i+1,vh,had,S2,G2,X2,D,(b7, .cells (a8 x.l) 84 (0,0)):: (b6, .cells (a5C a).toArray 97 (0,0))::DG⟩ (by show l.length - (i+1)<l.length - i;omega) ⟨aD,r8,cr,bz.upto (by show l0.length+44*i+42≤l0.length+44* (i+1);omega),Cu,qu,mR,⟨ol,j7,bQ⟩,fL,Nat.le_succ_of_le x8⟩ rfl rfl
   ·by_cases aD:i<l.length
    ·have d1:decide ((i:Int)< (l.length:Int))=true:=decide_eq_true (by omega)
     have d2:decide ((i:Int)<25)=false:=decide_eq_false (by omega)
     first|with_reducible refine ks [23,29] (And.intro @aN (And.intro @d1 (And.intro @d2 (@ln)))) ?_|refine kp (And.intro @aN (And.intro @d1 (And.intro @d2 (@ln)))) ?_
     refine Ow.callX (X:=X) (Y:=D++DG) rfl rfl rfl Tryz.call22 (fun w' aB bD aw=>Hw X G S pk.v pk.l w' bD aw hA.P (hG.new aB hN).D (Az hG.D l8) ((ER (q:=(S,pk.l)) hA.B 3).b (by omega)) (lP.old aB fun hl b hb=>hN.not (lP.blk hl hb)) (fun hl b hb=>⟨Nat.lt_of_lt_of_le (lP.blk hl hb) aB.size,l8.not (lP.blk hl hb)⟩) (by omega) (fun k hk=>⟨(hA.H k).2,hA.pend (by omega) k hk⟩)) (fun v72 X7 W2 qw=> ?_)
     obtain⟨G7,vK,Cr⟩:=qw
     have l9:New w.heap.size X7:=yE W2 l8
     have iw:DkA X7 G7 (eW S pk.l) (l0.length+44*i):=⟨Cr,Gt hA.H _,HP hA.B _⟩
     have pU:=fun(o:ObL) (ho:o∈had)=>YA hK pk.l ho
     generalize eW S pk.l=S7 at*
     rw[←vK]
     refine ko @aN ?_
     first|with_reducible refine ks [] @aN ?_|refine kp @aN ?_
     have nB:=l9.app (mR.app bQ)
     refine Ow.callC rfl rfl Tryz.call64 (fun w' aB=>Hy G7 S7 m w' ⟨X7,fun b o h=>aB.has _ _ (by simp[cO h]),iw.P⟩ iw.P.ok (iw.b (by omega)) (hG.new aB nB)) (fun B5 v5 D5 n5 n9 gC vC=> ?_)
     have o9:New w.heap.size D5:=gC.mono n9
     have xB:=fun(x:IdL) (h:x∈n3 S7)=>Bw h
     have gW: (n3 S7).length≤1000000:=Nat.le_trans (HM _ _) (uM (iw.b (by omega)) aG).1
     generalize n3 S7=ids at*
     refine ko @aN ?_
     refine Cw.permL (M:=D5++ (D++ (X7++DG))) (by classical exact List.perm_iff_count.2 fun a=>by simp only[List.count_append,List.count_cons,List.count_nil]<;>omega) ?_
     refine Cw.world fun w1 aF=> ?_
     obtain⟨ib2,ioff,iarr,IE,ifz,w6,vn⟩:=vC.rowL (z:=id0) rfl aF.part pn
     obtain⟨aZ,vv,dm,HE,x5,w5,vl⟩:=(fL.i fun p hp=>hp).rowL (z:=ob0) rfl ((aF.perm (M:=D++ (D5++ (X7++DG))) (by classical exact List.perm_iff_count.2 fun a=>by simp only[List.count_append,List.count_cons,List.count_nil]<;>omega)).part) la
     have oP: (keys (D5++D)).Nodup:=by
      have:=aF.nodup
      rw[←List.append_assoc,bM] at this
      exact(List.nodup_append.1 this).1
     clear aF
     have lnI:=fun x=>w6.len x
     have lnD:=fun x=>w5.len x
     have rdI: ∀ (Y:aA),0<ids.length→aP w (D5++Y) ib2=some (.cells iarr IE ifz):=fun Y h0=>aY (bL (vn h0))
     have rdD: ∀ (Y:aA),0<had.length→aP w (D5++ (D++Y)) aZ=some (.cells dm HE x5):=fun Y h0=>by
      rw[←List.append_assoc]
      exact aY (bL (xN (A:=D5) oP (vl h0)))
     clear oP
     first|with_reducible refine ks [23,29] @aN ?_|refine kp @aN ?_
     refine Cw.loopG (G:=TlG) [84,85,86,87,91,92,93,94,95,96,90,97,98,17,18,99,100,101,102,103,104,105,106,107,108,109,8,88,89,16] (fun g=> [(16,vi g.j)]) (fun g=>D5++ (D++ (X7++g.DG))) (fun g=>g.j≤ids.length∧New w.heap.size g.DG) (fun g=>ids.length - g.j) ⟨0,DG⟩ rfl rfl ?_ ?_
     ·exact⟨Nat.zero_le _,bQ⟩
     intro g j hg
     refine kv ?_
     obtain⟨j,DG2⟩:=g
     simp only at hg ⊢
     obtain⟨hj,ec⟩:=hg
     have jh:New w.heap.size (D5++ (D++ (X7++DG2))):=o9.app (mR.app (l9.app ec))
     by_cases hjt:j<ids.length
     ·have c1:decide ((j:Int)< (ids.length:Int))=true:=decide_eq_true (by omega)
      have ixI:=w6.idx true j hjt
      have ldI:=rz w6 hjt
      have rdj:=rdI (D++ (X7++DG2)) (by omega)
      have rR:=xB _ (nX (z:=id0) hjt)
      generalize ids.getD j id0=x at*
      obtain⟨rS,EG⟩:=Br rR
      first|with_reducible refine ks [23,29] (And.intro @aN (And.intro @c1 (And.intro @lnI (And.intro @ixI (And.intro @rdj (@ldI)))))) ?_|refine kp (And.intro @aN (And.intro @c1 (And.intro @lnI (And.intro @ixI (And.intro @rdj (@ldI)))))) ?_
      refine Ow.callFV rfl Tryz.call62 (fun w' aB=>wV w' G7 S7 x ⟨X7,fun b o h=>aB.has _ _ (by simp[cO h]),iw.P⟩ iw.P.ok (hG.new aB jh).C (hG.new aB jh).E) ?_
      generalize fA S7 x=gg at*
      obtain⟨gk,gt,ge⟩:=gg
      simp only at rR rS EG
      subst rR
      simp only
      have x6:=y7 rS
      have iP:Dig.shaR (m5 gk gt)=x.l:=by
       have e:idV gk gt=⟨Dig.shaR (dk gk gt),rW _⟩:=if_pos rS
       rw[←EG,e]
       exact congrArg Dig.shaR (Eb rS)
      refine ko @aN ?_
      refine Ow.alloc rfl rfl eb fun b14 i4 jv=> ?_
      simp only[aV,List.nil_append,List.cons_append]
      refine Ow.permL (M:=(b14, .cells #[vi 0,vs []] 82 (0,0)):: (D5++ (D++ (X7++DG2)))) (by classical exact List.perm_iff_count.2 fun a=>by simp only[List.count_append,List.count_cons,List.count_nil]<;>omega) ?_
      have n14: ∀c,c∈keys (D5++ (D++ (X7++DG2)))→c<b14:=fun c hc=>ae i4 hc
      have n14A:b14∉keys (D5++ (D++X7)):=fun hm=>by
       have:=n14 b14 (by
        rw[show D5++ (D++ (X7++DG2))=(D5++ (D++X7))++DG2 by simp only[List.append_assoc],bM]
        exact List.mem_append_left _ hm)
       omega
      refine ko @aN ?_
      refine Cw.permL (M:=D5++ (D++ (X7++ ((b14, .cells #[vi gk,vs gt] 82 (0,0))::DG2)))) (by classical exact List.perm_iff_count.2 fun a=>by simp only[List.count_append,List.count_cons,List.count_nil]<;>omega) ?_
      have nq:aT Tryz.prog .neq 84 (.agg (a8 x.l)) (.agg (a8 x.l))=some (.bool false):=(mJ x x).trans (by rw[beq_self_eq_true];rfl)
      have e0: (((0:Nat):Int) !=0)=false:=rfl
      have rdk:=rdI (D++ (X7++ ((b14, .cells #[vi gk,vs gt] 82 (0,0))::DG2))) (by omega)
      have rd14:aP w (D5++ (D++ (X7++ ((b14, .cells #[vi gk,vs gt] 82 (0,0))::DG2)))) b14=some (.cells #[vi gk,vs gt] 82 (0,0)):=by
       rw[show D5++ (D++ (X7++ ((b14,Obj.cells #[vi gk,vs gt] 82 (0,0))::DG2)))=(D5++ (D++X7))++ ((b14,Obj.cells #[vi gk,vs gt] 82 (0,0))::DG2) by simp only[List.append_assoc]]
       exact aY (by rw[gi n14A];simp[Sx.look])
      refine Cw.regionS [b14,ib2] [0,1,2,5,6,7,3,8,4,9,10] [] (by kernel_rfl) (by kernel_rfl) (by kernel_rfl) ?_
      simp only[ap, ↓ao, ↓ac, ↓aj, ↓ai,ad]
      refine kq (And.intro @aN (And.intro @e0 (And.intro @rd14 (And.intro @ixI (And.intro @rdk (@ldI)))))) ?_
      refine Ow.soft rfl rfl rfl ?_
      refine Ow.callFV rfl Tryz.call55 (fun w' aB=>xm gk gt w' (by omega)) ?_
      rw[iP]
      with_reducible refine Ow.nil ?_
      refine⟨by intro b hb;simp only[List.mem_cons,List.not_mem_nil,or_false] at hb;(try subst hb);rfl, ?_⟩
      refine kq (And.intro @aN (And.intro @e0 (And.intro @rd14 (And.intro @ixI (And.intro @rdk (And.intro @ldI (@nq))))))) ?_
      first|with_reducible refine ks [] @aN ?_|refine kp @aN ?_
      exact Again.mk ⟨j+1,(b14, .cells #[vi gk,vs gt] 82 (0,0))::DG2⟩ (by show ids.length - (j+1)<ids.length - j;omega) ⟨hjt,jv,ec⟩ rfl rfl
     ·obtain rfl:j=ids.length:=by omega
      have c1:decide ((ids.length:Int)< (ids.length:Int))=false:=decide_eq_false (by omega)
      clear hj
      first|with_reducible refine ks [29] (And.intro @aN (And.intro @c1 (@lnI))) ?_|refine kp (And.intro @aN (And.intro @c1 (@lnI))) ?_
      refine Cw.loopG (G:=TlG) [110,111,112,113,117,118,119,120,121,122,123,116,124,125,20,21,126,127,128,129,130,131,132,133,134,135,8,114,115,19] (fun g=> [(19,vi g.j)]) (fun g=>D5++ (D++ (X7++g.DG))) (fun g=>g.j≤had.length∧New w.heap.size g.DG) (fun g=>had.length - g.j) ⟨0,DG2⟩ rfl rfl ?_ ?_
      ·exact⟨Nat.zero_le _,ec⟩
      intro g j hg
      refine kv ?_
      clear ec jh
      obtain⟨j,DG2⟩:=g
      simp only at hg ⊢
      obtain⟨hj,ec⟩:=hg
      have jh:New w.heap.size (D5++ (D++ (X7++DG2))):=o9.app (mR.app (l9.app ec))
      by_cases hjt:j<had.length
      ·have c1:decide ((j:Int)< (had.length:Int))=true:=decide_eq_true (by omega)
       have ixD:=w5.idx true j hjt
       have ldD:=Bd w5 hjt
       have rdj:=rdD (X7++DG2) (by omega)
       obtain⟨nK,XG⟩:=pU _ (nX (z:=ob0) hjt)
       generalize had.getD j ob0=o at*
       have rI:=y7 nK
       have iP:Dig.shaR (m5 o.k o.t)=(idV o.k o.t).l:=by
        have e:idV o.k o.t=⟨Dig.shaR (dk o.k o.t),rW _⟩:=if_pos nK
        rw[e]
        exact congrArg Dig.shaR (Eb nK)
       first|with_reducible refine ks [29] (And.intro @aN (And.intro @c1 (And.intro @lnD (And.intro @ixD (And.intro @rdj (@ldD)))))) ?_|refine kp (And.intro @aN (And.intro @c1 (And.intro @lnD (And.intro @ixD (And.intro @rdj (@ldD)))))) ?_
       refine Ow.callFV rfl Tryz.call55 (fun w' aB=>xm o.k o.t w' (by omega)) ?_
       rw[iP]
       refine ko @aN ?_
       refine Ow.callFV rfl Tryz.call62 (fun w' aB=>wV w' G7 S7 (idV o.k o.t) ⟨X7,fun b o h=>aB.has _ _ (by simp[cO h]),iw.P⟩ iw.P.ok (hG.new aB jh).C (hG.new aB jh).E) ?_
       rw[XG]
       simp only
       refine ko @aN ?_
       refine Ow.alloc rfl rfl eb fun b14 i4 jv=> ?_
       simp only[aV,List.nil_append,List.cons_append]
       refine Ow.permL (M:=(b14, .cells #[vi 0,vs []] 82 (0,0)):: (D5++ (D++ (X7++DG2)))) (by classical exact List.perm_iff_count.2 fun a=>by simp only[List.count_append,List.count_cons,List.count_nil]<;>omega) ?_
       have n14: ∀c,c∈keys (D5++ (D++ (X7++DG2)))→c<b14:=fun c hc=>ae i4 hc
       have n14A:b14∉keys (D5++ (D++X7)):=fun hm=>by
        have:=n14 b14 (by
         rw[show D5++ (D++ (X7++DG2))=(D5++ (D++X7))++DG2 by simp only[List.append_assoc],bM]
         exact List.mem_append_left _ hm)
        omega
       refine ko @aN ?_
       refine Cw.permL (M:=D5++ (D++ (X7++ ((b14, .cells #[vi o.k,vs o.t] 82 (0,0))::DG2)))) (by classical exact List.perm_iff_count.2 fun a=>by simp only[List.count_append,List.count_cons,List.count_nil]<;>omega) ?_
       have nq:aT Tryz.prog .neq 82 (obV o.k o.t) (obV o.k o.t)=some (.bool false):=(CS o o).trans (by rw[decide_eq_true rfl];rfl)
       have e0: (((0:Nat):Int) !=0)=false:=rfl
       have rdk:=rdD (X7++ ((b14, .cells #[vi o.k,vs o.t] 82 (0,0))::DG2)) (by omega)
       have rd14:aP w (D5++ (D++ (X7++ ((b14, .cells #[vi o.k,vs o.t] 82 (0,0))::DG2)))) b14=some (.cells #[vi o.k,vs o.t] 82 (0,0)):=by
        rw[show D5++ (D++ (X7++ ((b14,Obj.cells #[vi o.k,vs o.t] 82 (0,0))::DG2)))=(D5++ (D++X7))++ ((b14,Obj.cells #[vi o.k,vs o.t] 82 (0,0))::DG2) by simp only[List.append_assoc]]
        exact aY (by rw[gi n14A];simp[Sx.look])
       refine Cw.regionS [b14,aZ] [0,1,2,4,5,6,3,7,8,9] [] (by kernel_rfl) (by kernel_rfl) (by kernel_rfl) ?_
       simp only[ap, ↓ao, ↓ac, ↓aj, ↓ai,ad]
       refine kq (And.intro @aN (And.intro @e0 (And.intro @rd14 (And.intro @ixD (And.intro @rdk (And.intro @ldD (@nq))))))) ?_
       first|with_reducible refine ks [] @aN ?_|refine kp @aN ?_
       exact Again.mk ⟨j+1,(b14, .cells #[vi o.k,vs o.t] 82 (0,0))::DG2⟩ (by show had.length - (j+1)<had.length - j;omega) ⟨hjt,jv,ec⟩ rfl rfl
      ·obtain rfl:j=had.length:=by omega
       have c1:decide ((had.length:Int)< (had.length:Int))=false:=decide_eq_false (by omega)
       first|with_reducible refine ks [] (And.intro @aN (And.intro @c1 (@lnD))) ?_|refine kp (And.intro @aN (And.intro @c1 (@lnD))) ?_
       refine Ow.callFV rfl Tryz.call48 (fun w' aB=>Ee m w' (hG.new aB jh)) ?_
       refine ko @aN ?_
       first|with_reducible refine ks [] @aN ?_|refine kp @aN ?_
       refine⟨_,(ke @aN),jh, ?_⟩
       rfl
    ·have d1:decide ((i:Int)< (l.length:Int))=false:=decide_eq_false (by omega)
     first|with_reducible refine ks [23,29] (And.intro @aN (And.intro @d1 (@ln))) ?_|refine kp (And.intro @aN (And.intro @d1 (@ln))) ?_
     refine Ow.callX (X:=X) (Y:=D++DG) rfl rfl rfl Tryz.call22 (fun w' aB bD aw=>Hw X G S pk.v pk.l w' bD aw hA.P (hG.new aB hN).D (Az hG.D l8) ((ER (q:=(S,pk.l)) hA.B 3).b (by omega)) (lP.old aB fun hl b hb=>hN.not (lP.blk hl hb)) (fun hl b hb=>⟨Nat.lt_of_lt_of_le (lP.blk hl hb) aB.size,l8.not (lP.blk hl hb)⟩) (by omega) (fun k hk=>⟨(hA.H k).2,hA.pend (by omega) k hk⟩)) (fun v72 X7 W2 qw=> ?_)
     obtain⟨G7,vK,Cr⟩:=qw
     have l9:New w.heap.size X7:=yE W2 l8
     have iw:DkA X7 G7 (eW S pk.l) (l0.length+44*i):=⟨Cr,Gt hA.H _,HP hA.B _⟩
     have pU:=fun(o:ObL) (ho:o∈had)=>YA hK pk.l ho
     generalize eW S pk.l=S7 at*
     rw[←vK]
     refine ko @aN ?_
     first|with_reducible refine ks [] @aN ?_|refine kp @aN ?_
     have nB:=l9.app (mR.app bQ)
     refine Ow.callC rfl rfl Tryz.call64 (fun w' aB=>Hy G7 S7 m w' ⟨X7,fun b o h=>aB.has _ _ (by simp[cO h]),iw.P⟩ iw.P.ok (iw.b (by omega)) (hG.new aB nB)) (fun B5 v5 D5 n5 n9 gC vC=> ?_)
     have o9:New w.heap.size D5:=gC.mono n9
     have xB:=fun(x:IdL) (h:x∈n3 S7)=>Bw h
     have gW: (n3 S7).length≤1000000:=Nat.le_trans (HM _ _) (uM (iw.b (by omega)) aG).1
     generalize n3 S7=ids at*
     refine ko @aN ?_
     refine Cw.permL (M:=D5++ (D++ (X7++DG))) (by classical exact List.perm_iff_count.2 fun a=>by simp only[List.count_append,List.count_cons,List.count_nil]<;>omega) ?_
     refine Cw.world fun w1 aF=> ?_
     obtain⟨ib2,ioff,iarr,IE,ifz,w6,vn⟩:=vC.rowL (z:=id0) rfl aF.part pn
     obtain⟨aZ,vv,dm,HE,x5,w5,vl⟩:=(fL.i fun p hp=>hp).rowL (z:=ob0) rfl ((aF.perm (M:=D++ (D5++ (X7++DG))) (by classical exact List.perm_iff_count.2 fun a=>by simp only[List.count_append,List.count_cons,List.count_nil]<;>omega)).part) la
     have oP: (keys (D5++D)).Nodup:=by
      have:=aF.nodup
      rw[←List.append_assoc,bM] at this
      exact(List.nodup_append.1 this).1
     clear aF
     have lnI:=fun x=>w6.len x
     have lnD:=fun x=>w5.len x
     have rdI: ∀ (Y:aA),0<ids.length→aP w (D5++Y) ib2=some (.cells iarr IE ifz):=fun Y h0=>aY (bL (vn h0))
     have rdD: ∀ (Y:aA),0<had.length→aP w (D5++ (D++Y)) aZ=some (.cells dm HE x5):=fun Y h0=>by
      rw[←List.append_assoc]
      exact aY (bL (xN (A:=D5) oP (vl h0)))
     clear oP
     first|with_reducible refine ks [23,29] @aN ?_|refine kp @aN ?_
     refine Cw.loopG (G:=TlG) [84,85,86,87,91,92,93,94,95,96,90,97,98,17,18,99,100,101,102,103,104,105,106,107,108,109,8,88,89,16] (fun g=> [(16,vi g.j)]) (fun g=>D5++ (D++ (X7++g.DG))) (fun g=>g.j≤ids.length∧New w.heap.size g.DG) (fun g=>ids.length - g.j) ⟨0,DG⟩ rfl rfl ?_ ?_
     ·exact⟨Nat.zero_le _,bQ⟩
     intro g j hg
     refine kv ?_
     obtain⟨j,DG2⟩:=g
     simp only at hg ⊢
     obtain⟨hj,ec⟩:=hg
     have jh:New w.heap.size (D5++ (D++ (X7++DG2))):=o9.app (mR.app (l9.app ec))
     by_cases hjt:j<ids.length
     ·have c1:decide ((j:Int)< (ids.length:Int))=true:=decide_eq_true (by omega)
      have ixI:=w6.idx true j hjt
      have ldI:=rz w6 hjt
      have rdj:=rdI (D++ (X7++DG2)) (by omega)
      have rR:=xB _ (nX (z:=id0) hjt)
      generalize ids.getD j id0=x at*
      obtain⟨rS,EG⟩:=Br rR
      first|with_reducible refine ks [23,29] (And.intro @aN (And.intro @c1 (And.intro @lnI (And.intro @ixI (And.intro @rdj (@ldI)))))) ?_|refine kp (And.intro @aN (And.intro @c1 (And.intro @lnI (And.intro @ixI (And.intro @rdj (@ldI)))))) ?_
      refine Ow.callFV rfl Tryz.call62 (fun w' aB=>wV w' G7 S7 x ⟨X7,fun b o h=>aB.has _ _ (by simp[cO h]),iw.P⟩ iw.P.ok (hG.new aB jh).C (hG.new aB jh).E) ?_
      generalize fA S7 x=gg at*
      obtain⟨gk,gt,ge⟩:=gg
      simp only at rR rS EG
      subst rR
      simp only
      have x6:=y7 rS
      have iP:Dig.shaR (m5 gk gt)=x.l:=by
       have e:idV gk gt=⟨Dig.shaR (dk gk gt),rW _⟩:=if_pos rS
       rw[←EG,e]
       exact congrArg Dig.shaR (Eb rS)
      refine ko @aN ?_
      refine Ow.alloc rfl rfl eb fun b14 i4 jv=> ?_
      simp only[aV,List.nil_append,List.cons_append]
      refine Ow.permL (M:=(b14, .cells #[vi 0,vs []] 82 (0,0)):: (D5++ (D++ (X7++DG2)))) (by classical exact List.perm_iff_count.2 fun a=>by simp only[List.count_append,List.count_cons,List.count_nil]<;>omega) ?_
      have n14: ∀c,c∈keys (D5++ (D++ (X7++DG2)))→c<b14:=fun c hc=>ae i4 hc
      have n14A:b14∉keys (D5++ (D++X7)):=fun hm=>by
       have:=n14 b14 (by
        rw[show D5++ (D++ (X7++DG2))=(D5++ (D++X7))++DG2 by simp only[List.append_assoc],bM]
        exact List.mem_append_left _ hm)
       omega
      refine ko @aN ?_
      refine Cw.permL (M:=D5++ (D++ (X7++ ((b14, .cells #[vi gk,vs gt] 82 (0,0))::DG2)))) (by classical exact List.perm_iff_count.2 fun a=>by simp only[List.count_append,List.count_cons,List.count_nil]<;>omega) ?_
      have nq:aT Tryz.prog .neq 84 (.agg (a8 x.l)) (.agg (a8 x.l))=some (.bool false):=(mJ x x).trans (by rw[beq_self_eq_true];rfl)
      have e0: (((0:Nat):Int) !=0)=false:=rfl
      have rdk:=rdI (D++ (X7++ ((b14, .cells #[vi gk,vs gt] 82 (0,0))::DG2))) (by omega)
      have rd14:aP w (D5++ (D++ (X7++ ((b14, .cells #[vi gk,vs gt] 82 (0,0))::DG2)))) b14=some (.cells #[vi gk,vs gt] 82 (0,0)):=by
       rw[show D5++ (D++ (X7++ ((b14,Obj.cells #[vi gk,vs gt] 82 (0,0))::DG2)))=(D5++ (D++X7))++ ((b14,Obj.cells #[vi gk,vs gt] 82 (0,0))::DG2) by simp only[List.append_assoc]]
       exact aY (by rw[gi n14A];simp[Sx.look])
      refine Cw.regionS [b14,ib2] [0,1,2,5,6,7,3,8,4,9,10] [] (by kernel_rfl) (by kernel_rfl) (by kernel_rfl) ?_
      simp only[ap, ↓ao, ↓ac, ↓aj, ↓ai,ad]
      refine kq (And.intro @aN (And.intro @e0 (And.intro @rd14 (And.intro @ixI (And.intro @rdk (@ldI)))))) ?_
      refine Ow.soft rfl rfl rfl ?_
      refine Ow.callFV rfl Tryz.call55 (fun w' aB=>xm gk gt w' (by omega)) ?_
      rw[iP]
      with_reducible refine Ow.nil ?_
      refine⟨by intro b hb;simp only[List.mem_cons,List.not_mem_nil,or_false] at hb;(try subst hb);rfl, ?_⟩
      refine kq (And.intro @aN (And.intro @e0 (And.intro @rd14 (And.intro @ixI (And.intro @rdk (And.intro @ldI (@nq))))))) ?_
      first|with_reducible refine ks [] @aN ?_|refine kp @aN ?_
      exact Again.mk ⟨j+1,(b14, .cells #[vi gk,vs gt] 82 (0,0))::DG2⟩ (by show ids.length - (j+1)<ids.length - j;omega) ⟨hjt,jv,ec⟩ rfl rfl
     ·obtain rfl:j=ids.length:=by omega
      have c1:decide ((ids.length:Int)< (ids.length:Int))=false:=decide_eq_false (by omega)
      clear hj
      first|with_reducible refine ks [29] (And.intro @aN (And.intro @c1 (@lnI))) ?_|refine kp (And.intro @aN (And.intro @c1 (@lnI))) ?_
      refine Cw.loopG (G:=TlG) [110,111,112,113,117,118,119,120,121,122,123,116,124,125,20,21,126,127,128,129,130,131,132,133,134,135,8,114,115,19] (fun g=> [(19,vi g.j)]) (fun g=>D5++ (D++ (X7++g.DG))) (fun g=>g.j≤had.length∧New w.heap.size g.DG) (fun g=>had.length - g.j) ⟨0,DG2⟩ rfl rfl ?_ ?_
      ·exact⟨Nat.zero_le _,ec⟩
      intro g j hg
      refine kv ?_
      clear ec jh
      obtain⟨j,DG2⟩:=g
      simp only at hg ⊢
      obtain⟨hj,ec⟩:=hg
      have jh:New w.heap.size (D5++ (D++ (X7++DG2))):=o9.app (mR.app (l9.app ec))
      by_cases hjt:j<had.length
      ·have c1:decide ((j:Int)< (had.length:Int))=true:=decide_eq_true (by omega)
       have ixD:=w5.idx true j hjt
       have ldD:=Bd w5 hjt
       have rdj:=rdD (X7++DG2) (by omega)
       obtain⟨nK,XG⟩:=pU _ (nX (z:=ob0) hjt)
       generalize had.getD j ob0=o at*
       have rI:=y7 nK
       have iP:Dig.shaR (m5 o.k o.t)=(idV o.k o.t).l:=by
        have e:idV o.k o.t=⟨Dig.shaR (dk o.k o.t),rW _⟩:=if_pos nK
        rw[e]
        exact congrArg Dig.shaR (Eb nK)
       first|with_reducible refine ks [29] (And.intro @aN (And.intro @c1 (And.intro @lnD (And.intro @ixD (And.intro @rdj (@ldD)))))) ?_|refine kp (And.intro @aN (And.intro @c1 (And.intro @lnD (And.intro @ixD (And.intro @rdj (@ldD)))))) ?_
       refine Ow.callFV rfl Tryz.call55 (fun w' aB=>xm o.k o.t w' (by omega)) ?_
       rw[iP]
       refine ko @aN ?_
       refine Ow.callFV rfl Tryz.call62 (fun w' aB=>wV w' G7 S7 (idV o.k o.t) ⟨X7,fun b o h=>aB.has _ _ (by simp[cO h]),iw.P⟩ iw.P.ok (hG.new aB jh).C (hG.new aB jh).E) ?_
       rw[XG]
       simp only
       refine ko @aN ?_
       refine Ow.alloc rfl rfl eb fun b14 i4 jv=> ?_
       simp only[aV,List.nil_append,List.cons_append]
       refine Ow.permL (M:=(b14, .cells #[vi 0,vs []] 82 (0,0)):: (D5++ (D++ (X7++DG2)))) (by classical exact List.perm_iff_count.2 fun a=>by simp only[List.count_append,List.count_cons,List.count_nil]<;>omega) ?_
       have n14: ∀c,c∈keys (D5++ (D++ (X7++DG2)))→c<b14:=fun c hc=>ae i4 hc
       have n14A:b14∉keys (D5++ (D++X7)):=fun hm=>by
        have:=n14 b14 (by
         rw[show D5++ (D++ (X7++DG2))=(D5++ (D++X7))++DG2 by simp only[List.append_assoc],bM]
         exact List.mem_append_left _ hm)
        omega
       refine ko @aN ?_
       refine Cw.permL (M:=D5++ (D++ (X7++ ((b14, .cells #[vi o.k,vs o.t] 82 (0,0))::DG2)))) (by classical exact List.perm_iff_count.2 fun a=>by simp only[List.count_append,List.count_cons,List.count_nil]<;>omega) ?_
       have nq:aT Tryz.prog .neq 82 (obV o.k o.t) (obV o.k o.t)=some (.bool false):=(CS o o).trans (by rw[decide_eq_true rfl];rfl)
       have e0: (((0:Nat):Int) !=0)=false:=rfl
       have rdk:=rdD (X7++ ((b14, .cells #[vi o.k,vs o.t] 82 (0,0))::DG2)) (by omega)
       have rd14:aP w (D5++ (D++ (X7++ ((b14, .cells #[vi o.k,vs o.t] 82 (0,0))::DG2)))) b14=some (.cells #[vi o.k,vs o.t] 82 (0,0)):=by
        rw[show D5++ (D++ (X7++ ((b14,Obj.cells #[vi o.k,vs o.t] 82 (0,0))::DG2)))=(D5++ (D++X7))++ ((b14,Obj.cells #[vi o.k,vs o.t] 82 (0,0))::DG2) by simp only[List.append_assoc]]
        exact aY (by rw[gi n14A];simp[Sx.look])
       refine Cw.regionS [b14,aZ] [0,1,2,4,5,6,3,7,8,9] [] (by kernel_rfl) (by kernel_rfl) (by kernel_rfl) ?_
       simp only[ap, ↓ao, ↓ac, ↓aj, ↓ai,ad]
       refine kq (And.intro @aN (And.intro @e0 (And.intro @rd14 (And.intro @ixD (And.intro @rdk (And.intro @ldD (@nq))))))) ?_
       first|with_reducible refine ks [] @aN ?_|refine kp @aN ?_
       exact Again.mk ⟨j+1,(b14, .cells #[vi o.k,vs o.t] 82 (0,0))::DG2⟩ (by show had.length - (j+1)<had.length - j;omega) ⟨hjt,jv,ec⟩ rfl rfl
      ·obtain rfl:j=had.length:=by omega
       have c1:decide ((had.length:Int)< (had.length:Int))=false:=decide_eq_false (by omega)
       first|with_reducible refine ks [] (And.intro @aN (And.intro @c1 (@lnD))) ?_|refine kp (And.intro @aN (And.intro @c1 (@lnD))) ?_
       refine Ow.callFV rfl Tryz.call48 (fun w' aB=>Ee m w' (hG.new aB jh)) ?_
       refine ko @aN ?_
       first|with_reducible refine ks [] @aN ?_|refine kp @aN ?_
       refine⟨_,(ke @aN),jh, ?_⟩
       rfl
end Go.Proofs
end
section
open Go Go.Proofs Go.Sx Go.StP Go.Flo
namespace Go.Proofs
set_option maxRecDepth 10000
set_option maxHeartbeats 1000000
set_option linter.unusedSimpArgs false
set_option linter.defProp false
end Go.Proofs
end
section
open Go Go.Proofs Go.Sx Go.StP Go.Flo
namespace Go.Proofs
set_option maxRecDepth 10000
set_option maxHeartbeats 1000000
set_option linter.unusedSimpArgs false
set_option linter.defProp false
end Go.Proofs
end
namespace Go.Sx
open Go Go.ChangeShapes Go.WideShapes Go.RowKit
theorem Hp.same0 {W W':World} (h:Hp W [] W') {b:Nat} (hb:b<W.heap.size):W'.heap[b]? =W.heap[b]? :=h.old b hb (fun hm=>by cases hm)
theorem Hp.kept {W W':World} (h:Hp W [] W') (may:MemPlace→Prop):W.keptBut W' may:=by
 refine⟨h.os,h.output,fun i hi=> ?_⟩
 rw[h.same0 hi]
 cases ho:W.heap[i]? with
 |none=>rfl
 |some o=>
  cases o<;>first
   |exact⟨rfl,rfl,rfl,fun _ _=>rfl⟩
   |exact .inr ⟨rfl,rfl⟩
   |rfl
theorem Hp.sameAt {W W':World} (h:Hp W [] W') {p:MemPlace} (hp:p.block<W.heap.size):W.sameAt W' p:=by
 cases p with
 |cell b off=>
  have:=h.same0 (b:=b) hp
  simp only[World.sameAt,World.cell?,this]
 |map b=>exact h.same0 hp
theorem Hp.frozen {W W':World} (h:Hp W [] W') {a:Addr} (ha:a.block<W.heap.size):W'.frozen? a=W.frozen? a:=by
 simp only[World.frozen?,h.same0 ha]
section
variable {H:Type} {enc:TypeId×Value→H} {P:Program}
theorem Xz (hl:laidOutB P=true) {W W':World} {sp:Nat→Bool} (hp:Hp W [] W'): ∀ {ts:List TypeId} {vs:List Value} {ds:List (DataW H)} {ps:List MemPlace},
  (∀t∈ts,P.readableRec t=true∧t<P.types.size)→(∀p∈ps,p.block<W.heap.size)→(∀p∈ps,sp p.block=true)→
  DataW.TrodAll enc P W 0 (fun _=>true) true ts vs ds ps→DataW.TrodAll enc P W' 0 sp true ts vs ds ps
 | [],_,_,_,_,_,_,h=>by
  obtain⟨rfl,rfl,rfl⟩:=trodAll_nil h
  exact trodAll_mk0
 |t::ts,_,_,_,ht,aD,hs,h=>by
  obtain⟨v,vs,d,ds,p,q,rfl,rfl,rfl,h1,h2⟩:=trodAll_cons h
  have X0: ∀x∈p,x.block<W.heap.size:=fun x hx=>aD x (List.mem_append_left _ hx)
  exact trodAll_cons_mk (WideElems.Trod_stays hl (ht t List.mem_cons_self).1 (ht t List.mem_cons_self).2 h1 (fun x hx=>hp.sameAt (X0 x hx)) (fun x hx=>hs x (List.mem_append_left _ hx)))
   (Xz hl hp (fun u hu=>ht u (List.mem_cons_of_mem _ hu)) (fun x hx=>aD x (List.mem_append_right _ hx)) (fun x hx=>hs x (List.mem_append_right _ hx)) h2)
theorem PE {f:Func} {s:ChangeSpec} {W W':World} {args:Array Value} {ds gs:List (DataW H)} {before:List MemPlace} {tb:TypeId} (hl:laidOutB P=true)
  (hW:DataW.Whole enc P f.params.toList s.vars false W args.toList ds gs before) (hv:s.vars= []) (XP: ∀t∈f.params.toList,P.readableRec t=true∧t<P.types.size)
  (hr:f.resultTypes= #[tb]) (htb:P.underlying tb=some .bool) (gE:s.fn H ds={results:= [.lit (.bool true)],args:=ds}) (hp:Hp W [] W'):
  s.post enc P f false true false false W args (.bool true) W':=by
 have aD:=hW.lt
 have Zg:=hW
 obtain⟨p,q,hA,hV,rfl,hz,hn⟩:=hW
 rw[hv] at hV
 obtain⟨rfl,rfl⟩:=trodVars_none hV
 rw[List.append_nil] at Zg aD hz
 have oA: ∀sp:Nat→Bool,(∀x∈p,sp x.block=true)→DataW.TrodAll enc P W' 0 sp true f.params.toList args.toList (s.fn H (ds++ [])).args p:=fun sp hs=>by
  rw[List.append_nil,gE]
  exact Xz hl hp XP aD hs hA
 have sa: ∀sp:Nat→Bool,DataW.TrodVars enc P W' sp s.vars (s.fn H (ds++ [])).vars []:=fun sp=>by
  rw[List.append_nil,gE,hv];rfl
 have Du: ∀ (b:Nat) (sp:Nat→Bool) (hd:Bool),DataW.TrodAll enc P W' b sp hd f.resultTypes.toList ((Value.bool true).resultList f.resultTypes.size) (s.fn H (ds++ [])).results []:=fun b sp hd=>by
  rw[List.append_nil,gE,hr]
  exact trodAll_cons_mk (shut_bool htb true) trodAll_mk0
 have fy: ∀x∈p,(fun b=>decide (b<W.heap.size)) x.block=true:=fun x hx=>by simpa using aD x hx
 refine⟨ds,[],p,[],p,[],Zg,Du _ _ _,oA _ fy,sa _,hp.kept _,fun _=> ?_⟩
 refine⟨ok_one hr rfl (okWide_bool_mk htb true),_,_,([]++p)++ [],⟨[]++p,[],trodAll_append (oA _ (fun _ _=>rfl)) (Du _ _ _),sa _,rfl, ?_,fun h=>by cases h⟩, ?_⟩
 ·intro b off hx
  have hx':MemPlace.cell b off∈p:=by simpa using hx
  rw[hp.frozen (aD _ hx')]
  exact hz b off hx'
 ·intro x hx _
  simpa using hx
end
section
variable {P:Program} {W:World} {name:String} {k:IntKind} {zs:List Int}
theorem Ga {t e:TypeId} {g n:Nat} (hg:P.globalNamed name=some g) (GD: (P.globals[g]?).map (·.type)=some t) (ht:P.underlying t=some (.array n e)) (he:P.underlying e=some (.int k)) (Zl:P.cellsOf e=1) (Fp:P.cellsOf t=n):
  ∀ {laid:List (String×DataW Unit)} {ps:List MemPlace},DataW.LaidVars P W laid ps→(name,Lib.tabData k zs)∈laid→Lib.TabIs P W name k zs
 | [],_,_,hm=>by cases hm
 | (n',d')::rest,ps,h,hm=>by
  obtain⟨g',t',cs,fuel,p,q,DV,xG,mg,hd,hr,-⟩:=h
  rcases List.mem_cons.1 hm with hm|hm
  ·cases hm
   obtain rfl:=Option.some.inj (hg.symm.trans DV)
   obtain rfl:=Option.some.inj (GD.symm.trans xG)
   unfold Lib.TabIs
   rw[mg,←Lib.cells_of_tab ht he Zl Fp hd]
  ·exact Ga hg GD ht he Zl Fp hr hm
theorem Hv {g:Nat} (hg:P.globalNamed name=some g) (h:Lib.TabIs P W name k zs): ∃e f,W.heap[g]? =some (.cells (zs.map fun z=>Value.int k z).toArray e f):=by
 unfold Lib.TabIs at h
 simp only[World.var?,hg,Option.bind_some] at h
 split at h
 ·rename_i cs e f hb
  cases h
  exact⟨e,f,hb⟩
 ·cases h
end
section
variable {H:Type} {enc:TypeId×Value→H} {P:Program}
end
end Go.Sx
namespace Go.Sx
open Go
section
variable {P:Program}
theorem QV {fits:TypeId→Bool} {d:Nat} {e:TypeId} {count off n:Nat} (h:rowAt P fits d e count off n=true):off≤count*P.cellsOf e:=by
 cases d with
 |zero=>simp[rowAt] at h
 |succ d=>
  unfold rowAt at h
  simp only at h
  split at h
  ·cases h
  ·rename_i hs
   have sW:0<P.cellsOf e:=Nat.pos_of_ne_zero hs
   have hd:=Nat.div_add_mod off (P.cellsOf e)
   have hm:=Nat.mod_lt off sW
   rw[Bool.or_eq_true] at h
   rcases h with h|h
   ·simp only[Bool.and_eq_true,beq_iff_eq,decide_eq_true_eq] at h
    have:off / P.cellsOf e*P.cellsOf e≤count*P.cellsOf e:=Nat.mul_le_mul_right _ (by omega)
    rw[Nat.mul_comm (P.cellsOf e)] at hd
    omega
   ·simp only[Bool.and_eq_true,decide_eq_true_eq] at h
    have: (off / P.cellsOf e+1)*P.cellsOf e≤count*P.cellsOf e:=Nat.mul_le_mul_right _ (by omega)
    rw[Nat.add_mul,Nat.one_mul] at this
    rw[Nat.mul_comm (P.cellsOf e)] at hd
    omega
theorem zM {e:TypeId} {count off:Nat}: ∀ {d:Nat} {u:TypeId} {n:Nat},liesAt P d e count off u n=true→off≤count*P.cellsOf e
 |0,u,n,h=>by simp[liesAt] at h
 |d+1,u,n,h=>by
  unfold liesAt at h
  rw[Bool.or_eq_true] at h
  rcases h with h|h
  ·exact QV h
  ·split at h
   ·exact zM h
   ·cases h
theorem Ui {W:World} {r:Reach} {base:Nat} {a:Addr} {e:TypeId} {n:Nat} (h:W.has P r base a e n):a.spot=none∧ ∃arr E fz,W.heap[a.block]? =some (.cells arr E fz)∧a.off≤arr.size:=by
 obtain⟨-,hs,row,cells,g4,hl⟩:=h
 refine⟨hs, ?_⟩
 unfold World.shape? at g4
 split at g4
 ·rename_i c el fz hh
  cases g4
  refine⟨c,_,fz,hh,Nat.le_trans (zM hl) ?_⟩
  exact Nat.div_mul_le_self _ _
 ·cases g4
theorem PS {W:World} {r:Reach} {base:Nat} {t e:TypeId} {v:Value} (ht:P.underlying t=some (.slice e)) (h:Value.okWide P W r base t v):
  v= .slice none 0 0∨ ∃b off len cap arr E fz,v=vsl b off len cap∧len≤cap∧W.heap[b]? =some (.cells arr E fz)∧off≤arr.size:=by
 obtain⟨a,len,cap,rfl⟩:=Go.WideShapes.okWide_slice ht h
 unfold Value.okWide at h
 rw[ht] at h
 unfold Cell.okWide at h
 rw[ht] at h
 simp only at h
 unfold Cell.ok at h
 rw[ht] at h
 cases a with
 |none=>
  left
  simp only at h
  split at h
  all_goals first| (cases h;done) |simp_all
 |some a=>
  right
  simp only at h
  obtain⟨dN,-,hh⟩:=h
  obtain⟨hs,arr,E,fz,hb,ho⟩:=Ui hh
  obtain⟨b,off,sp⟩:=a
  simp only at hs
  subst hs
  exact⟨b,off,len,cap,arr,E,fz,rfl,dN,hb,ho⟩
theorem CJ {α:Type} {enc:α→List Value} {z:α} {m:Nat} {W:World} {base b off c:Nat} {l:List α} {arr:Array Value} {E:TypeId} {fz:Nat×Nat} (sS:0<m) (hm: ∀x,(enc x).length=m)
  (vP: ∀i,i<l.length→W.cells? base ((Addr.mk b off none).add (i*m)) m=some (enc (l.getD i z))) (sO:W.heap[b]? =some (.cells arr E fz)) (vv:off≤arr.size) (hc:l.length≤c):SlV m enc z W (vsl b off l.length c) l:=by
 have get: ∀k,k<l.length→ ∀j,j<m→arr[off+k*m+j]? =(enc (l.getD k z))[j]? :=by
  intro k hk j hj
  obtain⟨-,hl,hg⟩:=World.cells?_some (vP k hk)
  have:=hg j (by omega)
  rw[ml,ml] at this
  simp only[World.cell?,sO,Option.isSome_none,Bool.false_eq_true,if_false] at this
  exact this
 refine SlV.sl sO get hc ?_
 by_cases h0:l.length=0
 ·rw[h0];omega
 ·have h1:=get (l.length - 1) (by omega) (m - 1) (by omega)
  rw[List.getElem?_eq_getElem (by rw[hm];omega)] at h1
  have h2:=(Array.getElem?_eq_some_iff.1 h1).1
  have h3: (l.length - 1)*m+m=l.length*m:=by
   rw[←Nat.succ_mul];congr 1;omega
  omega
end
end Go.Sx
section
open Go Go.Proofs Go.Sx Go.StP Go.Flo
open Go.ChangeShapes Go.WideShapes Go.ChangeAt Go.RowKit Go.ChangeMaps
namespace Go.Proofs
set_option maxRecDepth 10000
set_option maxHeartbeats 1000000
set_option linter.unusedSimpArgs false
theorem BF {H:Type} {tell:TypeId×Value→H} {α:Type} {enc:α→List Value} {z:α} {m:Nat} {W:World} {r:Reach} {base b0:Nat} {sp:Nat→Bool} {cd:Bool} {fuel:Nat} {t e:TypeId} {v:Value} {x:DataW H×List MemPlace} {R:α→DataW H→Prop}
  (ht: (Tryz.prog).underlying t=some (.slice e)) (he: (Tryz.prog).cellsOf e=m) (sS:0<m) (hm: ∀x,(enc x).length=m) (dv:Value.okWide Tryz.prog W r b0 t v)
  (WR: ∀n cs y,DataW.trod tell Tryz.prog W base sp cd n e cs=some y→ ∃a,cs=enc a∧R a y.1) (hd:DataW.trod tell Tryz.prog W base sp cd fuel t [v]=some x):
  ∃l,SlV m enc z W v l∧(l= []∨ ∃es sp',x.1= .slice es sp'∧ ∀i,i<l.length→ ∃d,d∈es∧R (l.getD i z) d):=by
 rcases DataW.trod_slice ht hd with⟨dZ,-⟩ | ⟨a,len,cap,elems,rest,n,-,dZ,hx,-,hl,-,aL,jo,-,-⟩
 ·simp only[List.cons.injEq,and_true] at dZ
  subst dZ
  exact⟨[],SlV.nil W, .inl rfl⟩
 ·simp only[List.cons.injEq,and_true] at dZ
  subst dZ
  rcases PS ht dv with h0| ⟨b,off,len',cap',arr,E,fz,h1,-,hb,ho⟩
  ·cases h0
  ·unfold vsl at h1
   cases h1
   rw[he] at jo
   have DU: ∀i,i<len→ ∃q,W.cells? base ((Addr.mk b off none).add (i*m)) m=some (enc q)∧ ∃d,d∈elems.map (·.1)∧R q d:=by
    intro i hi
    have h2:=jo i hi
    rw[List.getElem?_eq_getElem (by omega)] at h2
    cases hc:W.cells? base ((Addr.mk b off none).add (i*m)) m with
    |none=>rw[hc] at h2;cases h2
    |some cs=>
     rw[hc] at h2
     obtain⟨q,rfl,hR⟩:=WR _ _ _ h2
     exact⟨q,rfl,_,List.mem_map_of_mem (List.getElem_mem (by omega)),hR⟩
   obtain⟨f,hf⟩: ∃f:Nat→α,∀i,i<len→W.cells? base ((Addr.mk b off none).add (i*m)) m=some (enc (f i))∧ ∃d,d∈elems.map (·.1)∧R (f i) d:=by
    classical
    refine⟨fun i=>if h:i<len then Classical.choose (DU i h) else z,fun i hi=> ?_⟩
    simp only[dif_pos hi]
    exact Classical.choose_spec (DU i hi)
   have pW: ((List.range len).map f).length=len:=by simp
   have vV: ∀i,i<len→((List.range len).map f).getD i z=f i:=fun i hi=>by
    rw[List.getD_eq_getElem?_getD,List.getElem?_map,List.getElem?_range hi];rfl
   refine⟨(List.range len).map f, ?_, .inr ⟨_,_,by rw[hx],fun i hi=> ?_⟩⟩
   ·have:=CJ (W:=W) (base:=base) (b:=b) (off:=off) (c:=cap) (l:=(List.range len).map f) (z:=z) sS hm (fun i hi=>by
     rw[pW] at hi
     rw[(hf i hi).1,vV i hi]) hb ho (by rw[pW];exact hl)
    rw[pW] at this
    exact this
   ·rw[pW] at hi
    rw[vV i hi]
    exact(hf i hi).2
theorem Tw {H:Type} {tell:TypeId×Value→H} {W:World} {base:Nat} {sp:Nat→Bool} {cd:Bool} (n:Nat) (cs:List Value) (y:DataW H×List MemPlace)
  (h:DataW.trod tell Tryz.prog W base sp cd n 36 cs=some y): ∃a:FiL,cs=fiC a∧y.1= .agg [.lit (.string a.dir), .lit (.string a.name), .lit (.string a.data)]:=by
 obtain⟨y0,y1,y2,n',hy,aL,h0,h1,h2⟩:=Deep.trod_struct3 Tryz.underlying36 h
 have hc: (Tryz.prog).cellsOf 36=3:=by kernel_rfl
 have jP: (Tryz.prog).cellsOf 9=1:=by kernel_rfl
 simp only at h0 h1 h2
 rw[jP,List.drop_zero] at h0
 rw[jP] at h1 h2
 rw[hc] at aL
 obtain⟨s,hs,hys,-⟩:=DataW.trod_string Tryz.underlying9 h0
 obtain⟨u,hu,hyu,-⟩:=DataW.trod_string Tryz.underlying9 h1
 obtain⟨x,hx,hyx,-⟩:=DataW.trod_string Tryz.underlying9 h2
 refine⟨⟨s.data.toList,u.data.toList,x.data.toList⟩, ?_,by rw[hy,hys,hyu,hyx]⟩
 have hd:cs=cs.take 1++ ((cs.drop 1).take 1++ (cs.drop 2).take 1):=by
  rw[show(cs.drop 2).take 1=cs.drop 2 from List.take_of_length_le (by rw[List.length_drop];omega),show cs.drop 2=(cs.drop 1).drop 1 by rw[List.drop_drop],List.take_append_drop,List.take_append_drop]
 rw[hd,hs,hu,hx]
 rfl
theorem KZ {H:Type} {enc:TypeId×Value→H} {W:World} {r:Reach} {b0 base:Nat} {sp:Nat→Bool} {cd:Bool} {v:Value} {d:DataW H} {p:List MemPlace}
  (dv:Value.okWide Tryz.prog W r b0 22 v) (hd:DataW.Trod enc Tryz.prog W base sp cd 22 v d p):
  ∃l,FiSl W v l∧(l= []∨ ∃es sp',d= .slice es sp'∧ ∀i,i<l.length→ ∃e,e∈es∧e= .agg [.lit (.string (l.getD i fi0).dir), .lit (.string (l.getD i fi0).name), .lit (.string (l.getD i fi0).data)]):=by
 obtain⟨a0,len,cap,rfl⟩:=WideShapes.okWide_slice Tryz.underlying22 dv
 obtain⟨fu,hf⟩:=hd
 exact BF (z:=fi0) (R:=fun a e=>e= .agg [.lit (.string a.dir), .lit (.string a.name), .lit (.string a.data)]) Tryz.underlying22 (by kernel_rfl) (by decide) xw dv Tw hf
theorem US {n:Int} (h: (Lit.int .u16 n).wf=true): ∃x:UInt16,Value.int .u16 n=v16 x:=by
 simp only[Lit.wf,Bool.and_eq_true,decide_eq_true_eq] at h
 have h1: (0:Int)≤n:=h.1
 have h2:n≤65535:=h.2
 refine⟨UInt16.ofNat n.toNat, ?_⟩
 unfold v16
 rw[UInt16.toNat_ofNat',Nat.mod_eq_of_lt (by omega),Int.toNat_of_nonneg h1]
theorem CH {H:Type} {tell:TypeId×Value→H} {W:World} {base:Nat} {sp:Nat→Bool} {cd:Bool} {n:Nat} {cs:List Value} {y:DataW H×List MemPlace}
  (h:DataW.trod tell Tryz.prog W base sp cd n 24 cs=some y): ∃p:PkL,cs= [p.v]∧PkS W p.v p.l:=by
 have h1: (Tryz.prog).cellsOf 119=1:=by kernel_rfl
 rcases DataW.trod_slice Tryz.underlying24 h with⟨rfl,-⟩ | ⟨a,len,cap,elems,rest,m,-,rfl,-,-,hl,-,aL,jo,-,-⟩
 ·exact⟨pk0,rfl, .inl (SlV.nil W)⟩
 ·rw[h1] at jo
  by_cases h0:len=0
  ·subst h0
   exact⟨⟨.slice (some a) 0 cap,[],rfl,rfl⟩,rfl, .inr ⟨rfl,a,cap,rfl⟩⟩
  ·have DU: ∀i,i<len→ ∃q:UInt16,W.cells? base (a.add (i*1)) 1=some (u16C q):=by
    intro i hi
    have h2:=jo i hi
    rw[List.getElem?_eq_getElem (by omega)] at h2
    cases hc:W.cells? base (a.add (i*1)) 1 with
    |none=>rw[hc] at h2;cases h2
    |some cs=>
     rw[hc] at h2
     obtain⟨z,hz,-,hw⟩:=DataW.trod_int Tryz.underlying119 h2
     obtain⟨q,hq⟩:=US hw
     exact⟨q,by rw[hz,hq];rfl⟩
   obtain⟨f,hf⟩: ∃f:Nat→UInt16,∀i,i<len→W.cells? base (a.add (i*1)) 1=some (u16C (f i)):=by
    classical
    refine⟨fun i=>if h:i<len then Classical.choose (DU i h) else 0,fun i hi=> ?_⟩
    simp only[dif_pos hi]
    exact Classical.choose_spec (DU i hi)
   obtain⟨-,-,hg⟩:=World.cells?_some (hf 0 (by omega))
   have WW:=hg 0 (by omega)
   obtain⟨blk,off,spt⟩:=a
   have gU:W.cell? ((Addr.mk blk off spt).add (0*1) |>.add 0)=some (v16 (f 0)):=WW
   unfold World.cell? at gU
   have hb: ((Addr.mk blk off spt).add (0*1) |>.add 0).block=blk:=rfl
   rw[hb] at gU
   split at gU
   ·rename_i arr E fz hh
    split at gU
    ·cases gU
    ·rename_i wA
     have Xi:spt=none:=by
      cases spt with
      |none=>rfl
      |some q=>exact absurd rfl wA
     subst Xi
     have vv:off<arr.size:=(Array.getElem?_eq_some_iff.1 gU).1
     have pW: ((List.range len).map f).length=len:=by simp
     have vV: ∀i,i<len→((List.range len).map f).getD i 0=f i:=fun i hi=>by
      rw[List.getD_eq_getElem?_getD,List.getElem?_map,List.getElem?_range hi];rfl
     have hs:=CJ (W:=W) (base:=base) (b:=blk) (off:=off) (c:=cap) (l:=(List.range len).map f) (enc:=u16C) (z:=0) (by decide) Rz (fun i hi=>by
      rw[pW] at hi
      rw[hf i hi,vV i hi]) hh (by omega) (by rw[pW];exact hl)
     rw[pW] at hs
     exact⟨⟨.slice (some ⟨blk,off,none⟩) len cap,(List.range len).map f,rfl,rfl⟩,rfl, .inl hs⟩
   ·cases gU
theorem Pg {H:Type} {enc:TypeId×Value→H} {W:World} {base:Nat} {sp:Nat→Bool} {cd:Bool} {v:Value} {d:DataW H} {p:List MemPlace}
  (hd:DataW.Trod enc Tryz.prog W base sp cd 24 v d p) (hv:v.cells.toList= [v]): ∃p:PkL,v=p.v∧PkS W p.v p.l:=by
 obtain⟨fu,hf⟩:=hd
 rw[hv] at hf
 obtain⟨p,hp,h⟩:=CH hf
 exact⟨p,by simpa using hp,h⟩
end Go.Proofs
end
section
open Go Go.Proofs Go.Sx Go.StP Go.Flo
namespace Go.Proofs
set_option maxRecDepth 10000
set_option maxHeartbeats 1000000
set_option linter.unusedSimpArgs false
def tS:DataW Unit:= .agg [.lit (.string aG), .lit (.string kh), .lit (.string refD)]
theorem Wk_ {W:World} {base:Nat} {sp:Nat→Bool} {cd:Bool} {fuel:Nat} {cs:List Value} {p:List MemPlace}
  (hd:DataW.trod (fun _=>()) Tryz.prog W base sp cd fuel 131 cs=some (tS,p)):cs= [vs aG,vs kh,vs refD]:=by
 obtain⟨xs,m,-,hx,aL,gp,jo⟩:=DataW.trod_array Tryz.underlying131 hd
 have hc: (Tryz.prog).cellsOf 131=3:=by kernel_rfl
 have h1: (Tryz.prog).cellsOf 9=1:=by kernel_rfl
 rw[hc] at aL
 rw[h1] at jo
 have hm:xs.map (·.1)= [.lit (.string aG), .lit (.string kh), .lit (.string refD)]:=by
  have:=congrArg Prod.fst hx
  unfold tS at this
  simp only[DataW.agg.injEq] at this
  exact this.symm
 have h0:=jo 0 (by omega)
 have h2:=jo 1 (by omega)
 have h3:=jo 2 (by omega)
 rw[List.getElem?_eq_getElem (by omega)] at h0 h2 h3
 obtain⟨s0,hs0,GH,-⟩:=DataW.trod_string Tryz.underlying9 h0
 obtain⟨s1,nM,GI,-⟩:=DataW.trod_string Tryz.underlying9 h2
 obtain⟨s2,dT,xL,-⟩:=DataW.trod_string Tryz.underlying9 h3
 match xs,gp,hm,GH,GI,xL with
 | [x0,x1,x2],_,hm,GH,GI,xL=>
  simp only[List.map_cons,List.map_nil,List.cons.injEq,and_true] at hm
  simp only[List.getElem_cons_zero,List.getElem_cons_succ] at GH GI xL
  obtain⟨m0,m1,m2⟩:=hm
  rw[GH] at m0
  rw[GI] at m1
  rw[xL] at m2
  simp only[DataW.lit.injEq,Lit.string.injEq] at m0 m1 m2
  match cs,aL with
  | [c0,c1,c2],_=>
   simp only[Nat.zero_mul,List.drop_zero,List.take_succ_cons,List.take_zero,List.cons.injEq,and_true,Nat.one_mul,List.drop_succ_cons,Nat.reduceMul] at hs0 nM dT
   rw[hs0,nM,dT,←m0,←m1,←m2]
   rfl
theorem YQ {W:World}: ∀ {laid:List (String×DataW Unit)} {ps:List MemPlace},DataW.LaidVars Tryz.prog W laid ps→("sediment/disk.order",tS)∈laid→l5 W
 | [],_,_,hm=>by cases hm
 | (n',d')::rest,ps,h,hm=>by
  obtain⟨g',t',cs,fuel,p,q,DV,xG,mg,hd,hr,-⟩:=h
  rcases List.mem_cons.1 hm with hm|hm
  ·cases hm
   have hg: (Tryz.prog).globalNamed "sediment/disk.order" =some 0:=by kernel_rfl
   have GD: ((Tryz.prog).globals[(0:Nat)]?).map (·.type)=some 131:=by kernel_rfl
   obtain rfl:=Option.some.inj (hg.symm.trans DV)
   obtain rfl:=Option.some.inj (GD.symm.trans xG)
   have dZ:=Wk_ hd
   simp only[World.var?,hg,Option.bind_some] at mg
   split at mg
   ·rename_i cs' e f hb
    cases mg
    refine⟨e,f, ?_⟩
    rw[hb]
    congr 2
    apply Array.ext'
    rw[dZ]
   ·cases mg
  ·exact YQ hr hm
end Go.Proofs
end
section
open Go Go.Proofs Go.Sx Go.StP Go.Flo
open Go.ChangeShapes Go.WideShapes Go.ChangeAt Go.RowKit Go.ChangeMaps
namespace Go.Proofs
set_option maxRecDepth 10000
set_option maxHeartbeats 1000000
set_option linter.unusedSimpArgs false
theorem Vb {n:Int} (h: (Lit.int .u8 n).wf=true): ∃c:UInt8,Value.int .u8 n=v8 c:=by
 simp only[Lit.wf,Bool.and_eq_true,decide_eq_true_eq] at h
 have h1: (0:Int)≤n:=h.1
 have h2:n≤255:=h.2
 refine⟨UInt8.ofNat n.toNat, ?_⟩
 unfold v8
 rw[UInt8.toNat_ofNat',Nat.mod_eq_of_lt (by omega),Int.toNat_of_nonneg h1]
theorem NK {W:World} {r:Reach} {b0:Nat} {v:Value} (dv:Value.okWide Tryz.prog W r b0 24 v):v.cells.toList= [v]:=by
 obtain⟨a0,len,cap,rfl⟩:=WideShapes.okWide_slice Tryz.underlying24 dv
 rfl
end Go.Proofs
end
section
open Go Go.Proofs Go.Sx Go.StP Go.ChangeShapes
namespace Go.Proofs
set_option maxRecDepth 10000
set_option maxHeartbeats 1000000
set_option linter.unusedSimpArgs false
end Go.Proofs
end
section
open Go Go.Proofs Go.Sx Go.StP Go.Flo
open Go.ChangeShapes Go.WideShapes Go.ChangeAt Go.RowKit Go.ChangeMaps
namespace Go.Proofs
set_option maxRecDepth 10000
set_option maxHeartbeats 1000000
set_option linter.unusedSimpArgs false
theorem VX {H:Type} {tell:TypeId×Value→H} {W:World} {base:Nat} {sp:Nat→Bool} {cd:Bool} {n:Nat} {cs:List Value} {y:DataW H×List MemPlace}
  (h:DataW.trod tell Tryz.prog W base sp cd n 82 cs=some y): ∃o:ObL,cs=obC o:=by
 have hc: (Tryz.prog).cellsOf 82=2:=by kernel_rfl
 have i8: (Tryz.prog).cellsOf 3=1:=by kernel_rfl
 have Fm: (Tryz.prog).cellsOf 9=1:=by kernel_rfl
 obtain⟨y0,y1,n',-,aL,h0,h1⟩:=ChangeShapes.trod_struct2 Tryz.underlying82 h
 simp only at h0 h1 aL
 rw[i8,List.drop_zero] at h0
 rw[Fm] at h1
 rw[hc] at aL
 obtain⟨z,hz,-,-⟩:=DataW.trod_int Tryz.underlying3 h0
 obtain⟨s,dT,-,-⟩:=DataW.trod_string Tryz.underlying9 h1
 have hd:cs=cs.take 1++ (cs.drop 1).take 1:=by
  rw[show(cs.drop 1).take 1=cs.drop 1 from List.take_of_length_le (by rw[List.length_drop];omega),List.take_append_drop]
 rw[hz,dT] at hd
 exact⟨⟨z,s.data.toList⟩,by rw[hd];rfl⟩
theorem UW {H:Type} {tell:TypeId×Value→H} {W:World} {base:Nat} {sp:Nat→Bool} {cd:Bool} (n:Nat) (cs:List Value) (y:DataW H×List MemPlace)
  (h:DataW.trod tell Tryz.prog W base sp cd n 97 cs=some y): ∃a:A5L,cs=a5C a∧A5Ok W a:=by
 obtain⟨xs,m,-,-,aL,gp,jo⟩:=DataW.trod_struct Tryz.underlying97 h
 have hc: (Tryz.prog).cellsOf 97=5:=by kernel_rfl
 have Fo: (Tryz.prog).cellsOf 3=1:=by kernel_rfl
 have hco: (Tryz.prog).cellsOf 82=2:=by kernel_rfl
 have hcp: (Tryz.prog).cellsOf 24=1:=by kernel_rfl
 rw[hc] at aL
 have gp:xs.length=4:=gp
 have h0:DataW.trod tell Tryz.prog W base sp cd m 3 ((cs.drop 0).take ((Tryz.prog).cellsOf 3))=xs[0]? :=jo 0 _ rfl
 rw[Fo,List.getElem?_eq_getElem (by omega)] at h0
 have h1:DataW.trod tell Tryz.prog W base sp cd m 3 ((cs.drop 1).take ((Tryz.prog).cellsOf 3))=xs[1]? :=jo 1 _ rfl
 rw[Fo,List.getElem?_eq_getElem (by omega)] at h1
 have h2:DataW.trod tell Tryz.prog W base sp cd m 82 ((cs.drop 2).take ((Tryz.prog).cellsOf 82))=xs[2]? :=jo 2 _ rfl
 rw[hco,List.getElem?_eq_getElem (by omega)] at h2
 have h3:DataW.trod tell Tryz.prog W base sp cd m 24 ((cs.drop 4).take ((Tryz.prog).cellsOf 24))=xs[3]? :=jo 3 _ rfl
 rw[hcp,List.getElem?_eq_getElem (by omega)] at h3
 obtain⟨k,hk,-,-⟩:=DataW.trod_int Tryz.underlying3 h0
 obtain⟨i,hi,-,WZ⟩:=DataW.trod_int Tryz.underlying3 h1
 obtain⟨q,hq⟩:=VX h2
 obtain⟨p,hp,lP⟩:=CH h3
 refine⟨⟨k,i,q.k,q.t,p⟩, ?_,lP, ?_⟩
 ·have hd5:cs=(cs.drop 0).take 1++ ((cs.drop 1).take 1++ ((cs.drop 2).take 2++ (cs.drop 4).take 1)):=by
   match cs,aL with
   | [c0,c1,c2,c3,c4],_=>rfl
  rw[hd5,hk,hi,hq,hp]
  rfl
 ·simp only[Lit.wf,Bool.and_eq_true,decide_eq_true_eq] at WZ
  have g1: (-9223372036854775808:Int)≤i:=by simpa [IntKind.min,IntKind.bits,IntKind.signed] using WZ.1
  have g2:i≤9223372036854775807:=by simpa [IntKind.max,IntKind.bits,IntKind.signed] using WZ.2
  exact⟨g1,by show i<9223372036854775808;omega⟩
theorem KH {H:Type} {enc:TypeId×Value→H} {W:World} {r:Reach} {b0 base:Nat} {sp:Nat→Bool} {cd:Bool} {v:Value} {d:DataW H} {p:List MemPlace}
  (dv:Value.okWide Tryz.prog W r b0 93 v) (hd:DataW.Trod enc Tryz.prog W base sp cd 93 v d p):
  ∃l,A5Sl W v l∧ ∀a,a∈l→A5Ok W a:=by
 obtain⟨a0,len,cap,rfl⟩:=WideShapes.okWide_slice Tryz.underlying93 dv
 obtain⟨fu,hf⟩:=hd
 obtain⟨l,h1,h2⟩:=BF (z:=a50) (R:=fun a _=>A5Ok W a) Tryz.underlying93 (by kernel_rfl) (by decide) wa dv (fun n cs y h=>UW n cs y h) hf
 refine⟨l,h1,fun a ha=> ?_⟩
 rcases h2 with rfl| ⟨es,sp',-,h3⟩
 ·cases ha
 ·obtain⟨i,hi,rfl⟩:=List.getElem_of_mem ha
  obtain⟨-,-,h4⟩:=h3 i hi
  rw[List.getD_eq_getElem?_getD,List.getElem?_eq_getElem hi] at h4
  exact h4
end Go.Proofs
end
open Go Go.Proofs Go.Sx Go.StP Go.Flo
namespace Go.Proofs
end Go.Proofs
namespace Go.Sx
open Go
theorem Qo {P:Program} {f:FuncId} {fn:Func} {s:ChangeSpec} {c:OpenClaim}
  (h1: (c.wf (OpenSpec.ofChange s))=true)
  (h2: (laidOutB P)=true)
  (h3: (mapsRowed P)=true)
  (h4: (fn.params.all (P.readableRec ·))=true)
  (h5: (namedTie P c.named s.vars)=true)
  (h6: ((c.stops== []))=true)
  (h7: ((P.stops== []))=true)
  (h8: ((c.knobs== []))=true)
  (h9: ((P.stopKnobs== []))=true)
  (ZP: ((c.inPlace==P.inPlace f))=true)
  (h11: ((c.unfollowed==P.unfollowed f))=true)
  (n4: ((c.recurses==P.recurses f))=true)
  (ur: ((c.named==P.varsNamed f))=true)
  (Fa: ((c.maps==(fn.params.toList++s.plain.varTypes P).any (P.mapsRec ·)))=true)
  (Vr: ((c.ifaces==(fn.params.toList++s.plain.varTypes P).any (P.ifacesRec ·)))=true)
  (h16: ((c.mapsOut==P.mapsAmong fn.resultTypes.toList))=true)
  (h17: ((c.loops==(fn.params.toList++s.plain.varTypes P).any (P.loopsFrom ·)))=true)
  (h18: ((c.wideKeys==(fn.params.toList++s.plain.varTypes P++fn.resultTypes.toList).any (P.wideKeysFrom ·)))=true)
  (h19: (s.vars.all (P.varReadable ·))=true)
  (h20: (fn.resultTypes.all (fun t=>P.readableRec t&&decide (t<P.types.size)))=true)
  (h21: ((c.ifacesOut==fn.resultTypes.toList.any (P.ifacesRec ·)))=true)
  (h22: ((c.loopsOut==fn.resultTypes.toList.any (P.loopsFrom ·)))=true)
  (wv: ((c.plainKeys==P.plainKeys))=true)
  (Vt: (c.shortTexts.isNone)=true)
  (Fb: (P.stopsHeard)=true)
  (h26: (P.mayEnter)=true)
  (h27: ((c.lifted==P.liftsFinal))=true)
  (h28: ((P.make==some c.make))=true)
  (h29: ((c.kinds==(if c.domain.isEmpty then [] else fn.params.toList.map fun t=>match P.underlying t with|some (.int k)=>some k|_=>none)))=true)
  (h30: ((c.pinned==c.pinnedBy))=true)
  (h31: ((c.veiled==(fn.params.toList++s.plain.varTypes P++fn.resultTypes.toList).any (P.veiledRec ·)))=true)
  (ZR: (c.veiledFits P fn.params.toList (fn.params.toList++s.plain.varTypes P++fn.resultTypes.toList))=true):
  joinedFacts P f fn s c=true:=by
 unfold joinedFacts
 exact(Bool.and_eq_true_iff.2 ⟨(Bool.and_eq_true_iff.2 ⟨(Bool.and_eq_true_iff.2 ⟨(Bool.and_eq_true_iff.2 ⟨(Bool.and_eq_true_iff.2 ⟨(Bool.and_eq_true_iff.2 ⟨(Bool.and_eq_true_iff.2 ⟨(Bool.and_eq_true_iff.2 ⟨(Bool.and_eq_true_iff.2 ⟨(Bool.and_eq_true_iff.2 ⟨(Bool.and_eq_true_iff.2 ⟨(Bool.and_eq_true_iff.2 ⟨(Bool.and_eq_true_iff.2 ⟨(Bool.and_eq_true_iff.2 ⟨(Bool.and_eq_true_iff.2 ⟨(Bool.and_eq_true_iff.2 ⟨(Bool.and_eq_true_iff.2 ⟨(Bool.and_eq_true_iff.2 ⟨(Bool.and_eq_true_iff.2 ⟨(Bool.and_eq_true_iff.2 ⟨(Bool.and_eq_true_iff.2 ⟨(Bool.and_eq_true_iff.2 ⟨(Bool.and_eq_true_iff.2 ⟨(Bool.and_eq_true_iff.2 ⟨(Bool.and_eq_true_iff.2 ⟨(Bool.and_eq_true_iff.2 ⟨(Bool.and_eq_true_iff.2 ⟨(Bool.and_eq_true_iff.2 ⟨(Bool.and_eq_true_iff.2 ⟨(Bool.and_eq_true_iff.2 ⟨(Bool.and_eq_true_iff.2 ⟨h1,h2⟩),h3⟩),h4⟩),h5⟩),h6⟩),h7⟩),h8⟩),h9⟩),ZP⟩),h11⟩),n4⟩),ur⟩),Fa⟩),Vr⟩),h16⟩),h17⟩),h18⟩),h19⟩),h20⟩),h21⟩),h22⟩),wv⟩),Vt⟩),Fb⟩),h26⟩),h27⟩),h28⟩),h29⟩),h30⟩),h31⟩),ZR⟩)
end Go.Sx
