/-
  Part 5 of the walk: contracts of the functions that the law reaches, and the calculus they stand on.
  No conditions.
-/
import Derived.Test.YtfdphhalimbpbaaGreatDoorC4
import Derived.ProofKit
import Derived.OpenShut
import Derived.WideKeyArgs
import Derived.ChangeSame
import Derived.ChangeMaps5
import Derived.Lib.LaidTab
import Derived.SliceStrings
import Derived.DataReads
import Derived.Deep.Strs
set_option maxRecDepth 10000
set_option maxHeartbeats 4000000
set_option linter.unusedSimpArgs false
set_option linter.defProp false
open Go.Proofs.Tryz
section
open Go Go.Proofs Go.Sx Go.StP Go.RefP
namespace Go.Proofs
def Lr {S S':DiskL} (ho:S'.off=S.off) (hs: ∀k,k<3→SrtN (S.dir k).seen) (kS: ∀k,k<3→SrtN (S'.dir k).seen) (h: ∀j,j<3→ ∀x,am S' j x=am S j x):j8 S'=j8 S:=by
 have hk: ∀k,k≤3→lb S' k=lb S k:=fun k=>by
  induction k with
  |zero=>exact fun _=>rfl
  |succ k ih=>
   intro an
   show lb S' k++j0 S' k=lb S k++j0 S k
   rw[ih oM]
   congr 1
   unfold j0
   rw[ho]
   cases S.off with
   |true=>rfl
   |false=>
    simp only[Bool.false_eq_true, ↓reduceIte]
    have hm: ∀T:DiskL,((T.dir k).seen.map fun p=>(⟨d7 k,p.1,(T.files.getD p.2 cL).data⟩:FiL))=((T.dir k).seen.map fun p=>(p.1,(aI T p.2).data)).map fun q=>(⟨d7 k,q.1,q.2⟩:FiL):=fun T=>by
     rw[List.map_map];rfl
    rw[hm S',hm S]
    congr 1
    exact Ep (g:=fun n=>(aI S' n).data) (g':=fun n=>(aI S n).data) (kS k oM) (hs k oM) fun s=>h k oM s
 exact hk 3 (ap _)
def BN {S:DiskL} (ho:S.off=false):j5 S=((j8 S).map fun f=>f.data.length).sum:=by
 have hd: ∀k,((j0 S k).map fun f=>f.data.length).sum=iZ S (S.dir k).seen:=fun k=>by
  unfold j0 iZ
  rw[ho,List.map_map];rfl
 show _=(((([]++j0 S 0)++j0 S 1)++j0 S 2).map fun f:FiL=>f.data.length).sum
 rw[List.nil_append,List.map_append,List.map_append,List.sum_append,List.sum_append,hd,hd,hd]
 rfl
def UL {S S':DiskL} (hc:dK S) (fF:dK S') (hg:GoodS S) (xx:GoodS S') (h: ∀j,j<3→ ∀x,am S' j x=am S j x):j5 S'=j5 S:=by
 rw[BN hc.1,BN fF.1,Lr (fF.1.trans hc.1.symm) hg.srt xx.srt h]
def PY {S S':DiskL} {dir x d s:List UInt8} {k:Nat} (hc:dK S) (fF:dK S') (hk:bG dir=some k) (hf:cS x=true) (hv:am S k x=some d) (Jz:am S' k x=some d) (hu:j5 S'=j5 S) (hm:S'.max=S.max): (bW S' dir x s).2=(bW S dir x s).2:=by
 have h0:cr S dir [x]=0:=by rw[pJ hc hk,if_neg (by simp[hf])]
 have h0':cr S' dir [x]=0:=by rw[pJ fF hk,if_neg (by simp[hf])]
 obtain⟨n,hn,hd⟩:=yo hv
 obtain⟨n',ad,ju⟩:=yo Jz
 have dg:kF S' n' s=kF S n s:=by
  unfold kF
  rw[hd,ju,hu,hm]
 unfold bW
 rw[if_neg (by rw[h0'];simp),if_neg (by rw[h0];simp),lx (S:=S') hk,lx (S:=S) hk,hn,ad]
 simp only
 rw[dg,r9 hc,r9 fF]
 cases kF S n s<;>rfl
def x3 {S:DiskL} (hg:GoodS S) (hc:dK S) {dir nm:List UInt8} {k:Nat} (hk:bG dir=some k) (hn:cS nm=true) (hf:cS (aF nm)=true) (data:List UInt8):
  ∃S2,GoodS S2∧dK S2∧S2.max=S.max∧am S2 k (aF nm)=some []∧(∀j,j<3→ ∀x,(j=k→x≠aF nm)→am S2 j x=am S j x)∧
   (((bW S2 dir (aF nm) data).2=8∧bN S dir nm data false=(8,(fj S2 dir (aF nm)).1))∨((bW S2 dir (aF nm) data).2=0∧(bN S dir nm data false).1=0)):=by
 have hd:d7 k=dir:=(dY hk).2.symm
 have an:=(dY hk).1
 have jk: ∀ {j x},j<3→(j=k→x≠aF nm)→d7 j=dir→x≠aF nm:=fun{j x} hj h e=>h (by
  have:=oF hj
  rw[e,hk] at this
  exact(Option.some.inj this).symm)
 have other: ∀ {A B:DiskL} {kind:Int} {s:List UInt8} {e:Nat},GoodS A→StepD A kind dir (aF nm) s B e→kind≠4→ ∀j,j<3→ ∀x,(j=k→x≠aF nm)→am B j x=am A j x:=fun hA bL h4 j hj x hx=>AF hA bL hj fun e=>⟨jk hj hx e,fun h=>absurd h h4⟩
 obtain⟨S1,⟨b0,h0⟩,g1,c1,m1,v1,o1⟩: ∃S1,(∃b,phT 0 (tk0 dir nm data false) S=⟨b,0,tk0 dir nm data false,S1⟩)∧GoodS S1∧dK S1∧S1.max=S.max∧am S1 k (aF nm)=none∧ ∀j,j<3→ ∀x,(j=k→x≠aF nm)→am S1 j x=am S j x:=by
  have hr:=uF hc hk hf
  show∃S1,(∃b,me (tk0 dir nm data false) S=_)∧_
  unfold me
  cases hv:am S k (aF nm) with
  |none=>
   rw[hv] at hr
   exact⟨S,⟨false,by rw[if_pos (by show(ci S dir (aF nm)).2≠0;rw[hr];simp)]⟩,hg,hc,rfl,hv,fun _ _ _ _=>rfl⟩
  |some d=>
   rw[hv] at hr
   obtain⟨r1,r2⟩:=KD hc hk hf hv
   have st:=qv S dir (aF nm) []
   refine⟨(fj S dir (aF nm)).1,⟨true, ?_⟩,lG hg st,mX hc st,J0 st,r2,other hg st (by decide)⟩
   rw[if_neg (by show¬ (ci S dir (aF nm)).2≠0;rw[hr];simp)]
   show PhR.mk true (fj S dir (aF nm)).2 _ _=_
   rw[r1];rfl
 obtain⟨r1,r2⟩:=WG_ g1 c1 hk hf v1
 have st2:=ID S1 dir (aF nm) []
 have g2:=lG g1 st2
 have c2:=mX c1 st2
 have m2:=(J0 st2).trans m1
 have o2:=other g1 st2 (by decide)
 have h1:phT 1 (tkN dir nm data false 1 false) S1=⟨true,0,tkN dir nm data false 1 true,(cv S1 dir (aF nm)).1⟩:=by
  show PhR.mk true (cv S1 dir (aF nm)).2 {tkN dir nm data false 1 false with made:=(cv S1 dir (aF nm)).2==0} _=_
  rw[r1];rfl
 clear st2
 generalize (cv S1 dir (aF nm)).1=S2 at*
 refine⟨S2,g2,c2,m2,r2,fun j hj x hx=>(o2 j hj x hx).trans (o1 j hj x hx), ?_⟩
 have st3:=A0 S2 dir (aF nm) data
 have g3:=lG g2 st3
 have c3:=mX c2 st3
 have h2:phT 2 (tkN dir nm data false 2 true) S2=⟨true,(bW S2 dir (aF nm) data).2,tkN dir nm data false 2 true,(bW S2 dir (aF nm) data).1⟩:=rfl
 have hp:bN S dir nm data false=phG 4 (tkN dir nm data false 2 true) S2:=by
  unfold bN
  rw[i' (t':=tkN dir nm data false 1 false) h0 rfl rfl rfl,i' (t':=tkN dir nm data false 2 true) h1 rfl rfl rfl]
 rcases VV_ g2 c2 hk hf r2 data with⟨a1,a2⟩ | ⟨a1,a2⟩
 ·refine .inl ⟨a1, ?_⟩
  rw[hp,oI h2 (by show(bW S2 dir (aF nm) data).2≠0;rw[a1];simp)]
  unfold dm
  rw[if_pos ⟨rfl,by show(bW S2 dir (aF nm) data).2≠9;rw[a1];simp⟩]
  show((bW S2 dir (aF nm) data).2,(fj (bW S2 dir (aF nm) data).1 dir (aF nm)).1)=_
  rw[a1,a2]
 refine .inr ⟨a1, ?_⟩
 rw[List.nil_append] at a2
 rw[hp,i' (t':=tkN dir nm data false 3 true) h2 a1 rfl rfl]
 show(phG 3 _ (bW S2 dir (aF nm) data).1).1=0
 generalize (bW S2 dir (aF nm) data).1=S3 at*
 obtain⟨s1,s2⟩:=Kk g3 c3 hk hf a2
 have st5:=vQ S3 dir (aF nm) []
 have h3:phT 3 (tkN dir nm data false 3 true) S3=⟨true,0,tkN dir nm data false 3 true,(bU S3 dir (aF nm)).1⟩:=by
  show PhR.mk true (bU S3 dir (aF nm)).2 _ _=_
  rw[s1];rfl
 have g4:=lG g3 st5
 have c4:=mX c3 st5
 rw[i' (t':=tkN dir nm data false 4 true) h3 rfl rfl rfl]
 show(phG 2 _ (bU S3 dir (aF nm)).1).1=0
 generalize (bU S3 dir (aF nm)).1=S' at*
 obtain⟨n1,n2,n3⟩:=VB_ g4 c4 hk hf hn (uL nm) s2
 have st:=IF S' dir (aF nm) nm
 have c5:=mX c4 st
 have h4:phT 4 (tkN dir nm data false 4 true) S'=⟨true,0,tkN dir nm data false 4 false,(dU S' dir (aF nm) nm).1⟩:=by
  show PhR.mk true (dU S' dir (aF nm) nm).2 {tkN dir nm data false 4 true with made:=true&& (dU S' dir (aF nm) nm).2 !=0} _=_
  rw[n1];rfl
 rw[i' (t':=tkN dir nm data false 5 false) h4 rfl rfl rfl]
 show(phG 1 _ (dU S' dir (aF nm) nm).1).1=0
 generalize (dU S' dir (aF nm) nm).1=S5 at*
 obtain⟨d1,d2⟩:=Kp_ c5 hk
 have h5:phT 5 (tkN dir nm data false 5 false) S5=⟨true,0,tkN dir nm data false 5 false,(fT S5 dir).1⟩:=by
  show PhR.mk true (fT S5 dir).2 _ _=_
  rw[d1];rfl
 rw[s7 h5 rfl rfl]
def DF {S:DiskL} (hg:GoodS S) (hc:dK S) {dir nm:List UInt8} {k:Nat} (hk:bG dir=some k) (hn:cS nm=true) (hf:cS (aF nm)=true) (data:List UInt8) (h: (bN S dir nm data false).1≠0):
  (bN S dir nm data false).1=8∧(bN (bN S dir nm data false).2 dir nm data false).1=8∧j8 (bN (bN S dir nm data false).2 dir nm data false).2=j8 (bN S dir nm data false).2:=by
 obtain⟨S2,g2,c2,m2,v2,o2,h2⟩:=x3 hg hc hk hn hf data
 rcases h2 with⟨a2,p2⟩ | ⟨-,p2⟩
 ·rw[p2]
  have st:=qv S2 dir (aF nm) []
  have g3:=lG g2 st
  have c3:=mX c2 st
  have m3:=J0 st
  obtain⟨-,v3⟩:=KD c2 hk hf v2
  have jk: ∀ {j x},j<3→(j=k→x≠aF nm)→d7 j=dir→x≠aF nm:=fun{j x} hj h e=>h (by
   have:=oF hj
   rw[e,hk] at this
   exact(Option.some.inj this).symm)
  have o3: ∀j,j<3→ ∀x,(j=k→x≠aF nm)→am (fj S2 dir (aF nm)).1 j x=am S2 j x:=fun j hj x hx=>AF g2 st hj fun e=>⟨jk hj hx e,fun h=>by cases h⟩
  simp only
  clear st p2 h
  generalize (fj S2 dir (aF nm)).1=S3 at*
  obtain⟨S4,g4,c4,m4,v4,o4,h4⟩:=x3 g3 c3 hk hn hf data
  have hvw: ∀j,j<3→ ∀x,am S4 j x=am S2 j x:=fun j hj x=>by
   by_cases hx:j=k∧x=aF nm
   ·rw[hx.1,hx.2,v4,v2]
   have vI:j=k→x≠aF nm:=fun e1 e2=>hx ⟨e1,e2⟩
   rw[o4 j hj x vI,o3 j hj x vI]
  have p9:=PY (s:=data) c2 c4 hk hf v2 v4 (UL c2 c4 g2 g4 hvw) (m4.trans m3)
  rcases h4 with⟨a4,p4⟩ | ⟨a4,-⟩
  ·rw[p4]
   refine⟨trivial,rfl, ?_⟩
   have st5:=qv S4 dir (aF nm) []
   have g5:=lG g4 st5
   have c5:=mX c4 st5
   obtain⟨-,v5⟩:=KD c4 hk hf v4
   refine Lr (c5.1.trans c3.1.symm) g3.srt g5.srt fun j hj x=> ?_
   by_cases hx:j=k∧x=aF nm
   ·rw[hx.1,hx.2,v5,v3]
   have vI:j=k→x≠aF nm:=fun e1 e2=>hx ⟨e1,e2⟩
   rw[o3 j hj x vI,←hvw j hj x]
   exact AF g4 st5 hj fun e=>⟨jk hj vI e,fun h=>by cases h⟩
  rw[p9,a2] at a4;cases a4
 exact absurd p2 h
def fineBk:cS aL=true∧cS (aF aL)=true:=by decide+kernel
def CV {S:DiskL} (hc:dK S) {s:List UInt8}:ci S aJ aL=(s,0)↔am S 2 aL=some s:=by
 rw[uF hc (dir:=aJ) (k:=2) rfl fineBk.1]
 cases am S 2 aL with
 |none=>simp
 |some d=>simp
def Vg {S:DiskL} (hc:dK S): (ci S aJ aL).2=6∨ ∃s,ci S aJ aL=(s,0):=by
 rw[uF hc (dir:=aJ) (k:=2) rfl fineBk.1]
 cases am S 2 aL with
 |none=>exact .inl rfl
 |some d=>exact .inr ⟨d,rfl⟩
def AA {S:DiskL} {s:List UInt8} (h:ci S aJ aL=(s,0)):dF S=match iY s with|none=>(none,17,S) |some p=>endB S s p:=by
 unfold dF da
 rw[h]
 rfl
def JI {S:DiskL} (hg:GoodS S) (hc:dK S) {s:List UInt8} {p:List RefL×List RefL×Nat} (hr:ci S aJ aL=(s,0)) (_hb:iY s=some p) (hl: ¬p.2.2<s.length):
  endB S s p=(some ⟨p.1,p.2.1,p.2.1.length⟩,0,(bU S aJ aL).1)∧GoodS (bU S aJ aL).1∧dK (bU S aJ aL).1∧ci (bU S aJ aL).1 aJ aL=(s,0)∧j8 (bU S aJ aL).1=j8 S:=by
 have hv:=(CV hc).1 hr
 obtain⟨s1,s2⟩:=Kk hg hc (dir:=aJ) (k:=2) rfl fineBk.1 hv
 have st:=vQ S aJ aL []
 have g1:=lG hg st
 have c1:=mX hc st
 refine⟨?_,g1,c1,(CV c1).2 s2,Lr (c1.1.trans hc.1.symm) hg.srt g1.srt fun j hj x=> ?_⟩
 ·unfold endB
  simp only[if_neg hl,s1,ne_eq,not_true_eq_false, ↓reduceIte]
 by_cases hx:j=2∧x=aL
 ·rw[hx.1,hx.2,s2,hv]
 exact AF hg st hj fun e=>⟨fun e2=>hx ⟨by
  have:=oF hj
  rw[e] at this
  exact(Option.some.inj (this.symm.trans (show bG aJ=some 2 from rfl))),e2⟩,fun h=>by cases h⟩
def uK (_S:DiskL) (R:Option BkL×Nat×DiskL):Prop:=(dF R.2.2).1=R.1∧(dF R.2.2).2.1=R.2.1∧j8 (dF R.2.2).2.2=j8 R.2.2
def Bf {S:DiskL} (hg:GoodS S) (hc:dK S) {s:List UInt8} {p:List RefL×List RefL×Nat} (hr:ci S aJ aL=(s,0)) (hb:iY s=some p) (hl: ¬p.2.2<s.length):uK S (some ⟨p.1,p.2.1,p.2.1.length⟩,0,(bU S aJ aL).1):=by
 obtain⟨-,g1,c1,r1,-⟩:=JI hg hc hr hb hl
 obtain⟨e2,-,-,-,f2⟩:=JI g1 c1 r1 hb hl
 have ho:=AA r1
 rw[hb] at ho
 simp only at ho
 unfold uK
 simp only
 rw[ho,e2]
 exact⟨rfl,rfl,f2⟩
def CJ {S:DiskL} (hg:GoodS S) (hc:dK S) {s:List UInt8} {p:List RefL×List RefL×Nat} (hr:ci S aJ aL=(s,0)) (hb:iY s=some p):uK S (endB S s p):=by
 by_cases hl:p.2.2<s.length
 ·have ta:=Ky hg hc aJ aL (s.take p.2.2)
  have u':=AW hc aJ aL (s.take p.2.2) false
  have Jo:=(wo hg aJ aL (s.take p.2.2) false).good
  by_cases h0: (bN S aJ aL (s.take p.2.2) false).1=0
  ·obtain⟨r1,-⟩:=ta.2 h0
   obtain⟨ha,-,al⟩:=CR (t:=p.1) (l:=p.2.1) (a:=p.2.2) hb
   have fX: ¬p.2.2< (s.take p.2.2).length:=by rw[List.length_take];omega
   have he:endB S s p=endB (bN S aJ aL (s.take p.2.2) false).2 (s.take p.2.2) p:=by
    unfold endB
    simp only[if_pos hl,if_neg fX,h0,ne_eq,not_true_eq_false, ↓reduceIte]
   rw[he]
   have hT:=Bf Jo u' r1 al fX
   rw[(JI Jo u' r1 al fX).1]
   exact hT
  obtain⟨t1,t2,t3⟩:=DF hg hc (dir:=aJ) (k:=2) rfl fineBk.1 fineBk.2 (s.take p.2.2) h0
  have r1:=ta.1 h0
  rw[hr] at r1
  have he:endB S s p=(none,bN S aJ aL (s.take p.2.2) false):=by
   unfold endB
   simp only[if_pos hl,if_pos h0]
  have tO:endB (bN S aJ aL (s.take p.2.2) false).2 s p=(none,bN (bN S aJ aL (s.take p.2.2) false).2 aJ aL (s.take p.2.2) false):=by
   unfold endB
   simp only[if_pos hl]
   rw[if_pos (by rw[t2];decide)]
  have ho:=AA r1
  rw[hb] at ho
  simp only at ho
  unfold uK
  rw[he]
  simp only
  rw[ho,tO]
  exact⟨rfl,t2.trans t1.symm,t3⟩
 rw[(JI hg hc hr hb hl).1]
 exact Bf hg hc hr hb hl
def Fp:iY (be [] [])=some ([],[],(be [] []).length):=by kernel_rfl
def Sq {S:DiskL} (hg:GoodS S) (hc:dK S):uK S (dF S):=by
 rcases Vg hc with h6| ⟨s,hr⟩
 ·have ta:=Ky hg hc aJ aL (be [] [])
  have u':=AW hc aJ aL (be [] []) false
  have Jo:=(wo hg aJ aL (be [] []) false).good
  by_cases h0: (bN S aJ aL (be [] []) false).1=0
  ·obtain⟨r1,-⟩:=ta.2 h0
   have ho:dF S=dF (bN S aJ aL (be [] []) false).2:=by
    rw[AA r1]
    unfold dF da
    rw[if_pos h6]
    simp only
    rw[if_neg (by rw[h0];simp)]
    cases iY (be [] [])<;>rfl
   rw[ho,AA r1,Fp]
   exact CJ Jo u' r1 Fp
  obtain⟨t1,t2,t3⟩:=DF hg hc (dir:=aJ) (k:=2) rfl fineBk.1 fineBk.2 (be [] []) h0
  have r1:=ta.1 h0
  have h: ∀T:DiskL,(ci T aJ aL).2=6→(bN T aJ aL (be [] []) false).1≠0→dF T=(none,bN T aJ aL (be [] []) false):=fun T a b=>by
   unfold dF da
   rw[if_pos a]
   simp only
   rw[if_pos b]
  have e1:=h S h6 h0
  have e2:=h _ (by rw[r1];exact h6) (by rw[t2];decide)
  unfold uK
  rw[e1]
  simp only
  rw[e2]
  exact⟨rfl,t2.trans t1.symm,t3⟩
 rw[AA hr]
 cases hb:iY s with
 |none=>
  unfold uK
  simp only
  rw[AA hr,hb]
  exact⟨rfl,rfl,rfl⟩
 |some p=>exact CJ hg hc hr hb
end Go.Proofs
end
section
open Go Go.Proofs Go.Sx Go.StP
namespace Go.Proofs
structure PreI (S0 S:DiskL) (k:Nat) (nm:List UInt8):Prop where
 fs: ∀n,n<S0.files.length→aI S n=aI S0 n
 len:S0.files.length≤S.files.length
 stl: ∀j,j<3→(S.dir j).stl=(S0.dir j).stl
 pend: ∀j,j<3→ ∀c,c∈ (S.dir j).pend→j=k∧c.a=aF nm∧c.kind≠1
def jd (S0 S:DiskL) (k:Nat) (nm data:List UInt8) (m:Nat):Prop:=aR (S.dir k).seen (aF nm)=some m∧S0.files.length≤m∧m<S.files.length∧(aI S m).data=data
structure PostI (S0 S:DiskL) (k:Nat) (nm data:List UInt8) (light:Bool) (m:Nat):Prop where
 fs: ∀n,n<S0.files.length→aI S n=aI S0 n
 stl: ∀j,j<3→(S.dir j).stl=(S0.dir j).stl
 pendO: ∀j,j<3→j≠k→(S.dir j).pend= []
 pend: ∃q,(S.dir k).pend=q++ [⟨1,aF nm,nm,0⟩]∧ ∀c,c∈q→c.a=aF nm∧c.kind≠1
 at_:aR (S.dir k).seen nm=some m
 data: (aI S m).data=data
 set:light=false→(aI S m).stl=(aI S m).data.length
structure DoneI (S0 S:DiskL) (k:Nat) (nm data:List UInt8) (m:Nat):Prop where
 fs: ∀n,n<S0.files.length→aI S n=aI S0 n
 oth: ∀j,j<3→ ∀x,(j=k→x≠nm∧x≠aF nm)→aR (S.dir j).stl x=aR (S0.dir j).stl x
 pend: ∀j,j<3→(S.dir j).pend= []
 at_:aR (S.dir k).stl nm=some m
 data: (aI S m).data=data
 set: (aI S m).stl=(aI S m).data.length
section
variable {S0 S:DiskL} {k:Nat} {nm dir data:List UInt8} {m:Nat}
def Zi {S':DiskL} (h:PreI S0 S k nm) (h1:S'.dir=S.dir) (h2:S'.files=S.files):PreI S0 S' k nm:=by
 have e: ∀n,aI S' n=aI S n:=fun n=>by unfold aI;rw[h2]
 exact⟨fun n hn=>(e n).trans (h.fs n hn),by rw[h2];exact h.len,fun j hj=>by rw[h1];exact h.stl j hj,fun j hj=>by rw[h1];exact h.pend j hj⟩
def u1 (h:PreI S0 S k nm):PreI S0 (aM S).1 k nm:=Zi h (fM S).1 (fM S).2.1
def Do (h:PreI S0 S k nm) {c:CallL} (h1:c.a=aF nm) (h2:c.kind≠1):PreI S0 (cz S k c) k nm:=by
 refine⟨h.fs,h.len,fun j hj=> ?_,fun j hj c' hc=> ?_⟩
 ·unfold cz
  by_cases e:j=k
  ·subst e;rw[ka];exact h.stl j hj
  rw[lI _ _ e];exact h.stl j hj
 unfold cz at hc
 by_cases e:j=k
 ·subst e
  rw[ka] at hc
  rcases List.mem_append.1 hc with hc|hc
  ·exact h.pend j hj c' hc
  rw[List.mem_singleton.1 hc];exact⟨rfl,h1,h2⟩
 rw[lI _ _ e] at hc
 exact h.pend j hj c' hc
def Xv (h:PreI S0 S k nm):PreI S0 (fK S cL) k nm:=by
 refine⟨fun n hn=> ?_, ?_,h.stl,h.pend⟩
 ·rw[Kz _ _ (Nat.lt_of_lt_of_le hn h.len)];exact h.fs n hn
 show _≤ (S.files++ [cL]).length
 rw[List.length_append]
 have:=h.len
 omega
def FH (h:PreI S0 S k nm) (hm:S0.files.length≤m) (hl:m<S.files.length) (f:FileL):PreI S0 (gm S m f) k nm:=by
 refine⟨fun n hn=> ?_, ?_,h.stl,h.pend⟩
 ·rw[rD _ _ hl,if_neg oM];exact h.fs n hn
 show _≤ (S.files.set m f).length
 rw[List.length_set];exact h.len
def Bc (hk:bG dir=some k) (h:PreI S0 S k nm):PreI S0 (fj S dir (aF nm)).1 k nm:=by
 unfold fj
 split
 ·exact h
 split
 ·exact h
 split
 ·exact u1 h
 rw[hk]
 exact Do (u1 h) rfl fun e=>by cases e
def Qi (hk:bG dir=some k) (h:PreI S0 S k nm):PreI S0 (cv S dir (aF nm)).1 k nm:=by
 unfold cv
 split
 ·exact h
 split
 ·exact h
 split
 ·exact u1 h
 rw[hk]
 exact Do (Xv (u1 h)) rfl fun e=>by cases e
def PZ (hk:bG dir=some k) (hg:GoodS S) (h:PreI S0 S k nm) (he: (cv S dir (aF nm)).2=0):jd S0 (cv S dir (aF nm)).1 k nm [] S.files.length:=by
 have an:=(dY hk).1
 unfold cv at he ⊢
 split at he
 ·rename_i hf;exact absurd he hf
 rename_i hf
 rw[if_neg hf]
 split at he
 ·cases he
 split at he
 ·rename_i hb;exact absurd he hb
 rename_i hb
 rw[if_neg hb,hk]
 obtain⟨aO,al,-⟩:=fM S
 refine⟨?_,h.len, ?_, ?_⟩
 ·show aR ((cz (fK (aM S).1 cL) k ⟨0,aF nm,[],S.files.length⟩).dir k).seen (aF nm)=_
  rw[vS,if_pos rfl]
  show aR (gK ((aM S).1.dir k).seen (aF nm,S.files.length)) (aF nm)=_
  rw[aO]
  exact IA (hg.srt k an) (aF nm,S.files.length)
 ·show S.files.length< ((aM S).1.files++ [cL]).length
  rw[al,List.length_append];simp
 show(aI (fK (aM S).1 cL) S.files.length).data= []
 rw[←al,IV];rfl
def SB (hk:bG dir=some k) {d:List UInt8} (h:PreI S0 S k nm) (hm:jd S0 S k nm d m) (s:List UInt8):PreI S0 (bW S dir (aF nm) s).1 k nm:=by
 obtain⟨h1,h2,h3,-⟩:=hm
 unfold bW
 split
 ·exact h
 rw[lx hk,h1]
 simp only
 split
 ·exact h
 split
 ·exact u1 h
 exact FH (u1 h) h2 (by rw[(fM S).2.1];exact h3) _
def Pz (hk:bG dir=some k) {d:List UInt8} (hm:jd S0 S k nm d m) {s:List UInt8} (he: (bW S dir (aF nm) s).2=0):jd S0 (bW S dir (aF nm) s).1 k nm (d++s) m:=by
 obtain⟨h1,h2,h3,h4⟩:=hm
 obtain⟨aO,al,-⟩:=fM S
 unfold bW at he ⊢
 split at he
 ·rename_i hf;exact absurd he hf
 rename_i hf
 rw[if_neg hf]
 rw[lx hk,h1] at he ⊢
 simp only at he ⊢
 split at he
 ·cases he
 rename_i dg
 rw[if_neg dg]
 split at he
 ·rename_i hb;exact absurd he hb
 rename_i hb
 rw[if_neg hb]
 have hl:m< (aM S).1.files.length:=by rw[al];exact h3
 refine⟨by show aR ((aM S).1.dir k).seen _=_;rw[aO];exact h1,h2,by show m< ((aM S).1.files.set m _).length;rw[List.length_set];exact hl, ?_⟩
 rw[rD _ _ hl,if_pos rfl,←h4]
def W_ (hk:bG dir=some k) {d:List UInt8} (h:PreI S0 S k nm) (hm:jd S0 S k nm d m):PreI S0 (bU S dir (aF nm)).1 k nm:=by
 obtain⟨h1,h2,h3,-⟩:=hm
 unfold bU
 split
 ·exact h
 rw[lx hk,h1]
 simp only
 split
 ·exact u1 h
 exact FH (u1 h) h2 (by rw[(fM S).2.1];exact h3) _
def Tz (hk:bG dir=some k) {d:List UInt8} (hm:jd S0 S k nm d m) (he: (bU S dir (aF nm)).2=0):jd S0 (bU S dir (aF nm)).1 k nm d m∧(aI (bU S dir (aF nm)).1 m).stl=d.length:=by
 obtain⟨h1,h2,h3,h4⟩:=hm
 obtain⟨aO,al,-⟩:=fM S
 unfold bU at he ⊢
 split at he
 ·rename_i hf;exact absurd he hf
 rename_i hf
 rw[if_neg hf]
 rw[lx hk,h1] at he ⊢
 simp only at he ⊢
 split at he
 ·rename_i hb;exact absurd he hb
 rename_i hb
 rw[if_neg hb]
 have hl:m< (aM S).1.files.length:=by rw[al];exact h3
 have HH:=rD (aM S).1 (m:=m) ⟨(aI S m).data,(aI S m).data.length⟩ hl m
 rw[if_pos rfl] at HH
 simp only
 refine⟨⟨by show aR ((aM S).1.dir k).seen _=_;rw[aO];exact h1,h2,by show m< ((aM S).1.files.set m _).length;rw[List.length_set];exact hl, ?_⟩, ?_⟩
 ·rw[HH];exact h4
 rw[HH,←h4]
def R3 (h:PreI S0 S k nm) (he: (dU S dir (aF nm) nm).2≠0):PreI S0 (dU S dir (aF nm) nm).1 k nm:=by
 unfold dU at he ⊢
 split at he
 ·rename_i hf;rw[if_pos hf];exact h
 rename_i hf
 rw[if_neg hf]
 split at he
 ·exact h
 rw[if_neg (uL nm)] at he ⊢
 split at he
 ·rename_i hb;rw[if_pos hb];exact u1 h
 exact absurd rfl he
def OT (hk:bG dir=some k) (hg:GoodS S) (h:PreI S0 S k nm) (hm:jd S0 S k nm data m) {light:Bool} (hs:light=false→(aI S m).stl=data.length) (he: (dU S dir (aF nm) nm).2=0):PostI S0 (dU S dir (aF nm) nm).1 k nm data light m:=by
 obtain⟨h1,h2,h3,h4⟩:=hm
 have an:=(dY hk).1
 obtain⟨aO,al,-⟩:=fM S
 unfold dU at he ⊢
 split at he
 ·rename_i hf;exact absurd he hf
 rename_i hf
 rw[if_neg hf]
 rw[lx hk,h1] at he ⊢
 simp only at he ⊢
 rw[if_neg (uL nm)] at he ⊢
 split at he
 ·rename_i hb;exact absurd he hb
 rename_i hb
 rw[if_neg hb,hk]
 have hT: ∀j,((cz (aM S).1 k ⟨1,aF nm,nm,0⟩).dir j)=if j=k then⟨cw (S.dir k).seen ⟨1,aF nm,nm,0⟩,(S.dir k).stl,(S.dir k).pend++ [⟨1,aF nm,nm,0⟩]⟩ else S.dir j:=fun j=>by
  unfold cz
  by_cases e:j=k
  ·subst e;rw[ka,if_pos rfl,aO]
  rw[lI _ _ e,if_neg e,aO]
 refine⟨fun n hn=>(mZ S n).trans (h.fs n hn),fun j hj=> ?_,fun j hj e=> ?_,⟨(S.dir k).pend, ?_,fun c hc=>⟨(h.pend k an c hc).2.1,(h.pend k an c hc).2.2⟩⟩, ?_, ?_,fun hl=> ?_⟩
 ·show((cz (aM S).1 k _).dir j).stl=_
  rw[hT]
  by_cases e:j=k
  ·subst e;rw[if_pos rfl];exact h.stl j hj
  rw[if_neg e];exact h.stl j hj
 ·show((cz (aM S).1 k _).dir j).pend=_
  rw[hT,if_neg e]
  cases hp: (S.dir j).pend with
  |nil=>rfl
  |cons c r=>exact absurd (h.pend j hj c (by rw[hp];exact aa)).1 e
 ·show((cz (aM S).1 k _).dir k).pend=_
  rw[hT,if_pos rfl]
 ·show aR ((cz (aM S).1 k _).dir k).seen nm=_
  rw[hT,if_pos rfl]
  show aR (gK (fC (S.dir k).seen (aF nm)) (nm,(aR (S.dir k).seen (aF nm)).getD 0)) nm=_
  rw[h1]
  exact IA (Ax _ (hg.srt k an)) (nm,m)
 ·exact(congrArg FileL.data (mZ S m)).trans h4
 show(aI (aM S).1 m).stl=(aI (aM S).1 m).data.length
 rw[mZ,hs hl,h4]
def Ui {light:Bool} (h:PostI S0 S k nm data light m):PostI S0 (aM S).1 k nm data light m:=by
 obtain⟨aO,al,-⟩:=fM S
 exact⟨fun n hn=>(mZ S n).trans (h.fs n hn),fun j hj=>by rw[aO];exact h.stl j hj,fun j hj e=>by rw[aO];exact h.pendO j hj e,by rw[aO];exact h.pend,by rw[aO];exact h.at_,by rw[mZ];exact h.data,fun hl=>by rw[mZ];exact h.set hl⟩
def Nx {light:Bool} (h:PostI S0 S k nm data light m) (he: (fT S dir).2≠0):PostI S0 (fT S dir).1 k nm data light m:=by
 unfold fT at he ⊢
 split at he
 ·rename_i hf;rw[if_pos hf];exact h
 rename_i hf
 rw[if_neg hf]
 split at he
 ·rename_i hb;rw[if_pos hb];exact Ui h
 exact absurd rfl he
def NJ (hk:bG dir=some k) (hh:fe S) (h:PostI S0 S k nm data false m) (he: (fT S dir).2=0):DoneI S0 (fT S dir).1 k nm data m:=by
 have an:=(dY hk).1
 obtain⟨aO,al,-⟩:=fM S
 unfold fT at he ⊢
 split at he
 ·rename_i hf;exact absurd he hf
 rename_i hf
 rw[if_neg hf]
 split at he
 ·rename_i hb;exact absurd he hb
 rename_i hb
 rw[if_neg hb,hk]
 have hT: ∀j,((kU (aM S).1 k).dir j)=if j=k then⟨(S.dir k).seen,(S.dir k).seen,[]⟩ else S.dir j:=fun j=>by
  unfold kU
  by_cases e:j=k
  ·subst e;rw[ka,if_pos rfl,aO]
  rw[lI _ _ e,if_neg e,aO]
 obtain⟨q,hq,hqc⟩:=h.pend
 refine⟨fun n hn=>(mZ S n).trans (h.fs n hn),fun j hj x hx=> ?_,fun j hj=> ?_, ?_,(congrArg FileL.data (mZ S m)).trans h.data, ?_⟩
 ·show aR ((kU (aM S).1 k).dir j).stl x=_
  rw[hT]
  by_cases e:j=k
  ·subst e
   rw[if_pos rfl]
   show aR (S.dir j).seen x=_
   rw[← (hh j).1,Kf _ _ fun c hc=> ?_,h.stl j hj]
   rw[hq] at hc
   rcases List.mem_append.1 hc with hc|hc
   ·exact⟨by rw[(hqc c hc).1];exact Ne.symm (hx rfl).2,fun h5=>absurd h5 (hqc c hc).2⟩
   rw[List.mem_singleton.1 hc]
   exact⟨Ne.symm (hx rfl).2,fun _=>Ne.symm (hx rfl).1⟩
  rw[if_neg e,h.stl j hj]
 ·show((kU (aM S).1 k).dir j).pend=_
  rw[hT]
  by_cases e:j=k
  ·rw[if_pos e]
  rw[if_neg e];exact h.pendO j hj e
 ·show aR ((kU (aM S).1 k).dir k).stl nm=_
  rw[hT,if_pos rfl]
  exact h.at_
 show(aI (aM S).1 m).stl=(aI (aM S).1 m).data.length
 rw[mZ]
 exact h.set rfl
end
def Kw {S0:DiskL} {k:Nat} {nm dir:List UInt8} (hk:bG dir=some k) {r:PhR} (hd:r.t.dir=dir) (hn:r.t.name=nm) (h:PreI S0 r.S k nm):PreI S0 (dm r).S k nm:=by
 unfold dm
 split
 ·rw[hd,hn];exact Bc hk h
 exact h
def Lt {r:PhR} (h:r.t.made=false): (dm r).S=r.S:=by
 unfold dm
 rw[if_neg (fun h'=>by have: (nxT r).made=false:=h;rw[this] at h';cases h'.1)]
def nT (S0:DiskL) (k:Nat) (nm data:List UInt8) (light:Bool) (r:Nat×DiskL):Prop:=
 (PreI S0 r.2 k nm∧r.1≠0)∨(∃m,PostI S0 r.2 k nm data light m∧(light=false→r.1≠0))∨ ∃m,light=false∧DoneI S0 r.2 k nm data m
def QS {S0:DiskL} (h0: ∀j,j<3→(S0.dir j).pend= []) (hg:GoodS S0) (hh:fe S0) {dir nm:List UInt8} {k:Nat} (hk:bG dir=some k) (data:List UInt8) (light:Bool):nT S0 k nm data light (bN S0 dir nm data light):=by
 have an:=(dY hk).1
 have fP:PreI S0 S0 k nm:=⟨fun _ _=>rfl,ap _,fun _ _=>rfl,fun j hj c hc=>by rw[h0 j hj] at hc;cases hc⟩
 have hl: ∀n m,endT (nxT ⟨true,0,tkN dir nm data light n m,S0⟩)=(n+1==6|| (light&&n+1==5)):=fun _ _=>rfl
 obtain⟨b0,e0,S1,my,p1,g1,hh1⟩: ∃b0 e0 S1,phT 0 (tk0 dir nm data light) S0=⟨b0,e0,tk0 dir nm data light,S1⟩∧PreI S0 S1 k nm∧GoodS S1∧fe S1:=by
  show∃b0 e0 S1,me (tk0 dir nm data light) S0=_∧_
  unfold me
  split
  ·exact⟨false,0,S0,rfl,fP,hg,hh⟩
  have st:=qv S0 dir (aF nm) []
  exact⟨true,_,_,rfl,Bc hk fP,lG hg st,ym hh st⟩
 unfold bN
 by_cases z0:e0≠0
 ·rw[oI my z0]
  exact .inl ⟨by show PreI S0 (dm _).S k nm;rw[Lt rfl];exact p1,by show(dm _).e≠0;rw[(yx _).1];exact z0⟩
 obtain rfl:e0=0:=by simpa using z0
 rw[i' (t':=tkN dir nm data light 1 false) my rfl (by cases light<;>rfl) (by cases light<;>rfl)]
 show nT S0 k nm data light (phG 5 _ S1)
 have st2:=ID S1 dir (aF nm) []
 have p2:=Qi hk p1
 have g2:=lG g1 st2
 have hh2:=ym hh1 st2
 have gj:=fun he=>PZ (dir:=dir) hk g1 p1 he
 have lU:phT 1 (tkN dir nm data light 1 false) S1=⟨true,(cv S1 dir (aF nm)).2,tkN dir nm data light 1 ((cv S1 dir (aF nm)).2==0),(cv S1 dir (aF nm)).1⟩:=rfl
 generalize cv S1 dir (aF nm)=q at*
 obtain⟨S2,e1⟩:=q
 simp only at p2 g2 hh2 gj lU
 by_cases z1:e1≠0
 ·rw[oI lU z1]
  exact .inl ⟨by show PreI S0 (dm _).S k nm;rw[Lt (beq_eq_false_iff_ne.2 z1)];exact p2,by show(dm _).e≠0;rw[(yx _).1];exact z1⟩
 obtain rfl:e1=0:=by simpa using z1
 have m2:=gj rfl
 clear gj
 rw[i' (t':=tkN dir nm data light 2 true) lU rfl (by cases light<;>rfl) (by cases light<;>rfl)]
 show nT S0 k nm data light (phG 4 _ S2)
 generalize S1.files.length=m at*
 have st3:=A0 S2 dir (aF nm) data
 have p3:=SB hk p2 m2 data
 have g3:=lG g2 st3
 have hh3:=ym hh2 st3
 have zm:=fun he=>Pz (s:=data) hk m2 he
 rw[List.nil_append] at zm
 have jL:phT 2 (tkN dir nm data light 2 true) S2=⟨true,(bW S2 dir (aF nm) data).2,tkN dir nm data light 2 true,(bW S2 dir (aF nm) data).1⟩:=rfl
 generalize bW S2 dir (aF nm) data=q at*
 obtain⟨S3,e2⟩:=q
 simp only at p3 g3 hh3 zm jL
 by_cases z2:e2≠0
 ·rw[oI jL z2]
  exact .inl ⟨Kw hk rfl rfl p3,by show(dm _).e≠0;rw[(yx _).1];exact z2⟩
 obtain rfl:e2=0:=by simpa using z2
 have m3:=zm rfl
 clear zm
 rw[i' (t':=tkN dir nm data light 3 true) jL rfl (by cases light<;>rfl) (by cases light<;>rfl)]
 show nT S0 k nm data light (phG 3 _ S3)
 have h4:nT S0 k nm data light (phG 3 (tkN dir nm data light 3 true) S3)∨ ∃S4,phG 3 (tkN dir nm data light 3 true) S3=phG 2 (tkN dir nm data light 4 true) S4∧PreI S0 S4 k nm∧GoodS S4∧fe S4∧jd S0 S4 k nm data m∧(light=false→(aI S4 m).stl=data.length):=by
  cases light with
  |true=>
   have o8:phT 3 (tkN dir nm data true 3 true) S3=⟨false,0,tkN dir nm data true 3 true,S3⟩:=rfl
   exact .inr ⟨S3,by rw[i' (t':=tkN dir nm data true 4 true) o8 rfl rfl rfl],p3,g3,hh3,m3,fun h=>by cases h⟩
  |false=>
   have st4:=vQ S3 dir (aF nm) []
   have p4:=W_ hk p3 m3
   have g4:=lG g3 st4
   have Ji:=ym hh3 st4
   have Ha:=fun he=>Tz (dir:=dir) hk m3 he
   have o8:phT 3 (tkN dir nm data false 3 true) S3=⟨true,(bU S3 dir (aF nm)).2,tkN dir nm data false 3 true,(bU S3 dir (aF nm)).1⟩:=rfl
   generalize bU S3 dir (aF nm)=q at*
   obtain⟨S4,e3⟩:=q
   simp only at p4 g4 Ji Ha o8
   by_cases z3:e3≠0
   ·left
    rw[oI o8 z3]
    exact .inl ⟨Kw hk rfl rfl p4,by show(dm _).e≠0;rw[(yx _).1];exact z3⟩
   obtain rfl:e3=0:=by simpa using z3
   exact .inr ⟨S4,by rw[i' (t':=tkN dir nm data false 4 true) o8 rfl rfl rfl],p4,g4,Ji,(Ha rfl).1,fun _=>(Ha rfl).2⟩
 rcases h4 with h4| ⟨S4,h4,p4,g4,Ji,m4,s4⟩
 ·exact h4
 rw[h4]
 have st5:=IF S4 dir (aF nm) nm
 have hh5:=ym Ji st5
 have p5:=fun he=>R3 (dir:=dir) p4 he
 have Jl:=fun he=>OT (dir:=dir) hk g4 p4 m4 s4 he
 have yQ:phT 4 (tkN dir nm data light 4 true) S4=⟨true,(dU S4 dir (aF nm) nm).2,tkN dir nm data light 4 (true&& (dU S4 dir (aF nm) nm).2 !=0),(dU S4 dir (aF nm) nm).1⟩:=rfl
 generalize dU S4 dir (aF nm) nm=q at*
 obtain⟨S5,e4⟩:=q
 simp only at hh5 p5 Jl yQ
 by_cases z4:e4≠0
 ·rw[oI yQ z4]
  exact .inl ⟨Kw hk rfl rfl (p5 z4),by show(dm _).e≠0;rw[(yx _).1];exact z4⟩
 obtain rfl:e4=0:=by simpa using z4
 have q5:=Jl rfl
 cases light with
 |true=>
  rw[s7 yQ rfl rfl]
  exact .inr (.inl ⟨m,q5,fun h=>by cases h⟩)
 |false=>
  rw[i' (t':=tkN dir nm data false 5 false) yQ rfl rfl rfl]
  show nT S0 k nm data false (phG 1 _ S5)
  have p6:=fun he=>Nx (dir:=dir) q5 he
  have hm6:=fun he=>NJ (dir:=dir) hk hh5 q5 he
  have yR:phT 5 (tkN dir nm data false 5 false) S5=⟨true,(fT S5 dir).2,tkN dir nm data false 5 false,(fT S5 dir).1⟩:=rfl
  generalize fT S5 dir=q at*
  obtain⟨S6,e5⟩:=q
  simp only at p6 hm6 yR
  by_cases z5:e5≠0
  ·rw[oI yR z5]
   exact .inr (.inl ⟨m,by show PostI S0 (dm _).S k nm data false m;rw[Lt rfl];exact p6 z5,fun _=>by show(dm _).e≠0;rw[(yx _).1];exact z5⟩)
  obtain rfl:e5=0:=by simpa using z5
  rw[s7 yR rfl rfl]
  exact .inr (.inr ⟨m,rfl,hm6 rfl⟩)
end Go.Proofs
end
section
open Go Go.Proofs Go.Sx Go.StP Go.RefP
namespace Go.Proofs
def wV {S:DiskL} (ok:DkOk S) {k:Nat} (hk:k<3) {c:CallL} (cG:okC (S.dir k).seen c) (hc:c.kind=0→c.n<S.files.length):DkOk (cz S k c):=
 AC ok _ (J9 c (ok.seen k hk)) (ok.stl k hk) (J5 (ok.seenN k hk) cG hc) (ok.stlN k hk) (fun d hd=>by
  rcases List.mem_append.1 hd with hd|hd
  ·exact ok.pendN k hk d hd
  rw[List.mem_singleton.1 hd];exact hc)
def Vn {S S':DiskL} {kind:Int} {dir name s:List UInt8} {e:Nat} (ok:DkOk S) (h:StepD S kind dir name s S' e):DkOk S':=by
 obtain⟨aO,al,-⟩:=fM S
 have okb:=qz ok
 cases h with
 |same=>exact ok
 |burn=>exact okb
 |create k hk hf hn hb=>
  refine wV (EW okb ⟨aq _,ap _⟩) (dY hk).1 (fun e=>by cases e) fun _=> ?_
  show S.files.length< ((aM S).1.files++ [cL]).length
  rw[al,List.length_append];exact Nat.lt_succ_self _
 |append k m hk hm hf hb=>
  have pC:=ok.seenN k (dY hk).1 _ (j1 hm)
  obtain⟨h1,h2⟩:=zN ok (n:=m) pC
  refine zD okb ⟨?_, ?_⟩
  ·rw[List.length_append]
   unfold kF at hf
   simp only[Bool.or_eq_false_iff,decide_eq_false_iff_not] at hf
   have:=hf.1.1
   show(aI S m).data.length+s.length≤1048576
   omega
  rw[List.length_append]
  show(aI S m).stl≤ (aI S m).data.length+s.length
  omega
 |sync k m hk hm hb=>
  have pC:=ok.seenN k (dY hk).1 _ (j1 hm)
  obtain⟨h1,h2⟩:=zN ok (n:=m) pC
  exact zD okb ⟨h1,ap _⟩
 |syncDir k hk hb=>
  have an:=(dY hk).1
  exact AC okb _ (okb.seen k an) (okb.seen k an) (okb.seenN k an) (okb.seenN k an) fun c hc=>by cases hc
 |rename k m h4 hk hm hf aU hb=>
  exact wV okb (dY hk).1 (by rw[aO];exact sI hm aU) fun e=>by cases e
 |remove k m hk hm hb=>exact wV okb (dY hk).1 (fun e=>by cases e) fun e=>by cases e
def UniP (S:DiskL):Prop:= ∀k,k<3→ ∀i p,p∈dP S k i→ ∀q,q∈dP S k i→p.2=q.2→p=q
def yw {S S':DiskL} (h:UniP S) (e:S'.dir=S.dir):UniP S':=by
 unfold UniP dP at*
 rw[e];exact h
def LO {S:DiskL} (h:UniP S) (hh:fe S) {k:Nat} {c:CallL} (hu:kH (cz S k c)):UniP (cz S k c):=fun j hj i p hp q hq e=>by
 by_cases ejk:j=k
 ·subst ejk
  have hd: (cz S j c).dir j=⟨cw (S.dir j).seen c,(S.dir j).stl,(S.dir j).pend++ [c]⟩:=by unfold cz;rw[ka]
  by_cases hi:i≤ (S.dir j).pend.length
  ·have he:dP (cz S j c) j i=dP S j i:=by
    unfold dP
    rw[hd]
    show(((S.dir j).pend++ [c]).take i).foldl _ _=_
    rw[List.take_append_of_le_length hi]
   rw[he] at hp hq
   exact h j hj i p hp q hq e
  have he:dP (cz S j c) j i=((cz S j c).dir j).seen:=by
   unfold dP
   rw[hd]
   show(((S.dir j).pend++ [c]).take i).foldl cw (S.dir j).stl=cw (S.dir j).seen c
   rw[List.take_of_length_le (by rw[List.length_append,List.length_singleton];omega),List.foldl_append,(hh j).1];rfl
  rw[he] at hp hq
  exact(hu j j hj hj p hp q hq e).2
 have he:dP (cz S k c) j i=dP S j i:=by
  unfold dP cz
  rw[lI _ _ ejk]
 rw[he] at hp hq
 exact h j hj i p hp q hq e
structure WelS (S:DiskL):Prop where
 ok:DkOk S
 uniq:kH S
 hist:fe S
 up:UniP S
 disj:xQ S
theorem WelS.good {S:DiskL} (h:WelS S):GoodS S:=h.ok.good h.uniq
def WelS.step {S S':DiskL} {kind:Int} {dir name s:List UInt8} {e:Nat} (h:WelS S) (bL:StepD S kind dir name s S' e):WelS S':=by
 have ok:=Vn h.ok bL
 have uq:=U3 h.ok h.uniq bL
 have hih:=ym h.hist bL
 obtain⟨aO,al,-⟩:=fM S
 refine⟨ok,uq,hih, ?_, ?_⟩
 ·cases bL with
  |same=>exact h.up
  |burn=>exact yw h.up aO
  |create k hk hf hn hb=>exact LO (S:=fK (aM S).1 cL) (yw h.up aO) (pT h.hist aO) uq
  |append=>exact yw h.up aO
  |sync=>exact yw h.up aO
  |syncDir k hk hb=>
   have hub:=yw h.up aO
   intro j hj i p hp q hq e
   by_cases ejk:j=k
   ·subst ejk
    have he:dP (kU (aM S).1 j) j i=((aM S).1.dir j).seen:=by
     unfold dP kU
     rw[ka]
     show(([]:List CallL).take i).foldl _ _=_
     rw[List.take_nil];rfl
    rw[he,aO] at hp hq
    exact(h.uniq j j hj hj p hp q hq e).2
   have he:dP (kU (aM S).1 k) j i=dP (aM S).1 j i:=by
    unfold dP kU
    rw[lI _ _ ejk]
   rw[he] at hp hq
   exact hub j hj i p hp q hq e
  |rename=>exact LO (yw h.up aO) (pT h.hist aO) uq
  |remove=>exact LO (yw h.up aO) (pT h.hist aO) uq
 have same: ∀ {S':DiskL},(∀k n,NumD (S'.dir k) n→NumD (S.dir k) n)→xQ S':=fun h1 j k hj hk n a b=>h.disj j k hj hk n (h1 j n a) (h1 k n b)
 cases bL with
 |same=>exact h.disj
 |burn=>exact same fun k n h=>by rw[aO] at h;exact h
 |create k hk hf hn hb=>
  have ed: (fK (aM S).1 cL).dir=S.dir:=aO
  intro i j hi hj n a b
  have a:=Iw a
  have b:=Iw b
  rw[ed] at a b
  rcases a with a1| ⟨rfl,-,a1⟩
  ·rcases b with b1| ⟨rfl,-,b1⟩
   ·exact h.disj i j hi hj n a1 b1
   have:=Fq h.ok hi a1
   have e:S.files.length=n:=b1
   omega
  rcases b with b1| ⟨rfl,-,b1⟩
  ·have:=Fq h.ok hj b1
   have e:S.files.length=n:=a1
   omega
  rfl
 |append=>
  refine same fun k n h=> ?_
  have h:NumD ((aM S).1.dir k) n:=h
  rw[aO] at h;exact h
 |sync=>
  refine same fun k n h=> ?_
  have h:NumD ((aM S).1.dir k) n:=h
  rw[aO] at h;exact h
 |syncDir k hk hb=>
  refine same fun j n hn=> ?_
  unfold kU at hn
  by_cases e:j=k
  ·subst e
   rw[ka,aO] at hn
   rcases hn with⟨p,hp,rfl⟩ | ⟨c,hc,-⟩
   ·exact V6 (h.hist j) hp
   cases hc
  rw[lI _ _ e,aO] at hn;exact hn
 |rename=>
  refine same fun j n h=> ?_
  have h:=(Iw h).resolve_right (by rintro⟨-,h,-⟩;cases h)
  rw[aO] at h;exact h
 |remove=>
  refine same fun j n h=> ?_
  have h:=(Iw h).resolve_right (by rintro⟨-,h,-⟩;cases h)
  rw[aO] at h;exact h
def WelS.pub {S:DiskL} (h:WelS S) (dir nm data:List UInt8) (light:Bool):WelS (bN S dir nm data light).2:=
 ph WelS dir nm (fun _ _ _ _ _ hA bL _=>hA.step bL) 6 (tk0 dir nm data light) S rfl rfl h
def WelS.sync {S:DiskL} (h:WelS S) (dir nm:List UInt8):WelS (bU S dir nm).1:=h.step (vQ S dir nm [])
def Di {Q:DiskL→Prop} (hp: ∀S data,Q S→Q (bN S aJ aL data false).2) (hs: ∀S,Q S→Q (bU S aJ aL).1) {S:DiskL} (h:Q S):Q (dF S).2.2:=by
 have hb:Q (da S).2.2:=by
  unfold da
  split
  ·exact hp _ _ h
  exact h
 unfold dF
 split
 ·exact hb
 split
 ·exact hb
 rename_i p _
 have hq:Q (if p.2.2< (da S).1.length then bN (da S).2.2 aJ aL ((da S).1.take p.2.2) false else(0,(da S).2.2)).2:=by
  split
  ·exact hp _ _ hb
  exact hb
 unfold endB
 simp only
 generalize (if p.2.2< (da S).1.length then bN (da S).2.2 aJ aL ((da S).1.take p.2.2) false else(0,(da S).2.2))=q at*
 split
 ·exact hq
 split
 ·exact hs _ hq
 exact hs _ hq
def WelS.open {S:DiskL} (h:WelS S):WelS (dF S).2.2:=Di (fun _ data h=>h.pub aJ aL data false) (fun _ h=>h.sync aJ aL) h
def UT {S:DiskL} (h:dK S):dK (dF S).2.2:=Di (fun _ data h=>AW h aJ aL data false) (fun S h=>mX h (vQ S aJ aL [])) h
def WelS.crash {S:DiskL} (h:WelS S) {pl:List UInt16} (ok:DkOk (gl S pl)):WelS (gl S pl):=by
 have num: ∀ {j},j<3→ ∀ {p},p∈ ((gl S pl).dir j).seen→NumD (S.dir j) p.2:=fun{j} hj {p} hp=>by
  obtain⟨i,hi,hd⟩:=IS S pl hj
  rw[hd] at hp
  exact AO (h.hist j).2 i hi p hp
 have num2: ∀ {j},j<3→ ∀ {n},NumD ((gl S pl).dir j) n→NumD (S.dir j) n:=fun{j} hj {n} hn=>by
  obtain⟨i,hi,hd⟩:=IS S pl hj
  rw[hd] at hn
  rcases hn with⟨p,hp,rfl⟩ | ⟨c,hc,-⟩
  ·exact AO (h.hist j).2 i hi p hp
  cases hc
 refine⟨ok,fun j k hj hk p hp q hq e=> ?_,JQ h.hist pl,fun k hk i p hp q hq e=> ?_,fun j k hj hk n a b=>h.disj j k hj hk n (num2 hj a) (num2 hk b)⟩
 ·have zj:=h.disj j k hj hk p.2 (num hj hp) (by rw[e];exact num hk hq)
  subst zj
  obtain⟨i,hi,hd⟩:=IS S pl hj
  rw[hd] at hp hq
  exact⟨rfl,h.up j hj i p hp q hq e⟩
 obtain⟨i0,hi,hd⟩:=IS S pl hk
 have he:dP (gl S pl) k i=dP S k i0:=by
  conv=>lhs;unfold dP
  rw[hd]
  show(([]:List CallL).take i).foldl _ _=_
  rw[List.take_nil];rfl
 rw[he] at hp hq
 exact h.up k hk i0 p hp q hq e
theorem WelS.fuse {S:DiskL} (h:WelS S) {n:Int} {b:Bool} (ok:DkOk {S with fuse:=n,fused:=b}):WelS {S with fuse:=n,fused:=b}:=⟨ok,h.uniq,h.hist,h.up,h.disj⟩
def WelS.of {q:Int} {l:List FiL} (ok:DkOk (ofD q l)):WelS (ofD q l):=⟨ok,wt q l,El q l,fun k hk i p hp q' hq e=>by
 obtain⟨h1,h2⟩:=Fh q l hk
 unfold dP at hp hq
 rw[h2,List.take_nil] at hp hq
 have hp:p∈ ((ofD q l).dir k).stl:=hp
 have hq:q'∈ ((ofD q l).dir k).stl:=hq
 rw[h1] at hp hq
 exact(wt q l k k hk hk p hp q' hq e).2,ZO q l⟩
def Xb (q:Int):cT q=ofD q []:=by
 unfold ofD cT setV
 simp only[List.foldl_nil]
 congr 1
 funext k
 split<;>rfl
def T3 (q:DiskL×List UInt16) (l:NmL): (l.foldl g6 q).1.fused=q.1.fused:=by
 induction l generalizing q with
 |nil=>rfl
 |cons p l ih=>rw[List.foldl_cons,ih];rfl
theorem BQ (q:DiskL×List UInt16): ∀k,(fH q k).1.fused=q.1.fused
 |0=>rfl
 |k+1=>by
  show(List.foldl g6 (fH q k) _).1.fused=_
  rw[T3,BQ q k]
def Rt (S:DiskL) (pl:List UInt16):dK (gl S pl):=⟨TH S pl,by unfold gl;rw[BQ];rfl⟩
def ct (M:Nat) (S:DiskL):Prop:= ∀n,(aI S n).data.length≤M
section
variable {M:Nat} {S:DiskL}
def AJ {S':DiskL} (h:ct M S) (e:S'.files=S.files):ct M S':=fun n=>by
 unfold aI
 rw[e];exact h n
def oW (h:ct M S):ct M (aM S).1:=AJ h (fM S).2.1
def C0 (h:ct M S) (dir x:List UInt8):ct M (fj S dir x).1:=by
 unfold fj
 split
 ·exact h
 split
 ·exact h
 split
 ·exact oW h
 exact AJ (oW h) rfl
def RP (h:ct M S) (dir x y:List UInt8):ct M (dU S dir x y).1:=by
 unfold dU
 split
 ·exact h
 split
 ·exact h
 split
 ·exact oW h
 split
 ·exact oW h
 exact AJ (oW h) rfl
def QC (h:ct M S) (dir:List UInt8):ct M (fT S dir).1:=by
 unfold fT
 split
 ·exact h
 split
 ·exact oW h
 exact AJ (oW h) rfl
def wm {m:Nat} {f:FileL} (h:ct M S) (hf:f.data.length≤M):ct M (gm S m f):=fun n=>by
 by_cases hm:m<S.files.length
 ·rw[rD _ _ hm]
  split
  ·exact hf
  exact h n
 rw[Kb _ oM];exact h n
def wN (h:ct M S) (dir x:List UInt8):ct M (bU S dir x).1:=by
 unfold bU
 split
 ·exact h
 split
 ·exact h
 split
 ·exact oW h
 exact wm (oW h) (h _)
def Yq (h:ct M S):ct M (fK S cL):=fun n=>by
 by_cases hn:n<S.files.length
 ·rw[Kz _ _ hn];exact h n
 by_cases e:n=S.files.length
 ·rw[e,IV];exact aq _
 rw[CQ]
 ·exact aq _
 show(S.files++ [cL]).length≤n
 rw[List.length_append,List.length_singleton];omega
def Qq (h:ct M S) (dir x:List UInt8):ct M (cv S dir x).1:=by
 unfold cv
 split
 ·exact h
 split
 ·exact h
 split
 ·exact oW h
 exact AJ (Yq (oW h)) rfl
def OR (hg:GoodS S) {dir x:List UInt8} (he: (cv S dir x).2=0): ∃k m,bG dir=some k∧aR ((cv S dir x).1.dir k).seen x=some m∧(aI (cv S dir x).1 m).data= []:=by
 unfold cv at he ⊢
 split at he
 ·rename_i hf;exact absurd he hf
 rename_i hf
 rw[if_neg hf]
 obtain⟨k,hk,-⟩:=IT (Classical.not_not.1 hf)
 have an:=(dY hk).1
 split at he
 ·cases he
 split at he
 ·rename_i hb;exact absurd he hb
 rename_i hb
 rw[if_neg hb,hk]
 obtain⟨aO,al,-⟩:=fM S
 refine⟨k,S.files.length,rfl, ?_, ?_⟩
 ·show aR ((cz (fK (aM S).1 cL) k ⟨0,x,[],S.files.length⟩).dir k).seen x=_
  rw[vS,if_pos rfl]
  show aR (gK ((aM S).1.dir k).seen (x,S.files.length)) x=_
  rw[aO]
  exact IA (hg.srt k an) (x,S.files.length)
 show(aI (fK (aM S).1 cL) S.files.length).data= []
 rw[←al,IV];rfl
def Ro {dir x s:List UInt8} {k m:Nat} (h:ct M S) (hk:bG dir=some k) (hm:aR (S.dir k).seen x=some m) (hd: (aI S m).data.length+s.length≤M):ct M (bW S dir x s).1:=by
 unfold bW
 split
 ·exact h
 rw[lx hk,hm]
 simp only
 split
 ·exact h
 split
 ·exact oW h
 exact wm (oW h) (by rw[List.length_append];exact hd)
def IW {r:PhR} (h:ct M r.S):ct M (dm r).S:=by
 unfold dm
 split
 ·exact C0 h _ _
 exact h
theorem ZA: ∀ (k:Nat) (t:TkL),3≤k→ct M S→ct M (phT k t S).S
 |0,_,h,_=>absurd h (by decide)
 |1,_,h,_=>absurd h (by decide)
 |2,_,h,_=>absurd h (by decide)
 |3,t,_,h=>by
  show ct M (m9 t S).S
  unfold m9
  split
  ·exact h
  exact wN h _ _
 |4,t,_,h=>RP h _ _ _
 |n+5,t,_,h=>by
  show ct M (vg t S).S
  unfold vg
  split
  ·exact h
  exact QC h _
end
theorem E9 {M:Nat}: ∀ (f:Nat) (t:TkL) (S:DiskL),3≤t.next→ct M S→ct M (phG f t S).2
 |0,_,_,_,h=>h
 |f+1,t,S,hn,h=>by
  have hp:=ZA t.next t hn h
  rw[Fz]
  split
  ·exact IW hp
  split
  ·exact hp
  exact E9 f _ _ (by rw[(ry t.next t S).2.2.2.2];omega) hp
def wr {M:Nat} {S:DiskL} (hg:GoodS S) (h:ct M S) (dir nm:List UInt8) {data:List UInt8} (hd:data.length≤M) (light:Bool):ct M (bN S dir nm data light).2:=by
 obtain⟨b0,e0,S1,my,h1,g1⟩: ∃b0 e0 S1,phT 0 (tk0 dir nm data light) S=⟨b0,e0,tk0 dir nm data light,S1⟩∧ct M S1∧GoodS S1:=by
  show∃b0 e0 S1,me (tk0 dir nm data light) S=_∧_
  unfold me
  split
  ·exact⟨false,0,S,rfl,h,hg⟩
  exact⟨true,_,_,rfl,C0 h _ _,lG hg (qv S dir (aF nm) [])⟩
 unfold bN
 by_cases z0:e0≠0
 ·rw[oI my z0]
  exact IW (r:=⟨b0,e0,tk0 dir nm data light,S1⟩) h1
 obtain rfl:e0=0:=by simpa using z0
 rw[i' (t':=tkN dir nm data light 1 false) my rfl (by cases light<;>rfl) (by cases light<;>rfl)]
 show ct M (phG 5 _ S1).2
 have h2:=Qq h1 dir (aF nm)
 have gj:=fun he=>OR (dir:=dir) (x:=aF nm) g1 he
 have lU:phT 1 (tkN dir nm data light 1 false) S1=⟨true,(cv S1 dir (aF nm)).2,tkN dir nm data light 1 ((cv S1 dir (aF nm)).2==0),(cv S1 dir (aF nm)).1⟩:=rfl
 generalize cv S1 dir (aF nm)=q at*
 obtain⟨S2,e1⟩:=q
 simp only at h2 gj lU
 by_cases z1:e1≠0
 ·rw[oI lU z1]
  exact IW (r:=⟨true,e1,tkN dir nm data light 1 (e1==0),S2⟩) h2
 obtain rfl:e1=0:=by simpa using z1
 obtain⟨k,m,hk,hm,um⟩:=gj rfl
 rw[i' (t':=tkN dir nm data light 2 true) lU rfl (by cases light<;>rfl) (by cases light<;>rfl)]
 show ct M (phG 4 _ S2).2
 have h3:=Ro (s:=data) h2 hk hm (by rw[um,List.length_nil,Nat.zero_add];exact hd)
 have jL:phT 2 (tkN dir nm data light 2 true) S2=⟨true,(bW S2 dir (aF nm) data).2,tkN dir nm data light 2 true,(bW S2 dir (aF nm) data).1⟩:=rfl
 generalize bW S2 dir (aF nm) data=q at*
 obtain⟨S3,e2⟩:=q
 simp only at h3 jL
 by_cases z2:e2≠0
 ·rw[oI jL z2]
  exact IW (r:=⟨true,e2,tkN dir nm data light 2 true,S3⟩) h3
 obtain rfl:e2=0:=by simpa using z2
 rw[i' (t':=tkN dir nm data light 3 true) jL rfl (by cases light<;>rfl) (by cases light<;>rfl)]
 exact E9 3 _ S3 (ap 3) h3
def AX {M:Nat} {S:DiskL} (h:ct M S) (dir x:List UInt8): (ci S dir x).1.length≤M:=by
 unfold ci
 split
 ·exact aq _
 split
 ·exact aq _
 exact h _
def DU {M:Nat} {S:DiskL} (h:ct M S) (pl:List UInt16):ct M (gl S pl):=fun n=>by
 obtain⟨⟨t,ht⟩,-⟩:=UF S pl n
 rw[ht,List.length_take]
 have:=h n
 omega
def wZ {M:Nat} {S:DiskL} (ha:WelS S) (h:ct M S) (hM:1000≤M):ct M (dF S).2.2:=by
 have hb:ct M (da S).2.2∧GoodS (da S).2.2∧(da S).1.length≤M:=by
  unfold da
  split
  ·exact⟨wr ha.good h _ _ (Nat.le_trans rz hM) false,(ha.pub _ _ _ _).good,Nat.le_trans rz hM⟩
  exact⟨h,ha.good,AX h _ _⟩
 obtain⟨h1,g1,l1⟩:=hb
 unfold dF
 split
 ·exact h1
 split
 ·exact h1
 rename_i p _
 have hq:ct M (if p.2.2< (da S).1.length then bN (da S).2.2 aJ aL ((da S).1.take p.2.2) false else(0,(da S).2.2)).2:=by
  split
  ·exact wr g1 h1 _ _ (by rw[List.length_take];omega) false
  exact h1
 unfold endB
 simp only
 generalize (if p.2.2< (da S).1.length then bN (da S).2.2 aJ aL ((da S).1.take p.2.2) false else(0,(da S).2.2))=q at*
 split
 ·exact hq
 split
 ·exact wN hq _ _
 exact wN hq _ _
def Z7 {M:Nat} (q:Int) (l:List FiL) (h: ∀f,f∈l→f.data.length≤M):ct M (ofD q l):=by
 have hf: ∀ (l:List FiL) (S:DiskL),(∀f,f∈l→f.data.length≤M)→(∀f,f∈S.files→f.data.length≤M)→ ∀f,f∈ (l.foldl eX S).files→f.data.length≤M:=fun l=>by
  induction l with
  |nil=>exact fun _ _ h=>h
  |cons g l ih=>
   refine fun S hl hS=>ih _ (fun f hf=>hl f (av _ hf)) ?_
   unfold eX
   split
   ·split
    ·intro f hf
     rcases List.mem_append.1 hf with hf|hf
     ·exact hS f hf
     rw[List.mem_singleton.1 hf]
     exact hl g aa
    exact hS
   exact hS
 intro n
 have h1:=hf l (cT q) h (fun f hf=>by cases hf)
 show((ofD q l).files.getD n cL).data.length≤M
 rw[List.getD_eq_getElem?_getD]
 by_cases hn:n< (ofD q l).files.length
 ·rw[List.getElem?_eq_getElem hn]
  exact h1 _ (List.getElem_mem hn)
 rw[List.getElem?_eq_none oM];exact aq _
def oldI (a:AtL) (v:IdL):IdL:=if a.wrong=true then⟨v.l.set 0 (v.l.getD 0 0+1),by rw[List.length_set];exact v.h⟩ else v
def rv:=aN (aN (aN @bB @bA) (aN @wy (aN @wX @wL))) (aN (aN @wD @wF) (aN @wK (aN @wJ @wQ)))
def Sz (a:AtL) (v:IdL) (w:World):Rets prog 48 #[.agg (atC a).toArray, .agg (a8 v.l)] w (fun r D=>r= .agg (a8 (oldI a v).l)∧D= []):=by
 have hv:=v.h
 have yd: (List.replicate 32 (0:UInt8)).length=32:=rfl
 refine Rets.enterV func48 rfl (rs:= [.cell 4 24]) results48 ntmps48 ?_
 refine kf ?_
 refine ky @rv ?_
 refine Ow.box rfl rfl fun b2 al bR=> ?_
 simp only[ck,cV,ce,ag,List.nil_append]
 refine ko @rv ?_
 refine Ow.box rfl rfl fun b3 gA lB=> ?_
 simp only[ck,cV,ce,ag,List.cons_append,List.nil_append]
 have zV:b2<b3:=ak gA (by simp[keys])
 refine ko @rv ?_
 refine Ow.alloc rfl rfl zr24 fun b4 ir lC=> ?_
 simp only[ag,List.nil_append,List.cons_append]
 have JR:b2<b4:=ak ir (by simp[keys])
 have h34:b3<b4:=ak ir (by simp[keys])
 unfold oldI
 cases hw:a.wrong with
 |true=>
  have hs: (v.l.set 0 (v.l.getD 0 0+1)).length=32:=by rw[List.length_set];exact hv
  refine ko @rv ?_
  refine ky (aN @rv @hw) ?_
  refine⟨_,(ke @rv),⟨bR,lB,lC,trivial⟩, ?_⟩
  rfl
 |false=>
  refine ko @rv ?_
  refine ky (aN @rv @hw) ?_
  refine⟨_,(ke @rv),⟨bR,lB,lC,trivial⟩, ?_⟩
  rfl
def valI (B:BkL) (n:List UInt8):IdL:=⟨nD B.t B.l n,Le B.t B.l n⟩
def fh (S:DiskL) (B:BkL) (a:AtL):DiskL×BkL:=
 if nQ a=true then(S,B) else if a.kind.tmod 5=0 then(mj S B a.name (oldI a (valI B a.name)) a.id).2
 else if a.kind.tmod 5=1 then(kD S B).2 else if a.kind.tmod 5=2 then(pY S B a.n).2 else(S,B)
structure BkR (B:BkL):Prop where
 tl:B.t.length≤16
 ll:B.l.length≤100
 t:SmallN B.t
 l:SmallN B.l
def BW {s:List UInt8} (h:cN s=true):s.length≤32:=by
 unfold cN at h
 simp only[Bool.and_eq_true,decide_eq_true_eq] at h
 exact h.1.2
def BkR.upd {S:DiskL} {B:BkL} {nm:List UInt8} {o i:IdL} (h:BkR B):BkR (mj S B nm o i).2.2:=by
 unfold mj
 split
 ·exact h
 split
 ·exact h
 rename_i h1
 split
 ·exact h
 rename_i h2
 split
 ·exact h
 have uV:bV B.t B.l=true∧cN nm=true:=Classical.not_not.1 h1
 have uX:bV B.t (B.l++ [⟨nm,i⟩])=true:=by simpa using h2
 refine⟨h.tl,Lf uX,h.t,Au fun r hr=> ?_⟩
 rcases List.mem_append.1 hr with hr|hr
 ·exact h.l.mem hr
 rw[List.mem_singleton] at hr
 subst hr
 have:=BW uV.2
 show nm.length<1000
 omega
def BkR.sync {S:DiskL} {B:BkL} (h:BkR B):BkR (kD S B).2.2:=by
 unfold kD
 split
 ·exact h
 exact⟨h.tl,h.ll,h.t,h.l⟩
def BkR.trim {S:DiskL} {B:BkL} {k:Int} (h:BkR B):BkR (pY S B k).2.2:=by
 unfold pY
 split
 ·split
  ·rename_i ls hv
   have qX:=I' B.l.length k
   obtain⟨h1,h2⟩:=Lj qX hv h.t h.l
   have nq:=(zR hv).2.1
   split
   ·exact h
   exact⟨h2,by show(B.l.drop _).length≤100;rw[List.length_drop];omega,h1,Au fun r hr=>h.l.mem (List.mem_of_mem_drop hr)⟩
  exact h
 exact h
def BkR.act {S:DiskL} {B:BkL} {a:AtL} (h:BkR B):BkR (fh S B a).2:=by
 unfold fh
 split
 ·exact h
 split
 ·exact h.upd
 split
 ·exact h.sync
 split
 ·exact h.trim
 exact h
def nZ (l:List AtL):DiskL×BkL:=(l.take 30).foldl (fun q a=>fh q.1 q.2 a) ((dF (cT 1000000)).2.2,⟨[],[],0⟩)
def Zh: (dF (cT 1000000)).1=some ⟨[],[],0⟩:=by kernel_rfl
def ZC: (ci (cT 1000000) aJ aL).1.length<1000000:=by decide+kernel
def bkR0:BkR ⟨[],[],0⟩:=⟨aq _,aq _,fun g hg=>absurd hg (Nat.not_lt_zero g),fun g hg=>absurd hg (Nat.not_lt_zero g)⟩
end Go.Proofs
end
section
open Go Go.Proofs Go.Sx Go.RefP
namespace Go.Proofs
def ZK (l:List RefL):Prop:= ∀g,g<l.length→(l.getD g cD).name.length≤32
def Qa {s:List UInt8} (h:cN s=true):s.length≤32:=by
 unfold cN at h
 simp only[Bool.and_eq_true,decide_eq_true_eq] at h
 exact h.1.2
def PQ {t l:List RefL} (h:bV t l=true):t.length≤16∧l.length≤100∧ZK t∧(∀g,g<l.length→cN (l.getD g cD).name=true)∧ ∀j,j≤l.length→bV t (l.take j)=true:=by
 unfold bV vv at h
 rw[Bool.and_eq_true,decide_eq_true_eq,iD] at h
 obtain⟨ho,hl⟩:=h
 unfold ofM at ho
 rw[sL _ (ap _),iD] at ho
 by_cases hc:t.length≤16∧ ∀i,i<t.length→gX cN z32 (prs t) i=true
 ·rw[if_pos hc,Option.bind_some] at ho
  have vD: ∀j,j≤l.length→(gr cN z32 (prs l) ((prs t).take t.length) j).isSome=true:=by
   intro j hj
   cases hn:gr cN z32 (prs l) ((prs t).take t.length) j with
   |some m=>rfl
   |none=>rw[Ck hn _ hj] at ho;cases ho
  refine⟨hc.1,hl,fun g hg=> ?_,fun g hg=> ?_,fun j hj=> ?_⟩
  ·have:=hc.2 g hg
   unfold gX at this
   rw[qw t g hg] at this
   simp only[Bool.and_eq_true] at this
   exact Qa this.1.1
  ·have h1:=vD (g+1) hg
   unfold gr at h1
   cases hn:gr cN z32 (prs l) ((prs t).take t.length) g with
   |none=>rw[hn] at h1;cases h1
   |some m=>
    rw[hn,Option.bind_some,qw l g hg] at h1
    split at h1
    ·rename_i hh
     rw[Bool.and_eq_true] at hh
     exact hh.1
    cases h1
  unfold bV vv
  rw[Bool.and_eq_true,decide_eq_true_eq,iD]
  have aC: (l.take j).length=j:=by simp;omega
  rw[aC]
  refine⟨?_,by omega⟩
  unfold ofM
  rw[sL _ (ap _),iD,if_pos hc,Option.bind_some,VE,CE j (ap _)]
  exact vD j hj
 rw[if_neg hc] at ho;cases ho
theorem IJ {x r:RefL}: ∀ {l:List RefL} {dn:Bool},r∈oY x l dn→(r=x∧dn=false)∨r∈l
 | [],dn,h=>by
  unfold oY at h
  cases dn
  ·simp at h;exact .inl ⟨h,rfl⟩
  simp at h
 |a::l,dn,h=>by
  unfold oY at h
  split at h
  ·rcases IJ h with h|h
   ·exact .inl h
   exact .inr (av _ h)
  split at h
  ·rename_i hc
   have hd:dn=false:=by cases dn<;>simp_all
   rcases List.mem_cons.1 h with h|h
   ·exact .inl ⟨h,hd⟩
   rcases List.mem_cons.1 h with h|h
   ·exact .inr (by rw[h];exact aa)
   rcases IJ h with h|h
   ·cases h.2
   exact .inr (av _ h)
  rcases List.mem_cons.1 h with h|h
  ·exact .inr (by rw[h];exact aa)
  rcases IJ h with h|h
  ·exact .inl h
  exact .inr (av _ h)
def si (r:RefL):Prop:=cN r.name=true∧(r.id.l==z32)=false
theorem CU {l t:List RefL} (ht: ∀r,r∈t→si r): ∀ (k:Nat),k≤l.length→ ∀ls,g9 l t k=some ls→(∀r,r∈ls→si r)∧ ∀r,r∈ls→r∈t∨r∈l
 |0,_,ls,h=>by
  unfold g9 at h
  cases h;exact⟨ht,fun r hr=> .inl hr⟩
 |k+1,hk,ls,h=>by
  unfold g9 at h
  cases hm:g9 l t k with
  |none=>rw[hm] at h;cases h
  |some m=>
   rw[hm,Option.bind_some] at h
   obtain⟨h1,h2⟩:=CU ht k oM m hm
   split at h
   ·rename_i hc
    cases h
    simp only[Bool.and_eq_true,decide_eq_true_eq] at hc
    have o6:l.getD k cD∈l:=StP.getD_mem oM
    refine⟨fun r hr=> ?_,fun r hr=> ?_⟩
    ·rcases IJ hr with⟨rfl,hz⟩ |hr
     ·exact⟨hc.1,hz⟩
     exact h1 r hr
    rcases IJ hr with⟨rfl,-⟩ |hr
    ·exact .inr o6
    exact h2 r hr
   cases h
def Vm {t:List RefL} (h:vn t=true): ∀r,r∈t→si r:=by
 intro r hr
 obtain⟨i,hi,rfl⟩:=StP.mem_getD (z:=cD) hr
 have:=(BX t).1 h i hi
 unfold gX at this
 rw[qw t i hi] at this
 simp only[Bool.and_eq_true,Bool.not_eq_true'] at this
 exact⟨this.1.1,this.1.2⟩
def O_ {ls:List RefL} (h1: ∀r,r∈ls→si r) (h2:Rising (prs ls)):vn ls=true:=by
 rw[BX]
 intro i hi
 have hf:=h1 _ (StP.getD_mem (z:=cD) hi)
 unfold gX
 rw[qw ls i hi]
 simp only[Bool.and_eq_true,Bool.not_eq_true',Bool.or_eq_true,beq_iff_eq]
 refine⟨⟨hf.1,hf.2⟩, ?_⟩
 by_cases h0:i=0
 ·exact .inl h0
 right
 rw[qw ls (i - 1) oM]
 have:=List.pairwise_iff_getElem.1 h2 (i - 1) i (by rw[iD];omega) (by rw[iD];exact hi) oM
 have e: ∀j (hj:j<ls.length),(prs ls)[j]'(by rw[iD];exact hj)=((ls.getD j cD).name,(ls.getD j cD).id.l):=by
  intro j hj
  rw[←qw ls j hj,List.getD_eq_getElem?_getD,List.getElem?_eq_getElem (by rw[iD];exact hj)];rfl
 rw[e _ oM,e _ hi] at this
 exact this
theorem Cc {l t ls:List RefL} {k:Nat} (h:g9 l t k=some ls): ∀j,g9 (l.drop k) ls j=g9 l t (k+j)
 |0=>by rw[Nat.add_zero,h];rfl
 |j+1=>by
  rw[←Nat.add_assoc]
  unfold g9
  rw[Cc h j,StP.getD_drop]
def SI {t l:List RefL} (hr:bV t l=true) {k:Nat} (hk:k≤l.length) {ls:List RefL} (hv:iR t l k=some ls):
  bV ls (l.drop k)=true∧iR ls (l.drop k) (l.drop k).length=iR t l l.length∧ ∀r,r∈ls→r∈t∨r∈l:=by
 obtain⟨m,ls',hm,Jz,b_,yC,uy⟩:=wv hr hk
 rw[hv] at Jz
 obtain rfl:=Option.some.inj Jz
 obtain⟨h1,h2,h3,h4⟩:=zR hv
 obtain⟨hf,mQ⟩:=CU (Vm h3) k hk ls h4
 have yY:=O_ hf b_.2
 have cR:iR ls (l.drop k) (l.drop k).length=iR t l l.length:=by
  unfold iR
  rw[if_pos ⟨yC,by rw[List.length_drop];omega,yY⟩,if_pos ⟨h1,h2,h3⟩,Cc h4,List.length_drop]
  congr 1;omega
 refine⟨?_,cR,mQ⟩
 rw[←LU,cR,LU,hr]
end Go.Proofs
end
section
open Go Go.Proofs Go.Sx Go.StP Go.RefP
namespace Go.Proofs
def eb (o:Option (List UInt8)):Nat:=(o.getD []).length
theorem VR {S:DiskL} {a b:List UInt8} (_hab:a≠b): ∀ {l:NmL},SrtN l→(∀p,p∈l→p.1=a∨p.1=b)→iZ S l≤eb ((aR l a).map fun n=>(aI S n).data)+eb ((aR l b).map fun n=>(aI S n).data)
 | [],_,_=>aq _
 | [p],_,hn=>by
  rw[LL]
  have h0:iZ S []=0:=rfl
  rw[h0]
  rcases hn p aa with e|e
  ·rw[←e,oP]
   show(aI S p.2).data.length+0≤ (aI S p.2).data.length+_
   omega
  rw[←e,oP p]
  show(aI S p.2).data.length+0≤_+ (aI S p.2).data.length
  omega
 | [p,q],hs,hn=>by
  rw[LL,LL]
  have h0:iZ S []=0:=rfl
  rw[h0]
  have ao:=hs.nodup
  have aU:p.1≠q.1:=fun e=>by
   rw[List.map_cons,List.nodup_cons] at ao
   exact ao.1 (by rw[e];simp)
  rcases hn p aa with e|e
  ·have e2:q.1=b:=(hn q (by simp)).resolve_left fun e2=>aU (e.trans e2.symm)
   rw[←e,←e2,oP,y' (Ne.symm aU),oP]
   show(aI S p.2).data.length+ ((aI S q.2).data.length+0)≤ (aI S p.2).data.length+ (aI S q.2).data.length
   omega
  have e2:q.1=a:=(hn q (by simp)).resolve_right fun e2=>aU (e.trans e2.symm)
  rw[←e,←e2,oP,y' (Ne.symm aU),oP]
  show(aI S p.2).data.length+ ((aI S q.2).data.length+0)≤ (aI S q.2).data.length+ (aI S p.2).data.length
  omega
 |p::q::r::l,hs,hn=>by
  exfalso
  have ao:=hs.nodup
  rw[List.map_cons,List.map_cons,List.map_cons,List.nodup_cons,List.nodup_cons] at ao
  have h1:p.1≠q.1:=fun e=>ao.1 (by rw[e];simp)
  have h2:p.1≠r.1:=fun e=>ao.1 (by rw[e];simp)
  have h3:q.1≠r.1:=fun e=>ao.2.1 (by rw[e];simp)
  rcases hn p (by simp) with e|e<;>rcases hn q (by simp) with e2|e2<;>rcases hn r (by simp) with e3|e3<;>first|exact h1 (e.trans e2.symm) |exact h2 (e.trans e3.symm) |exact h3 (e2.trans e3.symm)
def NmV (S:DiskL):Prop:= ∀j,j<3→ ∀x,am S j x≠none→j=2∧(x=aL∨x=aF aL)
def Dz {S:DiskL} (hg:GoodS S) {j:Nat} (hj:j<3) {p:List UInt8×Nat} (hp:p∈ (S.dir j).seen):am S j p.1≠none:=by
 unfold am
 rw[zK (hg.srt j hj).nodup (s:=p.1) (n:=p.2) hp]
 simp
def F1 {S:DiskL} (hg:GoodS S) (h:NmV S):j5 S≤eb (am S 2 aL)+eb (am S 2 (aF aL)):=by
 have he: ∀j,j<2→(S.dir j).seen= []:=fun j hj=>List.eq_nil_iff_forall_not_mem.2 fun p hp=>by
  have:=(h j oM p.1 (Dz hg oM hp)).1
  omega
 unfold j5
 rw[he 0 oM,he 1 oM]
 have:=VR (S:=S) (Ne.symm (uL aL)) (hg.srt 2 oM) fun p hp=>(h 2 oM p.1 (Dz hg oM hp)).2
 unfold am
 have h0:iZ S []=0:=rfl
 omega
def Ki_ {S:DiskL} {x:List UInt8} (hc:dK S) (hf:cS x=true) {m:Nat} (hm:aR (S.dir 2).seen x=some m) (s:List UInt8) (h1: (aI S m).data.length+s.length≤1048576) (h2: (j5 S:Int)+s.length≤S.max):bW S aJ x s=(gm S m ⟨(aI S m).data++s,(aI S m).stl⟩,0):=by
 have hk:bG aJ=some 2:=rfl
 have h0:cr S aJ [x]=0:=by rw[pJ hc hk,if_neg (by simp[hf])]
 have dg:kF S m s=false:=by
  unfold kF
  simp only[Bool.or_eq_false_iff,decide_eq_false_iff_not]
  exact⟨⟨by omega,by omega⟩,by omega⟩
 unfold bW
 rw[if_neg (by rw[h0];simp),lx hk,hm]
 simp only
 rw[dg,if_neg (by simp),r9 hc,if_neg (by simp)]
def VT {S:DiskL} {x:List UInt8} (hc:dK S) (hf:cS x=true) {m:Nat} (hm:aR (S.dir 2).seen x=some m):bU S aJ x=(gm S m ⟨(aI S m).data,(aI S m).data.length⟩,0):=by
 have hk:bG aJ=some 2:=rfl
 have h0:cr S aJ [x]=0:=by rw[pJ hc hk,if_neg (by simp[hf])]
 unfold bU
 rw[if_neg (by rw[h0];simp),lx hk,hm]
 simp only
 rw[r9 hc,if_neg (by simp)]
def ZP (S:DiskL) (dir nm data:List UInt8) (light:Bool): (bN S dir nm data light).2.max=S.max:=
 ph (fun T=>T.max=S.max) dir nm (fun _ _ _ _ _ hA bL _=>(J0 bL).trans hA) 6 (tk0 dir nm data light) S rfl rfl rfl
structure PlS (S:DiskL) (B:BkL):Prop where
 wel:WelS S
 calm:dK S
 max:S.max=1000000
 len:ct 150000 S
 pend: ∀j,j<3→(S.dir j).pend= []
 nm: ∀j,j<3→ ∀x,am S j x≠none→j=2∧x=aL
 bk:BkR B
 rt:bV B.t B.l=true
 n:B.n≤B.l.length
 at_: ∃m,aR (S.dir 2).seen aL=some m∧(aI S m).data=be B.t B.l∧(aI S m).stl=(be B.t (B.l.take B.n)).length
def PlS.names {S:DiskL} {B:BkL} (h:PlS S B):NmV S:=fun j hj x hx=>⟨(h.nm j hj x hx).1, .inl (h.nm j hj x hx).2⟩
def PlS.view {S:DiskL} {B:BkL} (h:PlS S B):am S 2 aL=some (be B.t B.l)∧am S 2 (aF aL)=none:=by
 obtain⟨m,h1,h2,-⟩:=h.at_
 refine⟨by unfold am;rw[h1];exact congrArg some h2, ?_⟩
 cases hv:am S 2 (aF aL) with
 |none=>rfl
 |some d=>exact absurd (h.nm 2 oM _ (by rw[hv];simp)).2 (uL aL)
def PlS.blen {S:DiskL} {B:BkL} (h:PlS S B): (be B.t B.l).length≤150000:=IR h.bk.tl h.bk.ll h.bk.t h.bk.l
def PlS.used {S:DiskL} {B:BkL} (h:PlS S B):j5 S≤150000:=by
 have h1:=F1 h.wel.good h.names
 rw[h.view.1,h.view.2] at h1
 have h2:=h.blen
 have e1:eb (some (be B.t B.l))=(be B.t B.l).length:=rfl
 have e2:eb none=0:=rfl
 omega
def UG {r:RefL} (h:cN r.name=true): (eQ (ep r)).length≤400:=by
 have h1:=WN_ (ep r)
 have h2:=ij (r.name.length:Int)
 have h3:=BW h
 have h4:=r.id.h
 have h5: (ep r).length=1+ ((eY (d_ (r.name.length:Int))).length+r.name.length)+r.id.l.length:=by
  unfold ep dz
  simp only[List.length_append,List.length_cons,List.length_nil]
 omega
def RQ (t l:List RefL) (r:RefL):be t (l++ [r])=be t l++eQ (ep r):=by
 unfold be logB
 simp
def V8 {S:DiskL} {m:Nat} {f:FileL} (_hg:GoodS S) (_hm:aR (S.dir 2).seen aL=some m) {j:Nat} (_hj:j<3) {x:List UInt8}: (am (gm S m f) j x≠none↔am S j x≠none):=by
 unfold am
 show((aR (S.dir j).seen x).map _≠none)↔_
 cases aR (S.dir j).seen x<;>simp
def PlS.setF {S:DiskL} {B B':BkL} (h:PlS S B) {m:Nat} {f:FileL} (hm:aR (S.dir 2).seen aL=some m) (hw:WelS (gm S m f)) (dH:BkR B') (zr:bV B'.t B'.l=true) (hn:B'.n≤B'.l.length) (hd:f.data=be B'.t B'.l) (hs:f.stl=(be B'.t (B'.l.take B'.n)).length):PlS (gm S m f) B' where
 wel:=hw
 calm:=h.calm
 max:=h.max
 len:=wm h.len (by rw[hd];exact IR dH.tl dH.ll dH.t dH.l)
 pend:=h.pend
 nm:=fun j hj x hx=>h.nm j hj x ((V8 h.wel.good hm hj).1 hx)
 bk:=dH
 rt:=zr
 n:=hn
 at_:=by
  have pC:=h.wel.good.lt 2 oM _ (j1 hm)
  refine⟨m,hm, ?_, ?_⟩
  ·rw[rD _ _ pC,if_pos rfl,hd]
  rw[rD _ _ pC,if_pos rfl,hs]
theorem PlS.upd {S:DiskL} {B:BkL} (h:PlS S B) (nm:List UInt8) (o i:IdL):PlS (mj S B nm o i).2.1 (mj S B nm o i).2.2:=by
 have dH:=h.bk.upd (S:=S) (nm:=nm) (o:=o) (i:=i)
 unfold mj at dH ⊢
 by_cases h1:nD B.t B.l nm≠o.l
 ·rw[if_pos h1];exact h
 rw[if_neg h1] at dH ⊢
 by_cases h2: ¬ (bV B.t B.l=true∧cN nm=true)
 ·rw[if_pos h2];exact h
 rw[if_neg h2] at dH ⊢
 by_cases h3:bV B.t (B.l++ [⟨nm,i⟩])=false
 ·rw[if_pos h3];exact h
 rw[if_neg h3] at dH ⊢
 have uX:=Classical.not_not.1 h2
 have gP:=UG (r:=⟨nm,i⟩) uX.2
 obtain⟨m,hm,hd,hs⟩:=h.at_
 have hu:=h.used
 have fE:=h.blen
 have hw:=h.wel.step (A0 S aJ aL (eQ (ep ⟨nm,i⟩)))
 rw[Ki_ h.calm fineBk.1 hm _ (by rw[hd];omega) (by rw[h.max];omega)] at dH hw ⊢
 simp only[ne_eq,not_true_eq_false, ↓reduceIte] at dH hw ⊢
 refine h.setF hm hw dH (by simpa using h3) (by show B.n≤ (B.l++ [_]).length;rw[List.length_append];have:=h.n;omega) (by rw[hd];exact(RQ _ _ _).symm) ?_
 show(aI S m).stl=(be B.t ((B.l++ [_]).take B.n)).length
 rw[List.take_append_of_le_length h.n];exact hs
theorem PlS.sync {S:DiskL} {B:BkL} (h:PlS S B): (kD S B).1=0∧PlS (kD S B).2.1 (kD S B).2.2∧(kD S B).2.2.n=B.l.length:=by
 have dH:=h.bk.sync (S:=S)
 obtain⟨m,hm,hd,hs⟩:=h.at_
 have hw:=h.wel.sync aJ aL
 unfold kD at dH ⊢
 rw[VT h.calm fineBk.1 hm] at dH hw ⊢
 simp only[ne_eq,not_true_eq_false, ↓reduceIte] at dH hw ⊢
 refine⟨trivial,h.setF hm hw dH h.rt (ap _) hd ?_,trivial⟩
 show(aI S m).data.length=(be B.t (B.l.take B.l.length)).length
 rw[List.take_length,hd]
theorem PlS.pub {S:DiskL} {B:BkL} (h:PlS S B) {t l:List RefL} (dH:BkR ⟨t,l,l.length⟩) (zr:bV t l=true): (bN S aJ aL (be t l) false).1=0∧PlS (bN S aJ aL (be t l) false).2 ⟨t,l,l.length⟩:=by
 have hk:bG aJ=some 2:=rfl
 have hg:=h.wel.good
 have fE: (be t l).length≤150000:=IR dH.tl dH.ll dH.t dH.l
 have hz: (bN S aJ aL (be t l) false).1=0:=by
  obtain⟨S2,g2,c2,m2,v2,o2,h2⟩:=x3 hg h.calm hk fineBk.1 fineBk.2 (be t l)
  rcases h2 with⟨a2,-⟩ | ⟨-,p2⟩
  ·exfalso
   obtain⟨n,hn,hd⟩:=yo v2
   have ec:NmV S2:=fun j hj x hx=>by
    by_cases e:j=2∧x=aF aL
    ·exact⟨e.1, .inr e.2⟩
    rw[o2 j hj x fun e1 e2=>e ⟨e1,e2⟩] at hx
    exact h.names j hj x hx
   have hu:=F1 g2 ec
   rw[v2,o2 2 oM aL (fun _=>(uL aL).symm),h.view.1] at hu
   have e1:eb (some (be B.t B.l))=(be B.t B.l).length:=rfl
   have e2:eb (some [])=0:=rfl
   have al:=h.blen
   rw[Ki_ c2 fineBk.2 hn _ (by rw[hd,List.length_nil];omega) (by rw[m2,h.max];omega)] at a2
   cases a2
  exact p2
 refine⟨hz, ?_⟩
 have hw:=h.wel.pub aJ aL (be t l) false
 have hc:=AW h.calm aJ aL (be t l) false
 have hf:=(Ky hg h.calm aJ aL (be t l)).2 hz
 have ho:=wo hg aJ aL (be t l) false
 obtain⟨m,-,hD⟩: ∃m,false=false∧DoneI S (bN S aJ aL (be t l) false).2 2 aL (be t l) m:=by
  rcases QS h.pend hg h.wel.hist hk (nm:=aL) (be t l) false with⟨-,h2⟩ | ⟨m,-,h2⟩ | ⟨m,h1,h2⟩
  ·exact absurd hz h2
  ·exact absurd hz (h2 rfl)
  exact⟨m,rfl,h2⟩
 have hmx:=ZP S aJ aL (be t l) false
 have HY:=wr hg h.len aJ aL fE false
 generalize (bN S aJ aL (be t l) false).2=S' at*
 have Hy: ∀j,j<3→(S'.dir j).seen=(S'.dir j).stl:=fun j hj=>by
  rw[← (hw.hist j).1,hD.pend j hj];rfl
 refine⟨hw,hc,hmx.trans h.max,HY,hD.pend,fun j hj x hx=> ?_,dH,zr,ap _,m, ?_,hD.data, ?_⟩
 ·by_cases e:j=2∧x=aF aL
  ·rw[e.1,e.2] at hx
   have hr:=uF hc hk fineBk.2
   cases hv:am S' 2 (aF aL) with
   |none=>exact absurd hv hx
   |some d=>
    rw[hv] at hr
    exact absurd (by rw[hr]) hf.2
  by_cases e2:j=2∧x=aL
  ·exact e2
  have hv:=ho.view j hj x fun e3=>by
   have Jj:j=2:=by
    have:=oF hj
    rw[e3] at this
    exact(Option.some.inj (this.symm.trans hk))
   exact⟨fun e4=>e2 ⟨Jj,e4⟩,fun e4=>e ⟨Jj,e4⟩⟩
  rw[hv] at hx
  exact h.nm j hj x hx
 ·rw[Hy 2 oM];exact hD.at_
 show(aI S' m).stl=(be t (l.take l.length)).length
 rw[hD.set,hD.data,List.take_length]
def Uh {t l:List RefL} (h:bV t l=true) (keep:Int) (dH:BkR ⟨t,l,0⟩): ∃ls,iR t l (gH l.length keep)=some ls∧bV ls (l.drop (gH l.length keep))=true∧BkR ⟨ls,l.drop (gH l.length keep),(l.drop (gH l.length keep)).length⟩∧ol ls (l.drop (gH l.length keep))=be ls (l.drop (gH l.length keep)):=by
 have qX:=I' l.length keep
 obtain⟨m,ls,-,hv,-,-,-⟩:=wv h qX
 obtain⟨h1,-,-⟩:=SI h qX hv
 obtain⟨h2,h3⟩:=Lj qX hv dH.t dH.l
 have nq:=(zR hv).2.1
 refine⟨ls,hv,h1,⟨h3,by show(l.drop _).length≤100;rw[List.length_drop];omega,h2,Au fun r hr=>dH.l.mem (List.mem_of_mem_drop hr)⟩, ?_⟩
 unfold ol
 rw[if_pos h1]
def BkR.n0 {t l:List RefL} {n k:Nat} (h:BkR ⟨t,l,n⟩):BkR ⟨t,l,k⟩:=⟨h.tl,h.ll,h.t,h.l⟩
def PlS.trim {S:DiskL} {B:BkL} (h:PlS S B) (keep:Int):PlS (pY S B keep).2.1 (pY S B keep).2.2:=by
 obtain⟨ls,h1,h2,h3,h4⟩:=Uh h.rt keep h.bk.n0
 obtain⟨p1,p2⟩:=h.pub h3 h2
 unfold pY
 rw[if_pos h.rt,h1]
 simp only
 rw[h4,p1]
 exact p2
def PlS.act {S:DiskL} {B:BkL} (h:PlS S B) (a:AtL):PlS (fh S B a).1 (fh S B a).2:=by
 unfold fh
 split
 ·exact h
 split
 ·exact h.upd _ _ _
 split
 ·exact h.sync.2.1
 split
 ·exact h.trim _
 exact h
def Zf (q:Int) (hq: -9223372036854775808≤q∧q<9223372036854775808):DkOk (cT q) where
 seen:=fun _ _=>List.Pairwise.nil
 stl:=fun _ _=>List.Pairwise.nil
 seenN:=fun _ _ p hp=>by cases hp
 stlN:=fun _ _ p hp=>by cases hp
 pendN:=fun _ _ c hc=>by cases hc
 file:=fun f hf=>by cases hf
 fuse:=⟨by show -9223372036854775808≤ (0:Int);decide,by show(0:Int)<9223372036854775808;decide,fun h=>by cases h⟩
 max:=hq
def Eo (q:Int) (hq: -9223372036854775808≤q∧q<9223372036854775808):WelS (cT q):=by
 have h:=Zf q hq
 rw[Xb] at h ⊢
 exact WelS.of h
def RO:PlS (dF (cT 1000000)).2.2 ⟨[],[],0⟩:=by
 have hw:=(Eo 1000000 (by decide)).open
 have hc:=UT (S:=cT 1000000) ⟨rfl,rfl⟩
 have hl:ct 150000 (dF (cT 1000000)).2.2:=wZ (Eo 1000000 (by decide)) (fun n=>aq _) (by decide)
 have h0: ((dF (cT 1000000)).2.2.dir 0).seen= []:=by kernel_rfl
 have h1: ((dF (cT 1000000)).2.2.dir 1).seen= []:=by kernel_rfl
 have h2: ((dF (cT 1000000)).2.2.dir 2).seen= [(aL,0)]:=by kernel_rfl
 have p0: ((dF (cT 1000000)).2.2.dir 0).pend= []:=by kernel_rfl
 have p1: ((dF (cT 1000000)).2.2.dir 1).pend= []:=by kernel_rfl
 have p2: ((dF (cT 1000000)).2.2.dir 2).pend= []:=by kernel_rfl
 have hm: (dF (cT 1000000)).2.2.max=1000000:=by kernel_rfl
 have hf:aI (dF (cT 1000000)).2.2 0=⟨be [] [],(be [] []).length⟩:=by kernel_rfl
 generalize (dF (cT 1000000)).2.2=S at*
 refine⟨hw,hc,hm,hl,fun j hj=> ?_,fun j hj x hx=> ?_,bkR0,Fj,aq _,0, ?_,by rw[hf],by rw[hf];rfl⟩
 ·match j,hj with
  |0,_=>exact p0
  |1,_=>exact p1
  |2,_=>exact p2
 ·unfold am at hx
  match j,hj with
  |0,_=>rw[h0] at hx;exact absurd rfl hx
  |1,_=>rw[h1] at hx;exact absurd rfl hx
  |2,_=>
   refine⟨rfl, ?_⟩
   rw[h2] at hx
   by_cases e:x=aL
   ·exact e
   rw[y' e] at hx
   exact absurd rfl hx
 rw[h2]
 exact oP (aL,0) []
theorem Cq: ∀ (l:List AtL) {q:DiskL×BkL},PlS q.1 q.2→PlS (l.foldl (fun q a=>fh q.1 q.2 a) q).1 (l.foldl (fun q a=>fh q.1 q.2 a) q).2
 | [],_,h=>h
 |a::l,q,h=>Cq l (q:=fh q.1 q.2 a) (h.act a)
def YJ (l:List AtL):PlS (nZ l).1 (nZ l).2:=Cq (l.take 30) (q:=((dF (cT 1000000)).2.2,⟨[],[],0⟩)) RO
abbrev AtSl (w:World) (v:Value) (l:List AtL):Prop:=SlV 37 atC at0 w v l
def TS (l:List AtL) (i:Nat) (q:DiskL×BkL) (h:i<l.length) (h2:i<30): ((l.take 30).take (i+1)).foldl (fun q a=>fh q.1 q.2 a) q=fh (((l.take 30).take i).foldl (fun q a=>fh q.1 q.2 a) q).1 (((l.take 30).take i).foldl (fun q a=>fh q.1 q.2 a) q).2 (l.getD i at0):=by
 have hl:i< (l.take 30).length:=by rw[List.length_take];omega
 rw[StP.take_snoc (z:=at0) hl,List.foldl_append,StP.getD_take h2]
 rfl
def XE (q:DiskL×BkL) (hq:BkR q.2): ∀ (l:List AtL),BkR (l.foldl (fun q a=>fh q.1 q.2 a) q).2:=by
 intro l
 induction l generalizing q with
 |nil=>exact hq
 |cons a l ih=>exact ih _ hq.act
def BoP.app {bo bd:Nat} {S:DiskL} {N:Nat} {B:BkL} {X Y:aB} (h:BoP bo bd S N B X):BoP bo bd S N B (X++Y):=by
 obtain⟨G,vt,vl,D,K,hG,hA⟩:=h
 exact⟨G,vt,vl,D,K++Y,hG,⟨(hA.perm.append_right Y).trans pM,hA.D,hA.t.mono fun p hp=>bl _ hp,hA.l.mono fun p hp=>bl _ hp⟩⟩
theorem BoP.le {bo bd:Nat} {S:DiskL} {N M:Nat} {B:BkL} {X:aB} (h:BoP bo bd S N B X) (hN:N≤M):BoP bo bd S M B X:=by
 obtain⟨G,vt,vl,D,K,hG,hA⟩:=h
 exact⟨G,vt,vl,D,K,hG,⟨hA.perm,hA.D.le hN,hA.t,hA.l⟩⟩
def axE_ (a:Int):aD .rem (vi a) (vi 5)=some (vi (a.tmod 5)):=by
 unfold vi aD
 rfl
structure PlG where
 i:Nat
 X:aB
def fa:=aN (aN (aN @bB (aN @bA @Sx.tup2_0)) (aN (aN @Sx.tup2_1 @wy) (aN @wX @wL))) (aN (aN @wD (aN @wF @wK)) (aN (aN @wJ @wQ) (aN @Sf @nX)))
def OK (v:Value) (l:List AtL) (w:World) (hG:oX w) (hC:GlobC w) (hv:AtSl w v l) (hp: ∀a,a∈l→ ∀w' L,Hp w L w'→New w.heap.size L→PkS w' a.picks.v a.picks.l):
  Rets prog 45 #[v] w (XS w [] (fun r D=> ∃bd bo N,N≤2000∧r= .tuple #[vp bd 0,vp bo 0]∧BoP bo bd (nZ l).1 N (nZ l).2 D)):=by
 have lnv:=hv.len
 obtain⟨rb,off,arr,Er,fz,hr⟩:=hv.row
 refine Rets.enterX func45 rfl (rs:= [.tmp 2, .tmp 3]) results45 ntmps45 (fun p hp=>by cases hp) (by simp[keys]) ?_
 refine kf ?_
 refine ky @fa ?_
 refine Ow.callC rfl rfl call80 (fun w' aA=>Ku 1000000 w' (by decide) (li hG aA trivial)) (fun B0 v0 D0 tC zX lO Gk=> ?_)
 obtain⟨G0,rfl,lP⟩:=Gk
 rw[List.nil_append]
 have fp:Ext w [] D0:=Ext.of_new (lO.mono zX)
 have tC:DkA D0 G0 (cT 1000000) 0:=⟨lP,EZ 1000000,wj 1000000⟩
 refine ko @fa ?_
 refine ky @fa ?_
 refine Ow.callX (X:=D0) (Y:= []) (List.append_nil _).symm rfl rfl call50 (fun w' aA aj ad=>yj D0 G0 (cT 1000000) 0 w' aj ad tC oM (q_ hC fp aA (by simp[keys])) (lD hC fp.new0) ZC) (fun v1 D1 rK bu=> ?_)
 rw[List.append_nil]
 have bq:=fp.came0 rK
 obtain⟨bo,rfl,ai⟩:=bu.some Zh
 have e0: ((0:Int) !=0)=false:=rfl
 refine ko (aN @fa @e0) ?_
 refine ky (aN @fa @e0) ?_
 obtain⟨q0,Jp⟩: ∃q:DiskL×BkL,q=((dF (cT 1000000)).2.2,⟨[],[],0⟩):=⟨_,rfl⟩
 have fy:nZ l=(l.take 30).foldl (fun q a=>fh q.1 q.2 a) q0:=by rw[Jp];rfl
 rw[fy]
 have hPq:BoP bo G0.bd q0.1 (84+42*0) q0.2 D1:=by rw[Jp];exact ai
 have hRq:BkR q0.2:=by rw[Jp];exact bkR0
 clear fy Jp ai bu rK tC lP
 refine Cw.loopG (G:=PlG) [18,19,20,21,22,23,24,25,28,29,30,31,8,32,33,34,35,36,38,37,39,40,41,42,43,44,45,46,47,48,49,50,52,51,53,54,56,55,57,58,59,60,26,27,7] (fun g=> [(7,vi g.i)]) (fun g=>g.X) (fun g=>g.i≤l.length∧g.i≤30∧BoP bo G0.bd (((l.take 30).take g.i).foldl (fun q a=>fh q.1 q.2 a) q0).1 (84+42*g.i) (((l.take 30).take g.i).foldl (fun q a=>fh q.1 q.2 a) q0).2 g.X∧Ext w [] g.X) (fun g=>l.length - g.i) ⟨0,D1⟩ rfl rfl ?_ ?_
 ·exact⟨aq _,aq _,hPq,bq⟩
 intro g j hg
 refine kv ?_
 clear hPq bq fp lO
 obtain⟨i,X⟩:=g
 simp only at hg ⊢
 obtain⟨hi,hi30,hP,hE⟩:=hg
 by_cases aC:i<l.length∧i<30
 ·obtain⟨h1,h2⟩:=aC
  have dT:=TS l i q0 h1 h2
  have ns:=XE q0 hRq ((l.take 30).take i)
  generalize ((l.take 30).take i).foldl (fun q a=>fh q.1 q.2 a) q0=q at*
  obtain⟨S,B⟩:=q
  simp only at hP ns dT
  have oA:=hr.lt oM
  have ix:=hr.idx true i h1
  have ld:=Z4 hr h1
  have rd:aT w X rb=some (.cells arr Er fz):=by rw[kY (hE.new0.not oA)];exact hr.has oM
  have mQ:l.getD i at0∈l:=StP.getD_mem h1
  generalize l.getD i at0=a at*
  have yM:=hp a mQ
  have d1:decide ((i:Int)< (l.length:Int))=true:=aW oM
  have d2:decide ((i:Int)<30)=true:=aW oM
  have haid:=a.id.h
  refine ky (aN @fa (aN @lnv (aN @d1 (aN @d2 (aN @ix (aN @rd @ld)))))) ?_
  refine Ow.alloc rfl rfl zrAt fun b8 iu m_=> ?_
  simp only[ag,List.nil_append,List.cons_append]
  have k8:=fun o=>jQ (o:=o) iu
  have s8:=fun o x=>zA (o:=o) (x:=x) iu
  have rd8:=fun o=>N1 w (o:=o) iu
  have mD:Ext w [] (X++ [(b8,Obj.cells (atC a).toArray 67 (0,0))]):=mW hE ⟨m_,trivial⟩
  refine ko (aN @fa (aN @k8 (aN @s8 @n8))) ?_
  refine ky (aN @fa @rd8) ?_
  refine Ow.callFV rfl call37 (fun w' aA=>OS a w' (yM w' _ aA mD.new0)) ?_
  cases zh:nQ a with
  |true=>
   have jo:fh S B a=(S,B):=by unfold fh;rw[if_pos zh]
   refine ko @fa ?_
   refine ky @fa ?_
   refine Again.mk ⟨i+1,_⟩ (by show l.length - (i+1)<l.length - i;omega) ⟨h1,h2, ?_,mD⟩ rfl rfl
   show BoP bo G0.bd _ (84+42* (i+1)) _ _
   rw[dT,jo]
   exact hP.app.le oM
  |false=>
   obtain⟨lR,mu⟩:=TF zh
   have te:=axE_ a.kind
   by_cases k0:a.kind.tmod 5=0
   ·have e0: (a.kind.tmod 5==0)=true:=beq_iff_eq.2 k0
    have jo:fh S B a=(mj S B a.name (oldI a (valI B a.name)) a.id).2:=by unfold fh;rw[if_neg (by rw[zh];decide),if_pos k0]
    refine ko (aN @fa (aN @rd8 @te)) ?_
    refine ky (aN @fa (aN @rd8 (aN @te @e0))) ?_
    have hk8:b8∈keys (X++ [(b8,Obj.cells (atC a).toArray 67 (0,0))]):=by rw[ae];exact db _ (by simp[keys])
    refine Cw.regionG [b8] [] 12 kR rfl ?_
    simp only[List.replicate_succ,List.replicate_zero]
    refine OwG.run [0,1,2,3,4,5,6,9,10] [true,true,true,true,true,true,true,false,false,true,true,false] 3 rfl kR kR fun k hk=> ?_
    simp only[bF, ↓bE, ↓ay, ↓bD, ↓bC,az]
    simp(disch:=first|exact dD|fail) only[↓Sx.S0,Sx.S1,fx,fa,Nat.reduceAdd,Nat.reducePow,Int.reducePow,Nat.reduceBEq, ↓reduceIte,UInt8.reduceToNat,UInt16.reduceToNat,UInt32.reduceToNat,UInt64.reduceToNat,Int.reduceToNat,Md.next_sofnil,rd8]
    (with_reducible refine hk _ _ _ ?_);clear hk k
    refine OwG.one 7 _ kR rfl ?_
    refine Ow.callC rfl rfl call40 (fun w' aA=>Ls bo G0.bd B a.name w' (hP.W fun b o hm=>aA.has b o (bl _ hm)) (by have:=ns.tl;omega) (by have:=ns.ll;omega) ns.t.short ns.l.short) (fun B7 v7 D7 mB GO mF jD=> ?_)
    have hN7':=mF.mono GO
    with_reducible refine Ow.nil ?_
    refine⟨(ma (fun r hr=>by rw[List.mem_singleton.1 hr];exact hk8)), ?_⟩
    simp only[List.set_cons_zero,List.set_cons_succ,k7,iP,iQ]
    have km:=mW mD hN7'
    refine OwG.one 8 _ kR rfl ?_
    subst jD
    refine Ow.callFV rfl call48 (fun w' aA=>Sz a (valI B a.name) w') ?_
    with_reducible refine Ow.nil ?_
    refine⟨(fun r hr=>rfl), ?_⟩
    simp only[List.set_cons_zero,List.set_cons_succ,k7,iP,iQ]
    refine OwG.one 11 _ kR rfl ?_
    refine Ow.callX (X:=X) (Y:= [(b8, .cells (atC a).toArray 67 (0,0))]++D7) (List.append_assoc _ _ _) rfl rfl call41 (fun w' aA aj ad=>wS_ bo G0.bd S (84+42*i) B a.name (oldI a (valI B a.name)) a.id X w' aj ad hP oM (q_ hC km aA (by simp[keys])) (lD hC hE.new0) (by have:=ns.tl;omega) (by have:=ns.ll;omega) ns.t.short ns.l.short oM) (fun v9 D9 qE p7=> ?_)
    obtain⟨rfl,xd⟩:=p7
    have h8X:b8∉keys X:=fun h=>Nat.lt_irrefl _ (ak iu h)
    have h8D:b8∉keys D9:=fun h=>(qE.new b8 h).elim h8X fun h=>Nat.lt_irrefl _ (ak h.1 (by rw[ae];exact bl _ hk8))
    have mp:Ext w [] (D9++ ([(b8,Obj.cells (atC a).toArray 67 (0,0))]++D7)):=Ext.came (by rw[←List.append_assoc];exact km) qE
    with_reducible refine Ow.nil ?_
    refine⟨(fun r hr=>by rw[List.mem_singleton.1 hr,List.append_assoc];exact(ac (by rw[g8 h8D];exact fN _ _ _)).trans (ac (by rw[g8 h8X];exact fN _ _ _)).symm), ?_⟩
    simp only[List.set_cons_zero,List.set_cons_succ,k7,iP,iQ]
    refine OwG.rest [] rfl kR kR ?_
    simp only[bF, ↓bE, ↓ay, ↓bD, ↓bC,az]
    rw[show∀k:List Oper→Prop,nl [] k=k [] from fun _=>rfl]
    with_reducible refine Ow.nil ?_
    refine ky @fa ?_
    refine Again.mk ⟨i+1,_⟩ (by show l.length - (i+1)<l.length - i;omega) ⟨h1,h2, ?_,mp⟩ rfl rfl
    show BoP bo G0.bd _ (84+42* (i+1)) _ _
    rw[dT,jo]
    exact xd.app.le oM
   have e0: (a.kind.tmod 5==0)=false:=beq_eq_false_iff_ne.2 k0
   by_cases k1:a.kind.tmod 5=1
   ·have e1: (a.kind.tmod 5==1)=true:=beq_iff_eq.2 k1
    have jo:fh S B a=(kD S B).2:=by unfold fh;rw[if_neg (by rw[zh];decide),if_neg k0,if_pos k1]
    refine ko (aN @fa (aN @rd8 @te)) ?_
    refine ky (aN @fa (aN @rd8 (aN @te (aN @e0 @e1)))) ?_
    refine Ow.callX (X:=X) (Y:= [(b8, .cells (atC a).toArray 67 (0,0))]) rfl rfl rfl call42 (fun w' aA aj ad=>KY bo G0.bd S (84+42*i) B X w' aj ad hP) (fun v9 D9 qE p7=> ?_)
    obtain⟨rfl,xd⟩:=p7
    have mp:=mD.came qE
    refine ko @fa ?_
    refine ky @fa ?_
    refine Again.mk ⟨i+1,_⟩ (by show l.length - (i+1)<l.length - i;omega) ⟨h1,h2, ?_,mp⟩ rfl rfl
    show BoP bo G0.bd _ (84+42* (i+1)) _ _
    rw[dT,jo]
    exact xd.app.le oM
   have e1: (a.kind.tmod 5==1)=false:=beq_eq_false_iff_ne.2 k1
   by_cases k2:a.kind.tmod 5=2
   ·have e2: (a.kind.tmod 5==2)=true:=beq_iff_eq.2 k2
    have jo:fh S B a=(pY S B a.n).2:=by unfold fh;rw[if_neg (by rw[zh];decide),if_neg k0,if_neg k1,if_pos k2]
    refine ko (aN @fa (aN @rd8 @te)) ?_
    refine ky (aN @fa (aN @rd8 (aN @te (aN @e0 (aN @e1 @e2))))) ?_
    have hEX:Ext w [] X:=hE
    refine Ow.callX (X:=X) (Y:= [(b8, .cells (atC a).toArray 67 (0,0))]) rfl rfl rfl call44 (fun w' aA aj ad=>Pa bo G0.bd S (84+42*i) B a.n X w' aj ad hP oM (q_ hC mD aA (by simp[keys])) (lD hC hEX.new0) (by have:=ns.tl;omega) (by have:=ns.ll;omega) ns.t ns.l) (fun v9 D9 qE p7=> ?_)
    obtain⟨rfl,xd⟩:=p7
    have mp:=mD.came qE
    refine ko @fa ?_
    refine ky @fa ?_
    refine Again.mk ⟨i+1,_⟩ (by show l.length - (i+1)<l.length - i;omega) ⟨h1,h2, ?_,mp⟩ rfl rfl
    show BoP bo G0.bd _ (84+42* (i+1)) _ _
    rw[dT,jo]
    exact xd.app.le oM
   have e2: (a.kind.tmod 5==2)=false:=beq_eq_false_iff_ne.2 k2
   have jo:fh S B a=(S,B):=by unfold fh;rw[if_neg (by rw[zh];decide),if_neg k0,if_neg k1,if_neg k2]
   refine ko (aN @fa (aN @rd8 @te)) ?_
   refine ky (aN @fa (aN @rd8 (aN @te (aN @e0 (aN @e1 @e2))))) ?_
   refine Again.mk ⟨i+1,_⟩ (by show l.length - (i+1)<l.length - i;omega) ⟨h1,h2, ?_,mD⟩ rfl rfl
   show BoP bo G0.bd _ (84+42* (i+1)) _ _
   rw[dT,jo]
   exact hP.app.le oM
 have dT: (l.take 30).take i=l.take 30:=List.take_of_length_le (by rw[List.length_take];omega)
 rw[dT] at hP
 by_cases h1:i<l.length
 ·have d1:decide ((i:Int)< (l.length:Int))=true:=aW oM
  have d2:decide ((i:Int)<30)=false:=ah oM
  refine ky (aN @fa (aN @lnv (aN @d1 @d2))) ?_
  refine⟨_,(ke @fa), ?_⟩
  exact⟨hE,G0.bd,bo,84+42*i,by omega,rfl,hP⟩
 have d1:decide ((i:Int)< (l.length:Int))=false:=ah oM
 refine ky (aN @fa (aN @lnv @d1)) ?_
 refine⟨_,(ke @fa), ?_⟩
 exact⟨hE,G0.bd,bo,84+42*i,by omega,rfl,hP⟩
end Go.Proofs
end
section
open Go Go.Proofs Go.Sx Go.StP Go.Flo
namespace Go.Proofs
def lj:=aN @bB (aN @bA @UO)
def CS (x a b:Int) (w:World) (hx:x.natAbs<8192) (ha:a.natAbs<8192) (hb:b.natAbs<8192):
  Rets prog 326 #[fl x,vi a,vi b] w (fun v D=>v= .tuple #[vi (if a≤x∧x≤b then x else 0), .bool (decide (a≤x∧x≤b))]∧D= []):=by
 refine Rets.enterV func326 rfl (rs:= [.tmp 6, .tmp 7]) results326 ntmps326 ?_
 refine kf ?_
 refine ky @lj ?_
 refine Ow.convIF rfl rfl cvIF underlying3 underlying419 rfl ?_
 refine Ow.fgeq rfl rfl rfl hx ha ?_
 by_cases h1:a≤x
 ·rw[aW h1]
  refine ko @lj ?_
  refine Ow.convIF rfl rfl cvIF underlying3 underlying419 rfl ?_
  refine Ow.fleq rfl rfl rfl hx hb ?_
  by_cases h2:x≤b
  ·rw[aW h2,aW (show a≤x∧x≤b from⟨h1,h2⟩),if_pos ⟨h1,h2⟩]
   refine ko @lj ?_
   refine ky @lj ?_
   refine Ow.convFI rfl rfl cvFI underlying419 underlying3 rfl hx ?_
   refine ko @lj ?_
   refine ky @lj ?_
   refine Ow.convIF rfl rfl cvIF underlying3 underlying419 rfl ?_
   refine ko @lj ?_
   refine Ow.feql rfl rfl rfl hx hx ?_
   rw[show(x==x)=true by simp]
   refine ko @lj ?_
   refine ky @lj ?_
   refine⟨_,(ke @lj),trivial, ?_⟩
   rfl
  rw[ah h2,ah (show¬ (a≤x∧x≤b) from fun h=>h2 h.2),if_neg (fun h=>h2 h.2)]
  refine ko @lj ?_
  refine ky @lj ?_
  refine⟨_,(ke @lj),trivial, ?_⟩
  rfl
 rw[ah h1,ah (show¬ (a≤x∧x≤b) from fun h=>h1 h.1),if_neg (fun h=>h1 h.1)]
 refine ko @lj ?_
 refine ky @lj ?_
 refine⟨_,(ke @lj),trivial, ?_⟩
 rfl
def cpR (p:PcL) (b:Int):Value:=match cpV p b with
 |some q=> .tuple #[vi q.1,vi q.2, .bool true]
 |none=>if(1≤p.n∧p.n≤4099)∧p.x= []∧(p.n:Int)≤b then .tuple #[vi 0,vi p.n, .bool false] else .tuple #[vi 0,vi 0, .bool false]
def Y5 {p:PcL} {b:Int} (h:1≤p.n∧p.n≤4099∧p.x= []∧(p.a:Int)≤b - p.n):cpV p b=some (p.a,p.n):=by unfold cpV;rw[if_pos h]
def nV {p:PcL} {b:Int} (h: ¬ (1≤p.n∧p.n≤4099∧p.x= []∧(p.a:Int)≤b - p.n)):cpV p b=none:=by unfold cpV;rw[if_neg h]
def j6:=aN (aN (aN (aN @bB @bA) (aN @zB @zT)) (aN (aN @zL @yy) (aN @Cz @cxz))) (aN (aN (aN @EB @EK) (aN @KP @Sx.tup2_0)) (aN (aN @Sx.tup2_1 @Sx.tup3_0) (aN @Sx.tup3_1 @Sx.tup3_2)))
def JP (p:PcL) (b:Int) (w:World) (hp:PcB p) (h0:0≤b) (h1:b≤4099):
  Rets prog 323 #[.agg (pcC p).toArray,vi b] w (fun v D=>v=cpR p b∧D= []):=by
 obtain⟨rU,zo⟩:=hp
 refine Rets.enterV func323 rfl (rs:= [.tmp 4, .tmp 5, .tmp 6]) results323 ntmps323 ?_
 refine kf ?_
 refine ky @j6 ?_
 refine Ow.box rfl rfl fun b2 al bR=> ?_
 simp only[ck,cV,ce,ag,List.nil_append,List.cons_append]
 refine Ow.go rfl ?_
 simp(disch:=first|exact dD|fail) only[↓Sx.S0,Sx.S1,fx,j6,Nat.reduceAdd,Nat.reducePow,Int.reducePow,Nat.reduceBEq, ↓reduceIte,UInt8.reduceToNat,UInt16.reduceToNat,UInt32.reduceToNat,UInt64.reduceToNat,Int.reduceToNat]
 refine ky @j6 ?_
 refine Ow.imag rfl rfl ?_
 refine Ow.callFV rfl call326 (fun w' aA=>CS (p.n:Int) 1 4099 w' oM oM oM) ?_
 unfold cpR
 by_cases c1:1≤p.n
 ·rw[aW (show(1:Int)≤ (p.n:Int)∧(p.n:Int)≤4099 by omega),if_pos (show(1:Int)≤ (p.n:Int)∧(p.n:Int)≤4099 by omega)]
  by_cases c2:p.x= []
  ·have d2:decide (0< (p.x.length:Int))=false:=by rw[c2];rfl
   by_cases c4: (p.n:Int)≤b
   ·have d4:decide (b< (p.n:Int))=false:=ah oM
    refine ko (aN @j6 (aN @d2 @d4)) ?_
    refine ky @j6 ?_
    refine Ow.real rfl rfl ?_
    refine ko @j6 ?_
    refine Ow.callFV rfl call326 (fun w' aA=>CS (p.a:Int) 0 (b - p.n) w' oM oM oM) ?_
    by_cases c3: (p.a:Int)≤b - p.n
    ·rw[aW (show(0:Int)≤ (p.a:Int)∧(p.a:Int)≤b - p.n by omega),if_pos (show(0:Int)≤ (p.a:Int)∧(p.a:Int)≤b - p.n by omega),Y5 ⟨c1,zo,c2,c3⟩]
     refine ko @j6 ?_
     refine ky @j6 ?_
     refine⟨_,(ke @j6),⟨bR,trivial⟩, ?_⟩
     rfl
    rw[ah (show¬ ((0:Int)≤ (p.a:Int)∧(p.a:Int)≤b - p.n) by omega),if_neg (show¬ ((0:Int)≤ (p.a:Int)∧(p.a:Int)≤b - p.n) by omega),nV (fun h=>c3 h.2.2.2)]
    simp only
    rw[if_pos ⟨⟨c1,zo⟩,c2,c4⟩]
    refine ko @j6 ?_
    refine ky @j6 ?_
    refine⟨_,(ke @j6),⟨bR,trivial⟩, ?_⟩
    rfl
   have d4:decide (b< (p.n:Int))=true:=aW oM
   rw[nV (fun h=>by have:=h.2.2.2;omega)]
   simp only
   rw[if_neg (fun h=>c4 h.2.2)]
   refine ko (aN @j6 (aN @d2 @d4)) ?_
   refine ky @j6 ?_
   refine⟨_,(ke @j6),⟨bR,trivial⟩, ?_⟩
   rfl
  have d2:decide (0< (p.x.length:Int))=true:=aW (by have:=List.length_pos_iff.2 c2;omega)
  rw[nV (fun h=>c2 h.2.2.1)]
  simp only
  rw[if_neg (fun h=>c2 h.2.1)]
  refine ko (aN @j6 @d2) ?_
  refine ky @j6 ?_
  refine⟨_,(ke @j6),⟨bR,trivial⟩, ?_⟩
  rfl
 rw[ah (show¬ ((1:Int)≤ (p.n:Int)∧(p.n:Int)≤4099) by omega),if_neg (show¬ ((1:Int)≤ (p.n:Int)∧(p.n:Int)≤4099) by omega),nV (fun h=>c1 h.1)]
 simp only
 rw[if_neg (fun h=>c1 h.1.1)]
 refine ko @j6 ?_
 refine ky @j6 ?_
 refine⟨_,(ke @j6),⟨bR,trivial⟩, ?_⟩
 rfl
def Wz_ {p:PcL} {b:Int} (h:fL p b≠0):fL p b=(match cpV p b with|some q=>q.2|none=>p.x.length):=by
 unfold fL at h ⊢
 split
 ·rename_i hz
  rw[nV (fun hc=>by omega)]
 rename_i hz
 rw[if_neg hz] at h
 cases hc:cpV p b with
 |none=>rw[hc] at h;exact absurd rfl h
 |some q=>rfl
def Xp {p:PcL} {b:Int} {q:Nat×Nat} (h:cpV p b=some q):q=(p.a,p.n)∧1≤p.n:=by
 unfold cpV at h
 split at h
 ·rename_i hc;cases h;exact⟨rfl,hc.1⟩
 cases h
def iL:=aN (aN (aN (aN @bB @bA) (aN @zB @zT)) (aN (aN @zL @yy) (aN @Cz @cxz))) (aN (aN (aN @EB @EK) (aN @KP @Sx.tup2_0)) (aN (aN @Sx.tup2_1 @Sx.tup3_0) (aN @Sx.tup3_1 @Sx.tup3_2)))
def PU (p:PcL) (b:Int) (w:World) (hp:PcB p) (h0:0≤b) (h1:b≤4099):
  Rets prog 325 #[.agg (pcC p).toArray,vi b] w (fun v D=>v= .bool (decide (fL p b≠0))∧D= []):=by
 have qj:=hp
 obtain⟨rU,zo⟩:=qj
 have jG: ¬ (p.a=0∧p.n=0)→(cpV p b).isSome=decide (fL p b≠0):=by
  intro hz
  unfold fL
  rw[if_neg (fun h=>hz ⟨h.1,h.2.1⟩)]
  cases hc:cpV p b with
  |none=>rfl
  |some q=>
   obtain⟨rfl,hn⟩:=Xp hc
   rw[aW (show p.n≠0 by omega)]
   rfl
 refine Rets.enterV func325 rfl (rs:= [.tmp 4]) results325 ntmps325 ?_
 refine kf ?_
 refine kz [3] @iL ?_
 refine Ow.box rfl rfl fun b2 al bR=> ?_
 simp only[ck,cV,ce,ag,List.nil_append,List.cons_append]
 refine Ow.go rfl ?_
 simp(disch:=first|exact dD|fail) only[↓Sx.S0,Sx.S1,fx,iL,Nat.reduceAdd,Nat.reducePow,Int.reducePow,Nat.reduceBEq, ↓reduceIte,UInt8.reduceToNat,UInt16.reduceToNat,UInt32.reduceToNat,UInt64.reduceToNat,Int.reduceToNat]
 refine ky @iL ?_
 refine Ow.real rfl rfl ?_
 refine Ow.feql (b:=0) rfl rfl rfl oM oM ?_
 have fin: ∀v,v=cpR p b→ ∃x y,v= .tuple #[x,y, .bool (cpV p b).isSome]:=by
  rintro v rfl
  unfold cpR
  cases cpV p b with
  |some q=>exact⟨_,_,rfl⟩
  |none=>
   simp only
   split
   ·exact⟨_,_,rfl⟩
   exact⟨_,_,rfl⟩
 obtain⟨x,y,vJ⟩:=fin _ rfl
 by_cases ha:p.a=0
 ·have e1: (((p.a:Nat):Int)==0)=true:=by rw[ha];rfl
  rw[e1]
  refine ko @iL ?_
  refine Ow.imag rfl rfl ?_
  refine Ow.feql (b:=0) rfl rfl rfl oM oM ?_
  by_cases hn:p.n=0
  ·have e2: (((p.n:Nat):Int)==0)=true:=by rw[hn];rfl
   rw[e2]
   have hc:cpV p b=none:=nV (fun h=>by omega)
   by_cases hl:1≤p.x.length
   ·have d1:decide ((1:Int)≤ (p.x.length:Int))=true:=aW oM
    by_cases hm:p.x.length≤4099
    ·have d2:decide ((p.x.length:Int)≤4099)=true:=aW oM
     have hr:decide (fL p b≠0)=true:=aW (by unfold fL;rw[if_pos ⟨ha,hn,hm⟩];omega)
     rw[hr]
     refine ko (aN @iL (aN @d1 @d2)) ?_
     refine ky (aN @iL (aN @d1 @d2)) ?_
     refine⟨_,(ke @iL),⟨bR,trivial⟩, ?_⟩
     rfl
    have d2:decide ((p.x.length:Int)≤4099)=false:=ah oM
    have hr:decide (fL p b≠0)=false:=ah (by unfold fL;rw[if_neg (fun h=>hm h.2.2),hc];simp)
    rw[hr]
    refine ko (aN @iL (aN @d1 @d2)) ?_
    refine ky (aN @iL (aN @d1 @d2)) ?_
    refine⟨_,(ke @iL),⟨bR,trivial⟩, ?_⟩
    rfl
   have d1:decide ((1:Int)≤ (p.x.length:Int))=false:=ah oM
   have hr:decide (fL p b≠0)=false:=ah (by unfold fL;rw[if_pos ⟨ha,hn,by omega⟩];omega)
   rw[hr]
   refine ko (aN @iL @d1) ?_
   refine ky (aN @iL @d1) ?_
   refine⟨_,(ke @iL),⟨bR,trivial⟩, ?_⟩
   rfl
  have e2: (((p.n:Nat):Int)==0)=false:=beq_eq_false_iff_ne.2 oM
  rw[e2,←jG (fun h=>hn h.2)]
  refine ko @iL ?_
  refine ky @iL ?_
  refine Ow.callFV rfl call323 (fun w' aA=>JP p b w' hp h0 h1) ?_
  rw[vJ]
  refine ko @iL ?_
  refine ky @iL ?_
  refine⟨_,(ke @iL),⟨bR,trivial⟩, ?_⟩
  rfl
 have e1: (((p.a:Nat):Int)==0)=false:=beq_eq_false_iff_ne.2 oM
 rw[e1,←jG (fun h=>ha h.1)]
 refine ko @iL ?_
 refine ky @iL ?_
 refine Ow.callFV rfl call323 (fun w' aA=>JP p b w' hp h0 h1) ?_
 rw[vJ]
 refine ko @iL ?_
 refine ky @iL ?_
 refine⟨_,(ke @iL),⟨bR,trivial⟩, ?_⟩
 rfl
def Dy {p:PcL} {b:Int} {q:Nat×Nat} (h:cpV p b=some q):cpR p b= .tuple #[vi q.1,vi q.2, .bool true]:=by unfold cpR;rw[h]
def E8 {p:PcL} {b:Int} (h:cpV p b=none): ∃y:Int,cpR p b= .tuple #[vi 0,vi y, .bool false]:=by
 unfold cpR
 rw[h]
 simp only
 split
 ·exact⟨_,rfl⟩
 exact⟨_,rfl⟩
def iO:=aN (aN (aN @bB @bA) (aN @zB (aN @zT @zL))) (aN (aN @yy (aN @Sx.tup2_0 @Sx.tup2_1)) (aN @Sx.tup3_0 (aN @Sx.tup3_1 @Sx.tup3_2)))
def V8_ (b:Int) (v:Value) (l:List PcL) (w:World) (hv:PcSl w v l) (hl:BndP l) (hn:l.length<1000000000):
  Rets prog 322 #[vi b,v] w (fun v D=>v= .tuple #[vi (chkV b l).1,vi (chkV b l).2]∧D= []):=by
 obtain⟨bb,off,arr,E,fz,hr⟩:=hv.row
 have ln:=hv.len
 refine Rets.enterV func322 rfl (rs:= [.tmp 4, .tmp 5]) results322 ntmps322 ?_
 refine kf ?_
 unfold chkV
 by_cases kw:b<0
 ·have d1:decide (b<0)=true:=aW kw
  rw[if_pos (.inl kw)]
  refine ky (aN @iO @d1) ?_
  refine⟨_,(ke @iO),trivial, ?_⟩
  rfl
 have d1:decide (b<0)=false:=ah kw
 by_cases ir:4099<b
 ·have d2:decide (4099<b)=true:=aW ir
  rw[if_pos (.inr ir)]
  refine ky (aN @iO (aN @d1 @d2)) ?_
  refine⟨_,(ke @iO),trivial, ?_⟩
  rfl
 have d2:decide (4099<b)=false:=ah ir
 rw[if_neg oM]
 refine ky (aN @iO (aN @d1 @d2)) ?_
 refine Cw.loopG (G:=Nat) [18,19,20,21,24,25,26,27,28,29,30,4,5,22,23,6] (fun g=> [(6,vi g)]) (fun g=> []) (fun g=>g≤l.length∧anyZ b (l.take g)=false) (fun g=>l.length - g) 0 rfl rfl ?_ ?_
 ·exact⟨aq _,rfl⟩
 intro k jk hk
 refine kv ?_
 obtain⟨hk,hz⟩:=hk
 by_cases aC:k<l.length
 ·have d3:decide ((k:Int)< (l.length:Int))=true:=aW oM
  have rd:=hr.has oM
  have ix:=hr.idx true k aC
  have ld:=hr.load ve oM aC
  obtain⟨pD,zq⟩:=hl k aC
  have Jw:=TE (b:=b) aC
  have hmz:=w5 (b:=b) aC
  generalize l.getD k pc0=p at*
  refine ky (aN @iO (aN @ln (aN @d3 (aN @ix (aN @rd @ld))))) ?_
  refine Ow.callFV rfl call325 (fun w' aA=>PU p b w' pD oM oM) ?_
  by_cases fP:fL p b=0
  ·rw[ah (show¬ (fL p b≠0) by omega),if_pos (hmz fP)]
   refine ko @iO ?_
   refine ky @iO ?_
   refine⟨_,(ke @iO),trivial, ?_⟩
   rfl
  rw[aW (show fL p b≠0 from fP)]
  refine ko @iO ?_
  refine ky @iO ?_
  refine Again.mk (k+1) oM ⟨aC, ?_⟩ rfl rfl
  rw[Jw,hz,Bool.false_or]
  exact beq_eq_false_iff_ne.2 fP
 obtain rfl:k=l.length:=by omega
 have d3:decide ((l.length:Int)< (l.length:Int))=false:=ah oM
 rw[List.take_length] at hz
 rw[if_neg (by rw[hz];decide)]
 refine ky (aN @iO (aN @ln @d3)) ?_
 refine Cw.loopG (G:=Nat) [31,32,33,34,38,39,40,41,42,43,37,44,45,46,9,10,11,47,48,49,50,51,52,53,54,55,56,57,7,58,59,4,5,35,36,8] (fun g=> [(7,vi (eE b (l.take g):Nat)),(8,vi g)]) (fun g=> []) (fun g=>g≤l.length∧eE b (l.take g)≤4099) (fun g=>l.length - g) 0 rfl rfl ?_ ?_
 ·exact⟨aq _,by simp[eE]⟩
 intro m jm hm
 refine kv ?_
 obtain⟨hm,hs⟩:=hm
 by_cases aC:m<l.length
 ·have d4:decide ((m:Int)< (l.length:Int))=true:=aW oM
  have rd:=hr.has oM
  have ix:=hr.idx true m aC
  have ld:=hr.load ve oM aC
  have ld1:aQ (some (false,1)) (some (.cells arr E fz)) (off+m*2+1)=some (vs (l.getD m pc0).x):=hr.cell (j:=1) (n:=1) aC oM
  obtain⟨pD,zq⟩:=hl m aC
  have bL:=Ta (b:=b) aC
  have dC:=Kr_ (b:=b) (l:=l) (g:=m+1)
  have fP:fL (l.getD m pc0) b≠0:=fun h=>by rw[w5 aC h] at hz;cases hz
  have j':=Wz_ fP
  have fy:=Db (l.getD m pc0) b
  generalize l.getD m pc0=p at*
  refine kz [15] (aN @iO (aN @ln (aN @d4 (aN @ix (aN @rd @ld))))) ?_
  refine Ow.callFV rfl call323 (fun w' aA=>JP p b w' pD oM oM) ?_
  have fin: ∀N:Nat,eE b (l.take (m+1))=eE b (l.take m)+N→((eE b (l.take m):Nat):Int)+ (N:Int)=((eE b (l.take (m+1)):Nat):Int):=fun N h=>by omega
  cases hc:cpV p b with
  |some q=>
   rw[hc] at j'
   simp only at j'
   rw[Dy hc,←j']
   generalize fL p b=N at*
   have hf:=fin N bL
   refine ko @iO ?_
   by_cases h4:4099<eE b (l.take (m+1))
   ·have d5:decide ((4099:Int)< ((eE b (l.take (m+1)):Nat):Int))=true:=aW oM
    rw[if_pos (show 4099<eE b l by omega)]
    refine ky (aN @iO (aN @hf @d5)) ?_
    refine⟨_,(ke @iO),trivial, ?_⟩
    rfl
   have d5:decide ((4099:Int)< ((eE b (l.take (m+1)):Nat):Int))=false:=ah oM
   refine ky (aN @iO (aN @hf @d5)) ?_
   exact Again.mk (m+1) oM ⟨aC,by omega⟩ rfl rfl
  |none=>
   rw[hc] at j'
   simp only at j'
   obtain⟨y,hy⟩:=E8 hc
   rw[hy]
   have hf:=fin p.x.length oM
   refine ko (aN @iO (aN @ix (aN @rd @ld1))) ?_
   by_cases h4:4099<eE b (l.take (m+1))
   ·have d5:decide ((4099:Int)< ((eE b (l.take (m+1)):Nat):Int))=true:=aW oM
    rw[if_pos (show 4099<eE b l by omega)]
    refine ky (aN @iO (aN @hf @d5)) ?_
    refine⟨_,(ke @iO),trivial, ?_⟩
    rfl
   have d5:decide ((4099:Int)< ((eE b (l.take (m+1)):Nat):Int))=false:=ah oM
   refine ky (aN @iO (aN @hf @d5)) ?_
   exact Again.mk (m+1) oM ⟨aC,by omega⟩ rfl rfl
 obtain rfl:m=l.length:=by omega
 have d4:decide ((l.length:Int)< (l.length:Int))=false:=ah oM
 rw[List.take_length] at hs
 rw[if_neg oM,List.take_length]
 refine ky (aN @iO (aN @ln @d4)) ?_
 refine⟨_,(ke @iO),trivial, ?_⟩
 rfl
def Zw {p:PcL} {b:Int} {q:Nat×Nat} (h:cpV p b=some q):q=(p.a,p.n)∧1≤p.n∧p.n≤4099∧p.x= []∧(p.a:Int)≤b - p.n:=by
 unfold cpV at h
 split at h
 ·rename_i hc;cases h;exact⟨rfl,hc⟩
 cases h
def oR:=aN (aN (aN @bB @bA) (aN @zB (aN @zT @zL))) (aN (aN @yy (aN @Sx.tup2_0 @Sx.tup2_1)) (aN @Sx.tup3_0 (aN @Sx.tup3_1 @Sx.tup3_2)))
def PP (base:List UInt8) (v:Value) (l:List PcL) (w:World) (hv:PcSl w v l) (hl:BndP l) (hn:l.length<1000000000):
  Rets prog 315 #[vs base,v] w (fun v' D=>v'= .tuple #[vs (if(chkV base.length l).2=0 then txtP base l else []),vi (chkV base.length l).2]∧D= []):=by
 obtain⟨bb,off,arr,E,fz,hr⟩:=hv.row
 have ln:=hv.len
 refine Rets.enterV func315 rfl (rs:= [.tmp 4, .tmp 5]) results315 ntmps315 ?_
 refine kf ?_
 refine ky @oR ?_
 refine Ow.callFV rfl call322 (fun w' aA=>V8_ (base.length:Int) v l w' (hv.oldN aA trivial) hl hn) ?_
 by_cases he: (chkV base.length l).2=0
 ·obtain⟨m,hm⟩: ∃m,chkV base.length l=(m,0):=⟨(chkV base.length l).1,by rw[←he]⟩
  obtain⟨-,ir,hz,hs4,-,tT⟩:=wn hm
  rw[if_pos he,hm]
  have e0: ((0:Int) !=0)=false:=rfl
  refine ko @oR ?_
  refine ky (aN @oR @e0) ?_
  refine Cw.loopG (G:=Nat) [23,24,25,26,30,31,32,33,34,35,36,29,37,38,39,10,11,12,40,41,42,43,44,45,46,47,48,8,49,50,51,52,53,54,55,27,28,9] (fun g=> [(8,vs (txtP base (l.take g))),(9,vi g)]) (fun g=> []) (fun g=>g≤l.length) (fun g=>l.length - g) 0 rfl rfl ?_ ?_
  ·exact aq _
  intro k jk hk
  refine kv ?_
  by_cases aC:k<l.length
  ·have d3:decide ((k:Int)< (l.length:Int))=true:=aW oM
   have rd:=hr.has oM
   have ix:=hr.idx true k aC
   have ld:=hr.load ve oM aC
   have ld1:aQ (some (false,1)) (some (.cells arr E fz)) (off+k*2+1)=some (vs (l.getD k pc0).x):=hr.cell (j:=1) (n:=1) aC oM
   obtain⟨pD,zq⟩:=hl k aC
   have Jw:=Se (base:=base) aC
   have dT:pcT base (l.getD k pc0)=(match cpV (l.getD k pc0) base.length with|some q=>(base.drop q.1).take q.2++ (l.getD k pc0).x|none=>(l.getD k pc0).x):=rfl
   have dE: (txtP base (l.take k)).length≤4099:=by
    rw[wW (base:=base) (YK (g:=k) hz)]
    have:=Kr_ (b:=(base.length:Int)) (l:=l) (g:=k)
    omega
   have jO:cpV (l.getD k pc0) base.length=none→(l.getD k pc0).x.length≤4099:=fun hc=>by
    have fP:fL (l.getD k pc0) base.length≠0:=fun h=>by rw[w5 aC h] at hz;cases hz
    have h1:=Wz_ fP
    have h2:=Db (l.getD k pc0) base.length
    rw[hc] at h1
    simp only at h1
    omega
   generalize l.getD k pc0=p at*
   refine ky (aN @oR (aN @ln (aN @d3 (aN @ix (aN @rd @ld))))) ?_
   refine Ow.callFV rfl call323 (fun w' aA=>JP p (base.length:Int) w' pD oM oM) ?_
   cases hc:cpV p base.length with
   |some q=>
    rw[hc] at dT
    simp only at dT
    obtain⟨rfl,h1,h2,h3,h4⟩:=Zw hc
    rw[Dy hc]
    rw[h3,List.append_nil] at dT
    simp only at dT ⊢
    refine ko @oR ?_
    refine ky @oR ?_
    refine Again.mk (k+1) oM oM rfl ?_
    rw[Jw,dT,←show(base.take (p.a+p.n)).drop p.a=(base.drop p.a).take p.n by rw[List.drop_take,Nat.add_sub_cancel_left]]
    rfl
   |none=>
    rw[hc] at dT
    simp only at dT
    obtain⟨y,hy⟩:=E8 hc
    have hx4:=jO hc
    rw[hy]
    refine ko @oR ?_
    refine ky (aN @oR (aN @ix (aN @rd @ld1))) ?_
    refine Again.mk (k+1) oM oM rfl ?_
    rw[Jw,dT]
    rfl
  obtain rfl:k=l.length:=by omega
  have d3:decide ((l.length:Int)< (l.length:Int))=false:=ah oM
  rw[List.take_length]
  refine ky (aN @oR (aN @ln @d3)) ?_
  refine⟨_,(ke @oR),trivial, ?_⟩
  rfl
 rw[if_neg he]
 have e0: ((chkV base.length l).2 !=0)=true:=bne_iff_ne.2 he
 refine ko @oR ?_
 refine ky (aN @oR @e0) ?_
 refine⟨_,(ke @oR),trivial, ?_⟩
 rfl
def rrO (s:List UInt8) (a:Nat) (e:Int):Obj:= .cells #[vs s,vi a,vi e] 243 (0,0)
def EO (s:List UInt8) (a:Nat) (e:Int) (n:Nat):aQ (some (false,n)) (some (rrO s a e)) 0=some (vs s):=(rfl)
def Ee (s:List UInt8) (a:Nat) (e:Int) (n:Nat):aQ (some (false,n)) (some (rrO s a e)) 1=some (vi a):=(rfl)
def Dm (s:List UInt8) (a:Nat) (e:Int) (n:Nat):aQ (some (false,n)) (some (rrO s a e)) 2=some (vi e):=(rfl)
def NE (b:Nat) (s:List UInt8) (a:Nat) (e n:Int) (w:World) (ha:a≤s.length) (hs:s.length<1099511627776) (ho:w.heap[b]? =some (rrO s a e)):
  Rets prog 194 #[vp b 0,vi n] w (fun v D=> ∃o,D= [(b,o)]∧v=vs (ax s a e n).1∧o=rrO s (ax s a e n).2.1 (ax s a e n).2.2):=KV b s a e n w ha hs ho
def z' (b:Nat) (s:List UInt8) (a:Nat) (e most:Int) (w:World) (ha:a≤s.length) (hs:s.length<1099511627776) (ho:w.heap[b]? =some (rrO s a e)):
  Rets prog 128 #[vp b 0,vi most] w (fun v D=> ∃o,D= [(b,o)]∧v=vi (aG s a e most).1∧o=rrO s (aG s a e most).2.1 (aG s a e most).2.2):=K6 b s a e most w ha hs ho
def XY_ (b:Nat) (s:List UInt8) (a:Nat) (e:Int) (w:World) (ho:w.heap[b]? =some (rrO s a e)):
  Rets prog 131 #[vp b 0] w (fun v D=>v=vi (eS s a e)∧D= []):=KB b s a e w ho
def zrRR:au prog 243=some (.agg #[vs [],vi 0,vi 0]):=id kR
def VK (s:List UInt8):fI (d8 prog 243) (au prog 243) [(0,vs s)]=some (.agg #[vs s,vi 0,vi 0]):=by
 rw[show d8 prog 243=some [(0,1),(1,1),(2,1)] from id kR,zrRR];rfl
def UB:fI (d8 prog 418) (au prog 418) []=some (.agg (pcC pc0).toArray):=by
 rw[show d8 prog 418=some [(0,1),(1,1)] from id kR,zrPc];rfl
def TI (x n:Nat) (E:TypeId) (a:Bool):aw (some (a,1)) (some (.cells (pcC pc0).toArray E (0,0))) 0 (cx x n)=some (.cells (pcC ⟨x,n,[]⟩).toArray E (0,0)):=(rfl)
def UK (x:List UInt8) (E:TypeId) (a:Bool):aw (some (a,1)) (some (.cells (pcC pc0).toArray E (0,0))) 1 (vs x)=some (.cells (pcC ⟨0,0,x⟩).toArray E (0,0)):=(rfl)
structure RrG where
 a:Nat
 e:Int
 out:List PcL
 v:Value
 D:aB
 DG:aB
def RrJ (d:List UInt8) (a0:Nat) (e0:Int) (sz:Nat) (g:RrG):Prop:=
 New sz g.D∧New sz g.DG∧Gr g.D 418 2 g.v g.out.length (g.out.map pcC).flatten∧g.a≤d.length∧BndP g.out∧g.out.length≤g.a+1∧(g.e=0→g.out.length≤g.a)∧
  ((e0≠0∧g.e≠0)∨(e0=0∧((g.e=0∧pcs d a0=(g.out++ (pcs d g.a).1,(pcs d g.a).2))∨(g.e≠0∧pcs d a0=(g.out,g.a,g.e)))))
def sR (d:List UInt8) (v:Value) (D:aB):Prop:=match nR d with
 |some p=> ∃x,v= .tuple #[vi p.1,x, .bool true]∧BndP p.2∧p.2.length≤4099∧p.1≤4099∧GrI D 418 2 x p.2.length (p.2.map pcC).flatten
 |none=>v= .tuple #[vi 0, .slice none 0 0, .bool false]
def Ud {out:List PcL} {p:PcL} (h:BndP out) (hp:PcB p∧p.x.length<9223372036854775808):BndP (out++ [p]):=by
 intro g hg
 by_cases aC:g<out.length
 ·rw[BZ aC];exact h g aC
 rw[List.length_append] at hg
 rw[By oM,show g - out.length=0 by simp at hg;omega]
 exact hp
def du:=aN (aN (aN @bB (aN @bA @EO)) (aN (aN @Ee @Dm) (aN @zB @zT))) (aN (aN (aN @zL @yy) (aN @Sx.tup2_0 @Sx.tup2_1)) (aN (aN @Sx.tup3_0 @Sx.tup3_1) (aN @Sx.tup3_2 @KP)))
def P7 (d:List UInt8) (w:World) (hd:d.length<100000000):Rets prog 314 #[vs d] w (XS w [] (sR d)):=by
 refine Rets.enterX func314 rfl (rs:= [.tmp 2, .tmp 3, .tmp 4]) results314 ntmps314 (fun p hp=>by cases hp) (by simp[keys]) ?_
 refine kf ?_
 refine ky @du ?_
 refine Ow.build (.agg #[vs d,vi 0,vi 0]) rfl (VK d) ?_
 refine ko @du ?_
 refine Ow.box rfl rfl fun br gz di=> ?_
 simp only[ck,cV,ce,ag,List.nil_append]
 refine Ow.permL (M:= [(br,rrO d 0 0)]) (List.Perm.refl _) ?_
 refine ko @du ?_
 refine ky @du ?_
 have l1:=i_ (s:=d) (a:=0) (e:=0) (most:=4099) (aq _)
 have m1:=uG (s:=d) (a:=0) (e:=0) (most:=4099) oM
 refine Ow.callM rfl rfl call128 (by simp[keys]) (fun w' aA=>z' br d 0 0 4099 w' (aq _) oM (aA.has _ _ aa)) ?_
 refine kn ?_
 refine ko @du ?_
 refine ky @du ?_
 have l2:=i_ (s:=d) (a:=(aG d 0 0 4099).2.1) (e:=(aG d 0 0 4099).2.2) (most:=4099) l1.2
 refine Ow.callM rfl rfl call128 (by simp[keys]) (fun w' aA=>z' br d (aG d 0 0 4099).2.1 (aG d 0 0 4099).2.2 4099 w' l1.2 oM (aA.has _ _ aa)) ?_
 have un:=Cy d
 rw[show aG d 0 0 4099=dB d from rfl] at l2 m1 ⊢
 rw[show aG d (dB d).2.1 (dB d).2.2 4099=dM d from rfl] at l2 ⊢
 refine kn ?_
 refine ko @du ?_
 refine ky @du ?_
 refine Cw.permL (M:=(br,rrO d (dM d).2.1 (dM d).2.2):: ([]++ [])) (List.Perm.refl _) ?_
 refine Cw.loopG (G:=RrG) [20,21,22,23,24,25,26,27,28,29,30,31,32,33,34,35,9,36,10,37,38,39,40,41,42,43,44,45,46,47,48,49,50,51,52,53,54,55,56,8] (fun g=> [(8,g.v)]) (fun g=>(br,rrO d g.a g.e):: (g.D++g.DG)) (fun g=>RrJ d (dM d).2.1 (dM d).2.2 w.heap.size g) (fun g=>(if g.e=0 then d.length - g.a+1 else 0)) ⟨(dM d).2.1,(dM d).2.2,[], .slice none 0 0,[],[]⟩ rfl rfl ?_ ?_
 ·refine⟨trivial,trivial,Gr.nl,l2.2,fun g hg=>by simp at hg,by simp,fun _=>aq _, ?_⟩
  by_cases he: (dM d).2.2=0
  ·exact .inr ⟨he, .inl ⟨he,rfl⟩⟩
  exact .inl ⟨he,he⟩
 intro g j hg
 refine kv ?_
 obtain⟨a,e,out,v,D,DG⟩:=g
 obtain⟨hN,dq,hG,jE,hB,qg,yI,b_⟩:=hg
 simp only at hN dq hG jE hB qg yI b_ ⊢
 by_cases hc:e=0∧a<d.length
 ·obtain⟨rfl,aC⟩:=hc
  have e0: ((0:Int)==0)=true:=rfl
  have d1:decide ((a:Int)< (d.length:Int))=true:=aW oM
  have mL:=i_ (s:=d) (a:=a) (e:=0) (most:=8199) jE
  have ey:=uG (s:=d) (a:=a) (e:=0) (most:=8199) oM
  have tZ:pcR d a=pcR d a:=rfl
  conv at tZ=>rhs;unfold pcR
  refine kz [1000008] (aN @du (aN @e0 @d1)) ?_
  refine Ow.callM rfl rfl call128 (by simp[keys]) (fun w' aA=>z' br d a 0 8199 w' jE oM (aA.has _ _ aa)) ?_
  generalize aG d a 0 8199=q at*
  obtain⟨q1,a1,e1⟩:=q
  simp only at mL ey tZ ⊢
  obtain⟨Q,rfl⟩: ∃Q:Nat,q1=(Q:Int):=⟨q1.toNat,by omega⟩
  have hQ:Q≤8199:=by omega
  refine kn ?_
  refine ko @du ?_
  refine ky @du ?_
  refine Ow.build (.agg (pcC pc0).toArray) rfl UB ?_
  refine ko @du ?_
  refine Ow.alloc rfl rfl zrPc fun b10 Gv fQ=> ?_
  simp only[ag,List.nil_append,List.cons_append]
  have h10:br<b10:=ak Gv (by simp[keys])
  have bL:=VW pc0 pc0 418
  refine Ow.permL (M:=(b10, .cells (pcC pc0).toArray 418 (0,0)):: (br,rrO d a1 e1):: (D++DG)) pM ?_
  refine ko (aN @du @bL) ?_
  refine Cw.cutO (G:=(PcL×Nat×Int)) [37,38,39,40,41,42,43,44,45,46,47,48,49,50,51,52] (fun g=> []) (fun g=>(b10, .cells (pcC g.1).toArray 418 (0,0)):: (br,rrO d g.2.1 g.2.2):: (D++DG)) (fun g=>pcR d a=g∧(PcB g.1∧g.1.x.length<9223372036854775808)) ?_ ?_
  ·by_cases tV: (Q:Int)%2=1
   ·have d2: (((Q:Nat):Int)%2==1)=true:=by rw[beq_iff_eq];exact tV
    rw[if_pos tV] at tZ
    have gj:=uG (s:=d) (a:=a1) (e:=e1) (most:=4099) oM
    refine ky (aN @du @d2) ?_
    refine Ow.callM rfl rfl call128 (by simp[keys]) (fun w' aA=>z' br d a1 e1 4099 w' mL.2 oM (aA.has _ _ (av _ aa))) ?_
    generalize aG d a1 e1 4099=x at*
    obtain⟨x1,a2,e2⟩:=x
    simp only at gj tZ ⊢
    obtain⟨X,rfl⟩: ∃X:Nat,x1=(X:Int):=⟨x1.toNat,by omega⟩
    rw[Int.toNat_natCast,show((Q:Int) / 2).toNat=Q / 2 by omega] at tZ
    refine kn ?_
    refine Ow.convIF rfl rfl cvIF underlying3 underlying419 rfl ?_
    refine ko @du ?_
    rw[show(Q:Int) / 2=((Q / 2:Nat):Int) by omega]
    refine Ow.convIF rfl rfl cvIF underlying3 underlying419 rfl ?_
    refine Ow.complexB (a:=(X:Nat)) (b:=(Q / 2:Nat)) rfl rfl rfl ?_
    have eL:=fun a=>TI X (Q / 2) 418 a
    refine ko (aN @du @eL) ?_
    refine CutO.mk (⟨X,Q / 2,[]⟩,a2,e2) ⟨tZ,⟨by show X≤4099;omega,by show Q / 2≤4099;omega⟩,by show 0<9223372036854775808;omega⟩ rfl rfl
   have d2: (((Q:Nat):Int)%2==1)=false:=by rw[beq_eq_false_iff_ne];exact tV
   rw[if_neg tV] at tZ
   refine ky (aN @du @d2) ?_
   refine Ow.callM rfl rfl call194 (by simp[keys]) (fun w' aA=>NE br d a1 e1 ((Q:Int) / 2) w' mL.2 oM (aA.has _ _ (av _ aa))) ?_
   have jO: (ax d a1 e1 ((Q:Int) / 2)).1.length≤d.length:=by
    unfold ax
    split
    ·simp
    split
    ·simp
    split
    ·simp
    simp only[List.length_take,List.length_drop];omega
   generalize ax d a1 e1 ((Q:Int) / 2)=x at*
   obtain⟨x1,a2,e2⟩:=x
   simp only at jO tZ ⊢
   refine kn ?_
   have eL:=fun a=>UK x1 418 a
   refine ko (aN @du @eL) ?_
   refine CutO.mk (⟨0,0,x1⟩,a2,e2) ⟨tZ,⟨aq _,aq _⟩,by show x1.length<9223372036854775808;omega⟩ rfl rfl
  intro g j hg
  refine kv ?_
  obtain⟨p,a2,e2⟩:=g
  obtain⟨hpq,hpB⟩:=hg
  simp only at hpB ⊢
  have dC:=xI jE
  have yZ:=xB jE
  have cG:=Zt aC
  have her:=Xc aC
  rw[hpq] at dC yZ cG her
  simp only at dC yZ cG her
  refine ky @du ?_
  refine Ow.buildSlice (e:=418) (pcC p).toArray rfl rfl (Xe p) fun b11 ny oD=> ?_
  refine ko @du ?_
  refine Ow.permL (M:=D++ ((b10, .cells (pcC p).toArray 418 (0,0)):: (br,rrO d a2 e2):: (DG++ [(b11, .cells (pcC p).toArray 418 (0,0))]))) pM ?_
  refine Ow.appendXG (e:=418) (k:=1) (new:=pcC p) (X:=D) v rfl rfl rfl rfl underlying408 (id kR:aK prog 418=some (true,2)) kR zrPc (by rw[yy];rfl) underlying408 (by intro k h;cases h) hG (fun w' aA=>AppX.one1 (aA.has b11 (.cells (pcC p).toArray 418 (0,0)) (by simp)) (ve p) (FA p)) oM (fun B3 v3 D3 fU kI hG3 HQ qV HT=> ?_)
  have gL:New w.heap.size D3:=New.of_le fun q hq=>by
   rcases qV q hq with h|h
   ·exact hN.le q h
   omega
  refine Ow.permL (M:=(br,rrO d a2 e2):: (D3++ ((b10, .cells (pcC p).toArray 418 (0,0)):: (DG++ [(b11, .cells (pcC p).toArray 418 (0,0))])))) pM ?_
  refine ko @du ?_
  refine Again.mk ⟨a2,e2,out++ [p],v3,D3,(b10, .cells (pcC p).toArray 418 (0,0)):: (DG++ [(b11, .cells (pcC p).toArray 418 (0,0))])⟩ ?_ ⟨gL,⟨fQ,dq.app ⟨oD,trivial⟩⟩,by simpa using hG3,dC.2,Ud hB hpB, ?_, ?_, ?_⟩ rfl rfl
  ·show(if e2=0 then d.length - a2+1 else 0)< (if(0:Int)=0 then d.length - a+1 else 0)
   rw[if_pos rfl]
   split
   ·rename_i he;have:=yZ he;omega
   omega
  ·show(out++ [p]).length≤a2+1
   have:=yI rfl
   rw[List.length_append];simp;omega
  ·intro he
   show(out++ [p]).length≤a2
   have:=yI rfl
   have:=yZ he
   rw[List.length_append];simp;omega
  rcases b_ with⟨h1,h2⟩ | ⟨h1,h2|h2⟩
  ·exact absurd rfl h2
  ·refine .inr ⟨h1, ?_⟩
   by_cases he:e2=0
   ·refine .inl ⟨he, ?_⟩
    rw[h2.2,cG he]
    simp
   refine .inr ⟨he, ?_⟩
   rw[h2.2,her he]
  exact absurd rfl h2.1
 have hdone: (e==0&&decide ((a:Int)< (d.length:Int)))=false:=by
  rw[Bool.and_eq_false_iff]
  by_cases he:e=0
  ·right;exact ah (fun h=>hc ⟨he,by omega⟩)
  left;exact beq_eq_false_iff_ne.2 he
 have fV:New w.heap.size ((br,rrO d a e):: (D++DG)):=⟨di,hN.app dq⟩
 by_cases he:e=0
 ·subst he
  have hal2: ¬a<d.length:=fun h=>hc ⟨rfl,h⟩
  have e0: ((0:Int)==0)=true:=rfl
  have d1:decide ((a:Int)< (d.length:Int))=false:=ah oM
  have hE:eS d a 0=0:=by unfold eS;rw[if_neg (by simp),if_neg oM]
  have n0: ((0:Int) !=0)=false:=rfl
  obtain⟨h1,h2⟩: (dM d).2.2=0∧pcs d (dM d).2.1=(out,a,0):=by
   rcases b_ with⟨h1,h2⟩ | ⟨h1,h2|h2⟩
   ·exact absurd rfl h2
   ·rw[ZS hal2] at h2
    exact⟨h1,by rw[h2.2,List.append_nil]⟩
   exact absurd rfl h2.1
  rw[h2] at un
  rw[if_neg (by rw[h1];simp),if_neg (by simp)] at un
  simp only at un
  refine ky (aN @du (aN @e0 @d1)) ?_
  refine Ow.callFV rfl call131 (fun w' aA=>XY_ br d a 0 w' (aA.has _ _ aa)) ?_
  rw[hE]
  refine ko (aN @du @n0) ?_
  refine ky (aN @du @n0) ?_
  refine Ow.callFV rfl call322 (fun w' aA=>V8_ (dB d).1 v out w' (hG.slM (fun b o hm=>aA.has b o (by simp[hm])) rfl rfl ve) hB oM) ?_
  unfold sR
  by_cases hk:chkV (dB d).1 out=((dM d).1,0)
  ·rw[if_pos hk] at un
   rw[un,hk]
   obtain⟨-,-,-,-,-,js⟩:=wn hk
   have n1: ((dM d).1 !=(dM d).1)=false:=bne_self_eq_false _
   refine ko @du ?_
   refine ky (aN @du (aN @n0 @n1)) ?_
   refine⟨_,(ke @du), ?_⟩
   refine⟨Ext.of_new fV,v, ?_,hB,js,by show(dB d).1.toNat≤4099;omega,Gr.i hG fun q hq=>by simp[hq]⟩
   show Value.tuple #[vi (dB d).1,v, .bool true]= .tuple #[vi ((dB d).1.toNat:Nat),v, .bool true]
   rw[show(((dB d).1.toNat:Nat):Int)=(dB d).1 by omega]
  rw[if_neg hk] at un
  rw[un]
  obtain⟨N,E,hNE⟩: ∃N E,chkV (dB d).1 out=(N,E):=⟨_,_,rfl⟩
  rw[hNE] at hk ⊢
  by_cases fp:E=0
  ·subst fp
   have n1: (N !=(dM d).1)=true:=bne_iff_ne.2 (fun h=>hk (by rw[h]))
   refine ko @du ?_
   refine ky (aN @du (aN @n0 @n1)) ?_
   refine⟨_,(ke @du), ?_⟩
   exact⟨Ext.of_new fV,rfl⟩
  have n1: (E !=0)=true:=bne_iff_ne.2 fp
  refine ko @du ?_
  refine ky (aN @du @n1) ?_
  refine⟨_,(ke @du), ?_⟩
  exact⟨Ext.of_new fV,rfl⟩
 have e0: (e==0)=false:=beq_eq_false_iff_ne.2 he
 have hE:eS d a e=e:=by unfold eS;rw[if_pos he]
 have n0: (e !=0)=true:=bne_iff_ne.2 he
 have kQ:nR d=none:=by
  rw[un]
  rcases b_ with⟨h1,h2⟩ | ⟨h1,h2|h2⟩
  ·rw[if_pos h1]
  ·exact absurd h2.1 he
  rw[h2.2,if_neg (by rw[h1];simp),if_pos he]
 refine ky (aN @du @e0) ?_
 refine Ow.callFV rfl call131 (fun w' aA=>XY_ br d a e w' (aA.has _ _ aa)) ?_
 rw[hE]
 refine ko (aN @du @n0) ?_
 refine ky (aN @du @n0) ?_
 refine⟨_,(ke @du), ?_⟩
 refine⟨Ext.of_new fV, ?_⟩
 unfold sR
 rw[kQ]
 rfl
def ow:=aN (aN (aN @bB @bA) (aN @zB (aN @zT @zL))) (aN (aN @yy (aN @Sx.tup2_0 @Sx.tup2_1)) (aN @Sx.tup3_0 (aN @Sx.tup3_1 @Sx.tup3_2)))
def QK (base d:List UInt8) (w:World) (hd:d.length<100000000):
  Rets prog 297 #[vs base,vs d] w (fun v D=>v= .tuple #[vs (lF base d).1,vi (lF base d).2]∧D= []):=by
 refine Rets.enterV func297 rfl (rs:= [.tmp 4, .tmp 5]) results297 ntmps297 ?_
 refine kf ?_
 refine ky @ow ?_
 refine Ow.callC rfl rfl call314 (fun w' aA=>P7 d w' hd) (fun B1 v1 D1 eF dV bX bu=> ?_)
 have dL:=bX.mono dV
 unfold sR at bu
 cases hr:nR d with
 |none=>
  rw[hr] at bu
  have xe:v1= .tuple #[vi 0, .slice none 0 0, .bool false]:=bu
  subst xe
  have p9:lF base d=([],2):=by unfold lF;rw[hr]
  refine ko @ow ?_
  refine ky @ow ?_
  refine⟨_,(ke @ow),dL, ?_⟩
  rw[p9];rfl
 |some p=>
  rw[hr] at bu
  obtain⟨x,rfl,hB,tT,hp4,hg⟩:=bu
  by_cases hb:p.1=base.length
  ·have e1: (((p.1:Nat):Int) !=((base.length:Nat):Int))=false:=by rw[hb];exact bne_self_eq_false _
   obtain⟨m,hm⟩:=Bb hr
   rw[hb] at hm
   have p9:lF base d=(txtP base p.2,0):=by unfold lF;rw[hr];simp only;rw[if_neg (by simp[hb])]
   refine ko @ow ?_
   refine ky (aN @ow @e1) ?_
   refine Ow.callFV rfl call315 (fun w' aA=>PP base x p.2 w' (GrI.slV (hg.mono fun q hq=>by simp[hq]) aA rfl rfl ve) hB oM) ?_
   rw[hm,if_pos rfl]
   refine ko @ow ?_
   refine ky @ow ?_
   refine⟨_,(ke @ow),dL, ?_⟩
   rw[p9];rfl
  have e1: (((p.1:Nat):Int) !=((base.length:Nat):Int))=true:=by rw[bne_iff_ne];omega
  have p9:lF base d=([],19):=by unfold lF;rw[hr];simp only;rw[if_pos hb]
  refine ko @ow ?_
  refine ky (aN @ow @e1) ?_
  refine⟨_,(ke @ow),dL, ?_⟩
  rw[p9];rfl
structure PrG where
 at_:Nat
 out:List Nat
 v:Value
 D:aB
 DG:aB
def gW:=aN (aN (aN @bB @bA) (aN @Bv @BF)) (aN (aN @BG @JN) (aN @Sx.tup2_0 @Sx.tup2_1))
def Rk (v0:Value) (l:List PartL) (a0:Int) (w:World) (hv:Fs w v0 l):
  Rets prog 296 #[v0,vi a0] w (XS w [] (kj l a0)):=by
 obtain⟨bb,off,arr,E,fz,hr⟩:=hv.row
 have ln:=hv.len
 refine Rets.enterX func296 rfl (rs:= [.tmp 4, .tmp 5]) results296 ntmps296 (fun p hp=>by cases hp) (by simp[keys]) ?_
 refine kf ?_
 by_cases hc:200<l.length∨a0<0∨(l.length:Int)≤a0
 ·have hpv:kC l a0= .error 1:=by unfold kC;rw[if_pos hc]
  unfold kj
  rw[hpv]
  by_cases h1:200<l.length
  ·have d1:decide ((200:Int)< (l.length:Int))=true:=aW oM
   refine ky (aN @gW (aN @ln @d1)) ?_
   refine⟨_,(ke @gW), ?_⟩
   exact⟨Ext.refl _ _,rfl⟩
  have d1:decide ((200:Int)< (l.length:Int))=false:=ah oM
  by_cases h2:a0<0
  ·have d2:decide (a0<0)=true:=aW h2
   refine ky (aN @gW (aN @ln (aN @d1 @d2))) ?_
   refine⟨_,(ke @gW), ?_⟩
   exact⟨Ext.refl _ _,rfl⟩
  have d2:decide (a0<0)=false:=ah h2
  have d3:decide ((l.length:Int)≤a0)=true:=aW oM
  refine ky (aN @gW (aN @ln (aN @d1 (aN @d2 @d3)))) ?_
  refine⟨_,(ke @gW), ?_⟩
  exact⟨Ext.refl _ _,rfl⟩
 have d1:decide ((200:Int)< (l.length:Int))=false:=ah oM
 have d2:decide (a0<0)=false:=ah oM
 have d3:decide ((l.length:Int)≤a0)=false:=ah oM
 obtain⟨A,rfl⟩: ∃A:Nat,a0=(A:Int):=⟨a0.toNat,by omega⟩
 have hpv:kC l (A:Int)=(lc l 5 A).map ([]++ ·):=by
  unfold kC
  rw[if_neg hc,Int.toNat_natCast]
  cases lc l 5 A<;>rfl
 refine ky (aN @gW (aN @ln (aN @d1 (aN @d2 @d3)))) ?_
 refine Cw.loopG (G:=PrG) [21,22,25,26,4,5,27,28,29,30,6,31,32,33,34,35,36,37,38,39,40,41,42,43,44,45,46,47,48,49,50,51,52,53,54,55,56,57,58,59,60,61,62,63,1,23,24,7] (fun g=> [(1,vi g.at_),(6,g.v),(7,vi g.out.length)]) (fun g=>g.D++g.DG) (fun g=>New w.heap.size g.D∧New w.heap.size g.DG∧Gr g.D 3 1 g.v g.out.length (g.out.map natC).flatten∧g.at_<l.length∧g.out.length≤5∧kC l (A:Int)=(lc l (5 - g.out.length) g.at_).map (g.out++ ·)) (fun g=>6 - g.out.length) ⟨A,[], .slice none 0 0,[],[]⟩ rfl rfl ?_ ?_
 ·exact⟨trivial,trivial,Gr.nl,by show A<l.length;omega,by simp,hpv⟩
 intro g j hg
 refine kv ?_
 obtain⟨a,out,v,D,DG⟩:=g
 obtain⟨hN,dq,hG,jE,qg,b_⟩:=hg
 simp only at hN dq hG jE qg b_ ⊢
 have d4:decide ((out.length:Int)<6)=true:=aW oM
 by_cases h5:out.length=5
 ·have d5: ((out.length:Int)==5)=true:=by rw[h5];rfl
  rw[h5] at b_
  have yL:kC l (A:Int)= .error 11:=b_
  refine ky (aN @gW (aN @d4 @d5)) ?_
  refine⟨_,(ke @gW), ?_⟩
  refine⟨Ext.of_new (hN.app dq), ?_⟩
  unfold kj
  rw[yL]
  rfl
 have d5: ((out.length:Int)==5)=false:=beq_eq_false_iff_ne.2 oM
 have hk5:lc l (5 - out.length) a=lc l (4 - out.length+1) a:=by congr 1;omega
 rw[hk5,lc] at b_
 refine ky (aN @gW (aN @d4 @d5)) ?_
 refine Ow.buildSlice (e:=3) #[vi a] rfl rfl kR fun b9 qM jN=> ?_
 refine ko @gW ?_
 refine Ow.permL (M:=D++ (DG++ [(b9, .cells #[vi a] 3 (0,0))])) pM ?_
 refine Ow.appendXG (e:=3) (k:=1) (new:=natC a) (X:=D) v rfl rfl rfl rfl underlying302 (id kR:aK prog 3=some (false,1)) kR (id kR:au prog 3=some (vi 0)) rfl underlying302 (by intro k h;cases h) hG (fun w' aA=>AppX.one1 (aA.has b9 (.cells #[vi a] 3 (0,0)) (by simp)) (Ed a) rfl) oM (fun B3 v3 D3 fU kI hG3 HQ qV HT=> ?_)
 have gL:New w.heap.size D3:=New.of_le fun c hc=>by
  rcases qV c hc with h|h
  ·exact hN.le c h
  omega
 have ua:Gr D3 3 1 v3 (out++ [a]).length ((out++ [a]).map natC).flatten:=by simpa using hG3
 have qh: (out++ [a]).length=out.length+1:=by simp
 have Gg:New w.heap.size (DG++ [(b9, .cells #[vi a] 3 (0,0))]):=dq.app ⟨jN,trivial⟩
 generalize DG++ [(b9,Obj.cells #[vi a] 3 (0,0))]=DG' at*
 have fV:New w.heap.size (D3++DG'):=gL.app Gg
 have kw:0<l.length:=by omega
 have fE:=hr.lt kw
 have rd:aT w (D3++DG') bb=some (.cells arr E fz):=by rw[kY (fV.not fE)];exact hr.has kw
 have i2:=hr.idx true a jE
 have ld0:aQ (some (false,1)) (some (.cells arr E fz)) (off+a*3)=some (.bool (l.getD a fg).d):=hr.cell (j:=0) (n:=1) jE oM
 have ld1:aQ (some (false,1)) (some (.cells arr E fz)) (off+a*3+1)=some (vi (l.getD a fg).b):=hr.cell (j:=1) (n:=1) jE oM
 generalize l.getD a fg=p at*
 cases hd:p.d with
 |false=>
  rw[hd,if_neg (by simp)] at b_
  rw[hd] at ld0
  by_cases hb:p.b=0
  ·have e1: (p.b !=0)=false:=by rw[hb];rfl
   rw[if_neg (by simp[hb])] at b_
   refine ko (aN @gW (aN @i2 (aN @rd (aN @ld0 (aN @ld1 @e1))))) ?_
   refine ky (aN @gW (aN @i2 (aN @rd (aN @ld0 (aN @ld1 @e1))))) ?_
   refine⟨_,(ke @gW), ?_⟩
   refine⟨Ext.of_new fV, ?_⟩
   unfold kj
   rw[b_]
   exact⟨v3,rfl,by show(out++ [a]).length≤5;omega,Gr.i ua fun c hc=>by simp[hc]⟩
  have e1: (p.b !=0)=true:=by rw[bne_iff_ne];exact hb
  rw[if_pos hb] at b_
  have yL:kC l (A:Int)= .error 2:=b_
  refine ko (aN @gW (aN @i2 (aN @rd (aN @ld0 (aN @ld1 @e1))))) ?_
  refine ky (aN @gW (aN @i2 (aN @rd (aN @ld0 (aN @ld1 @e1))))) ?_
  refine⟨_,(ke @gW), ?_⟩
  refine⟨Ext.of_new fV, ?_⟩
  unfold kj
  rw[yL];rfl
 |true=>
  rw[hd,if_pos rfl] at b_
  rw[hd] at ld0
  by_cases hb:p.b<0
  ·have e1:decide (p.b<0)=true:=aW hb
   rw[if_pos (.inl hb)] at b_
   have yL:kC l (A:Int)= .error 2:=b_
   refine ko (aN @gW (aN @i2 (aN @rd (aN @ld0 (aN @ld1 @e1))))) ?_
   refine ky (aN @gW (aN @i2 (aN @rd (aN @ld0 (aN @ld1 @e1))))) ?_
   refine⟨_,(ke @gW), ?_⟩
   refine⟨Ext.of_new fV, ?_⟩
   unfold kj
   rw[yL];rfl
  have e1:decide (p.b<0)=false:=ah hb
  by_cases al: (a:Int)≤p.b
  ·have e2:decide ((a:Int)≤p.b)=true:=aW al
   rw[if_pos (.inr al)] at b_
   have yL:kC l (A:Int)= .error 2:=b_
   refine ko (aN @gW (aN @i2 (aN @rd (aN @ld0 (aN @ld1 (aN @e1 @e2)))))) ?_
   refine ky (aN @gW (aN @i2 (aN @rd (aN @ld0 (aN @ld1 (aN @e1 @e2)))))) ?_
   refine⟨_,(ke @gW), ?_⟩
   refine⟨Ext.of_new fV, ?_⟩
   unfold kj
   rw[yL];rfl
  have e2:decide ((a:Int)≤p.b)=false:=ah al
  rw[if_neg oM] at b_
  obtain⟨Bn,hBn⟩: ∃Bn:Nat,p.b=(Bn:Int):=⟨p.b.toNat,by omega⟩
  rw[hBn] at ld1 e1 e2 b_
  rw[Int.toNat_natCast] at b_
  refine ko (aN @gW (aN @i2 (aN @rd (aN @ld0 (aN @ld1 (aN @e1 @e2)))))) ?_
  refine ky (aN @gW (aN @i2 (aN @rd (aN @ld0 (aN @ld1 (aN @e1 @e2)))))) ?_
  refine Again.mk ⟨Bn,out++ [a],v3,D3,DG'⟩ (by show 6 - (out++ [a]).length<6 - out.length;omega) ⟨gL,Gg,ua,by show Bn<l.length;omega,by show(out++ [a]).length≤5;omega, ?_⟩ rfl (by simp only[qh];rfl)
  show kC l (A:Int)=(lc l (5 - (out++ [a]).length) Bn).map ((out++ [a])++ ·)
  rw[b_,show 5 - (out++ [a]).length=4 - out.length by omega]
  split
  ·rename_i h4
   rw[h4];rfl
  cases lc l (4 - out.length) Bn with
  |error x=>rfl
  |ok x=>show Except.ok _=Except.ok _;simp
def BndD (l:List PartL):Prop:= ∀g,g<l.length→(l.getD g fg).x.length<100000000
def AP {α:Type} {enc:α→List Value} {m:Nat} {D:aB} {E:TypeId} {v:Value} {l:List α} (h:GrI D E m v l.length (l.map enc).flatten) (hn: (keys D).Nodup):l.length=0∨ ∃b c rest,v=vsl b 0 l.length c∧b∈keys D∧Sx.look D b=some (rowO enc E rest l):=by
 obtain⟨X,hX,h| ⟨h0,-⟩⟩:=h
 ·rcases h.inv with⟨-,h0,-⟩ | ⟨b,c,rest,rfl,hl,h1,h2,h3,h4⟩
  ·exact .inl h0
  exact .inr ⟨b,c,rest,rfl,List.mem_map_of_mem (f:=Prod.fst) (hX _ (cu hl)),vY hn (hX _ (cu hl))⟩
 exact .inl h0
structure TrG where
 n:Nat
 s:List UInt8
 DG:aB
def j9:=aN (aN (aN @bB @bA) (aN @Bv @BF)) (aN (aN @BG @JN) (aN @Sx.tup2_0 @Sx.tup2_1))
def QQ (v0:Value) (l:List PartL) (a0:Int) (w:World) (hv:Fs w v0 l) (hb:BndD l):
  Rets prog 255 #[v0,vi a0] w (fun v D=>v=nk (partV l a0)∧D= []):=by
 obtain⟨bb,off,arr,E,fz,hr⟩:=hv.row
 refine Rets.enterV func255 rfl (rs:= [.tmp 4, .tmp 5]) results255 ntmps255 ?_
 refine kf ?_
 refine ky @j9 ?_
 refine Ow.callC rfl rfl call296 (fun w' aA=>Rk v0 l a0 w' (hv.oldN aA trivial)) (fun B1 v1 D1 eF dV bX bu=> ?_)
 have dL:=bX.mono dV
 unfold kj at bu
 unfold partV
 cases hp:kC l a0 with
 |error e=>
  rw[hp] at bu
  have xe:v1= .tuple #[.slice none 0 0,vi e]:=bu
  subst xe
  have e0: (e !=0)=true:=by rw[bne_iff_ne];exact CG hp
  refine ko @j9 ?_
  refine ky (aN @j9 @e0) ?_
  refine⟨_,(ke @j9),dL, ?_⟩
  rfl
 |ok p=>
  rw[hp] at bu
  obtain⟨x,rfl,hp5,hgp⟩:=bu
  have aC:=Wg hp
  have e0: ((0:Int) !=0)=false:=rfl
  have aS: ∀m,Sx.eb (.sl m) x=some (vi p.length):=fun m=>uR hgp m
  rw[List.nil_append]
  refine ko (aN @j9 (aN @e0 @aS)) ?_
  refine ky @j9 ?_
  refine Cw.world fun wz gG=> ?_
  have ao:=gG.nodup
  clear gG wz
  refine Cw.permL (M:=D1++ []) (by rw[List.append_nil]) ?_
  refine Cw.loopG (G:=TrG) [25,26,29,30,31,32,33,34,35,10,36,37,38,39,40,41,42,4,5,43,44,8,46,47,48,49,45,50,51,11,12,52,53,54,55,27,28,9] (fun g=> [(8,vs g.s),(9,vi ((g.n:Int) - 1))]) (fun g=>D1++g.DG) (fun g=>g.n≤p.length∧kA l (p.drop g.n)= .ok g.s∧New w.heap.size g.DG) (fun g=>g.n) ⟨p.length,[],[]⟩ rfl rfl ?_ ?_
  ·exact⟨ap _,by rw[List.drop_length];rfl,trivial⟩
  intro g j hg
  refine kv ?_
  obtain⟨n,s,DG⟩:=g
  simp only at hg ⊢
  obtain⟨lT,dh,dq⟩:=hg
  have fV:New w.heap.size (D1++DG):=dL.app dq
  cases n with
  |zero=>
   have d1:decide ((0:Int)≤ ((0:Nat):Int) - 1)=false:=rfl
   refine ky (aN @j9 @d1) ?_
   refine⟨_,(ke @j9),fV, ?_⟩
   rw[List.drop_zero] at dh;show _=nk ((Except.ok p).bind (kA l));rw[show(Except.ok p).bind (kA l)=kA l p from rfl,dh];rfl
  |succ n=>
   have en: ((n+1:Nat):Int) - 1=(n:Int):=by omega
   rw[en]
   have d1:decide ((0:Int)≤ (n:Int))=true:=aW oM
   obtain h0| ⟨bp,cp,rp,rfl,ux,bz⟩:=AP hgp ao
   ·omega
   have bI:n<p.length:=by omega
   have rdp:aT w (D1++DG) bp=some (rowO natC 3 rp p):=ac (bZ bz)
   have lp:=WJ (E:=3) (rest:=rp) 1 n bI
   have mQ:p.getD n 0<l.length:=aC _ (getD_mem bI)
   have iT:p.drop n=p.getD n 0::p.drop (n+1):=TN (z:=0) bI
   have kO:kA l (p.drop n)=if(iI (l.getD (p.getD n 0) fg) s).2=0 then .ok (iI (l.getD (p.getD n 0) fg) s).1 else .error (iI (l.getD (p.getD n 0) fg) s).2:=by
    rw[iT,kA,dh];rfl
   generalize p.getD n 0=a at*
   have kw:0<l.length:=by omega
   have fE:=hr.lt kw
   have rd:aT w (D1++DG) bb=some (.cells arr E fz):=by rw[kY (fV.not fE)];exact hr.has kw
   have i2:=hr.idx true a mQ
   have ld:=hr.load LJ oM mQ
   have zq:=hb a mQ
   generalize l.getD a fg=pt at*
   have bL:=Bp pt fg 395
   refine kz [7] (aN @j9 (aN @d1 (aN @lp (aN @rdp (aN @rd (aN @i2 @ld)))))) ?_
   refine Ow.alloc rfl rfl pp fun b10 Gv fQ=> ?_
   simp only[ag,List.nil_append,List.cons_append]
   refine Ow.permL (M:=(b10, .cells (cj fg).toArray 395 (0,0)):: (D1++DG)) pM ?_
   cases hd:pt.d with
   |false=>
    by_cases tT:4099<pt.x.length
    ·have d2:decide ((4099:Int)< (pt.x.length:Int))=true:=aW oM
     have ht:iI pt s=([],19):=by unfold iI;rw[if_neg (by rw[hd];decide),if_pos tT]
     rw[ht,if_neg (by decide)] at kO
     refine ko (aN @j9 (aN @bL (aN @hd @d2))) ?_
     refine ky (aN @j9 (aN @hd @d2)) ?_
     refine⟨_,(ke @j9),(show New w.heap.size ((b10,_):: (D1++DG)) from⟨fQ,fV⟩), ?_⟩
     show _=nk (kA l p);rw[Lq p n kO];rfl
    have d2:decide ((4099:Int)< (pt.x.length:Int))=false:=ah oM
    have ht:iI pt s=(pt.x,0):=by unfold iI;rw[if_neg (by rw[hd];decide),if_neg tT]
    rw[ht,if_pos rfl] at kO
    refine ko (aN @j9 (aN @bL (aN @hd @d2))) ?_
    refine Cw.permL (M:=D1++ ((b10, .cells (cj pt).toArray 395 (0,0))::DG)) pM ?_
    refine ky @j9 ?_
    exact Again.mk ⟨n,pt.x,(b10, .cells (cj pt).toArray 395 (0,0))::DG⟩ (by show n<n+1;omega) ⟨by show n≤p.length;omega,kO,⟨fQ,dq⟩⟩ rfl rfl
   |true=>
    have ht:iI pt s=lF s pt.x:=by unfold iI;rw[if_pos hd]
    rw[ht] at kO
    refine ko (aN @j9 (aN @bL @hd)) ?_
    refine ky (aN @j9 @hd) ?_
    refine Ow.callFV rfl call297 (fun w' aA=>QK s pt.x w' zq) ?_
    by_cases he: (lF s pt.x).2=0
    ·have e1: ((lF s pt.x).2 !=0)=false:=by rw[he];rfl
     rw[if_pos he] at kO
     refine ko (aN @j9 @e1) ?_
     refine Cw.permL (M:=D1++ ((b10, .cells (cj pt).toArray 395 (0,0))::DG)) pM ?_
     refine ky @j9 ?_
     exact Again.mk ⟨n,(lF s pt.x).1,(b10, .cells (cj pt).toArray 395 (0,0))::DG⟩ (by show n<n+1;omega) ⟨by show n≤p.length;omega,kO,⟨fQ,dq⟩⟩ rfl rfl
    have e1: ((lF s pt.x).2 !=0)=true:=by rw[bne_iff_ne];exact he
    rw[if_neg he] at kO
    refine ko @j9 ?_
    refine ky (aN @j9 @e1) ?_
    refine⟨_,(ke @j9),(show New w.heap.size ((b10,_):: (D1++DG)) from⟨fQ,fV⟩), ?_⟩
    show _=nk (kA l p);rw[Lq p n kO];rfl
def PG (s:List UInt8) (a:Nat) (e most:Int):aG s (a+1) e most=((aG (s.drop 1) a e most).1,(aG (s.drop 1) a e most).2.1+1,(aG (s.drop 1) a e most).2.2):=by
 unfold aG
 rw[List.drop_drop,Nat.add_comm 1 a]
 by_cases he:e≠0
 ·rw[if_pos he,if_pos he]
 rw[if_neg he,if_neg he]
 cases bO most (List.drop (a+1) s) 0 0 with
 |error x=>rfl
 |ok p=>simp only[Prod.mk.injEq,true_and];exact⟨by omega,trivial⟩
def QH (s:List UInt8) (a:Nat) (e n:Int) (hs:1≤s.length):ax s (a+1) e n=((ax (s.drop 1) a e n).1,(ax (s.drop 1) a e n).2.1+1,(ax (s.drop 1) a e n).2.2):=by
 unfold ax
 rw[List.length_drop,List.drop_drop,Nat.add_comm 1 a]
 have hq: ((s.length:Int) - ((a+1:Nat):Int)<n)=(((s.length - 1:Nat):Int) - (a:Int)<n):=by rw[eq_iff_iff];omega
 simp only[hq]
 by_cases he:e≠0
 ·simp only[if_pos he]
 simp only[if_neg he]
 by_cases hn:n<0
 ·simp only[if_pos hn]
 simp only[if_neg hn]
 by_cases hl: ((s.length - 1:Nat):Int) - (a:Int)<n
 ·simp only[if_pos hl]
 simp only[if_neg hl,Prod.mk.injEq,true_and]
 exact⟨by omega,trivial⟩
def Nd (s:List UInt8) (a:Nat) (e most:Int) (hs:1≤s.length):aY s (a+1) e most=((aY (s.drop 1) a e most).1,(aY (s.drop 1) a e most).2.1+1,(aY (s.drop 1) a e most).2.2):=by
 unfold aY
 simp only[PG]
 rw[QH _ _ _ _ hs]
 simp only
 split<;>rfl
def ER (c:UInt8) (r:List UInt8):frR (c::r)=([c],1,0):=by
 unfold frR ax
 rw[if_neg (by simp),if_neg (by decide),if_neg (by simp only[List.length_cons];omega)]
 rfl
def DV (c:UInt8) (r:List UInt8):frT (c::r)=((lfT r).1,(lfT r).2.1+1,(lfT r).2.2):=by
 unfold frT
 rw[ER]
 exact Nd (c::r) 0 0 4096 (by simp)
def Ur (c:UInt8) (r:List UInt8) (a:Nat) (e:Int):eS (c::r) (a+1) e=eS r a e:=by
 unfold eS
 rw[List.length_cons]
 have: ((((a+1:Nat):Int)< ((r.length+1:Nat):Int))=((a:Int)< (r.length:Int))):=by rw[eq_iff_iff];omega
 simp only[this]
def Vj (c:UInt8) (r:List UInt8): (fkC c=0∧ ¬ (1≤frK (c::r)∧frK (c::r)≤3))∨(fkC c≠0∧frK (c::r)=fkC c∧GI (fkC c)= [c]):=by
 have e:frK (c::r)=Lib.indexByte letL c:=by unfold frK;rw[ER];rfl
 rw[e]
 by_cases h1:c=98
 ·subst h1;exact .inr ⟨by decide,rfl,rfl⟩
 by_cases h2:c=116
 ·subst h2;exact .inr ⟨by decide,rfl,rfl⟩
 by_cases h3:c=99
 ·subst h3;exact .inr ⟨by decide,rfl,rfl⟩
 refine .inl ⟨by unfold fkC;rw[if_neg h1,if_neg h2,if_neg h3], ?_⟩
 have b1: ((98:UInt8)==c)=false:=beq_eq_false_iff_ne.2 (Ne.symm h1)
 have b2: ((116:UInt8)==c)=false:=beq_eq_false_iff_ne.2 (Ne.symm h2)
 have b3: ((99:UInt8)==c)=false:=beq_eq_false_iff_ne.2 (Ne.symm h3)
 simp only[Lib.indexByte,b1,b2,b3,Bool.false_eq_true, ↓reduceIte]
 split<;>simp
def Ez {k:Int} {t:List UInt8} (h: ¬ (1≤k∧k≤3)):RdOk k t=false:=by
 unfold RdOk;rw[if_neg (fun h'=>h ⟨h'.1,h'.2.1⟩)]
def xN (s:List UInt8):frOk s=lfOk s∧(frOk s=true→frK s=lfK s∧(frT s).1=(lfT (s.drop 1)).1):=by
 cases s with
 |nil=>
  have h:frOk []=false:=by
   unfold frOk
   rw[Ez (k:=frK []) (by decide),Bool.and_false]
  exact⟨by rw[h];rfl,fun h'=>by rw[h] at h';cases h'⟩
 |cons c r=>
  have e1:frOk (c::r)=(eS r (lfT r).2.1 (lfT r).2.2==0&&RdOk (frK (c::r)) (lfT r).1):=by
   unfold frOk;rw[DV,Ur]
  have e2:lfOk (c::r)=(fkC c !=0&&eS r (lfT r).2.1 (lfT r).2.2==0&&k5 (fkC c) (lfT r).1):=rfl
  rcases Vj c r with⟨h1,h2⟩ | ⟨h1,h2,-⟩
  ·rw[e1,e2,Ez h2,h1,Bool.and_false]
   exact⟨rfl,fun h=>by cases h⟩
  have h3: (fkC c !=0)=true:=by simpa using h1
  rw[e1,e2,h2,h3,Bt,Bool.true_and]
  refine⟨rfl,fun _=>⟨rfl, ?_⟩⟩
  rw[DV];rfl
def J6 (s:List UInt8):kg s=⟨if lfOk s then lfK s else 0,if lfOk s then(lfT (s.drop 1)).1 else []⟩:=by
 unfold kg
 have h:=xN s
 rw[←h.1]
 cases hf:frOk s
 ·rfl
 rw[(h.2 hf).1,(h.2 hf).2]
def VO {k:Int} {t:List UInt8} (h:RdOk k t=true):t.length≤4096:=by
 unfold RdOk at h
 split at h
 ·rename_i h1;exact h1.2.2
 cases h
theorem Ll (l:List PartL): ∀k,(oS l k).length≤k
 |0=>ap _
 |k+1=>by
  have:=Ll l k
  unfold oS
  split
  ·split
   ·simp;omega
   omega
  omega
def GC (k k':Int) (t t':List UInt8):ab prog .eql 35 (obV k t) (obV k' t')=some (.bool (decide ((⟨k,t⟩:ObL)=⟨k',t'⟩))):=axD_ ⟨k,t⟩ ⟨k',t'⟩
def W2_ {s:List UInt8} (h:s.length<4∨s.take 4≠magB):ia s=(0,false,(ax s 0 0 4).2):=by
 unfold ia
 rw[if_neg]
 unfold ax
 rw[if_neg (by decide),if_neg (by decide)]
 split
 ·decide
 rename_i h1
 rcases h with h|h
 ·omega
 exact h
def Uy {s:List UInt8} (h4:4≤s.length) (h:s.take 4=magB):ia s=((aG s 4 0 200).1,(aG s 4 0 200).2.2==0,(aG s 4 0 200).2):=by
 have e:ax s 0 0 4=(s.take 4,4,0):=by
  unfold ax
  rw[if_neg (by decide),if_neg (by decide),if_neg oM]
  rfl
 unfold ia
 rw[e]
 simp only
 rw[if_pos h]
def vw (s:List UInt8) (v:Value) (D:aB):Prop:=
 if(ia s).2.1=true then∃x y n A,v= .tuple #[x,y,vi n,vi A, .bool true]∧n=(ia s).1∧0≤n∧n≤200∧GrI D 395 3 x (jT s).1.length ((jT s).1.map cj).flatten∧GrI D 3 1 y (jT s).2.1.length ((jT s).2.1.map natC).flatten∧
  (((jT s).2.2.2=0∧A=(jT s).2.2.1∧((jT s).1.length:Int)=n)∨((jT s).2.2.2≠0∧((jT s).1.length:Int)<n))
 else v= .tuple #[.slice none 0 0, .slice none 0 0,vi 0,vi 0, .bool false]
structure RdDG where
 l:List PartL
 sp:List Nat
 a:Nat
 v1:Value
 v2:Value
 D1:aB
 D2:aB
 DG:aB
def TY (s:List UInt8):fI (d8 prog 243) (au prog 243) [(0,vs s),(1,vi 4)]=some (.agg #[vs s,vi 4,vi 0]):=by
 rw[show d8 prog 243=some [(0,1),(1,1),(2,1)] from id kR,zrRR];rfl
def Mm (b:Nat) (s:List UInt8) (a:Nat) (e most:Int) (w:World) (ha:a≤s.length) (hs:s.length<1099511627776) (ho:w.heap[b]? =some (rrO s a e)):
  Rets prog 129 #[vp b 0,vi most] w (fun v D=> ∃o,D= [(b,o)]∧v=vs (aY s a e most).1∧o=rrO s (aY s a e most).2.1 (aY s a e most).2.2):=K8 b s a e most w ha hs ho
def eV:=aN (aN @bB (aN @bA @EO)) (aN (aN @Ee @Dm) (aN @JN @Rs))
def NC (s:List UInt8) (w:World) (hs:s.length<1099511627776):Rets prog 254 #[vs s] w (XS w [] (vw s)):=by
 refine Rets.enterX func254 rfl (rs:= [.tmp 2, .tmp 3, .tmp 4, .tmp 5, .tmp 6]) results254 ntmps254 (fun p hp=>by cases hp) (by simp[keys]) ?_
 refine kf ?_
 by_cases h4:s.length<4
 ·have d1:decide ((s.length:Int)<4)=true:=aW oM
  refine ky (aN @eV @d1) ?_
  refine⟨_,(ke @eV), ?_⟩
  refine⟨Ext.of_new trivial, ?_⟩
  unfold vw
  rw[W2_ (.inl h4)]
  rfl
 have d1:decide ((s.length:Int)<4)=false:=ah oM
 have d1':decide ((0:Int)≤4∧(4:Int)≤ (s.length:Int))=true:=aW oM
 by_cases hm:s.take 4=magB
 ·have d2: (s.take 4 != [83,80,75,49])=false:=bne_eq_false_iff_eq.2 hm
  have jw:=Uy oM hm
  refine ky (aN @eV (aN @d1 @d2)) ?_
  refine Ow.build (.agg #[vs s,vi 4,vi 0]) rfl (TY s) ?_
  refine ko @eV ?_
  refine Ow.box rfl rfl fun br gz di=> ?_
  simp only[ck,cV,ce,ag,List.nil_append]
  refine Ow.permL (M:= [(br,rrO s 4 0)]) (List.Perm.refl _) ?_
  refine ko @eV ?_
  refine ky @eV ?_
  have l1:=i_ (s:=s) (a:=4) (e:=0) (most:=200) oM
  have m1:=uG (s:=s) (a:=4) (e:=0) (most:=200) oM
  refine Ow.callM rfl rfl call128 (by simp[keys]) (fun w' aA=>z' br s 4 0 200 w' oM oM (aA.has _ _ aa)) ?_
  have Jt:jT s=lm s (ia s).1.toNat 0 (ia s).2.2.1 (ia s).2.2.2:=rfl
  rw[jw] at Jt
  generalize aG s 4 0 200=q at*
  obtain⟨n0,a0,e0⟩:=q
  simp only at l1 m1 jw Jt ⊢
  obtain⟨n,rfl⟩: ∃n:Nat,n0=(n:Int):=⟨n0.toNat,by omega⟩
  rw[Int.toNat_natCast] at Jt
  refine kn ?_
  refine ko @eV ?_
  by_cases he:e0=0
  ·subst he
   have um: ((0:Int) !=0)=false:=rfl
   have hE: (ia s).2.1=true:=by rw[jw];rfl
   have lT: (ia s).1=(n:Int):=by rw[jw]
   clear jw
   refine kz [11] (aN @eV @um) ?_
   refine Cw.permL (M:=(br,rrO s a0 0):: ([]++ ([]++ []))) (List.Perm.refl _) ?_
   refine Cw.loopG (G:=RdDG) [34,35,36,39,40,41,42,12,43,44,13,45,46,14,47,48,49,50,51,52,53,54,55,2,3,4,5,6,56,57,15,58,59,60,61,62,63,64,65,66,67,68,9,69,70,71,72,10,37,38,11] (fun g=> [(9,g.v1),(10,g.v2),(11,vi g.l.length)]) (fun g=>(br,rrO s g.a 0):: (g.D1++ (g.D2++g.DG))) (fun g=>g.l.length≤n∧g.sp.length=g.l.length∧g.a≤s.length∧New w.heap.size g.D1∧New w.heap.size g.D2∧New w.heap.size g.DG∧Gr g.D1 395 3 g.v1 g.l.length (g.l.map cj).flatten∧Gr g.D2 3 1 g.v2 g.sp.length (g.sp.map natC).flatten∧jT s=(g.l++ (lm s (n - g.l.length) g.l.length g.a 0).1,g.sp++ (lm s (n - g.l.length) g.l.length g.a 0).2.1,(lm s (n - g.l.length) g.l.length g.a 0).2.2)) (fun g=>n - g.l.length) ⟨[],[],a0, .slice none 0 0, .slice none 0 0,[],[],[]⟩ rfl rfl ?_ ?_
   ·exact⟨aq _,rfl,l1.2,trivial,trivial,trivial,Gr.nl,Gr.nl,by rw[Jt];rfl⟩
   intro g j hg
   refine kv ?_
   obtain⟨l,sp,a,v1,v2,D1,D2,DG⟩:=g
   simp only at hg ⊢
   obtain⟨HY,cb,jE,bX,cJ,dq,GU,tG,j'⟩:=hg
   have fV:New w.heap.size (D1++ (D2++DG)):=bX.app (cJ.app dq)
   by_cases aC:l.length<n
   ·have d3:decide ((l.length:Int)< (n:Int))=true:=aW oM
    have hk:n - l.length=(n - (l.length+1))+1:=by omega
    rw[hk] at j'
    have mL:=i_ (s:=s) (a:=a) (e:=0) (most:=200) jE
    have ey:=uG (s:=s) (a:=a) (e:=0) (most:=200) oM
    have u':uM s l.length a 0=(⟨decide (0< (aG s a 0 200).1),if 0< (aG s a 0 200).1 then((l.length:Nat):Int) - (aG s a 0 200).1 else 0,(aY s (aG s a 0 200).2.1 (aG s a 0 200).2.2 65536).1⟩,(aY s (aG s a 0 200).2.1 (aG s a 0 200).2.2 65536).2):=rfl
    refine kz [1000018] (aN @eV @d3) ?_
    refine Ow.callM rfl rfl call128 (by simp[keys]) (fun w' aA=>z' br s a 0 200 w' jE oM (aA.has _ _ aa)) ?_
    generalize aG s a 0 200=x at*
    obtain⟨F,a1,e1⟩:=x
    simp only at mL ey u' ⊢
    have qZ:=y_ (s:=s) (a:=a1) (e:=e1) (most:=65536) mL.2
    refine kn ?_
    refine ko @eV ?_
    refine ky @eV ?_
    refine Ow.callM rfl rfl call129 (by simp[keys]) (fun w' aA=>Mm br s a1 e1 65536 w' mL.2 hs (aA.has _ _ aa)) ?_
    generalize aY s a1 e1 65536=x at*
    obtain⟨t,a2,e2⟩:=x
    simp only at qZ u' ⊢
    refine kn ?_
    refine ko @eV ?_
    rw[lm,u'] at j'
    simp only at j'
    by_cases tO:e2=0
    ·subst tO
     rw[if_pos rfl] at j'
     have d4: ((0:Int) !=0)=false:=rfl
     refine ky (aN @eV @d4) ?_
     refine Ow.build (.agg (cj ⟨false,0,t⟩).toArray) rfl (PJ t) ?_
     refine ko @eV ?_
     refine Ow.alloc rfl rfl pp fun b15 hb15 hw15=> ?_
     simp only[ag,List.nil_append,List.cons_append]
     have hb15r:br<b15:=ak hb15 (by simp[keys])
     have bL:=Bp ⟨false,0,t⟩ fg 395
     refine Ow.permL (M:=(b15, .cells (cj fg).toArray 395 (0,0)):: (br,rrO s a2 0):: (D1++ (D2++DG))) pM ?_
     refine ko (aN @eV @bL) ?_
     obtain⟨p,hp⟩: ∃p,p=(⟨decide (0<F),if 0<F then((l.length:Nat):Int) - F else 0,t⟩:PartL):=⟨_,rfl⟩
     rw[←hp] at j'
     refine Cw.cutO (G:=PartL) [58,59,60,61,62,63,64] (fun g=> []) (fun g=>(b15, .cells (cj g).toArray 395 (0,0)):: (br,rrO s a2 0):: (D1++ (D2++DG))) (fun g=>g=p) ?_ ?_
     ·by_cases hF:0<F
      ·have d5:decide ((0:Int)<F)=true:=aW hF
       have qp:=QJ ⟨false,0,t⟩ 395
       have eL:=P0 ⟨true,0,t⟩ 395
       refine ky (aN @eV (aN @d5 (aN @qp @eL))) ?_
       refine CutO.mk _ ?_ rfl rfl
       rw[hp,aW hF,if_pos hF]
      have d5:decide ((0:Int)<F)=false:=ah hF
      refine ky (aN @eV @d5) ?_
      refine CutO.mk _ ?_ rfl rfl
      rw[hp,ah hF,if_neg hF]
     intro g j hg
     refine kv ?_
     obtain rfl:=hg
     clear hp
     refine ky @eV ?_
     refine Ow.buildSlice (e:=395) (cj g).toArray rfl rfl (rk (cs:=cj g) underlying362 ag395 pp (by decide) rfl) fun ba hba yc=> ?_
     refine ko @eV ?_
     refine Ow.permL (M:=D1++ ((b15, .cells (cj g).toArray 395 (0,0)):: (br,rrO s a2 0):: (D2++ (DG++ [(ba, .cells (cj g).toArray 395 (0,0))])))) pM ?_
     refine Ow.appendXG (e:=395) (k:=1) (new:=cj g) (X:=D1) v1 rfl rfl rfl rfl underlying362 ag395 kR pp (by rw[JN];rfl) underlying362 (by intro k h;cases h) GU (fun w' aA=>AppX.one1 (aA.has ba (.cells (cj g).toArray 395 (0,0)) (by simp)) (LJ _) (CO _)) oM (fun B4 v4 D4 fo mn ua hk41 y4 hlk4=> ?_)
     have gM:New w.heap.size D4:=New.of_le fun q hq=>by
      rcases y4 q hq with h|h
      ·exact bX.le q h
      omega
     refine Ow.permL (M:=(br,rrO s a2 0):: (D4++ (D2++ ((b15, .cells (cj g).toArray 395 (0,0)):: (DG++ [(ba, .cells (cj g).toArray 395 (0,0))]))))) pM ?_
     refine ko @eV ?_
     refine ky @eV ?_
     refine Ow.buildSlice (e:=3) #[vi a] rfl rfl kR fun bc zd th=> ?_
     refine ko @eV ?_
     refine Ow.permL (M:=D2++ ((br,rrO s a2 0):: (D4++ ((b15, .cells (cj g).toArray 395 (0,0)):: (DG++ [(ba, .cells (cj g).toArray 395 (0,0)),(bc, .cells #[vi a] 3 (0,0))]))))) pM ?_
     refine Ow.appendXG (e:=3) (k:=1) (new:=natC a) (X:=D2) v2 rfl rfl rfl rfl underlying302 (id kR:aK prog 3=some (false,1)) kR (id kR:au prog 3=some (vi 0)) rfl underlying302 (by intro k h;cases h) tG (fun w' aA=>AppX.one1 (aA.has bc (.cells #[vi a] 3 (0,0)) (by simp)) (Ed a) rfl) oM (fun B5 v5 D5 xV mo rL tR jx jz=> ?_)
     have mq:New w.heap.size D5:=New.of_le fun q hq=>by
      rcases jx q hq with h|h
      ·exact cJ.le q h
      omega
     refine Ow.permL (M:=(br,rrO s a2 0):: (D4++ (D5++ ((b15, .cells (cj g).toArray 395 (0,0)):: (DG++ [(ba, .cells (cj g).toArray 395 (0,0)),(bc, .cells #[vi a] 3 (0,0))]))))) pM ?_
     refine ko @eV ?_
     refine ky @eV ?_
     have mJ: (l++ [g]).length=l.length+1:=by simp
     have fX: (sp++ [a]).length=sp.length+1:=by simp
     refine Again.mk ⟨l++ [g],sp++ [a],a2,v4,v5,D4,D5,(b15, .cells (cj g).toArray 395 (0,0)):: (DG++ [(ba, .cells (cj g).toArray 395 (0,0)),(bc, .cells #[vi a] 3 (0,0))])⟩ (by show n - (l++ [g]).length<n - l.length;omega) ⟨by show(l++ [g]).length≤n;omega,by show(sp++ [a]).length=(l++ [g]).length;omega,qZ.2,gM,mq,⟨hw15,dq.app ⟨yc,th,trivial⟩⟩,by simpa using ua,by simpa using rL, ?_⟩ rfl (by simp only[mJ];rfl)
     show jT s=_
     rw[j',mJ]
     simp
    have d4: (e2 !=0)=true:=bne_iff_ne.2 tO
    rw[if_neg tO] at j'
    refine ky (aN @eV @d4) ?_
    refine⟨_,(ke @eV), ?_⟩
    refine⟨Ext.of_new ⟨di,fV⟩, ?_⟩
    unfold vw
    rw[if_pos hE,j',lT]
    simp only[List.append_nil]
    exact⟨v1,v2,_,_,rfl,rfl,by omega,by omega,Gr.i GU fun c hc=>by simp[hc],Gr.i tG fun c hc=>by simp[hc], .inr ⟨tO,by omega⟩⟩
   obtain hln':l.length=n:=by omega
   have d3:decide ((l.length:Int)< (n:Int))=false:=ah oM
   rw[hln',Nat.sub_self] at j'
   refine ky (aN @eV @d3) ?_
   refine Cw.regionS [br] [0,1,2,3,4,5,7,8,9,6,10,11] [] kR kR kR ?_
   simp only[bF, ↓bE, ↓ay, ↓bD, ↓bC,az]
   refine kq @eV ?_
   refine ky @eV ?_
   refine⟨_,(ke @eV), ?_⟩
   refine⟨Ext.of_new ⟨di,fV⟩, ?_⟩
   unfold vw
   rw[if_pos hE,j',lT]
   simp only[lm,List.append_nil]
   exact⟨v1,v2,_,_,rfl,rfl,by omega,by omega,Gr.i GU fun c hc=>by simp[hc],Gr.i tG fun c hc=>by simp[hc], .inl ⟨trivial,rfl,by omega⟩⟩
  have um: (e0 !=0)=true:=bne_iff_ne.2 he
  have hE: (ia s).2.1=false:=by rw[jw];exact beq_eq_false_iff_ne.2 he
  refine ky (aN @eV @um) ?_
  refine⟨_,(ke @eV), ?_⟩
  refine⟨Ext.of_new ⟨di,trivial⟩, ?_⟩
  unfold vw
  rw[hE]
  rfl
 have d2: (s.take 4 != [83,80,75,49])=true:=bne_iff_ne.2 hm
 refine ky (aN @eV (aN @d1 @d2)) ?_
 refine⟨_,(ke @eV), ?_⟩
 refine⟨Ext.of_new trivial, ?_⟩
 unfold vw
 rw[W2_ (.inr hm)]
 rfl
def BndD.ofSmall {l:List PartL} (h:Fe l):BndD l:=fun g hg=>by have:=h g hg;omega
def Zb (a b c d e:Value): #[a,b,c,d,e][0]? =some a:=rfl
def Z6 (a b c d e:Value): #[a,b,c,d,e][1]? =some b:=rfl
def Zp (a b c d e:Value): #[a,b,c,d,e][2]? =some c:=rfl
def awx_ (a b c d e:Value): #[a,b,c,d,e][3]? =some d:=rfl
def Z8 (a b c d e:Value): #[a,b,c,d,e][4]? =some e:=rfl
structure SaG where
 k:Nat
 out:List ObL
 v:Value
 D:aB
 DG:aB
def JC_ {o:ObL} {l:List ObL} {j:Nat} (h:j<l.length):decide (o∈l.take (j+1))=(decide (o∈l.take j) ||decide (l.getD j ob0=o)):=by
 rw[StP.take_snoc (z:=ob0) h]
 by_cases h1:o∈l.take j
 ·rw[aW h1,aW (bl _ h1)];rfl
 by_cases h2:l.getD j ob0=o
 ·rw[aW h2,Bool.or_true]
  exact aW (db _ (by rw[h2];exact List.mem_singleton.2 rfl))
 rw[ah h1,ah h2]
 exact ah fun h=>by
  rcases List.mem_append.1 h with h|h
  ·exact h1 h
  exact h2 (List.mem_singleton.1 h).symm
def fA:=aN (aN (aN @bB (aN @bA @Sx.tup2_0)) (aN (aN @Sx.tup2_1 @Zb) (aN @Z6 @Zp))) (aN (aN @awx_ (aN @Z8 @zM)) (aN (aN @zJ @z8) (aN @zS @GC)))
def Qf (b:List UInt8) (w:World) (hb:b.length<1099511627776):
  Rets prog 222 #[vs b] w (XS w [] (fun v D=>GrI D 35 2 v (jc b).length ((jc b).map obC).flatten)):=by
 have oA:=(DJ b).1
 have Hw:=Pi b
 refine Rets.enterX func222 rfl (rs:= [.tmp 2]) results222 ntmps222 (fun p hp=>by cases hp) (by simp[keys]) ?_
 refine kf ?_
 refine ky @fA ?_
 refine Ow.callC rfl rfl call254 (fun w' aA=>NC b w' hb) (fun B1 v1 D1 eF dV bX bu=> ?_)
 have dL:New w.heap.size D1:=bX.mono dV
 unfold vw at bu
 unfold jc
 rw[List.nil_append]
 cases cG: (ia b).2.1 with
 |false=>
  rw[cG,if_neg (by simp)] at bu
  rw[if_neg (by simp)]
  subst bu
  refine ko @fA ?_
  refine ky @fA ?_
  refine⟨_,(ke @fA), ?_⟩
  exact⟨Ext.of_new dL,Gr.i (X:= []) Gr.nl fun p hp=>by cases hp⟩
 |true=>
  rw[cG,if_pos rfl] at bu
  rw[if_pos rfl]
  obtain⟨x,y,n,A,rfl,-,-,-,lR,mu,-⟩:=bu
  generalize (jT b).1=l at*
  have ln:=uR lR
  refine ko @fA ?_
  refine ky (aN @fA @ln) ?_
  refine Cw.permL (M:=D1++ ([]++ [])) (by simp) ?_
  refine Cw.loopG (G:=SaG) [26,27,28,29,33,34,35,32,36,37,10,11,38,39,41,42,40,43,44,12,13,14,15,45,46,47,48,51,52,53,54,55,56,57,58,59,49,50,60,61,62,63,64,65,66,67,68,8,30,31,9] (fun g=> [(8,g.v),(9,vi g.k)]) (fun g=>D1++ (g.D++g.DG)) (fun g=>g.k≤l.length∧g.out=oS l g.k∧New w.heap.size g.D∧New w.heap.size g.DG∧Gr g.D 35 2 g.v g.out.length (g.out.map obC).flatten) (fun g=>l.length - g.k) ⟨0,[], .slice none 0 0,[],[]⟩ rfl rfl ?_ ?_
  ·exact⟨aq _,rfl,trivial,trivial,Gr.nl⟩
  intro g j hg
  refine kv ?_
  obtain⟨k,out,v6,D6,DG⟩:=g
  simp only at hg ⊢
  obtain⟨hk,yJ,mr,dq,nv⟩:=hg
  have qg:=Ll l k
  rw[←yJ] at qg
  have fV:New w.heap.size (D1++ (D6++DG)):=dL.app (mr.app dq)
  by_cases aC:k<l.length
  ·have d1:decide ((k:Int)< (l.length:Int))=true:=aW oM
   have gk:oS l (k+1)=match partV l (k:Nat) with
    | .ok s=>if frOk s=true∧kg s∉oS l k then oS l k++ [kg s] else oS l k
    | .error _=>oS l k:=rfl
   refine kz [7] (aN @fA (aN @d1 @ln)) ?_
   refine Ow.callFV rfl call255 (fun w' aA=>QQ x l (k:Int) w' ((lR.mono (fun q hq=>by simp[hq])).slV aA rfl rfl LJ) (BndD.ofSmall Hw)) ?_
   rw[←yJ] at gk
   cases hp:partV l (k:Nat) with
   |error e2=>
    rw[hp] at gk
    simp only at gk
    have e0: (e2 !=0)=true:=bne_iff_ne.2 (Un hp)
    unfold nk
    refine ko @fA ?_
    refine ky (aN @fA @e0) ?_
    refine ky @fA ?_
    exact Again.mk ⟨k+1,out,v6,D6,DG⟩ (by show l.length - (k+1)<l.length - k;omega) ⟨aC,by exact gk.symm,mr,dq,nv⟩ rfl rfl
   |ok s=>
    rw[hp] at gk
    simp only at gk
    have cb:=T4 hp
    have e0: ((0:Int) !=0)=false:=rfl
    have yS: (if lfOk s then lfK s else 0)=(kg s).k:=by rw[J6]
    have o9: (if lfOk s then(lfT (s.drop 1)).1 else [])=(kg s).t:=by rw[J6]
    have qS:=(xN s).1
    unfold nk
    refine ko @fA ?_
    refine ky (aN @fA @e0) ?_
    refine Ow.callFV rfl call221 (fun w' aA=>BU s w' oM) ?_
    rw[yS,o9,←qS]
    refine ko @fA ?_
    refine Ow.alloc rfl rfl zrOb fun b12 hb12 tg=> ?_
    simp only[ag,List.nil_append,List.cons_append]
    refine Ow.permL (M:=(b12, .cells #[vi 0,vs []] 35 (0,0)):: (D1++ (D6++DG))) pM ?_
    refine ko @fA ?_
    generalize hro:kg s=o at*
    obtain⟨ok,ot⟩:=o
    have hNr2:New w.heap.size ((b12,Obj.cells #[vi ok,vs ot] 35 (0,0)):: (D1++ (D6++DG))):=⟨tg,fV⟩
    refine Cw.world fun wz gG=> ?_
    have ao:=gG.nodup
    clear gG wz
    have lno: ∀m,Sx.eb (.sl m) v6=some (vi out.length):=fun m=>uR (Gr.i nv (fun p hp=>hp)) m
    refine ky (aN @fA @lno) ?_
    refine Cw.loopG (G:=Nat) [45,46,47,48,51,52,53,54,55,56,57,58,59,14,49,50,15] (fun g=> [(14, .bool (decide ((⟨ok,ot⟩:ObL)∈out.take g))),(15,vi g)]) (fun g=>(b12, .cells #[vi ok,vs ot] 35 (0,0)):: (D1++ (D6++DG))) (fun g=>g≤out.length) (fun g=>out.length - g) 0 rfl rfl ?_ ?_
    ·exact aq _
    intro j jj hj
    refine kv ?_
    by_cases hjt:j<out.length
    ·have d2:decide ((j:Int)< (out.length:Int))=true:=aW oM
     have dO:=JC_ (o:=⟨ok,ot⟩) hjt
     have hnd6: (keys D6).Nodup:=by
      simp only[keys,List.map_cons,List.map_append,List.nodup_cons,List.nodup_append] at ao
      exact ao.2.2.1.1
     obtain h0| ⟨rb,rc,rest,rfl,ui,bz⟩:=AP (Gr.i nv (fun p hp=>hp)) hnd6
     ·omega
     have Gx:rb≠b12:=by
      rintro rfl
      simp only[keys,List.map_cons,List.map_append,List.nodup_cons,List.mem_append,not_or] at ao
      exact ao.1.2.1 ui
     have rdb:aT w ((b12, .cells #[vi ok,vs ot] 35 (0,0)):: (D1++ (D6++DG))) rb=some (rowO obC 35 rest out):=by
      have lT:rb∉keys D1:=by
       simp only[keys,List.map_cons,List.map_append,List.nodup_cons,List.nodup_append,List.mem_append] at ao
       intro hm
       exact ao.2.2.2 rb hm rb (.inl ui) rfl
      exact ac (by rw[pI _ _ _ _ (Ne.symm Gx),g8 lT];exact bZ bz)
     have ld:aQ (some (true,2)) (some (rowO obC 35 rest out)) (j*2)=some (obV (out.getD j ob0).k (out.getD j ob0).t):=It (E:=35) (rest:=rest) (z:=ob0) uA j hjt
     generalize out.getD j ob0=p at*
     refine ky (aN @fA (aN @d2 @lno)) ?_
     cases o6:decide ((⟨ok,ot⟩:ObL)∈out.take j) with
     |true=>
      rw[o6,Bool.true_or] at dO
      refine Cw.regionS [rb,b12] [0,1,2,3,4,5,6,7,8,9] [] kR kR kR ?_
      simp only[bF, ↓bE, ↓ay, ↓bD, ↓bC,az]
      refine kq (aN @fA (aN @rdb @ld)) ?_
      refine ky @fA ?_
      exact Again.mk (j+1) oM oM rfl (by rw[dO];rfl)
     |false=>
      rw[o6,Bool.false_or] at dO
      refine Cw.regionS [rb,b12] [0,1,2,3,4,5,6,7,8,9] [] kR kR kR ?_
      simp only[bF, ↓bE, ↓ay, ↓bD, ↓bC,az]
      refine kq (aN @fA (aN @rdb @ld)) ?_
      refine ky @fA ?_
      exact Again.mk (j+1) oM oM rfl (by rw[dO];rfl)
    obtain rfl:j=out.length:=by omega
    have d2:decide ((out.length:Int)< (out.length:Int))=false:=ah oM
    rw[List.take_length]
    refine ky (aN @fA (aN @d2 @lno)) ?_
    cases rO:frOk s with
    |false=>
     rw[if_neg (fun h=>by rw[rO] at h;cases h.1)] at gk
     refine ky (aN @fA @rO) ?_
     refine Cw.permL (M:=D1++ (D6++ ((b12, .cells #[vi ok,vs ot] 35 (0,0))::DG))) pM ?_
     refine ky @fA ?_
     exact Again.mk ⟨k+1,out,v6,D6,(b12, .cells #[vi ok,vs ot] 35 (0,0))::DG⟩ (by show l.length - (k+1)<l.length - k;omega) ⟨aC,by exact gk.symm,mr,⟨tg,dq⟩,nv⟩ rfl rfl
    |true=>
     cases o6:decide ((⟨ok,ot⟩:ObL)∈out) with
     |true=>
      rw[if_neg (fun h=>h.2 (of_decide_eq_true o6))] at gk
      refine ky (aN @fA (aN @rO @o6)) ?_
      refine Cw.permL (M:=D1++ (D6++ ((b12, .cells #[vi ok,vs ot] 35 (0,0))::DG))) pM ?_
      refine ky @fA ?_
      exact Again.mk ⟨k+1,out,v6,D6,(b12, .cells #[vi ok,vs ot] 35 (0,0))::DG⟩ (by show l.length - (k+1)<l.length - k;omega) ⟨aC,by exact gk.symm,mr,⟨tg,dq⟩,nv⟩ rfl rfl
     |false=>
      rw[if_pos ⟨rO,of_decide_eq_false o6⟩] at gk
      refine ky (aN @fA (aN @rO @o6)) ?_
      refine Ow.buildSlice (e:=35) #[vi ok,vs ot] rfl rfl (rk (cs:=obC ⟨ok,ot⟩) underlying22 ag35 zrOb (by decide) rfl) fun bc zd th=> ?_
      refine ko @fA ?_
      refine Ow.permL (M:=D6++ ((b12, .cells #[vi ok,vs ot] 35 (0,0)):: (D1++ (DG++ [(bc, .cells #[vi ok,vs ot] 35 (0,0))])))) pM ?_
      refine Ow.appendXG (e:=35) (k:=1) (new:=obC ⟨ok,ot⟩) (X:=D6) v6 rfl rfl rfl rfl underlying22 ag35 kR zrOb (by rw[obV,ag];rfl) underlying22 (by intro k h;cases h) nv (fun w' aA=>AppX.one1 (aA.has bc (.cells (obC ⟨ok,ot⟩).toArray 35 (0,0)) (by simp[obC])) (uA _) (Ai _)) oM (fun B5 v5 D5 xV mo rL tR jx jz=> ?_)
      have mq:New w.heap.size D5:=New.of_le fun q hq=>by
       rcases jx q hq with h|h
       ·exact mr.le q h
       omega
      refine ko @fA ?_
      refine Cw.permL (M:=D1++ (D5++ ((b12, .cells #[vi ok,vs ot] 35 (0,0)):: (DG++ [(bc, .cells #[vi ok,vs ot] 35 (0,0))])))) pM ?_
      refine ky @fA ?_
      exact Again.mk ⟨k+1,out++ [⟨ok,ot⟩],v5,D5,(b12, .cells #[vi ok,vs ot] 35 (0,0)):: (DG++ [(bc, .cells #[vi ok,vs ot] 35 (0,0))])⟩ (by show l.length - (k+1)<l.length - k;omega) ⟨aC,by exact gk.symm,mq,⟨tg,dq.app ⟨th,trivial⟩⟩,by simpa using rL⟩ rfl rfl
  obtain rfl:k=l.length:=by omega
  have d1:decide ((l.length:Int)< (l.length:Int))=false:=ah oM
  refine ky (aN @fA (aN @d1 @ln)) ?_
  refine⟨_,(ke @fA), ?_⟩
  refine⟨Ext.of_new fV, ?_⟩
  rw[←yJ]
  exact Gr.i nv fun p hp=>by simp[hp]
def magO:List UInt8:= [83,76,79,49]
def pg (b:List UInt8):List ObL:=if(gI b).2=true∧4≤ (gI b).1.length∧(gI b).1.take 4=magO∧frOk ((gI b).1.drop 4)=true then [kg ((gI b).1.drop 4)] else []
def pz (b:List UInt8):List ObL:=pg b++jc b
def lq (l:List FiL):List ObL:=(l.map fun f=>pz f.data).flatten
def CA (b:List UInt8): (jc b).length≤200:=by
 unfold jc
 split
 ·exact Nat.le_trans (Ll _ _) (DJ b).1
 exact aq _
def LH (b:List UInt8): (pz b).length≤201:=by
 have:=CA b
 unfold pz pg
 split
 ·simp;omega
 simp;omega
def BM (l:List FiL) {k:Nat} (h:k<l.length):lq (l.take (k+1))=lq (l.take k)++pz (l.getD k fi0).data:=by
 unfold lq
 rw[StP.take_snoc (z:=fi0) h,List.map_append,List.flatten_append]
 simp
theorem LP (l:List FiL): ∀k,k≤l.length→(lq (l.take k)).length≤k*201
 |0,_=>by simp[lq]
 |k+1,h=>by
  have h1:=LP l k oM
  have h2:=LH (l.getD k fi0).data
  rw[BM l oM,List.length_append]
  omega
def VV (s:List UInt8): (gI s).1.length≤s.length:=by
 unfold gI
 split
 ·simp
 split
 ·simp only[List.length_take];omega
 simp
structure ObjC where
 os:List ObL
 v:Value
 D:aB
 DG:aB
structure ObjG where
 k:Nat
 v:Value
 D:aB
 DG:aB
def jZ:=aN (aN (aN @bB @bA) (aN @Sx.tup2_0 @Sx.tup2_1)) (aN (aN @zM @zJ) (aN @z8 @zS))
def O1 (v:Value) (l:List FiL) (w:World) (hv:FiSl w v l) (hl:l.length≤1000) (hb:FiB l):
  Rets prog 169 #[v] w (XS w [] (fun v D=> ∃D1 D2,D=D1++D2∧Gr D1 35 2 v (lq l).length ((lq l).map obC).flatten)):=by
 have ln:=hv.len
 obtain⟨rb,off,arr,E,fz,hr⟩:=hv.row
 refine Rets.enterX func169 rfl (rs:= [.tmp 2]) results169 ntmps169 (fun p hp=>by cases hp) (by simp[keys]) ?_
 refine kf ?_
 refine ky (aN @jZ @ln) ?_
 refine Cw.permL (M:= []++ []) (List.Perm.refl _) ?_
 refine Cw.loopG (G:=ObjG) [9,10,11,12,16,17,18,19,20,21,15,22,23,5,6,24,25,26,27,28,29,30,31,32,33,34,36,37,38,35,39,40,7,8,41,42,43,44,45,3,46,47,48,49,50,51,52,53,13,14,4] (fun g=> [(3,g.v),(4,vi g.k)]) (fun g=>g.D++g.DG) (fun g=>g.k≤l.length∧New w.heap.size g.D∧New w.heap.size g.DG∧Gr g.D 35 2 g.v (lq (l.take g.k)).length ((lq (l.take g.k)).map obC).flatten) (fun g=>l.length - g.k) ⟨0, .slice none 0 0,[],[]⟩ rfl rfl ?_ ?_
 ·exact⟨aq _,trivial,trivial,Gr.nl⟩
 intro g j hg
 refine kv ?_
 obtain⟨k,v3,D,DG⟩:=g
 simp only at hg ⊢
 obtain⟨hk,hN,dq,hG⟩:=hg
 have qg:=LP l k hk
 by_cases aC:k<l.length
 ·have d1:decide ((k:Int)< (l.length:Int))=true:=aW oM
  have oA:=hr.lt oM
  have ixl:=hr.idx true k aC
  have ld2: ∀n,aQ (some (false,n)) (some (.cells arr E fz)) (off+k*3+2)=some (vs (l.getD k fi0).data):=fun n=>Eh hr aC n
  have ft:=hr.has (show 0<l.length by omega)
  have rdl: ∀L,New w.heap.size L→aT w L rb=some (.cells arr E fz):=fun L hL=>by rw[kY (hL.not oA)];exact ft
  have Jh:=(hb (l.getD k fi0) (by rw[List.getD_eq_getElem?_getD,List.getElem?_eq_getElem aC];exact List.getElem_mem _)).2
  have dO:=BM l aC
  have dg:=LH (l.getD k fi0).data
  generalize (l.getD k fi0).data=b at*
  generalize hosE:lq (l.take k)=os at*
  have rd1:=rdl _ (hN.app dq)
  have zu:=VV b
  have kO:pz b=pg b++jc b:=rfl
  have o7:pg b=if(gI b).2=true∧4≤ (gI b).1.length∧(gI b).1.take 4=magO∧frOk ((gI b).1.drop 4)=true then [kg ((gI b).1.drop 4)] else []:=rfl
  have cb:=CA b
  refine kz [8,1000006] (aN @jZ (aN @d1 (aN @ln (aN @ixl (aN @rd1 @ld2))))) ?_
  refine Ow.callFV rfl call220 (fun w' aA=>W7_ b w' Jh) ?_
  generalize gI b=u at*
  obtain⟨s,ok⟩:=u
  simp only at zu o7 ⊢
  refine ko @jZ ?_
  refine Cw.cutO (G:=ObjC) [3,7,8,24,25,26,27,28,29,30,31,32,33,34,35,36,37,38,39,40,41,42,43,44,45] (fun g=> [(3,g.v)]) (fun g=>g.D++g.DG) (fun g=>New w.heap.size g.D∧New w.heap.size g.DG∧Gr g.D 35 2 g.v g.os.length (g.os.map obC).flatten∧g.os=os++pg b) ?_ ?_
  ·cases ok with
   |false=>
    rw[if_neg (by simp)] at o7
    refine ky @jZ ?_
    exact CutO.mk ⟨os,v3,D,DG⟩ ⟨hN,dq,hG,by rw[o7,List.append_nil]⟩ rfl rfl
   |true=>
    by_cases h4:4≤s.length
    ·have d4:decide ((4:Int)≤ (s.length:Int))=true:=aW oM
     have d4':decide ((0:Int)≤4∧(4:Int)≤ (s.length:Int))=true:=aW oM
     have d4'':decide ((4:Int)≤ (s.length:Int)∧(s.length:Int)≤ (s.length:Int))=true:=aW oM
     by_cases hm:s.take 4=magO
     ·have d5: (s.take 4== [83,76,79,49])=true:=beq_iff_eq.2 hm
      refine kz [8] (aN @jZ (aN @d4 (aN @d4' @d5))) ?_
      refine Ow.callFV rfl call221 (fun w' aA=>BU (s.drop 4) w' (by rw[List.length_drop];omega)) ?_
      have yS: (if lfOk (s.drop 4) then lfK (s.drop 4) else 0)=(kg (s.drop 4)).k:=by rw[J6]
      have o9: (if lfOk (s.drop 4) then(lfT ((s.drop 4).drop 1)).1 else [])=(kg (s.drop 4)).t:=by rw[J6]
      have qS:=(xN (s.drop 4)).1
      rw[yS,o9,←qS]
      refine ko @jZ ?_
      refine Ow.alloc rfl rfl zrOb fun b7 gy fZ=> ?_
      simp only[ag,List.nil_append,List.cons_append]
      refine Ow.permL (M:=(b7, .cells #[vi 0,vs []] 35 (0,0)):: (D++DG)) pM ?_
      refine ko @jZ ?_
      generalize kg (s.drop 4)=o at*
      obtain⟨ok,ot⟩:=o
      cases rO:frOk (s.drop 4) with
      |false=>
       rw[if_neg (fun h=>by rw[rO] at h;cases h.2.2.2)] at o7
       refine Cw.permL (M:=D++ ((b7, .cells #[vi ok,vs ot] 35 (0,0))::DG)) pM ?_
       refine ky (aN @jZ @rO) ?_
       exact CutO.mk ⟨os,v3,D,(b7, .cells #[vi ok,vs ot] 35 (0,0))::DG⟩ ⟨hN,⟨fZ,dq⟩,hG,by rw[o7,List.append_nil]⟩ rfl rfl
      |true=>
       rw[if_pos ⟨rfl,h4,hm,rO⟩] at o7
       refine ky (aN @jZ @rO) ?_
       refine Ow.buildSlice (e:=35) #[vi ok,vs ot] rfl rfl (rk (cs:=obC ⟨ok,ot⟩) underlying22 ag35 zrOb (by decide) rfl) fun bc zd th=> ?_
       refine ko @jZ ?_
       refine Ow.permL (M:=D++ ((b7, .cells #[vi ok,vs ot] 35 (0,0)):: (DG++ [(bc, .cells #[vi ok,vs ot] 35 (0,0))]))) pM ?_
       refine Ow.appendXG (e:=35) (k:=1) (new:=obC ⟨ok,ot⟩) (X:=D) v3 rfl rfl rfl rfl underlying22 ag35 kR zrOb (by rw[obV,ag];rfl) underlying22 (by intro k h;cases h) hG (fun w' aA=>AppX.one1 (aA.has bc (.cells (obC ⟨ok,ot⟩).toArray 35 (0,0)) (by simp[obC])) (uA _) (Ai _)) oM (fun B5 v5 D5 xV mo rL tR jx jz=> ?_)
       have mq:New w.heap.size D5:=New.of_le fun q hq=>by
        rcases jx q hq with h|h
        ·exact hN.le q h
        omega
       refine ko @jZ ?_
       refine ky @jZ ?_
       exact CutO.mk ⟨os++ [⟨ok,ot⟩],v5,D5,(b7, .cells #[vi ok,vs ot] 35 (0,0)):: (DG++ [(bc, .cells #[vi ok,vs ot] 35 (0,0))])⟩ ⟨mq,⟨fZ,dq.app ⟨th,trivial⟩⟩,by simpa using rL,by rw[o7]⟩ rfl rfl
     have d5: (s.take 4== [83,76,79,49])=false:=beq_eq_false_iff_ne.2 hm
     rw[if_neg (fun h=>hm h.2.2.1)] at o7
     refine ky (aN @jZ (aN @d4 (aN @d4' @d5))) ?_
     exact CutO.mk ⟨os,v3,D,DG⟩ ⟨hN,dq,hG,by rw[o7,List.append_nil]⟩ rfl rfl
    have d4:decide ((4:Int)≤ (s.length:Int))=false:=ah oM
    rw[if_neg (fun h=>h4 h.2.1)] at o7
    refine ky (aN @jZ @d4) ?_
    exact CutO.mk ⟨os,v3,D,DG⟩ ⟨hN,dq,hG,by rw[o7,List.append_nil]⟩ rfl rfl
  intro g j hg
  refine kv ?_
  obtain⟨os2,v4,D4,DG4⟩:=g
  simp only at hg ⊢
  obtain⟨gM,Gf,ua,Hm⟩:=hg
  have qh:os2.length≤k*201+201:=by
   have:=LH b
   rw[kO,List.length_append] at this
   rw[Hm,List.length_append]
   omega
  have rd2:=rdl _ (gM.app Gf)
  refine ky (aN @jZ (aN @ln (aN @ixl (aN @rd2 @ld2)))) ?_
  refine Ow.callC rfl rfl call222 (fun w' aA=>Qf b w' Jh) (fun B9 v9 D9 tE hB9 tI p7=> ?_)
  have hN9':New w.heap.size D9:=tI.mono hB9
  refine ko @jZ ?_
  refine Ow.permL (M:=D4++ (DG4++D9)) pM ?_
  refine Ow.appendXG (e:=35) (k:=(jc b).length) (new:=((jc b).map obC).flatten) (X:=D4) v4 rfl rfl rfl rfl underlying22 ag35 kR zrOb (by rw[obV,ag];rfl) underlying22 (by intro k h;cases h) ua (fun w' aA=>((p7.mono (fun q hq=>by simp[hq])).slV (z:=ob0) aA rfl rfl uA).appX uA Ai) oM (fun B5 v5 D5 xV mo rL tR jx jz=> ?_)
  have mq:New w.heap.size D5:=New.of_le fun q hq=>by
   rcases jx q hq with h|h
   ·exact gM.le q h
   omega
  refine ko @jZ ?_
  refine ky @jZ ?_
  exact Again.mk ⟨k+1,v5,D5,DG4++D9⟩ (by show l.length - (k+1)<l.length - k;omega) ⟨aC,mq,Gf.app hN9',by rw[dO,kO,←List.append_assoc,←Hm,List.length_append,List.map_append,List.flatten_append];exact rL⟩ rfl rfl
 obtain rfl:k=l.length:=by omega
 have d1:decide ((l.length:Int)< (l.length:Int))=false:=ah oM
 rw[List.take_length] at hG
 refine ky (aN @jZ (aN @d1 @ln)) ?_
 refine⟨_,(ke @jZ), ?_⟩
 exact⟨Ext.of_new (hN.app dq),D,DG,rfl,hG⟩
def idQ (o:ObL):IdL:=⟨Dig.shaR (uJ o.k o.t),wP _⟩
def pc (all:List ObL):Nat→Option (List ObL)
 |0=>some []
 |i+1=>match pc all i with
  |none=>none
  |some had=>if k5 (all.getD i ob0).k (all.getD i ob0).t=true∧all.getD i ob0∉had then(if had.any (fun h=>(idQ h).l==(idQ (all.getD i ob0)).l)=true then none else some (had++ [all.getD i ob0])) else some had
def po (all:List ObL):Bool:=(pc all all.length).isNone
theorem Wu_ {all:List ObL}: ∀ {j i:Nat},pc all i=none→i≤j→pc all j=none
 |0,i,h,o5=>by
  obtain rfl:i=0:=by omega
  exact h
 |j+1,i,h,o5=>by
  by_cases e:i=j+1
  ·subst e;exact h
  have:=Wu_ (j:=j) h oM
  unfold pc
  rw[this]
theorem BD {all:List ObL}: ∀ {i:Nat} {had:List ObL},pc all i=some had→had.length≤i
 |0,had,h=>by cases h;exact ap _
 |i+1,had,h=>by
  unfold pc at h
  cases hc:pc all i with
  |none=>rw[hc] at h;cases h
  |some had'=>
   have h1:=BD hc
   rw[hc] at h
   simp only at h
   split at h
   ·split at h
    ·cases h
    cases h;rw[List.length_append];simp;omega
   cases h;omega
structure ThG where
 j:Nat
 c:Bool
structure ClG where
 i:Nat
 had:List ObL
 v6:Value
 v7:Value
 D6:aB
 D7:aB
 DG:aB
def er:=aN (aN (aN @bB @bA) (aN @Sx.tup2_0 (aN @Sx.tup2_1 @zM))) (aN (aN @zJ (aN @z8 @zS)) (aN @GC (aN @xU @J3)))
def SF (v1 v2:Value) (l:List FiL) (more:List ObL) (w:World) (hv:FiSl w v1 l) (hl:l.length≤1000) (hb:FiB l) (hm:ObSl w v2 more) (pC:more.length≤1000000):
  Rets prog 96 #[v1,v2] w (fun v D=>v= .bool (po (lq l++more))∧D= []):=by
 have ln2:=hm.len
 have qg:=LP l l.length (ap _)
 rw[List.take_length] at qg
 refine Rets.enterV func96 rfl (rs:= [.tmp 4]) results96 ntmps96 ?_
 refine kf ?_
 refine ky @er ?_
 refine Ow.callC rfl rfl call169 (fun w' aA=>O1 v1 l w' (hv.oldN aA trivial) hl hb) (fun B1 v4 D0 eF dV bX bu=> ?_)
 obtain⟨D1,DG1,rfl,GU⟩:=bu
 have dL:=bX.mono dV
 rw[List.nil_append]
 refine ko @er ?_
 refine Ow.appendXG (e:=35) (k:=more.length) (new:=(more.map obC).flatten) (X:=D1) v4 rfl rfl rfl rfl underlying22 ag35 kR zrOb (by rw[obV,ag];rfl) underlying22 (by intro k h;cases h) GU (fun w' aA=>(hm.oldN aA dL).appX uA Ai) oM (fun B5 v5 D5 xV mo rL tR jx jz=> ?_)
 have mq:New w.heap.size D5:=New.of_le fun q hq=>by
  rcases jx q hq with h|h
  ·exact dL.le q (by rw[ae];exact bl _ h)
  omega
 rw[←List.flatten_append,←List.map_append,←List.length_append] at rL
 have jE: (lq l++more).length≤1300000:=by rw[List.length_append];omega
 have hNG1:New w.heap.size DG1:=New.of_le fun q hq=>dL.le q (by rw[ae];exact db _ hq)
 generalize lq l++more=all at*
 have hGi:=Gr.i rL (fun p hp=>hp)
 have lna: ∀m,Sx.eb (.sl m) v5=some (vi all.length):=fun m=>uR hGi m
 refine ko @er ?_
 refine ky (aN @er @lna) ?_
 refine Cw.permL (M:=D5++ ([]++ ([]++DG1))) pM ?_
 refine Cw.loopG (G:=ClG) [18,19,20,21,24,25,26,27,28,29,9,10,30,31,32,33,34,35,36,37,40,41,42,43,44,45,46,47,48,38,39,49,50,51,52,53,54,11,12,55,56,57,58,61,62,63,64,65,66,4,59,60,67,68,69,70,71,72,73,6,74,75,76,77,7,22,23,8] (fun g=> [(6,g.v6),(7,g.v7),(8,vi g.i)]) (fun g=>D5++ (g.D6++ (g.D7++g.DG))) (fun g=>g.i≤all.length∧pc all g.i=some g.had∧New w.heap.size g.D6∧New w.heap.size g.D7∧New w.heap.size g.DG∧Gr g.D6 35 2 g.v6 g.had.length (g.had.map obC).flatten∧Gr g.D7 24 32 g.v7 g.had.length ((g.had.map idQ).map gw).flatten) (fun g=>all.length - g.i) ⟨0,[], .slice none 0 0, .slice none 0 0,[],[],DG1⟩ rfl rfl ?_ ?_
 ·exact⟨aq _,rfl,trivial,trivial,hNG1,Gr.nl,Gr.nl⟩
 intro g j hg
 refine kv ?_
 obtain⟨i,had,v6,v7,D6,D7,DG⟩:=g
 simp only at hg ⊢
 obtain⟨hi,k_,mr,mF,dq,nv,GV⟩:=hg
 have hhl:=BD k_
 have fV:New w.heap.size (D5++ (D6++ (D7++DG))):=mq.app (mr.app (mF.app dq))
 by_cases aC:i<all.length
 ·have d1:decide ((i:Int)< (all.length:Int))=true:=aW oM
  have df:pc all (i+1)=if k5 (all.getD i ob0).k (all.getD i ob0).t=true∧all.getD i ob0∉had then(if had.any (fun h=>(idQ h).l==(idQ (all.getD i ob0)).l)=true then none else some (had++ [all.getD i ob0])) else some had:=by
   show(match pc all i with|none=>none|some had=>_)=_
   rw[k_]
  refine Cw.world fun wz gG=> ?_
  have ao:=gG.nodup
  clear gG wz
  simp only[ae,List.nodup_append,List.mem_append] at ao
  obtain h0| ⟨ra,ca,resta,rfl,hka,HX⟩:=AP hGi ao.1
  ·omega
  have rda: ∀Y,aT w (D5++Y) ra=some (rowO obC 35 resta all):=fun Y=>ac (bZ HX)
  have lda:aQ (some (true,2)) (some (rowO obC 35 resta all)) (i*2)=some (obV (all.getD i ob0).k (all.getD i ob0).t):=It (E:=35) (rest:=resta) (z:=ob0) uA i aC
  have lnh: ∀m,Sx.eb (.sl m) v6=some (vi had.length):=fun m=>uR (Gr.i nv (fun p hp=>hp)) m
  have lni: ∀m,Sx.eb (.sl m) v7=some (vi had.length):=fun m=>uR (Gr.i GV (fun p hp=>hp)) m
  generalize all.getD i ob0=o at*
  obtain⟨ok,ot⟩:=o
  simp only at lda df
  refine kz [7] (aN @er (aN @d1 (aN @lna (aN @lda @rda)))) ?_
  refine Ow.callFV rfl call19 (fun w' aA=>Vz_ ok ot w') ?_
  refine ko @er ?_
  refine ky (aN @er @lnh) ?_
  refine Cw.loopG (G:=ThG) [30,31,32,33,34,35,36,37,40,41,42,43,44,45,46,47,48,9,38,39,10] (fun g=> [(9, .bool g.c),(10,vi g.j)]) (fun g=>D5++ (D6++ (D7++DG))) (fun g=>g.j≤had.length∧g.c=(!k5 ok ot||decide ((⟨ok,ot⟩:ObL)∈had.take g.j))) (fun g=>had.length - g.j) ⟨0, !k5 ok ot⟩ rfl rfl ?_ ?_
  ·exact⟨aq _,by simp⟩
  intro g j hg
  refine kv ?_
  obtain⟨j,c⟩:=g
  simp only at hg ⊢
  obtain⟨hj,hc⟩:=hg
  by_cases hjt:j<had.length
  ·have d2:decide ((j:Int)< (had.length:Int))=true:=aW oM
   cases c with
   |true=>
    have kQ: ¬ (k5 ok ot=true∧(⟨ok,ot⟩:ObL)∉had):=by
     rintro⟨h1,h2⟩
     rw[h1,ah (fun h=>h2 (List.mem_of_mem_take h))] at hc
     cases hc
    refine ky (aN @er (aN @d2 @lnh)) ?_
    rw[if_neg kQ] at df
    refine ky @er ?_
    exact Again.mk ⟨i+1,had,v6,v7,D6,D7,DG⟩ (by show all.length - (i+1)<all.length - i;omega) ⟨aC,df,mr,mF,dq,nv,GV⟩ rfl rfl
   |false=>
    have fF:=hc.symm
    rw[Bool.or_eq_false_iff] at fF
    have dO:=JC_ (o:=⟨ok,ot⟩) hjt
    rw[fF.2,Bool.false_or] at dO
    obtain h0| ⟨rh,ch,resth,rfl,hkh,hlkh⟩:=AP (Gr.i nv (fun p hp=>hp)) ao.2.1.1
    ·omega
    have lT:rh∉keys D5:=fun hm=>ao.2.2 rh hm rh (.inl hkh) rfl
    have rdh:aT w (D5++ (D6++ (D7++DG))) rh=some (rowO obC 35 resth had):=ac (by rw[g8 lT];exact bZ hlkh)
    have ldh:aQ (some (true,2)) (some (rowO obC 35 resth had)) (j*2)=some (obV (had.getD j ob0).k (had.getD j ob0).t):=It (E:=35) (rest:=resth) (z:=ob0) uA j hjt
    generalize had.getD j ob0=p at*
    refine ky (aN @er (aN @d2 @lnh)) ?_
    refine Cw.regionS [rh,ra] [0,1,2,4,5,6,3,7,8,9] [] kR kR kR ?_
    simp only[bF, ↓bE, ↓ay, ↓bD, ↓bC,az]
    refine kq (aN @er (aN @rdh (aN @ldh (aN @rda @lda)))) ?_
    refine ky @er ?_
    exact Again.mk ⟨j+1,_⟩ (by show had.length - (j+1)<had.length - j;omega) ⟨hjt,by rw[fF.1,Bool.false_or];exact dO.symm⟩ rfl rfl
  obtain rfl:j=had.length:=by omega
  have d2:decide ((had.length:Int)< (had.length:Int))=false:=ah oM
  rw[List.take_length] at hc
  cases c with
  |true=>
   have kQ: ¬ (k5 ok ot=true∧(⟨ok,ot⟩:ObL)∉had):=by
    rintro⟨h1,h2⟩
    rw[h1,ah h2] at hc
    cases hc
   refine ky (aN @er (aN @d2 @lnh)) ?_
   rw[if_neg kQ] at df
   refine ky @er ?_
   exact Again.mk ⟨i+1,had,v6,v7,D6,D7,DG⟩ (by show all.length - (i+1)<all.length - i;omega) ⟨aC,df,mr,mF,dq,nv,GV⟩ rfl rfl
  |false=>
   have fF:=hc.symm
   rw[Bool.or_eq_false_iff] at fF
   have zr:k5 ok ot=true:=by simpa using fF.1
   have dE:ot.length<100000:=by have:=VO (k:=ok) (t:=ot) (by rw[Bt];exact zr);omega
   rw[if_pos ⟨zr,of_decide_eq_false fF.2⟩] at df
   refine ky (aN @er (aN @d2 (aN @lnh (aN @rda @lda)))) ?_
   refine Ow.callFV rfl call20 (fun w' aA=>Ws ok ot w' dE) ?_
   have HO:Dig.shaR (uJ ok ot)=(idQ ⟨ok,ot⟩).l:=rfl
   rw[HO] at*
   have iw:=(idQ ⟨ok,ot⟩).h
   have hi0:=id0.h
   generalize hx:idQ ⟨ok,ot⟩=x at*
   refine ko @er ?_
   refine Ow.alloc rfl rfl nb fun b11 ny oD=> ?_
   simp only[ag,List.nil_append,List.cons_append]
   refine Ow.permL (M:=(b11, .cells (a8 id0.l) 24 (0,0)):: (D5++ (D6++ (D7++DG)))) pM ?_
   refine ko @er ?_
   refine ky (aN @er @lni) ?_
   refine Cw.loopG (G:=Nat) [55,56,57,58,61,62,63,64,65,66,4,59,60,12] (fun g=> [(12,vi g)]) (fun g=>(b11, .cells (a8 x.l) 24 (0,0)):: (D5++ (D6++ (D7++DG)))) (fun g=>g≤had.length∧(had.take g).any (fun h=>(idQ h).l==x.l)=false) (fun g=>had.length - g) 0 rfl rfl ?_ ?_
   ·exact⟨aq _,rfl⟩
   intro m jm hm
   refine kv ?_
   obtain⟨ey,gj⟩:=hm
   by_cases l7:m<had.length
   ·have d3:decide ((m:Int)< (had.length:Int))=true:=aW oM
    obtain h0| ⟨rq,cq,restq,rfl,hkq,hlkq⟩:=AP (l:=had.map idQ) (enc:=gw) (by rw[List.length_map];exact Gr.i GV (fun p hp=>hp)) ao.2.1.2.1.1
    ·rw[List.length_map] at h0;omega
    rw[List.length_map] at*
    have lT:rq∉keys D5:=fun hm=>ao.2.2 rq hm rq (.inr (.inl hkq)) rfl
    have mw:rq∉keys D6:=fun hm=>ao.2.1.2.2 rq hm rq (.inl hkq) rfl
    have hq11:rq<b11:=ak ny (by simp only[ae,List.mem_append];exact .inr (.inr (.inl hkq)))
    have rdq:aT w ((b11, .cells (a8 x.l) 24 (0,0)):: (D5++ (D6++ (D7++DG)))) rq=some (rowO gw 24 restq (had.map idQ)):=ac (by rw[pI _ _ _ _ oM,g8 lT,g8 mw];exact bZ hlkq)
    have ldq:aQ (some (true,32)) (some (rowO gw 24 restq (had.map idQ))) (m*32)=some (.agg (a8 (idQ (had.getD m ob0)).l)):=by
     have:=It (E:=24) (rest:=restq) (z:=id0) Az m (show m< (had.map idQ).length by rw[List.length_map];exact l7)
     rw[Af,show(had.map idQ).getD m id0=idQ (had.getD m ob0) from by rw[List.getD_eq_getElem?_getD,List.getD_eq_getElem?_getD,List.getElem?_map,List.getElem?_eq_getElem l7];rfl] at this
     exact this
    have vA:had.getD m ob0∈had:=getD_mem l7
    have dO: (had.take (m+1)).any (fun h=>(idQ h).l==x.l)=((idQ (had.getD m ob0)).l==x.l):=by
     rw[StP.take_snoc (z:=ob0) l7,List.any_append,gj];simp
    generalize had.getD m ob0=p at*
    refine ky (aN @er (aN @d3 @lni)) ?_
    refine Cw.regionS [rq,b11] [0,1,2,3,4,5] [] kR kR kR ?_
    simp only[bF, ↓bE, ↓ay, ↓bD, ↓bC,az]
    refine kq (aN @er (aN @rdq @ldq)) ?_
    cases hq: ((idQ p).l==x.l) with
    |true=>
     have xj:had.any (fun h=>(idQ h).l==x.l)=true:=List.any_eq_true.2 ⟨p,vA,hq⟩
     rw[if_pos xj] at df
     have hnn:=Wu_ df (show i+1≤all.length by omega)
     refine ky (aN @er @hq) ?_
     refine⟨_,(ke @er),(show New w.heap.size ((b11,_):: (D5++ (D6++ (D7++DG)))) from⟨oD,fV⟩), ?_⟩
     (unfold po;rw[hnn];rfl)
    |false=>
     rw[hq] at dO
     refine ky (aN @er @hq) ?_
     exact Again.mk (m+1) oM ⟨l7,dO⟩ rfl rfl
   obtain rfl:m=had.length:=by omega
   have d3:decide ((had.length:Int)< (had.length:Int))=false:=ah oM
   rw[List.take_length] at gj
   rw[if_neg (by rw[gj];simp)] at df
   have ha11:ra<b11:=ak ny (by simp only[ae,List.mem_append];exact .inl hka)
   have rda2: ∀O Y,aT w ((b11,O):: (D5++Y)) ra=some (rowO obC 35 resta all):=fun O Y=>ac (by rw[pI _ _ _ _ oM];exact bZ HX)
   refine ky (aN @er (aN @d3 (aN @lni (aN @rda2 @lda)))) ?_
   refine Ow.buildSlice (e:=35) #[vi ok,vs ot] rfl rfl (rk (cs:=obC ⟨ok,ot⟩) underlying22 ag35 zrOb (by decide) rfl) fun bc zd th=> ?_
   refine ko @er ?_
   refine Ow.permL (M:=D6++ ((b11, .cells (a8 x.l) 24 (0,0)):: (D5++ (D7++ (DG++ [(bc, .cells #[vi ok,vs ot] 35 (0,0))]))))) pM ?_
   refine Ow.appendXG (e:=35) (k:=1) (new:=obC ⟨ok,ot⟩) (X:=D6) v6 rfl rfl rfl rfl underlying22 ag35 kR zrOb (by rw[obV,ag];rfl) underlying22 (by intro k h;cases h) nv (fun w' aA=>AppX.one1 (aA.has bc (.cells (obC ⟨ok,ot⟩).toArray 35 (0,0)) (by simp[obC])) (uA _) (Ai _)) oM (fun B8 va8 D8 JT rJ hG8 hk81 hk82 HV=> ?_)
   have rM:New w.heap.size D8:=New.of_le fun q hq=>by
    rcases hk82 q hq with h|h
    ·exact mr.le q h
    omega
   refine Ow.permL (M:=(b11, .cells (a8 x.l) 24 (0,0)):: (D5++ (D8++ (D7++ (DG++ [(bc, .cells #[vi ok,vs ot] 35 (0,0))]))))) pM ?_
   refine ko @er ?_
   refine ky @er ?_
   refine Ow.buildSlice (e:=24) (a8 x.l) rfl rfl (rk (cs:=x.l.map v8) underlying30 sa nb (by decide) (by simp[x.h])) fun ba hba yc=> ?_
   refine ko @er ?_
   refine Ow.permL (M:=D7++ ((b11, .cells (a8 x.l) 24 (0,0)):: (D5++ (D8++ (DG++ [(bc, .cells #[vi ok,vs ot] 35 (0,0)),(ba, .cells (a8 x.l) 24 (0,0))]))))) pM ?_
   refine Ow.appendXG (e:=24) (k:=1) (new:=gw x) (X:=D7) v7 rfl rfl rfl rfl underlying30 sa kR nb (by rw[ag,vZ,id0.h]) underlying30 (by intro k h;cases h) GV (fun w' aA=>AppX.one1 (by rw[Af];exact aA.has ba (.cells (a8 x.l) 24 (0,0)) (by simp)) (Az _) (CD _)) oM (fun B9 va9 D9 tE hB9 hG9 hk91 hk92 mM=> ?_)
   have tI:New w.heap.size D9:=New.of_le fun q hq=>by
    rcases hk92 q hq with h|h
    ·exact mF.le q h
    omega
   refine ko @er ?_
   refine Cw.permL (M:=D5++ (D8++ (D9++ ((b11, .cells (a8 x.l) 24 (0,0)):: (DG++ [(bc, .cells #[vi ok,vs ot] 35 (0,0)),(ba, .cells (a8 x.l) 24 (0,0))]))))) pM ?_
   refine ky @er ?_
   have mJ: (had++ [(⟨ok,ot⟩:ObL)]).length=had.length+1:=by simp
   exact Again.mk ⟨i+1,had++ [⟨ok,ot⟩],va8,va9,D8,D9,(b11, .cells (a8 x.l) 24 (0,0)):: (DG++ [(bc, .cells #[vi ok,vs ot] 35 (0,0)),(ba, .cells (a8 x.l) 24 (0,0))])⟩ (by show all.length - (i+1)<all.length - i;omega) ⟨aC,df,rM,tI,⟨oD,dq.app ⟨th,yc,trivial⟩⟩,by simpa using hG8,by rw[←hx] at hG9;simpa using hG9⟩ rfl rfl
 obtain rfl:i=all.length:=by omega
 have d1:decide ((all.length:Int)< (all.length:Int))=false:=ah oM
 refine ky (aN @er (aN @d1 @lna)) ?_
 refine⟨_,(ke @er),fV, ?_⟩
 (unfold po;rw[k_];rfl)
def sumF (l:List FiL):Nat:=(l.map fun f=>f.data.length / 100+f.name.length).sum
def vq (l:List FiL) (more:List ObL):Bool:=decide (60<l.length) ||decide (1000<sumF l) ||po (lq l++more)
def Tf (l:List FiL) {k:Nat} (h:k<l.length):sumF (l.take (k+1))=sumF (l.take k)+ (l.getD k fi0).data.length / 100+ (l.getD k fi0).name.length:=by
 unfold sumF
 rw[StP.take_snoc (z:=fi0) h,List.map_append,List.sum_append,List.map_singleton,List.sum_singleton,Nat.add_assoc]
def XQ (l:List FiL) (k:Nat):sumF (l.take k)≤sumF l:=by
 have:sumF l=sumF (l.take k)+sumF (l.drop k):=by
  unfold sumF
  rw[←List.sum_append,←List.map_append,List.take_append_drop]
 omega
def VQ {l:List FiL} {f:FiL} (h:f∈l):f.data.length / 100+f.name.length≤sumF l:=by
 unfold sumF
 induction l with
 |nil=>cases h
 |cons g l ih=>
  rw[List.map_cons,List.sum_cons]
  rcases List.mem_cons.1 h with rfl|h
  ·omega
  have:=ih h;omega
def Ua {l:List FiL} {more:List ObL} (h:vq l more=false):l.length≤60∧po (lq l++more)=false∧ ∀f,f∈l→f.name.length≤1000∧f.data.length<100100:=by
 unfold vq at h
 simp only[Bool.or_eq_false_iff,decide_eq_false_iff_not] at h
 refine⟨by omega,h.2,fun f hf=> ?_⟩
 have:=VQ hf
 omega
structure GfG where
 n:Nat
 k:Nat
def pP:=aN @bB @bA
def Nh (v1 v2:Value) (l:List FiL) (more:List ObL) (w:World) (hv:FiSl w v1 l) (hb:FiB l) (hm:ObSl w v2 more) (pC:more.length≤1000000):
  Rets prog 52 #[v1,v2] w (fun v D=>v= .bool (vq l more)∧D= []):=by
 have ln:=hv.len
 obtain⟨rb,off,arr,E,fz,hr⟩:=hv.row
 refine Rets.enterV func52 rfl (rs:= [.tmp 4]) results52 ntmps52 ?_
 refine kf ?_
 by_cases h60:60<l.length
 ·have d1:decide ((60:Int)< (l.length:Int))=true:=aW oM
  refine ky (aN @pP (aN @ln @d1)) ?_
  refine⟨_,(ke @pP),trivial, ?_⟩
  (unfold vq;rw[aW h60];rfl)
 have d1:decide ((60:Int)< (l.length:Int))=false:=ah oM
 refine ky (aN @pP (aN @ln @d1)) ?_
 refine Cw.loopG (G:=GfG) [10,11,12,13,16,17,18,19,20,21,22,23,24,25,26,27,28,29,30,31,5,32,33,4,14,15,6] (fun g=> [(5,vi g.n),(6,vi g.k)]) (fun g=> []) (fun g=>g.k≤l.length∧g.n≤1000∧g.n=sumF (l.take g.k)) (fun g=>l.length - g.k) ⟨0,0⟩ rfl rfl ?_ ?_
 ·exact⟨aq _,aq _,rfl⟩
 intro g j hg
 refine kv ?_
 obtain⟨n,k⟩:=g
 simp only at hg ⊢
 obtain⟨hk,hn,hs⟩:=hg
 by_cases aC:k<l.length
 ·have d2:decide ((k:Int)< (l.length:Int))=true:=aW oM
  have ix:=hr.idx true k aC
  have hh:=hr.has oM
  have ld1: ∀n,aQ (some (false,n)) (some (.cells arr E fz)) (off+k*3+1)=some (vs (l.getD k fi0).name):=fun n=>Xn hr aC n
  have ld2: ∀n,aQ (some (false,n)) (some (.cells arr E fz)) (off+k*3+2)=some (vs (l.getD k fi0).data):=fun n=>Eh hr aC n
  have ui:=hb (l.getD k fi0) (by rw[List.getD_eq_getElem?_getD,List.getElem?_eq_getElem aC];exact List.getElem_mem _)
  have mT:=Tf l aC
  have cb:=XQ l (k+1)
  generalize l.getD k fi0=r at*
  have es: ((n:Int)+ (r.data.length:Int).tdiv 100)+ (r.name.length:Int)=((n+r.data.length / 100+r.name.length:Nat):Int):=by
   rw[Int.tdiv_eq_ediv_of_nonneg oM];omega
  have es2: ((n:Int)+ (r.data.length:Int) / 100)+ (r.name.length:Int)=((n+r.data.length / 100+r.name.length:Nat):Int):=by omega
  refine ky (aN @pP (aN @ln @d2)) ?_
  refine Cw.regionS [rb] [0,1,2,3,4,9,10,11,12,5,6,7,8,13,14,15,16] [] kR kR kR ?_
  simp only[bF, ↓bE, ↓ay, ↓bD, ↓bC,az]
  refine kq (aN @pP (aN @ln (aN @ix (aN @hh (aN @ld1 (aN @ld2 (aN @es @es2))))))) ?_
  by_cases jH:1000<n+r.data.length / 100+r.name.length
  ·have d3:decide ((1000:Int)< ((n+r.data.length / 100+r.name.length:Nat):Int))=true:=aW oM
   refine ky (aN @pP @d3) ?_
   refine⟨_,(ke @pP),trivial, ?_⟩
   (unfold vq;rw[aW (show 1000<sumF l by omega),Bool.or_true];rfl)
  have d3:decide ((1000:Int)< ((n+r.data.length / 100+r.name.length:Nat):Int))=false:=ah oM
  refine ky (aN @pP @d3) ?_
  exact Again.mk ⟨n+r.data.length / 100+r.name.length,k+1⟩ (by show l.length - (k+1)<l.length - k;omega) ⟨aC,by show n+r.data.length / 100+r.name.length≤1000;omega,by show n+r.data.length / 100+r.name.length=sumF (l.take (k+1));omega⟩ rfl rfl
 have d2:decide ((k:Int)< (l.length:Int))=false:=ah oM
 rw[show l.take k=l from List.take_of_length_le oM] at hs
 refine ky (aN @pP (aN @ln @d2)) ?_
 refine Ow.callFV rfl call96 (fun w' aA=>SF v1 v2 l more w' (hv.oldN aA trivial) oM hb (hm.oldN aA trivial) pC) ?_
 refine ko @pP ?_
 refine ky @pP ?_
 refine⟨_,(ke @pP),trivial, ?_⟩
 (unfold vq;rw[ah h60,ah (show¬1000<sumF l by omega)];rfl)
instance:DecidableEq FiL:=fun a b=>if h:a.dir=b.dir∧a.name=b.name∧a.data=b.data then .isTrue (by cases a;cases b;simp only at h;obtain⟨rfl,rfl,rfl⟩:=h;rfl) else .isFalse (fun e=>h (by rw[e];exact⟨rfl,rfl,rfl⟩))
def rG:=aN (aN @bB @bA) (aN @Et @neFi)
def QC_ (v1 v2:Value) (a b:List FiL) (w:World) (ha:FiSl w v1 a) (hb:FiSl w v2 b) (jE:a.length<1000000000):
  Rets prog 62 #[v1,v2] w (fun v D=>v= .bool (decide (a=b))∧D= []):=by
 have ln1:=ha.len
 have ln2:=hb.len
 obtain⟨ra,offa,arra,Ea,fza,hra⟩:=ha.row
 obtain⟨rb,offb,arrb,Eb,fzb,lA⟩:=hb.row
 refine Rets.enterV func62 rfl (rs:= [.tmp 4]) results62 ntmps62 ?_
 refine kf ?_
 by_cases eK:a.length=b.length
 ·have d1: ((a.length:Int) !=(b.length:Int))=false:=by rw[eK];exact bne_self_eq_false _
  refine ky (aN @rG (aN @ln1 (aN @ln2 @d1))) ?_
  refine Cw.loopG (G:=Nat) [11,12,13,14,17,18,19,20,21,22,23,24,25,4,15,16,5] (fun g=> [(5,vi g)]) (fun g=> []) (fun g=>g≤a.length∧a.take g=b.take g) (fun g=>a.length - g) 0 rfl rfl ?_ ?_
  ·exact⟨aq _,rfl⟩
  intro k jk hk
  refine kv ?_
  obtain⟨iy,fw⟩:=hk
  by_cases aC:k<a.length
  ·have yD:k<b.length:=by omega
   have d2:decide ((k:Int)< (a.length:Int))=true:=aW oM
   have ixa:=hra.idx true k aC
   have ixb:=lA.idx true k yD
   have rda:=hra.has (show 0<a.length by omega)
   have rdb:=lA.has (show 0<b.length by omega)
   have lda:=FQ hra aC
   have ldb:=FQ lA yD
   have dO:a.take (k+1)=b.take (k+1)↔a.getD k fi0=b.getD k fi0:=by
    rw[StP.take_snoc (z:=fi0) aC,StP.take_snoc (z:=fi0) yD,fw]
    constructor
    ·intro h;simpa using h
    intro h;rw[h]
   have cF:a=b→a.getD k fi0=b.getD k fi0:=fun h=>by rw[h]
   generalize a.getD k fi0=x at*
   generalize b.getD k fi0=y at*
   refine ky (aN @rG (aN @ln1 @d2)) ?_
   refine Cw.regionS [ra,rb] [0,1,2,4,5,6,3,7,8] [] kR kR kR ?_
   simp only[bF, ↓bE, ↓ay, ↓bD, ↓bC,az]
   refine kq (aN @rG (aN @ixa (aN @ixb (aN @rda (aN @rdb (aN @lda @ldb)))))) ?_
   cases hq: (x.dir==y.dir&&x.name==y.name&&x.data==y.data) with
   |true=>
    have e:x=y:=by
     simp only[Bool.and_eq_true,beq_iff_eq] at hq
     cases x;cases y;simp only at hq;obtain⟨⟨rfl,rfl⟩,rfl⟩:=hq;rfl
    refine ky (aN @rG @hq) ?_
    exact Again.mk (k+1) oM ⟨aC,dO.2 e⟩ rfl rfl
   |false=>
    refine ky (aN @rG @hq) ?_
    refine⟨_,(ke @rG),trivial, ?_⟩
    (rw[ah (fun h=>by have e:=cF h;rw[e] at hq;simp at hq)];rfl)
  obtain rfl:k=a.length:=by omega
  have d2:decide ((a.length:Int)< (a.length:Int))=false:=ah oM
  refine ky (aN @rG (aN @ln1 @d2)) ?_
  refine⟨_,(ke @rG),trivial, ?_⟩
  (rw[List.take_length,eK,List.take_length] at fw;rw[aW fw];rfl)
 have d1: ((a.length:Int) !=(b.length:Int))=true:=bne_iff_ne.2 oM
 refine ky (aN @rG (aN @ln1 (aN @ln2 @d1))) ?_
 refine⟨_,(ke @rG),trivial, ?_⟩
 (rw[ah (fun h=>eK (by rw[h]))];rfl)
theorem ActOk.old {w w':World} {L:aB} {a:ActL} (h:ActOk w a) (hw:Hp w L w') (hn:New w.heap.size L):ActOk w' a:=
 ⟨h.pk.old hw fun hl _b hb=>hn.not (h.pk.blk hl hb),h.n⟩
end Go.Proofs
end
namespace Go.Sx
open Go Go.ChangeShapes Go.WideShapes Go.RowKit
def Hp.same0 {W W':World} (h:Hp W [] W') {b:Nat} (hb:b<W.heap.size):W'.heap[b]? =W.heap[b]? :=h.old b hb (fun hm=>by cases hm)
def Hp.kept {W W':World} (h:Hp W [] W') (may:MemPlace→Prop):W.keptBut W' may:=by
 refine⟨h.os,h.output,fun i hi=> ?_⟩
 rw[h.same0 hi]
 cases ho:W.heap[i]? with
 |none=>rfl
 |some o=>
  cases o<;>first
   |exact⟨rfl,rfl,rfl,fun _ _=>rfl⟩
   |exact .inr ⟨rfl,rfl⟩
   |rfl
theorem Hp.sameAt {W W':World} (h:Hp W [] W') {p:MemPlace} (hp:p.block<W.heap.size):W.sameAt W' p:=by
 cases p with
 |cell b off=>
  have:=h.same0 (b:=b) hp
  simp only[World.sameAt,World.cell?,this]
 |map b=>exact h.same0 hp
theorem Hp.frozen {W W':World} (h:Hp W [] W') {a:Addr} (ha:a.block<W.heap.size):W'.frozen? a=W.frozen? a:=by
 simp only[World.frozen?,h.same0 ha]
section
variable {H:Type} {enc:TypeId×Value→H} {P:Program}
theorem J3_ (hl:laidOutB P=true) {W W':World} {sp:Nat→Bool} (hp:Hp W [] W'): ∀ {ts:List TypeId} {vs:List Value} {ds:List (DataW H)} {ps:List MemPlace},
  (∀t∈ts,P.readableRec t=true∧t<P.types.size)→(∀p∈ps,p.block<W.heap.size)→(∀p∈ps,sp p.block=true)→
  DataW.TrodAll enc P W 0 (fun _=>true) true ts vs ds ps→DataW.TrodAll enc P W' 0 sp true ts vs ds ps
 | [],_,_,_,_,_,_,h=>by
  obtain⟨rfl,rfl,rfl⟩:=trodAll_nil h
  exact trodAll_mk0
 |t::ts,_,_,_,ht,aC,hs,h=>by
  obtain⟨v,vs,d,ds,p,q,rfl,rfl,rfl,h1,h2⟩:=trodAll_cons h
  have hlt1: ∀x∈p,x.block<W.heap.size:=fun x hx=>aC x (bl _ hx)
  exact trodAll_cons_mk (WideElems.Trod_stays hl (ht t aa).1 (ht t aa).2 h1 (fun x hx=>hp.sameAt (hlt1 x hx)) (fun x hx=>hs x (bl _ hx)))
   (J3_ hl hp (fun u hu=>ht u (av _ hu)) (fun x hx=>aC x (db _ hx)) (fun x hx=>hs x (db _ hx)) h2)
def Tu {f:Func} {s:ChangeSpec} {W W':World} {args:Array Value} {ds gs:List (DataW H)} {before:List MemPlace} {tb:TypeId} (hl:laidOutB P=true)
  (hW:DataW.Whole enc P f.params.toList s.vars false W args.toList ds gs before) (hv:s.vars= []) (hpar: ∀t∈f.params.toList,P.readableRec t=true∧t<P.types.size)
  (hr:f.resultTypes= #[tb]) (htb:P.underlying tb=some .bool) (dh:s.fn H ds={results:= [.lit (.bool true)],args:=ds}) (hp:Hp W [] W'):
  s.post enc P f false true false false W args (.bool true) W':=by
 have aC:=hW.lt
 have JW:=hW
 obtain⟨p,q,hA,hV,rfl,hz,hn⟩:=hW
 rw[hv] at hV
 obtain⟨rfl,rfl⟩:=trodVars_none hV
 rw[List.append_nil] at JW aC hz
 have qL: ∀sp:Nat→Bool,(∀x∈p,sp x.block=true)→DataW.TrodAll enc P W' 0 sp true f.params.toList args.toList (s.fn H (ds++ [])).args p:=fun sp hs=>by
  rw[List.append_nil,dh]
  exact J3_ hl hp hpar aC hs hA
 have vG: ∀sp:Nat→Bool,DataW.TrodVars enc P W' sp s.vars (s.fn H (ds++ [])).vars []:=fun sp=>by
  rw[List.append_nil,dh,hv];rfl
 have Hr: ∀ (b:Nat) (sp:Nat→Bool) (hd:Bool),DataW.TrodAll enc P W' b sp hd f.resultTypes.toList ((Value.bool true).resultList f.resultTypes.size) (s.fn H (ds++ [])).results []:=fun b sp hd=>by
  rw[List.append_nil,dh,hr]
  exact trodAll_cons_mk (shut_bool htb true) trodAll_mk0
 have iA: ∀x∈p,(fun b=>decide (b<W.heap.size)) x.block=true:=fun x hx=>by simpa using aC x hx
 refine⟨ds,[],p,[],p,[],JW,Hr _ _ _,qL _ iA,vG _,hp.kept _,fun _=> ?_⟩
 refine⟨ok_one hr rfl (okWide_bool_mk htb true),_,_,([]++p)++ [],⟨[]++p,[],trodAll_append (qL _ (fun _ _=>rfl)) (Hr _ _ _),vG _,rfl, ?_,fun h=>by cases h⟩, ?_⟩
 ·intro b off hx
  have vI:MemPlace.cell b off∈p:=by simpa using hx
  rw[hp.frozen (aC _ vI)]
  exact hz b off vI
 intro x hx _
 simpa using hx
end
section
variable {P:Program} {W:World} {name:String} {k:IntKind} {zs:List Int}
theorem WA_ {t e:TypeId} {g n:Nat} (hg:P.globalNamed name=some g) (Jy: (P.globals[g]?).map (·.type)=some t) (ht:P.underlying t=some (.array n e)) (he:P.underlying e=some (.int k)) (ze:P.cellsOf e=1) (Jc:P.cellsOf t=n):
  ∀ {laid:List (String×DataW Unit)} {ps:List MemPlace},DataW.LaidVars P W laid ps→(name,Lib.tabData k zs)∈laid→Lib.TabIs P W name k zs
 | [],_,_,hm=>by cases hm
 | (n',d')::rest,ps,h,hm=>by
  obtain⟨g',t',cs,fuel,p,q,xx,zt,oB,hd,hr,-⟩:=h
  rcases List.mem_cons.1 hm with hm|hm
  ·cases hm
   obtain rfl:=Option.some.inj (hg.symm.trans xx)
   obtain rfl:=Option.some.inj (Jy.symm.trans zt)
   unfold Lib.TabIs
   rw[oB,←Lib.cells_of_tab ht he ze Jc hd]
  exact WA_ hg Jy ht he ze Jc hr hm
def Oy {g:Nat} (hg:P.globalNamed name=some g) (h:Lib.TabIs P W name k zs): ∃e f,W.heap[g]? =some (.cells (zs.map fun z=>Value.int k z).toArray e f):=by
 unfold Lib.TabIs at h
 simp only[World.var?,hg,Option.bind_some] at h
 split at h
 ·rename_i cs e f hb
  cases h
  exact⟨e,f,hb⟩
 cases h
end
section
variable {H:Type} {enc:TypeId×Value→H} {P:Program}
end
end Go.Sx
namespace Go.Sx
open Go
section
variable {P:Program}
def VJ {fits:TypeId→Bool} {d:Nat} {e:TypeId} {count off n:Nat} (h:rowAt P fits d e count off n=true):off≤count*P.cellsOf e:=by
 cases d with
 |zero=>simp[rowAt] at h
 |succ d=>
  unfold rowAt at h
  simp only at h
  split at h
  ·cases h
  rename_i hs
  have kS:0<P.cellsOf e:=Nat.pos_of_ne_zero hs
  have hd:=Nat.div_add_mod off (P.cellsOf e)
  have hm:=Nat.mod_lt off kS
  rw[Bool.or_eq_true] at h
  rcases h with h|h
  ·simp only[Bool.and_eq_true,beq_iff_eq,decide_eq_true_eq] at h
   have:off / P.cellsOf e*P.cellsOf e≤count*P.cellsOf e:=Nat.mul_le_mul_right _ oM
   rw[Nat.mul_comm (P.cellsOf e)] at hd
   omega
  simp only[Bool.and_eq_true,decide_eq_true_eq] at h
  have: (off / P.cellsOf e+1)*P.cellsOf e≤count*P.cellsOf e:=Nat.mul_le_mul_right _ oM
  rw[Nat.add_mul,Nat.one_mul] at this
  rw[Nat.mul_comm (P.cellsOf e)] at hd
  omega
theorem DQ {e:TypeId} {count off:Nat}: ∀ {d:Nat} {u:TypeId} {n:Nat},liesAt P d e count off u n=true→off≤count*P.cellsOf e
 |0,u,n,h=>by simp[liesAt] at h
 |d+1,u,n,h=>by
  unfold liesAt at h
  rw[Bool.or_eq_true] at h
  rcases h with h|h
  ·exact VJ h
  split at h
  ·exact DQ h
  cases h
def Yw {W:World} {r:Reach} {base:Nat} {a:Addr} {e:TypeId} {n:Nat} (h:W.has P r base a e n):a.spot=none∧ ∃arr E fz,W.heap[a.block]? =some (.cells arr E fz)∧a.off≤arr.size:=by
 obtain⟨-,hs,row,cells,iC,hl⟩:=h
 refine⟨hs, ?_⟩
 unfold World.shape? at iC
 split at iC
 ·rename_i c el fz hh
  cases iC
  refine⟨c,_,fz,hh,Nat.le_trans (DQ hl) ?_⟩
  exact Nat.div_mul_le_self _ _
 cases iC
def TC {W:World} {r:Reach} {base:Nat} {t e:TypeId} {v:Value} (ht:P.underlying t=some (.slice e)) (h:Value.okWide P W r base t v):
  v= .slice none 0 0∨ ∃b off len cap arr E fz,v=vsl b off len cap∧len≤cap∧W.heap[b]? =some (.cells arr E fz)∧off≤arr.size:=by
 obtain⟨a,len,cap,rfl⟩:=Go.WideShapes.okWide_slice ht h
 unfold Value.okWide at h
 rw[ht] at h
 unfold Cell.okWide at h
 rw[ht] at h
 simp only at h
 unfold Cell.ok at h
 rw[ht] at h
 cases a with
 |none=>
  left
  simp only at h
  split at h
  all_goals first| (cases h;done) |simp_all
 |some a=>
  right
  simp only at h
  obtain⟨dC,-,hh⟩:=h
  obtain⟨hs,arr,E,fz,hb,ho⟩:=Yw hh
  obtain⟨b,off,sp⟩:=a
  simp only at hs
  subst hs
  exact⟨b,off,len,cap,arr,E,fz,rfl,dC,hb,ho⟩
def Fw {α:Type} {enc:α→List Value} {z:α} {m:Nat} {W:World} {base b off c:Nat} {l:List α} {arr:Array Value} {E:TypeId} {fz:Nat×Nat} (rS:0<m) (hm: ∀x,(enc x).length=m)
  (xp: ∀i,i<l.length→W.cells? base ((Addr.mk b off none).add (i*m)) m=some (enc (l.getD i z))) (us:W.heap[b]? =some (.cells arr E fz)) (hoff:off≤arr.size) (hc:l.length≤c):SlV m enc z W (vsl b off l.length c) l:=by
 have get: ∀k,k<l.length→ ∀j,j<m→arr[off+k*m+j]? =(enc (l.getD k z))[j]? :=by
  intro k hk j hj
  obtain⟨-,hl,hg⟩:=World.cells?_some (xp k hk)
  have:=hg j oM
  rw[oV,oV] at this
  simp only[World.cell?,us,Option.isSome_none,Bool.false_eq_true,if_false] at this
  exact this
 refine SlV.sl us get hc ?_
 by_cases h0:l.length=0
 ·rw[h0];omega
 have h1:=get (l.length - 1) oM (m - 1) oM
 rw[List.getElem?_eq_getElem (by rw[hm];omega)] at h1
 have h2:=(Array.getElem?_eq_some_iff.1 h1).1
 have h3: (l.length - 1)*m+m=l.length*m:=by
  rw[←Nat.succ_mul];congr 1;omega
 omega
end
end Go.Sx
section
open Go Go.Proofs Go.Sx Go.StP Go.Flo
open Go.ChangeShapes Go.WideShapes Go.ChangeAt Go.RowKit Go.ChangeMaps
namespace Go.Proofs
def EE {H:Type} {tell:TypeId×Value→H} {α:Type} {enc:α→List Value} {z:α} {m:Nat} {W:World} {r:Reach} {base b0:Nat} {sp:Nat→Bool} {cP:Bool} {fuel:Nat} {t e:TypeId} {v:Value} {x:DataW H×List MemPlace} {R:α→DataW H→Prop}
  (ht: (prog).underlying t=some (.slice e)) (he: (prog).cellsOf e=m) (rS:0<m) (hm: ∀x,(enc x).length=m) (cR:Value.okWide prog W r b0 t v)
  (hdec: ∀n cs y,DataW.trod tell prog W base sp cP n e cs=some y→ ∃a,cs=enc a∧R a y.1) (hd:DataW.trod tell prog W base sp cP fuel t [v]=some x):
  ∃l,SlV m enc z W v l∧(l= []∨ ∃es sp',x.1= .slice es sp'∧ ∀i,i<l.length→ ∃d,d∈es∧R (l.getD i z) d):=by
 rcases DataW.trod_slice ht hd with⟨df,-⟩ | ⟨a,len,cap,elems,rest,n,-,df,hx,-,hl,-,aS,gP,-,-⟩
 ·simp only[List.cons.injEq,and_true] at df
  subst df
  exact⟨[],SlV.nil W, .inl rfl⟩
 simp only[List.cons.injEq,and_true] at df
 subst df
 rcases TC ht cR with h0| ⟨b,off,len',cap',arr,E,fz,h1,-,hb,ho⟩
 ·cases h0
 unfold vsl at h1
 cases h1
 rw[he] at gP
 have uo: ∀i,i<len→ ∃q,W.cells? base ((Addr.mk b off none).add (i*m)) m=some (enc q)∧ ∃d,d∈elems.map (·.1)∧R q d:=by
  intro i hi
  have h2:=gP i hi
  rw[List.getElem?_eq_getElem oM] at h2
  cases hc:W.cells? base ((Addr.mk b off none).add (i*m)) m with
  |none=>rw[hc] at h2;cases h2
  |some cs=>
   rw[hc] at h2
   obtain⟨q,rfl,hR⟩:=hdec _ _ _ h2
   exact⟨q,rfl,_,List.mem_map_of_mem (List.getElem_mem oM),hR⟩
 obtain⟨f,hf⟩: ∃f:Nat→α,∀i,i<len→W.cells? base ((Addr.mk b off none).add (i*m)) m=some (enc (f i))∧ ∃d,d∈elems.map (·.1)∧R (f i) d:=by
  classical
  refine⟨fun i=>if h:i<len then Classical.choose (uo i h) else z,fun i hi=> ?_⟩
  simp only[dif_pos hi]
  exact Classical.choose_spec (uo i hi)
 have eK: ((List.range len).map f).length=len:=by simp
 have tP: ∀i,i<len→((List.range len).map f).getD i z=f i:=fun i hi=>by
  rw[List.getD_eq_getElem?_getD,List.getElem?_map,List.getElem?_range hi];rfl
 refine⟨(List.range len).map f, ?_, .inr ⟨_,_,by rw[hx],fun i hi=> ?_⟩⟩
 ·have:=Fw (W:=W) (base:=base) (b:=b) (off:=off) (c:=cap) (l:=(List.range len).map f) (z:=z) rS hm (fun i hi=>by
   rw[eK] at hi
   rw[(hf i hi).1,tP i hi]) hb ho (by rw[eK];exact hl)
  rw[eK] at this
  exact this
 rw[eK] at hi
 rw[tP i hi]
 exact(hf i hi).2
def Y3 {H:Type} {tell:TypeId×Value→H} {W:World} {base:Nat} {sp:Nat→Bool} {cP:Bool} (n:Nat) (cs:List Value) (y:DataW H×List MemPlace)
  (h:DataW.trod tell prog W base sp cP n 187 cs=some y): ∃a:FiL,cs=fiC a∧y.1= .agg [.lit (.string a.dir), .lit (.string a.name), .lit (.string a.data)]:=by
 obtain⟨y0,y1,y2,n',hy,aS,h0,h1,h2⟩:=Deep.trod_struct3 underlying187 h
 have hc: (prog).cellsOf 187=3:=by kernel_rfl
 have kN: (prog).cellsOf 9=1:=by kernel_rfl
 simp only at h0 h1 h2
 rw[kN,List.drop_zero] at h0
 rw[kN] at h1 h2
 rw[hc] at aS
 obtain⟨s,hs,hys,-⟩:=DataW.trod_string underlying9 h0
 obtain⟨u,hu,hyu,-⟩:=DataW.trod_string underlying9 h1
 obtain⟨x,hx,hyx,-⟩:=DataW.trod_string underlying9 h2
 refine⟨⟨s.data.toList,u.data.toList,x.data.toList⟩, ?_,by rw[hy,hys,hyu,hyx]⟩
 have hd:cs=cs.take 1++ ((cs.drop 1).take 1++ (cs.drop 2).take 1):=by
  rw[show(cs.drop 2).take 1=cs.drop 2 from List.take_of_length_le (by rw[List.length_drop];omega),show cs.drop 2=(cs.drop 1).drop 1 by rw[List.drop_drop],List.take_append_drop,List.take_append_drop]
 rw[hd,hs,hu,hx]
 rfl
def Ph {H:Type} {enc:TypeId×Value→H} {W:World} {r:Reach} {b0 base:Nat} {sp:Nat→Bool} {cP:Bool} {v:Value} {d:DataW H} {p:List MemPlace}
  (cR:Value.okWide prog W r b0 94 v) (hd:DataW.Trod enc prog W base sp cP 94 v d p):
  ∃l,FiSl W v l∧(l= []∨ ∃es sp',d= .slice es sp'∧ ∀i,i<l.length→ ∃e,e∈es∧e= .agg [.lit (.string (l.getD i fi0).dir), .lit (.string (l.getD i fi0).name), .lit (.string (l.getD i fi0).data)]):=by
 obtain⟨a0,len,cap,rfl⟩:=WideShapes.okWide_slice underlying94 cR
 obtain⟨fu,hf⟩:=hd
 exact EE (z:=fi0) (R:=fun a e=>e= .agg [.lit (.string a.dir), .lit (.string a.name), .lit (.string a.data)]) underlying94 kR (by decide) oK cR Y3 hf
def YO {n:Int} (h: (Lit.int .u16 n).wf=true): ∃x:UInt16,Value.int .u16 n=v16 x:=by
 simp only[Lit.wf,Bool.and_eq_true,decide_eq_true_eq] at h
 have h1: (0:Int)≤n:=h.1
 have h2:n≤65535:=h.2
 refine⟨UInt16.ofNat n.toNat, ?_⟩
 unfold v16
 rw[UInt16.toNat_ofNat',Nat.mod_eq_of_lt oM,Int.toNat_of_nonneg h1]
def Fu {H:Type} {tell:TypeId×Value→H} {W:World} {base:Nat} {sp:Nat→Bool} {cP:Bool} {n:Nat} {cs:List Value} {y:DataW H×List MemPlace}
  (h:DataW.trod tell prog W base sp cP n 65 cs=some y): ∃p:PkL,cs= [p.v]∧PkS W p.v p.l:=by
 have h1: (prog).cellsOf 169=1:=by kernel_rfl
 rcases DataW.trod_slice underlying65 h with⟨rfl,-⟩ | ⟨a,len,cap,elems,rest,m,-,rfl,-,-,hl,-,aS,gP,-,-⟩
 ·exact⟨pk0,rfl, .inl (SlV.nil W)⟩
 rw[h1] at gP
 by_cases h0:len=0
 ·subst h0
  exact⟨⟨.slice (some a) 0 cap,[],rfl,rfl⟩,rfl, .inr ⟨rfl,a,cap,rfl⟩⟩
 have uo: ∀i,i<len→ ∃q:UInt16,W.cells? base (a.add (i*1)) 1=some (u16C q):=by
  intro i hi
  have h2:=gP i hi
  rw[List.getElem?_eq_getElem oM] at h2
  cases hc:W.cells? base (a.add (i*1)) 1 with
  |none=>rw[hc] at h2;cases h2
  |some cs=>
   rw[hc] at h2
   obtain⟨z,hz,-,hw⟩:=DataW.trod_int underlying169 h2
   obtain⟨q,hq⟩:=YO hw
   exact⟨q,by rw[hz,hq];rfl⟩
 obtain⟨f,hf⟩: ∃f:Nat→UInt16,∀i,i<len→W.cells? base (a.add (i*1)) 1=some (u16C (f i)):=by
  classical
  refine⟨fun i=>if h:i<len then Classical.choose (uo i h) else 0,fun i hi=> ?_⟩
  simp only[dif_pos hi]
  exact Classical.choose_spec (uo i hi)
 obtain⟨-,-,hg⟩:=World.cells?_some (hf 0 oM)
 have HJ:=hg 0 oM
 obtain⟨blk,off,spt⟩:=a
 have i1:W.cell? ((Addr.mk blk off spt).add (0*1) |>.add 0)=some (v16 (f 0)):=HJ
 unfold World.cell? at i1
 have hb: ((Addr.mk blk off spt).add (0*1) |>.add 0).block=blk:=rfl
 rw[hb] at i1
 split at i1
 ·rename_i arr E fz hh
  split at i1
  ·cases i1
  rename_i yW
  have hspt:spt=none:=by
   cases spt with
   |none=>rfl
   |some q=>exact absurd rfl yW
  subst hspt
  have hoff:off<arr.size:=(Array.getElem?_eq_some_iff.1 i1).1
  have eK: ((List.range len).map f).length=len:=by simp
  have tP: ∀i,i<len→((List.range len).map f).getD i 0=f i:=fun i hi=>by
   rw[List.getD_eq_getElem?_getD,List.getElem?_map,List.getElem?_range hi];rfl
  have hs:=Fw (W:=W) (base:=base) (b:=blk) (off:=off) (c:=cap) (l:=(List.range len).map f) (enc:=u16C) (z:=0) (by decide) W5 (fun i hi=>by
   rw[eK] at hi
   rw[hf i hi,tP i hi]) hh oM (by rw[eK];exact hl)
  rw[eK] at hs
  exact⟨⟨.slice (some ⟨blk,off,none⟩) len cap,(List.range len).map f,rfl,rfl⟩,rfl, .inl hs⟩
 cases i1
def Uj {H:Type} {enc:TypeId×Value→H} {W:World} {base:Nat} {sp:Nat→Bool} {cP:Bool} {v:Value} {d:DataW H} {p:List MemPlace}
  (hd:DataW.Trod enc prog W base sp cP 65 v d p) (hv:v.cells.toList= [v]): ∃p:PkL,v=p.v∧PkS W p.v p.l:=by
 obtain⟨fu,hf⟩:=hd
 rw[hv] at hf
 obtain⟨p,hp,h⟩:=Fu hf
 exact⟨p,by simpa using hp,h⟩
end Go.Proofs
end
section
open Go Go.Proofs Go.Sx Go.StP Go.Flo
namespace Go.Proofs
def wH:DataW Unit:= .agg [.lit (.string mc), .lit (.string lu), .lit (.string aJ)]
def Mb {W:World} {base:Nat} {sp:Nat→Bool} {cP:Bool} {fuel:Nat} {cs:List Value} {p:List MemPlace}
  (hd:DataW.trod (fun _=>()) prog W base sp cP fuel 170 cs=some (wH,p)):cs= [vs mc,vs lu,vs aJ]:=by
 obtain⟨xs,m,-,hx,aS,jO,gP⟩:=DataW.trod_array underlying170 hd
 have hc: (prog).cellsOf 170=3:=by kernel_rfl
 have h1: (prog).cellsOf 9=1:=by kernel_rfl
 rw[hc] at aS
 rw[h1] at gP
 have hm:xs.map (·.1)= [.lit (.string mc), .lit (.string lu), .lit (.string aJ)]:=by
  have:=congrArg Prod.fst hx
  unfold wH at this
  simp only[DataW.agg.injEq] at this
  exact this.symm
 have h0:=gP 0 oM
 have h2:=gP 1 oM
 have h3:=gP 2 oM
 rw[List.getElem?_eq_getElem oM] at h0 h2 h3
 obtain⟨s0,hs0,K3,-⟩:=DataW.trod_string underlying9 h0
 obtain⟨s1,qp,K4,-⟩:=DataW.trod_string underlying9 h2
 obtain⟨s2,eL,z_,-⟩:=DataW.trod_string underlying9 h3
 match xs,jO,hm,K3,K4,z_ with
 | [x0,x1,x2],_,hm,K3,K4,z_=>
  simp only[List.map_cons,List.map_nil,List.cons.injEq,and_true] at hm
  simp only[List.getElem_cons_zero,List.getElem_cons_succ] at K3 K4 z_
  obtain⟨m0,m1,m2⟩:=hm
  rw[K3] at m0
  rw[K4] at m1
  rw[z_] at m2
  simp only[DataW.lit.injEq,Lit.string.injEq] at m0 m1 m2
  match cs,aS with
  | [c0,c1,c2],_=>
   simp only[Nat.zero_mul,List.drop_zero,List.take_succ_cons,List.take_zero,List.cons.injEq,and_true,Nat.one_mul,List.drop_succ_cons,Nat.reduceMul] at hs0 qp eL
   rw[hs0,qp,eL,←m0,←m1,←m2]
   rfl
theorem Ju_ {W:World}: ∀ {laid:List (String×DataW Unit)} {ps:List MemPlace},DataW.LaidVars prog W laid ps→("sediment/disk.order",wH)∈laid→oX W
 | [],_,_,hm=>by cases hm
 | (n',d')::rest,ps,h,hm=>by
  obtain⟨g',t',cs,fuel,p,q,xx,zt,oB,hd,hr,-⟩:=h
  rcases List.mem_cons.1 hm with hm|hm
  ·cases hm
   have hg: (prog).globalNamed "sediment/disk.order" =some 0:=by kernel_rfl
   have Jy: ((prog).globals[(0:Nat)]?).map (·.type)=some 170:=by kernel_rfl
   obtain rfl:=Option.some.inj (hg.symm.trans xx)
   obtain rfl:=Option.some.inj (Jy.symm.trans zt)
   have df:=Mb hd
   simp only[World.var?,hg,Option.bind_some] at oB
   split at oB
   ·rename_i cs' e f hb
    cases oB
    refine⟨e,f, ?_⟩
    rw[hb]
    congr 2
    apply Array.ext'
    rw[df]
   cases oB
  exact Ju_ hr hm
end Go.Proofs
end
section
open Go Go.Proofs Go.Sx Go.StP Go.RefP
namespace Go.Proofs
theorem NewS.dk {bd:Nat} {R:Option BkL×Nat×DiskL} {N:Nat} {v:Value} {D:aB} (h:NewS bd R N v D) (hn: (keys D).Nodup): ∃G,G.bd=bd∧DkA D G R.2.2 N:=by
 unfold NewS at h
 cases hR:R.1 with
 |none=>rw[hR] at h;exact h.2
 |some B=>
  rw[hR] at h
  obtain⟨bo,-,hP⟩:=h
  exact hP.dk hn
def YA {X Y:aB} (h: (keys (X++Y)).Nodup): (keys X).Nodup:=by
 rw[ae] at h
 exact(List.nodup_append.1 h).1
def Rg {S:DiskL} {B:BkL} (h: (dF S).1=some B):bV B.t B.l=true∧B.n=B.l.length:=by
 unfold dF at h
 split at h
 ·cases h
 split at h
 ·cases h
 rename_i p hb
 have hr:=(CR (t:=p.1) (l:=p.2.1) (a:=p.2.2) hb).2.1
 unfold endB at h
 simp only at h
 generalize (if p.2.2< (da S).1.length then bN (da S).2.2 aJ aL ((da S).1.take p.2.2) false else(0,(da S).2.2))=q at h
 split at h
 ·cases h
 split at h
 ·cases h
 cases h
 exact⟨hr,rfl⟩
def Wh {n:Nat} {X Y:aB} (h:New n (X++Y)):New n X:=New.of_le fun c hc=>h.le c (by rw[ae];exact bl _ hc)
def UE {n:Nat} {X Y:aB} (h:New n (X++Y)):New n Y:=New.of_le fun c hc=>h.le c (by rw[ae];exact db _ hc)
def Wi_ (l:List RefL):lw l l=true:=by unfold lw;simp
structure TwG where
 S:DiskL
 G:DkG
 X:aB
 Y:aB
def cA:=aN (aN (aN @bB @bA) (aN @Sx.tup2_0 @Sx.tup2_1)) (aN (aN @tup3_0 @tup3_1) (aN @tup3_2 @nX))
def MT (v0 v1:Value) (acts:List AtL) (l:List FiL) (c:UInt8) (p:PkL) (w:World) (hG:oX w) (hC:GlobC w) (I4:AtSl w v0 acts) (rU: ∀a,a∈acts→PkS w a.picks.v a.picks.l) (hv:FiSl w v1 l) (hb:FiB l) (hp:PkS w p.v p.l):
  Rets prog 12 #[v0,v1,v8 c,p.v] w (fun v D=>v= .bool true∧D= []):=by
 have lnp:=hp.len
 have ln:=hv.len
 refine Rets.enterV func12 rfl (rs:= [.tmp 8]) results12 ntmps12 ?_
 refine kf ?_
 refine kz [1000008] @cA ?_
 refine Ow.callFV rfl call36 (fun w' aA=>I8 w' (li hG aA trivial) (GlobC.of hC aA (by simp[keys]))) ?_
 refine ko @cA ?_
 cases qk:decide ((100:Int)< (p.l.length:Int)) with
 |true=>
  refine ky (aN @cA (aN @lnp @qk)) ?_
  refine Ow.callFV rfl call36 (fun w' aA=>I8 w' (li hG aA trivial) (GlobC.of hC aA (by simp[keys]))) ?_
  refine ko @cA ?_
  refine ky @cA ?_
  refine⟨_,(ke @cA),trivial, ?_⟩
  rfl
 |false=>
  have fy:=of_decide_eq_false qk
  refine kz [1000008] (aN @cA (aN @lnp @qk)) ?_
  refine Ow.callFV rfl call52 (fun w' aA=>Nh v1 (.slice none 0 0) l [] w' (hv.oldN aA trivial) hb (SlV.nil w') (by simp)) ?_
  cases jH:vq l [] with
  |true=>
   refine ko @cA ?_
   refine ky @cA ?_
   refine Ow.callFV rfl call36 (fun w' aA=>I8 w' (li hG aA trivial) (GlobC.of hC aA (by simp[keys]))) ?_
   refine ko @cA ?_
   refine ky @cA ?_
   refine⟨_,(ke @cA),trivial, ?_⟩
   rfl
  |false=>
   obtain⟨eK,-,zl⟩:=Ua jH
   refine ko @cA ?_
   refine kz [1000008] @cA ?_
   refine Ow.callC rfl rfl call45 (fun w' aA=>OK v0 acts w' (li hG aA trivial) (GlobC.of hC aA (by simp[keys])) (I4.oldN aA trivial) (fun a ha w2 L h2 hN=>((rU a ha).old aA fun _ _ _=>(by simp[keys])).old h2 fun hl b hb=>hN.not (((rU a ha).old aA fun _ _ _=>(by simp[keys])).blk hl hb))) (fun B0 v3 D0 tC zX lO Gk=> ?_)
   obtain⟨bd0,bo0,N0,hN0',rfl,lP⟩:=Gk
   rw[List.nil_append]
   have qI:New w.heap.size D0:=lO.mono zX
   have hpi:=YJ acts
   refine ko @cA ?_
   refine kz [1000008] (aN @cA @ln) ?_
   refine Cw.cutO (G:=TwG) [9,33,34,35,36,37] (fun g=> [(9,vp g.G.bd 0)]) (fun g=>g.X++g.Y) (fun g=>DkA g.X g.G g.S 2000∧WelS g.S∧ct 150000 g.S∧New w.heap.size g.X∧New w.heap.size g.Y) ?_ ?_
   ·cases tS:decide ((0:Int)< (l.length:Int)) with
    |true=>
     refine ky (aN @cA (aN @ln @tS)) ?_
     refine Ow.callC rfl rfl call53 (fun w' aA=>VX 1000000 v1 l w' (by decide) (li hG aA qI) (hv.oldN aA qI) oM hb) (fun B1 v4 D1 eF dV bX bu=> ?_)
     obtain⟨G1,rfl,ai⟩:=bu
     refine Ow.permL (M:=D1++D0) pM ?_
     refine ko @cA ?_
     refine ky @cA ?_
     exact CutO.mk ⟨ofD 1000000 l,G1,D1,D0⟩ ⟨⟨ai,El _ l,(ZY _ l fun f hf=>by have:=(zl f hf).1;omega).mono oM⟩,WelS.of ai.ok,Z7 _ l fun f hf=>by have:=(zl f hf).2;omega,bX.mono dV,qI⟩ rfl rfl
    |false=>
     refine Cw.world fun wz gG=> ?_
     obtain⟨G1,rfl,eF⟩:=lP.dk gG.nodup
     clear gG wz
     refine ky (aN @cA (aN @ln @tS)) ?_
     exact CutO.mk ⟨(nZ acts).1,G1,D0,[]⟩ ⟨eF.le hN0',hpi.wel,hpi.len,qI,trivial⟩ (by rw[List.append_nil]) rfl
   intro g j hg
   refine kv ?_
   clear lP lO qI hpi
   obtain⟨S,G,X,Y⟩:=g
   simp only at hg ⊢
   obtain⟨hA,hwl,HY,hN,xa⟩:=hg
   have fV:=hN.app xa
   refine ky @cA ?_
   refine Ow.callX (X:=X) (Y:=Y) rfl rfl rfl call49 (fun w' aA aj ad=>KR X G S p.v p.l w' aj ad (hA).P (li hG aA (fV)) (Is hG hN) ((IK (q:=(S,p.l)) (hA).B 3).b oM) (hp.old aA fun hl b hb=>New.not (fV) (hp.blk hl hb)) (fun hl b hb=>⟨Nat.lt_of_lt_of_le (hp.blk hl hb) aA.size,New.not (hN) (hp.blk hl hb)⟩) oM (fun k hk=>⟨((hA).H k).2,(hA).pend oM k hk⟩)) (fun v72 X7 ox jD=> ?_)
   obtain⟨G7,G_,xc⟩:=jD
   have mF:New w.heap.size X7:=vR ox hN
   have mB:DkA X7 G7 (gl S p.l) 2000:=⟨xc,JQ hA.H _,Kr hA.B _⟩
   have fZ:=hwl.crash xc.ok
   have qY:=DU HY p.l
   rw[←G_]
   clear G_ ox hA hwl HY hN fV
   generalize gl S p.l=S7 at*
   have hN7r:=mF.app xa
   have hr8:=La c 9 (by decide)
   have hn9: (((c%9).toNat:Nat):Int)<256:=by have:=(c%9).toNat_lt;omega
   refine ko @cA ?_
   refine ky (aN @cA @hr8) ?_
   refine Ow.callX (X:=X7) (Y:=Y) rfl rfl rfl call47 (fun w' aA aj ad=>R4 X7 G7 S7 (((c%9).toNat:Nat):Int) w' aj ad mB.P oM) (fun v48 X8 GS Gn=> ?_)
   obtain⟨-,G8,H1,ku⟩:=Gn
   have m_:=fZ.fuse ku.ok
   have hl8:ct 150000 {S7 with fuse:=(((c%9).toNat:Nat):Int),fused:=decide (0≤ (((c%9).toNat:Nat):Int))}:=AJ qY rfl
   generalize xh: ({S7 with fuse:=(((c%9).toNat:Nat):Int),fused:=decide (0≤ (((c%9).toNat:Nat):Int))}:DiskL)=S8 at*
   have JT:DkA X8 G8 S8 2000:=⟨ku,pT mB.H (by rw[←xh]),ri mB.B (by rw[←xh])⟩
   have rM:=vR GS mF
   have Ge:=rM.app xa
   rw[←H1]
   clear xc ku mB fZ qY mF hN7r GS H1 xh S7
   refine ko @cA ?_
   refine ky @cA ?_
   refine Ow.callX (X:=X8) (Y:=Y) rfl rfl rfl call50 (fun w' aA aj ad=>yj X8 G8 S8 2000 w' aj ad JT oM (GlobC.of hC aA (lD hC Ge)) (lD hC rM) (Nat.lt_of_le_of_lt (AX hl8 _ _) (by decide))) (fun v9 X9 qE p7=> ?_)
   refine Ow.world fun wz gG=> ?_
   obtain⟨G9,H2,tE⟩:=p7.dk (YA gG.nodup)
   have jN:=m_.open
   have hl9:=wZ m_ hl8 (by decide)
   have tI:=vR qE rM
   have xZ:=tI.app xa
   rw[←H2]
   clear gG wz p7 qE H2 JT m_ hl8 rM Ge
   generalize (dF S8).2.2=S9 at*
   refine ko @cA ?_
   refine ky @cA ?_
   refine Ow.callX (X:=X9) (Y:=Y) rfl rfl rfl call49 (fun w' aA aj ad=>KR X9 G9 S9 p.v p.l w' aj ad (tE).P (li hG aA (xZ)) (Is hG tI) ((IK (q:=(S9,p.l)) (tE).B 3).b oM) (hp.old aA fun hl b hb=>New.not (xZ) (hp.blk hl hb)) (fun hl b hb=>⟨Nat.lt_of_lt_of_le (hp.blk hl hb) aA.size,New.not (tI) (hp.blk hl hb)⟩) oM (fun k hk=>⟨((tE).H k).2,(tE).pend oM k hk⟩)) (fun v10 X10 nt xf=> ?_)
   obtain⟨G10,ug,xb⟩:=xf
   have nw:New w.heap.size X10:=vR nt tI
   have ub:=nw.app xa
   have GL:DkA X10 G10 (gl S9 p.l) 2084:=⟨xb,JQ tE.H _,Kr tE.B _⟩
   have fQ:=jN.crash xb.ok
   have y7:=DU hl9 p.l
   have H7:=Rt S9 p.l
   rw[←ug]
   clear ug nt tE jN hl9 tI xZ
   generalize gl S9 p.l=S10 at*
   refine ko @cA ?_
   refine ky @cA ?_
   refine Ow.callX (X:=X10) (Y:=Y) rfl rfl rfl call50 (fun w' aA aj ad=>yj X10 G10 S10 2084 w' aj ad GL oM (GlobC.of hC aA (lD hC ub)) (lD hC nw) (Nat.lt_of_le_of_lt (AX y7 _ _) (by decide))) (fun v11 X11 GP tK=> ?_)
   have htw:=Sq fQ.good H7
   have Jn:=fun B=>Rg (S:=S10) (B:=B)
   have y8:=wZ fQ y7 (by decide)
   have tH:=vR GP nw
   have uc:=tH.app xa
   unfold NewS at tK
   unfold uK at htw
   clear GP GL fQ y7 nw ub H7 xb
   generalize dF S10=R at*
   obtain⟨ro,re,S11⟩:=R
   simp only at htw Jn y8 tK
   obtain⟨t1,t2,t3⟩:=htw
   cases ro with
   |none=>
    obtain⟨rfl,G11,qN,tD⟩:=tK
    rw[←qN]
    refine ko @cA ?_
    refine ky @cA ?_
    refine Ow.callC rfl rfl call63 (fun w' aA=>KC w' G11 S11 ((tD.P.mono fun b o h=>bZ h).world aA) (li hG aA uc) (tD.b oM)) (fun B12 v12 D12 hA12 mC jg qK=> ?_)
    have qF:New w.heap.size D12:=jg.mono mC
    refine Ow.permL (M:=X11++ (Y++D12)) pM ?_
    have Gj:=xa.app qF
    have Gb:=tH.app Gj
    refine ko @cA ?_
    refine ky @cA ?_
    refine Ow.callX (X:=X11) (Y:=Y++D12) rfl rfl rfl call50 (fun w' aA aj ad=>yj X11 G11 S11 2168 w' aj ad tD oM (GlobC.of hC aA (lD hC Gb)) (lD hC tH) (Nat.lt_of_le_of_lt (AX y8 _ _) (by decide))) (fun v13 X13 kl jh=> ?_)
    have qG:=vR kl tH
    have jC:=qG.app Gj
    have dg: (j8 S11).length≤3000000:=JH (tD.b oM) 3 (ap _)
    unfold NewS at jh
    rw[t1] at jh
    obtain⟨rfl,G13,qO,GM⟩:=jh
    rw[t2,←qO]
    clear kl
    generalize (dF S11).2.2=S13 at*
    have heq: ((re:Int)==(re:Int))=true:=beq_self_eq_true _
    refine ko @cA ?_
    refine Ow.callFV rfl call36 (fun w' aA=>I8 w' (li hG aA jC) (GlobC.of hC aA (lD hC jC))) ?_
    refine ko (aN @cA @heq) ?_
    refine Ow.callFV rfl call39 (fun w' aA=>Wp_ w') ?_
    refine ko @cA ?_
    refine Ow.callFV rfl call39 (fun w' aA=>Wp_ w') ?_
    refine ko @cA ?_
    refine Ow.callFV rfl call38 (fun w' aA=>DP (.slice none 0 0) (.slice none 0 0) (.slice none 0 0) (.slice none 0 0) [] [] [] [] w' (SlV.nil w') (SlV.nil w') (SlV.nil w') (SlV.nil w') (by decide) (by decide) (by decide) (by decide)) ?_
    rw[show(lw [] []&&lw [] [])=true from rfl]
    refine ko @cA ?_
    refine Ow.callC rfl rfl call63 (fun w' aA=>KC w' G13 S13 ((GM.P.mono fun b o h=>bZ h).world aA) (li hG aA jC) (GM.b oM)) (fun B14 v14 D14 hA14 xX qH xg=> ?_)
    refine ko @cA ?_
    refine Ow.callFV rfl call62 (fun w' aA=>QC_ v12 v14 (j8 S11) (j8 S13) w' ((qK.mono (fun q hq=>by simp[hq])).slV (z:=fi0) aA rfl rfl oK) ((xg.mono (fun q hq=>by simp[hq])).slV (z:=fi0) aA rfl rfl oK) oM) ?_
    rw[aW (show j8 S11=j8 S13 from t3.symm)]
    refine ko @cA ?_
    refine ky @cA ?_
    refine⟨_,(ke @cA),(jC.app (qH.mono xX)), ?_⟩
    rfl
   |some B=>
    obtain⟨bo,rfl,G11,vt,vl,D,K,qN,xY⟩:=tK
    obtain⟨hr,hnB⟩:=Jn B rfl
    obtain⟨hbt,fE,-,-,-⟩:=PQ hr
    have Hn: (X11++Y).Perm (D++ ((bo,Obj.cells #[vp G11.bd 0,vt,vl,vi (B.n:Nat)] 151 (0,0)):: (K++Y))):=(xY.perm.append_right Y).trans pM
    have hNp:=uc.perm Hn
    have kr:=Wh hNp
    have hNK:=UE hNp
    refine Ow.permL Hn.symm ?_
    rw[←qN]
    have dg: (j8 S11).length≤3000000:=JH (xY.D.b oM) 3 (ap _)
    refine ko @cA ?_
    refine ky @cA ?_
    refine Ow.callC rfl rfl call63 (fun w' aA=>KC w' G11 S11 ((xY.D.P.mono fun b o h=>bZ h).world aA) (li hG aA hNp) (xY.D.b oM)) (fun B12 v12 D12 hA12 mC jg qK=> ?_)
    have qF:New w.heap.size D12:=jg.mono mC
    refine Ow.permL (M:=D++ ((bo, .cells #[vp G11.bd 0,vt,vl,vi (B.n:Nat)] 151 (0,0)):: (K++ (Y++D12)))) pM ?_
    have Gh:New w.heap.size ((bo,Obj.cells #[vp G11.bd 0,vt,vl,vi (B.n:Nat)] 151 (0,0)):: (K++ (Y++D12))):=by
     have:=hNK.app qF
     rw[List.cons_append,List.append_assoc] at this
     exact this
    have hNp2:=kr.app Gh
    refine ko @cA ?_
    refine ky @cA ?_
    refine Ow.callX (X:=D) (Y:=(bo, .cells #[vp G11.bd 0,vt,vl,vi (B.n:Nat)] 151 (0,0)):: (K++ (Y++D12))) rfl rfl rfl call50 (fun w' aA aj ad=>yj D G11 S11 2168 w' aj ad xY.D oM (GlobC.of hC aA (lD hC hNp2)) (lD hC kr) (Nat.lt_of_le_of_lt (AX y8 _ _) (by decide))) (fun v13 X13 kl jh=> ?_)
    have qG:=vR kl kr
    have jC:=qG.app Gh
    unfold NewS at jh
    rw[t1] at jh
    obtain⟨bo2,rfl,G13,vt2,vl2,D2,K2,qO,cZ⟩:=jh
    clear kl
    generalize (dF S11).2.2=S13 at*
    have Ho: (X13++ ((bo,Obj.cells #[vp G11.bd 0,vt,vl,vi (B.n:Nat)] 151 (0,0)):: (K++ (Y++D12)))).Perm (D2++ ((bo2,Obj.cells #[vp G13.bd 0,vt2,vl2,vi (B.n:Nat)] 151 (0,0)):: (bo, .cells #[vp G11.bd 0,vt,vl,vi (B.n:Nat)] 151 (0,0)):: (K2++ (K++ (Y++D12))))):=(cZ.perm.append_right _).trans pM
    have hNF:=jC.perm Ho
    refine Ow.permL Ho.symm ?_
    have heq: ((0:Int)==0)=true:=rfl
    refine ko @cA ?_
    refine Ow.callFV rfl call36 (fun w' aA=>I8 w' (li hG aA hNF) (GlobC.of hC aA (lD hC hNF))) ?_
    refine ko (aN @cA @heq) ?_
    refine Ow.callC rfl rfl call39 (fun w' aA=>KU bo G11.bd B w' ⟨vt,vl,aA.has _ _ (by simp),jX xY.t fun b o hm=>aA.has b o (by simp[hm]),jX xY.l fun b o hm=>aA.has b o (by simp[hm])⟩ oM oM) (fun B20 v20 D20 hA20 hB20 hN20 hS20=> ?_)
    obtain⟨va,vb,rfl,rP,mv⟩:=hS20
    refine ko @cA ?_
    refine Ow.callC rfl rfl call39 (fun w' aA=>KU bo2 G13.bd B w' ⟨vt2,vl2,aA.has _ _ (by simp),jX cZ.t fun b o hm=>aA.has b o (by simp[hm]),jX cZ.l fun b o hm=>aA.has b o (by simp[hm])⟩ oM oM) (fun B21 v21 D21 hA21 hB21 hN21 hS21=> ?_)
    obtain⟨vc,vd,rfl,hgc,tP⟩:=hS21
    refine ko @cA ?_
    refine Ow.callFV rfl call38 (fun w' aA=>DP va vb vc vd B.t B.l B.t B.l w' (jX rP fun b o hm=>aA.has b o (by simp[hm])) (jX mv fun b o hm=>aA.has b o (by simp[hm])) (jX hgc fun b o hm=>aA.has b o (by simp[hm])) (jX tP fun b o hm=>aA.has b o (by simp[hm])) oM oM oM oM) ?_
    rw[Wi_,Wi_,Bool.and_self]
    have dq:=(hNF.app (hN20.mono hB20)).app (hN21.mono hB21)
    rw[←qO] at dq ⊢
    refine ko @cA ?_
    refine Ow.callC rfl rfl call63 (fun w' aA=>KC w' G13 S13 ((cZ.D.P.mono fun b o h=>bZ (bZ (bZ h))).world aA) (li hG aA dq) (cZ.D.b oM)) (fun B14 v14 D14 hA14 xX qH xg=> ?_)
    refine ko @cA ?_
    refine Ow.callFV rfl call62 (fun w' aA=>QC_ v12 v14 (j8 S11) (j8 S13) w' ((qK.mono (fun q hq=>by simp[hq])).slV (z:=fi0) aA rfl rfl oK) ((xg.mono (fun q hq=>by simp[hq])).slV (z:=fi0) aA rfl rfl oK) oM) ?_
    rw[aW (show j8 S11=j8 S13 from t3.symm)]
    refine ko @cA ?_
    refine ky @cA ?_
    refine⟨_,(ke @cA),(dq.app (qH.mono xX)), ?_⟩
    rfl
end Go.Proofs
end
section
open Go Go.Proofs Go.Sx Go.StP
open Go.ChangeShapes Go.WideShapes Go.ChangeAt Go.RowKit Go.ChangeMaps
namespace Go.Proofs
def VN {H:Type} {tell:TypeId×Value→H} {W:World} {base:Nat} {sp:Nat→Bool} {cP:Bool} {n:Nat} {cs:List Value} {y:DataW H×List MemPlace}
  (h:DataW.trod tell prog W base sp cP n 24 cs=some y): ∃i:IdL,cs=i.l.map v8:=by
 obtain⟨xs,m,-,-,aS,jO,gP⟩:=DataW.trod_array underlying24 h
 have hc: (prog).cellsOf 24=32:=by kernel_rfl
 have h1: (prog).cellsOf 5=1:=by kernel_rfl
 rw[hc] at aS
 rw[h1] at gP
 have uo: ∀i (hi:i<cs.length),∃x:UInt8,cs[i]=v8 x:=by
  intro i hi
  have h2:=gP i oM
  rw[List.getElem?_eq_getElem oM,Nat.mul_one,List.drop_eq_getElem_cons hi,List.take_succ_cons,List.take_zero] at h2
  obtain⟨z,hz,-,hw⟩:=DataW.trod_int underlying5 h2
  simp only[List.cons.injEq,and_true] at hz
  rw[hz]
  simp only[Lit.wf,Bool.and_eq_true,decide_eq_true_eq] at hw
  have aP:0≤z:=by simpa [IntKind.min,IntKind.bits,IntKind.signed] using hw.1
  have bR:z≤255:=by simpa [IntKind.max,IntKind.bits,IntKind.signed] using hw.2
  refine⟨UInt8.ofNat z.toNat, ?_⟩
  unfold v8
  rw[UInt8.toNat_ofNat',Nat.mod_eq_of_lt oM]
  congr 1;omega
 have hl: ∃l:List UInt8,cs=l.map v8:=by
  clear gP aS jO h
  induction cs with
  |nil=>exact⟨[],rfl⟩
  |cons c r ih=>
   obtain⟨x,hx⟩:=uo 0 (by simp)
   obtain⟨l,hl⟩:=ih (fun i hi=>by have:=uo (i+1) (by simpa using hi);simpa using this)
   exact⟨x::l,by rw[hl];simp at hx;simp[hx]⟩
 obtain⟨l,rfl⟩:=hl
 exact⟨⟨l,by simpa using aS⟩,rfl⟩
def ZF {H:Type} {tell:TypeId×Value→H} {W:World} {base:Nat} {sp:Nat→Bool} {cP:Bool} (n:Nat) (cs:List Value) (y:DataW H×List MemPlace)
  (h:DataW.trod tell prog W base sp cP n 67 cs=some y): ∃a:AtL,cs=atC a∧PkS W a.picks.v a.picks.l∧(-9223372036854775808≤a.n∧a.n<9223372036854775808):=by
 obtain⟨xs,m,-,-,aS,jO,gP⟩:=DataW.trod_struct underlying67 h
 have hc: (prog).cellsOf 67=37:=by kernel_rfl
 have Jb: (prog).cellsOf 3=1:=by kernel_rfl
 have df: (prog).cellsOf 9=1:=by kernel_rfl
 have Ja: (prog).cellsOf 24=32:=by kernel_rfl
 have hcb: (prog).cellsOf 4=1:=by kernel_rfl
 have uk: (prog).cellsOf 65=1:=by kernel_rfl
 rw[hc] at aS
 have jO:xs.length=6:=jO
 have h0:DataW.trod tell prog W base sp cP m 3 ((cs.drop 0).take ((prog).cellsOf 3))=xs[0]? :=gP 0 _ rfl
 rw[Jb,List.getElem?_eq_getElem oM] at h0
 have h1:DataW.trod tell prog W base sp cP m 3 ((cs.drop 1).take ((prog).cellsOf 3))=xs[1]? :=gP 1 _ rfl
 rw[Jb,List.getElem?_eq_getElem oM] at h1
 have h2:DataW.trod tell prog W base sp cP m 9 ((cs.drop 2).take ((prog).cellsOf 9))=xs[2]? :=gP 2 _ rfl
 rw[df,List.getElem?_eq_getElem oM] at h2
 have h3:DataW.trod tell prog W base sp cP m 24 ((cs.drop 3).take ((prog).cellsOf 24))=xs[3]? :=gP 3 _ rfl
 rw[Ja,List.getElem?_eq_getElem oM] at h3
 have h4:DataW.trod tell prog W base sp cP m 4 ((cs.drop 35).take ((prog).cellsOf 4))=xs[4]? :=gP 4 _ rfl
 rw[hcb,List.getElem?_eq_getElem oM] at h4
 have h5:DataW.trod tell prog W base sp cP m 65 ((cs.drop 36).take ((prog).cellsOf 65))=xs[5]? :=gP 5 _ rfl
 rw[uk,List.getElem?_eq_getElem oM] at h5
 obtain⟨k,hk,-,-⟩:=DataW.trod_int underlying3 h0
 obtain⟨i,hi,-,hiw⟩:=DataW.trod_int underlying3 h1
 obtain⟨u,hu,-,-⟩:=DataW.trod_string underlying9 h2
 obtain⟨d,hd⟩:=VN h3
 obtain⟨b,hb,-⟩:=DataW.trod_bool underlying4 h4
 obtain⟨p,hp,yM⟩:=Fu h5
 refine⟨⟨k,i,u.data.toList,d,b,p⟩, ?_,yM, ?_⟩
 ·have e1:cs=cs.take 1++ ((cs.drop 1).take 1++ ((cs.drop 2).take 1++ ((cs.drop 3).take 32++ ((cs.drop 35).take 1++ (cs.drop 36).take 1)))):=by
   have g5: (cs.drop 36).take 1=cs.drop 36:=List.take_of_length_le (by rw[List.length_drop];omega)
   have g4: (cs.drop 35).take 1++cs.drop 36=cs.drop 35:=by rw[show cs.drop 36=(cs.drop 35).drop 1 by rw[List.drop_drop]];exact List.take_append_drop _ _
   have g3: (cs.drop 3).take 32++cs.drop 35=cs.drop 3:=by rw[show cs.drop 35=(cs.drop 3).drop 32 by rw[List.drop_drop]];exact List.take_append_drop _ _
   have g2: (cs.drop 2).take 1++cs.drop 3=cs.drop 2:=by rw[show cs.drop 3=(cs.drop 2).drop 1 by rw[List.drop_drop]];exact List.take_append_drop _ _
   have g1: (cs.drop 1).take 1++cs.drop 2=cs.drop 1:=by rw[show cs.drop 2=(cs.drop 1).drop 1 by rw[List.drop_drop]];exact List.take_append_drop _ _
   rw[g5,g4,g3,g2,g1,List.take_append_drop]
  rw[List.drop_zero] at hk
  rw[e1,hk,hi,hu,hd,hb,hp]
  rfl
 simp only[Lit.wf,Bool.and_eq_true,decide_eq_true_eq] at hiw
 have g1: (-9223372036854775808:Int)≤i:=by simpa [IntKind.min,IntKind.bits,IntKind.signed] using hiw.1
 have g2:i≤9223372036854775807:=by simpa [IntKind.max,IntKind.bits,IntKind.signed] using hiw.2
 exact⟨g1,by show i<9223372036854775808;omega⟩
theorem PkS.oldN {w w':World} {L:aB} {v:Value} {l:List UInt16} (h:PkS w v l) (hw:Hp w L w') (hN:New w.heap.size L):PkS w' v l:=by
 rcases h with h|h
 ·exact .inl (SlV.oldN h hw hN)
 exact .inr h
def Og {H:Type} {enc:TypeId×Value→H} {W:World} {r:Reach} {b0 base:Nat} {sp:Nat→Bool} {cP:Bool} {v:Value} {d:DataW H} {p:List MemPlace}
  (cR:Value.okWide prog W r b0 81 v) (hd:DataW.Trod enc prog W base sp cP 81 v d p):
  ∃l,AtSl W v l∧ ∀a,a∈l→PkS W a.picks.v a.picks.l∧(-9223372036854775808≤a.n∧a.n<9223372036854775808):=by
 obtain⟨a0,len,cap,rfl⟩:=WideShapes.okWide_slice underlying81 cR
 obtain⟨fu,hf⟩:=hd
 obtain⟨l,h1,h2⟩:=EE (z:=at0) (R:=fun a _=>PkS W a.picks.v a.picks.l∧(-9223372036854775808≤a.n∧a.n<9223372036854775808)) underlying81 kR (by decide) Ae cR (fun n cs y h=>ZF n cs y h) hf
 refine⟨l,h1,fun a ha=> ?_⟩
 rcases h2 with rfl| ⟨es,sp',-,h3⟩
 ·cases ha
 obtain⟨i,hi,rfl⟩:=List.getElem_of_mem ha
 obtain⟨-,-,h4⟩:=h3 i hi
 rw[List.getD_eq_getElem?_getD,List.getElem?_eq_getElem hi] at h4
 exact h4
def Zl {n:Int} (h: (Lit.int .u8 n).wf=true): ∃c:UInt8,Value.int .u8 n=v8 c:=by
 simp only[Lit.wf,Bool.and_eq_true,decide_eq_true_eq] at h
 have h1: (0:Int)≤n:=h.1
 have h2:n≤255:=h.2
 refine⟨UInt8.ofNat n.toNat, ?_⟩
 unfold v8
 rw[UInt8.toNat_ofNat',Nat.mod_eq_of_lt oM,Int.toNat_of_nonneg h1]
def Rp {W:World} {r:Reach} {b0:Nat} {v:Value} (cR:Value.okWide prog W r b0 65 v):v.cells.toList= [v]:=by
 obtain⟨a0,len,cap,rfl⟩:=WideShapes.okWide_slice underlying65 cR
 rfl
end Go.Proofs
end
namespace Go.Sx
open Go
def UQ {P:Program} {f:FuncId} {fn:Func} {s:ChangeSpec} {c:OpenClaim}
  (h1: (c.wf (OpenSpec.ofChange s))=true)
  (h2: (laidOutB P)=true)
  (h3: (mapsRowed P)=true)
  (h4: (fn.params.all (P.readableRec ·))=true)
  (h5: (namedTie P c.named s.vars)=true)
  (h6: ((c.stops== []))=true)
  (h7: ((P.stops== []))=true)
  (h8: ((c.knobs== []))=true)
  (h9: ((P.stopKnobs== []))=true)
  (h10: ((c.inPlace==P.inPlace f))=true)
  (h11: ((c.unfollowed==P.unfollowed f))=true)
  (uW: ((c.recurses==P.recurses f))=true)
  (GK: ((c.named==P.varsNamed f))=true)
  (h14: ((c.maps==(fn.params.toList++s.plain.varTypes P).any (P.mapsRec ·)))=true)
  (h15: ((c.ifaces==(fn.params.toList++s.plain.varTypes P).any (P.ifacesRec ·)))=true)
  (rH: ((c.mapsOut==P.mapsAmong fn.resultTypes.toList))=true)
  (h17: ((c.loops==(fn.params.toList++s.plain.varTypes P).any (P.loopsFrom ·)))=true)
  (h18: ((c.wideKeys==(fn.params.toList++s.plain.varTypes P++fn.resultTypes.toList).any (P.wideKeysFrom ·)))=true)
  (h19: (s.vars.all (P.varReadable ·))=true)
  (h20: (fn.resultTypes.all (fun t=>P.readableRec t&&decide (t<P.types.size)))=true)
  (h21: ((c.ifacesOut==fn.resultTypes.toList.any (P.ifacesRec ·)))=true)
  (h22: ((c.loopsOut==fn.resultTypes.toList.any (P.loopsFrom ·)))=true)
  (zV: ((c.plainKeys==P.plainKeys))=true)
  (JR: (c.shortTexts.isNone)=true)
  (h25: (P.stopsHeard)=true)
  (uY: (P.mayEnter)=true)
  (JS: ((c.lifted==P.liftsFinal))=true)
  (h28: ((P.make==some c.make))=true)
  (h29: ((c.kinds==(if c.domain.isEmpty then [] else fn.params.toList.map fun t=>match P.underlying t with|some (.int k)=>some k|_=>none)))=true)
  (h30: ((c.pinned==c.pinnedBy))=true)
  (h31: ((c.veiled==(fn.params.toList++s.plain.varTypes P++fn.resultTypes.toList).any (P.veiledRec ·)))=true)
  (h32: (c.veiledFits P fn.params.toList (fn.params.toList++s.plain.varTypes P++fn.resultTypes.toList))=true):
  joinedFacts P f fn s c=true:=by
 unfold joinedFacts
 exact(Bool.and_eq_true_iff.2 ⟨(Bool.and_eq_true_iff.2 ⟨(Bool.and_eq_true_iff.2 ⟨(Bool.and_eq_true_iff.2 ⟨(Bool.and_eq_true_iff.2 ⟨(Bool.and_eq_true_iff.2 ⟨(Bool.and_eq_true_iff.2 ⟨(Bool.and_eq_true_iff.2 ⟨(Bool.and_eq_true_iff.2 ⟨(Bool.and_eq_true_iff.2 ⟨(Bool.and_eq_true_iff.2 ⟨(Bool.and_eq_true_iff.2 ⟨(Bool.and_eq_true_iff.2 ⟨(Bool.and_eq_true_iff.2 ⟨(Bool.and_eq_true_iff.2 ⟨(Bool.and_eq_true_iff.2 ⟨(Bool.and_eq_true_iff.2 ⟨(Bool.and_eq_true_iff.2 ⟨(Bool.and_eq_true_iff.2 ⟨(Bool.and_eq_true_iff.2 ⟨(Bool.and_eq_true_iff.2 ⟨(Bool.and_eq_true_iff.2 ⟨(Bool.and_eq_true_iff.2 ⟨(Bool.and_eq_true_iff.2 ⟨(Bool.and_eq_true_iff.2 ⟨(Bool.and_eq_true_iff.2 ⟨(Bool.and_eq_true_iff.2 ⟨(Bool.and_eq_true_iff.2 ⟨(Bool.and_eq_true_iff.2 ⟨(Bool.and_eq_true_iff.2 ⟨(Bool.and_eq_true_iff.2 ⟨h1,h2⟩),h3⟩),h4⟩),h5⟩),h6⟩),h7⟩),h8⟩),h9⟩),h10⟩),h11⟩),uW⟩),GK⟩),h14⟩),h15⟩),rH⟩),h17⟩),h18⟩),h19⟩),h20⟩),h21⟩),h22⟩),zV⟩),JR⟩),h25⟩),uY⟩),JS⟩),h28⟩),h29⟩),h30⟩),h31⟩),h32⟩)
end Go.Sx
