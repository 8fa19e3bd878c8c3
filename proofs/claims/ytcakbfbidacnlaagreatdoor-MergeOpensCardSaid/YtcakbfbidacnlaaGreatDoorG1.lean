/-
  Part 1 of the walk: contracts of the functions that the law reaches, and the calculus they stand on.
  No conditions.
-/
import Derived.Test.YtcakbfbidacnlaaGreatDoorG0
import Derived.Test.YtcakbfbidacnlaaGreatDoorProg
import Derived.RangeFuncLeaves
import Derived.RangeFuncIn
import Derived.RangeFuncSeq
import Derived.RangeFuncRecord
import Derived.TacticsIn
import Derived.Lib.Small
import Derived.Lib.Walk
import Derived.Lib.Bytealg
import Derived.Deep.Draws
import Derived.Deep.QuietTactic
namespace Go.Sx
open Go
theorem kd_ {α:Type}: (∀ (a:α) (l:List α),(a::l).length=l.length+1)∧([]:List α).length=0∧(∀ (l:List α) (i:Nat) (a:α),(l.set i a).length=l.length)∧(∀ (l m:List α),(l++m).length=l.length+m.length)∧
  (∀ (n:Nat) (a:α),(List.replicate n a).length=n)∧(∀ (n:Nat) (l:List α),(l.take n).length=min n l.length)∧(∀ (n:Nat) (l:List α),(l.drop n).length=l.length - n)∧ ∀ {β:Type} (f:α→β) (l:List α),(l.map f).length=l.length:=
 ⟨fun _ _=>List.length_cons,List.length_nil,fun _ _ _=>List.length_set,fun _ _=>List.length_append,fun _ _=>List.length_replicate,fun _ _=>List.length_take,fun _ _=>List.length_drop,fun _ _=>List.length_map ..⟩
theorem kc_: (∀n:Nat,((n:Int)).toNat=n)∧(∀l:List UInt8,(a8 l).size=l.length)∧(∀l:List UInt32,(a32 l).size=l.length)∧(∀p:Prop,(p∧p)=p)∧(∀p:Prop,(p∧True)=p)∧ ∀p:Prop,(True∧p)=p:=
 ⟨Int.toNat_natCast,Jk_,w7_,fun _=>and_self _,fun _=>and_true _,fun _=>true_and _⟩
inductive Tag {α:Type} (x:α):Type
 |mk:Tag x
def seqN (F:Fr→zc_→xN_→Prop) (K:xN_) (f:Fr) (L:zc_):Prop:=F f L K
def cdC (v:Value) (A B S:Prop) (_:Tag (A,B,S)):Prop:=
 match v with
 | .bool true=>A
 | .bool false=>B
 |_=>S
abbrev CwS (P:Program) (w0:World) (c:Code) (f:Fr) (L:zc_) (K:xN_) (_:Tag (c,K)):Prop:=Cw P w0 c f L K
abbrev OwS (P:Program) (w0:World) (ops:Array Oper) (md:Md) (l:List Oper) (f:Fr) (L:zc_) (N:Fr→zc_→Prop) (_:Tag (ops,l,N)):Prop:=Ow P w0 ops md l f L N
def bsK (K:xN_) (e:Exit) (f:Fr) (L:zc_):Dep K:=K e f L
def bsN (N:Fr→zc_→Prop) (f:Fr) (L:zc_):Dep N:=N f L
abbrev bsR (K:xN_) (e:Exit) (f:Fr) (L:zc_) (_:Tag K):Prop:=K e f L
abbrev bsM (N:Fr→zc_→Prop) (f:Fr) (L:zc_) (_:Tag N):Prop:=N f L
def owk (P:Program) (w0:World) (ops:Array Oper) (N:Fr→zc_→Prop) (md:Md) (l:List Oper) (f:Fr) (L:zc_):Dep (ops,N):=
 match l with
 | []=>N f L
 |o::r=>Ow P w0 ops md (o::r) f L N
def fid:Code→Nat
 | .seq a _=>fid a
 | .region i _ _=>i
 | .block _ c=>fid c
 | .loop c=>fid c
 | .scope c=>fid c
 |_=>500000
def abL_ (z:List Nat) (c:Code):Bool:=match z with
 | []=>false
 |k::r=>(k==1000000+fid c) ||abL_ r c
def vcC (P:Program) (w0:World) (z:List Nat):Code→Fr→zc_→xN_→Prop
 | .seq x y,f,L,K=>ib (abL_ z (.seq x y)) (CwS P w0 (.seq x y) f L K .mk) (vcC P w0 z x f L (vD_ (seqN (fun f L K=>ib (z.contains 999999) (CwS P w0 y f L K .mk) (vcC P w0 z y f L K)) K) K))
 | .skip,f,L,K=>K .normal f L
 | .exit i,f,L,K=>K (.exit i) f L
 | .goto i,f,L,K=>K (.goto i) f L
 | .ret,f,L,K=>K .ret f L
 | .label l,f,L,K=>ib (z.contains 999999) (Cw P w0 (.label l) f L K) (K .normal f L)
 | .block id c,f,L,K=>vcC P w0 z c f L (kq_ id K)
 | .cond c x y,f,L,K=> ∃b,ev f c= .bool b∧(b=true→vcC P w0 z x f L K)∧(b=false→vcC P w0 z y f L K)
 | .region id ops false,f,L,K=>ib (z.contains id) (Cw P w0 (.region id ops false) f L K) (vcL P w0 ops true .seq ops.toList f L (owk P w0 ops (K .normal)))
 |c,f,L,K=>Cw P w0 c f L K
section
variable {P:Program} {w0:World} {f:Fr} {L:zc_} {K:xN_} {N:Fr→zc_→Prop} {ops:Array Oper} {md:Md} {l:List Oper}
theorem ajQ_ (h:owk P w0 ops N md l f L):Ow P w0 ops md l f L N:=by
 cases l with
 |nil=>exact Ow.nil h
 |cons o r=>exact h
theorem Ow.go (he:md.eff=true) (h:vcL P w0 ops true md l f L (owk P w0 ops (bsN N))):Ow P w0 ops md l f L N:=
 kz_ _ (fun _ _ _ _ h=>ajQ_ h) true l md f L (fun _=>he) h
theorem Ow.goQ (h:vcL P w0 ops false md l f L (owk P w0 ops (bsN N))):Ow P w0 ops md l f L N:=
 kz_ _ (fun _ _ _ _ h=>ajQ_ h) false l md f L (fun e=>by cases e) h
theorem kQ_ {z:List Nat}: ∀ (c:Code) {f:Fr} {L:zc_} {K:xN_},vcC P w0 z c f L K→Cw P w0 c f L K
 | .seq x y,f,L,K,h=>by
   unfold vcC at h
   cases hs:abL_ z (.seq x y) with
   |true=>rw[hs] at h;exact h
   |false=>
    rw[hs] at h
    refine Cw.seq ((kQ_ x h).mono fun e f L k=> ?_)
    cases e with
    |normal=>
     have k':ib (z.contains 999999) (CwS P w0 y f L K .mk) (vcC P w0 z y f L K):=k
     cases hz:z.contains 999999 with
     |true=>rw[hz] at k';exact k'
     |false=>rw[hz] at k';exact kQ_ y k'
    |_=>exact k
 | .skip,_,_,_,h=>Cw.skip h
 | .exit _,_,_,_,h=>Cw.exit h
 | .goto _,_,_,_,h=>Cw.goto h
 | .ret,_,_,_,h=>Cw.ret h
 | .label l,_,_,_,h=>by
   unfold vcC at h
   cases hz:z.contains 999999 with
   |true=>rw[hz] at h;exact h
   |false=>rw[hz] at h;exact Cw.label h
 | .block id c,_,_,_,h=>Cw.block (kQ_ c h)
 | .cond c x y,_,_,_,⟨b,hb,h1,h2⟩=>Cw.cond hb (fun e=>kQ_ x (h1 e)) (fun e=>kQ_ y (h2 e))
 | .region id ops false,f,L,K,h=>by
   obtain⟨l⟩:=ops
   unfold vcC at h
   cases hz:z.contains id with
   |true=>rw[hz] at h;exact h
   |false=>rw[hz] at h;exact Cw.region (Ow.go rfl h)
 | .region _ _ true,_,_,_,h=>h
 | .loop _,_,_,_,h=>h
 | .rangeFunc _ _ _ _,_,_,_,h=>h
 | .scope _,_,_,_,h=>h
 | .refuse _,_,_,_,h=>h
end
class Steps (c:Code):Prop
instance {x y:Code}:Steps (.seq x y):=⟨⟩
instance:Steps .skip:=⟨⟩
instance {i:Nat}:Steps (.exit i):=⟨⟩
instance {i:Nat}:Steps (.goto i):=⟨⟩
instance:Steps .ret:=⟨⟩
instance {i:Nat} {c:Code}:Steps (.block i c):=⟨⟩
instance {c:Operand} {x y:Code}:Steps (.cond c x y):=⟨⟩
instance {i:Nat} {ops:Array Oper}:Steps (.region i ops false):=⟨⟩
theorem Cw.go {P:Program} {w0:World} {c:Code} {f:Fr} {L:zc_} {K:xN_} (z:List Nat) [Steps c] (h:vcC P w0 z c f L (bsK K)):Cw P w0 c f L K:=kQ_ c h
@[congr] theorem amo_ {v v':Value} {A B S:Prop} {t:Tag (A,B,S)} (h:v=v'):cdC v A B S t=cdC v' A B S t:=by rw[h]
section
variable (P:Program) (w0:World) (z:List Nat) (f:Fr) (L:zc_) (K:xN_) (N:Fr→zc_→Prop) (ops:Array Oper) (md:Md)
theorem aiD_ (x y:Code):vcC P w0 [] (.seq x y) f L K=vcC P w0 [] x f L (vD_ (seqN (fun f L K=>vcC P w0 [] y f L K) K) K):=(rfl)
theorem ah8_ (k:Nat) (z:List Nat) (x y:Code):vcC P w0 (k::z) (.seq x y) f L K=ib (abL_ (k::z) (.seq x y)) (CwS P w0 (.seq x y) f L K .mk) (vcC P w0 (k::z) x f L (vD_ (seqN (fun f L K=>ib ((k::z).contains 999999) (CwS P w0 y f L K .mk) (vcC P w0 (k::z) y f L K)) K) K)):=(rfl)
theorem ajc_:vcC P w0 z .skip f L K=K .normal f L:=(rfl)
theorem ah1_ (i:Nat):vcC P w0 z (.exit i) f L K=K (.exit i) f L:=(rfl)
theorem ah0_ (i:Nat):vcC P w0 z (.goto i) f L K=K (.goto i) f L:=(rfl)
theorem ajS_:vcC P w0 z .ret f L K=K .ret f L:=(rfl)
theorem afe_ (i:Nat):vcC P w0 z (.label i) f L K=ib (z.contains 999999) (CwS P w0 (.label i) f L K .mk) (K .normal f L):=(rfl)
theorem ae9_ (i:Nat) (c:Code):vcC P w0 z (.block i c) f L K=vcC P w0 z c f L (kq_ i K):=(rfl)
theorem ais_ (c:Operand) (x y:Code):vcC P w0 z (.cond c x y) f L K=cdC (ev f c) (vcC P w0 z x f L K) (vcC P w0 z y f L K) (vcC P w0 z (.cond c x y) f L K) .mk:=by
 unfold cdC
 split
 ·rename_i h;simp[vcC,h]
 ·rename_i h;simp[vcC,h]
 ·rfl
theorem adQ_ (i:Nat) (l:List Oper):vcC P w0 z (.region i l.toArray false) f L K=ib (z.contains i) (CwS P w0 (.region i l.toArray false) f L K .mk) (vcL P w0 l.toArray true .seq l f L (owk P w0 l.toArray (K .normal))):=(rfl)
theorem afR_ (i:Nat) (ops:Array Oper):vcC P w0 z (.region i ops true) f L K=CwS P w0 (.region i ops true) f L K .mk:=(rfl)
theorem aja_ (c:Code):vcC P w0 z (.loop c) f L K=CwS P w0 (.loop c) f L K .mk:=(rfl)
theorem ago_ (c:Code):vcC P w0 z (.scope c) f L K=CwS P w0 (.scope c) f L K .mk:=(rfl)
theorem ahg_ (x:Operand) (p:Array Tmp) (a c:Code):vcC P w0 z (.rangeFunc x p a c) f L K=CwS P w0 (.rangeFunc x p a c) f L K .mk:=(rfl)
theorem alb_ (F:Fr→zc_→xN_→Prop):bsN (seqN F K) f L=F f L K:=(rfl)
theorem anW_ (e:Exit):bsN (K e) f L=bsK K e f L:=(rfl)
theorem amp_ (c:Code):bsN (fun f L=>Cw P w0 c f L K) f L=CwS P w0 c f L K .mk:=(rfl)
theorem akG_:vD_ N K .normal f L=bsN N f L:=(rfl)
theorem akS_ (i:Nat):vD_ N K (.exit i) f L=K (.exit i) f L:=(rfl)
theorem ak2_ (i:Nat):vD_ N K (.goto i) f L=K (.goto i) f L:=(rfl)
theorem ajU_:vD_ N K .ret f L=K .ret f L:=(rfl)
theorem ain_ (i:Nat):kq_ i K .normal f L=K .normal f L:=(rfl)
theorem ahI_ (i j:Nat):kq_ i K (.goto j) f L=K (.goto j) f L:=(rfl)
theorem aiQ_ (i:Nat):kq_ i K .ret f L=K .ret f L:=(rfl)
theorem ahV_ (i j:Nat):kq_ i K (.exit j) f L=ib (j==i) (K .normal f L) (K (.exit j) f L):=by
 by_cases h:j=i
 ·have e: (j==i)=true:=beq_iff_eq.2 h
  rw[e]
  simp[kq_,ib,h]
 ·have e: (j==i)=false:=beq_eq_false_iff_ne.2 h
  rw[e]
  simp[kq_,ib,h]
theorem ahW_ (A:Nat→Fr→zc_→Prop):vn_ A K .normal f L=K .normal f L:=(rfl)
theorem ajh_ (A:Nat→Fr→zc_→Prop) (i:Nat):vn_ A K (.exit i) f L=K (.exit i) f L:=(rfl)
theorem ai9_ (A:Nat→Fr→zc_→Prop) (i:Nat):vn_ A K (.goto i) f L=bsN (A i) f L:=(rfl)
theorem aiF_ (A:Nat→Fr→zc_→Prop):vn_ A K .ret f L=K .ret f L:=(rfl)
theorem aj1_:owk P w0 ops N md [] f L=bsN N f L:=(rfl)
theorem aln_ (e:Exit):bsK K e f L=bsR K e f L .mk:=(rfl)
theorem akV_:bsN N f L=bsM N f L .mk:=(rfl)
theorem alU_:bsN (bsN N) f L=bsN N f L:=(rfl)
theorem amr_ (e:Exit):bsK (bsK K) e f L=bsK K e f L:=(rfl)
theorem ai5_ (e:Exit):bsK (vD_ N K) e f L=vD_ N (bsK K) e f L:=by cases e<;>rfl
theorem agj_ (i:Nat) (e:Exit):bsK (kq_ i K) e f L=kq_ i (bsK K) e f L:=by cases e<;>rfl
theorem agZ_ (A:Nat→Fr→zc_→Prop) (e:Exit):bsK (vn_ A K) e f L=vn_ A (bsK K) e f L:=by cases e<;>rfl
theorem ai0_ (o:Oper) (r:List Oper):owk P w0 ops N md (o::r) f L=OwS P w0 ops md (o::r) f L N .mk:=(rfl)
end
section
variable (A B S:Prop) (t:Tag (A,B,S))
theorem an1_:cdC (.bool true) A B S t=A:=(rfl)
theorem an4_:cdC (.bool false) A B S t=B:=(rfl)
theorem ajp_ (b:Bool) (h:b=true):cdC (.bool b) A B S t=A:=by rw[h];rfl
theorem ahZ_ (b:Bool) (h:b=false):cdC (.bool b) A B S t=B:=by rw[h];rfl
theorem al7_ (p:Prop) [Decidable p] (h:p):cdC (.bool (decide p)) A B S t=A:=ajp_ A B S t _ (decide_eq_true h)
theorem alZ_ (p:Prop) [Decidable p] (h: ¬p):cdC (.bool (decide p)) A B S t=B:=ahZ_ A B S t _ (decide_eq_false h)
theorem aoi_ (a b:Int) (h:a=b):cdC (.bool (a==b)) A B S t=A:=ajp_ A B S t _ (beq_iff_eq.2 h)
theorem anz_ (a b:Int) (h: ¬a=b):cdC (.bool (a==b)) A B S t=B:=ahZ_ A B S t _ (beq_eq_false_iff_ne.2 h)
theorem an0_ (a b:Int) (h: ¬a=b):cdC (.bool (a !=b)) A B S t=A:=ajp_ A B S t _ (bne_iff_ne.2 h)
theorem aod_ (a b:Int) (h:a=b):cdC (.bool (a !=b)) A B S t=B:=ahZ_ A B S t _ (by rw[h];simp)
end
theorem akb_ (w0:World) (L:zc_) (v:Value):Xl_ w0 L .no v=none:=(rfl)
theorem akg_ (w0:World) (L:zc_) (e:TypeId) (v:Value):Xl_ w0 L (.strBytes e) v=none:=(rfl)
theorem amA_ (v:Value):Vx_ .no v=none:=by unfold Vx_;split<;>first|rfl| (rename_i h;cases h)
theorem ahn_ (c:Code):abL_ [] c=false:=(rfl)
theorem aez_ (k:Nat) (r:List Nat) (c:Code):abL_ (k::r) c=((k==1000000+fid c) ||abL_ r c):=(rfl)
theorem akp_ (a b:Code):fid (.seq a b)=fid a:=(rfl)
theorem aet_ (i:Nat) (o:Array Oper) (d:Bool):fid (.region i o d)=i:=(rfl)
theorem agm_ (i:Nat) (c:Code):fid (.block i c)=fid c:=(rfl)
theorem aiA_ (c:Operand) (x y:Code):fid (.cond c x y)=500000:=(rfl)
theorem aij_ (c:Code):fid (.loop c)=fid c:=(rfl)
theorem agi_ (c:Code):fid (.scope c)=fid c:=(rfl)
theorem ag9_ (i:Nat):fid (.label i)=500000:=(rfl)
theorem ahO_ (i:Nat):fid (.goto i)=500000:=(rfl)
theorem ajx_ (i:Nat):fid (.exit i)=500000:=(rfl)
theorem ah7_:fid .skip=500000:=(rfl)
theorem akN_:fid .ret=500000:=(rfl)
theorem ae7_ (x:Operand) (p:Array Tmp) (a c:Code):fid (.rangeFunc x p a c)=500000:=(rfl)
def allF (j:Nat→Value):Nat→Nat→Fr
 |_,0=> []
 |k,n+1=>j k::allF j (k+1) n
theorem Kj_ (j:Nat→Value) (k:Nat):allF j k 0= []:=(rfl)
theorem X5_ (j:Nat→Value) (k n:Nat):allF j k (n+1)=j k::allF j (k+1) n:=(rfl)
def CutM {G:Type} (n:Nat) (S:G→List (Nat×Value)) (H:G→zc_) (J:G→Prop) (f':Fr) (L':zc_):Prop:=
 ∃g,J g∧L'=H g∧f'=pin (allF (wp_ f') 0 n) (S g)
theorem CutM.mk {G:Type} {n:Nat} {S:G→List (Nat×Value)} {H:G→zc_} {J:G→Prop} {f':Fr} {L':zc_} (g:G) (hJ:J g) (hL:L'=H g) (hf:f'=pin (allF (wp_ f') 0 n) (S g)):CutM n S H J f' L':=⟨g,hJ,hL,hf⟩
theorem Cw.cut {P:Program} {w0:World} {x y:Code} {f:Fr} {L:zc_} {K:xN_} {G:Type} (n:Nat) (S:G→List (Nat×Value)) (H:G→zc_) (J:G→Prop) (h1:Cw P w0 x f L (vD_ (CutM n S H J) K))
  (h2: ∀ (g:G) (j:Nat→Value),J g→Cw P w0 y (pin (allF j 0 n) (S g)) (H g) K):Cw P w0 (.seq x y) f L K:=by
 refine Cw.seq (h1.mono fun e f L k=> ?_)
 cases e with
 |normal=>
  obtain⟨g,hJ,rfl,hf⟩:=k
  have:=h2 g (wp_ f) hJ
  rw[←hf] at this
  exact this
 |_=>exact k
theorem cdC.splitp {p:Prop} [Decidable p] {A B S:Prop} {t:Tag (A,B,S)} (ht:p→A) (he: ¬p→B):cdC (.bool (decide p)) A B S t:=by
 by_cases h:p
 ·rw[al7_ A B S t p h];exact ht h
 ·rw[alZ_ A B S t p h];exact he h
theorem cdC.split {b:Bool} {A B S:Prop} {t:Tag (A,B,S)} (ht:b=true→A) (he:b=false→B):cdC (.bool b) A B S t:=by
 cases b with
 |true=>exact ht rfl
 |false=>exact he rfl
end Go.Sx
section
namespace Go.Sx
open Go
set_option maxRecDepth 100000
set_option linter.defProp false
def S0:=And.intro (And.intro (And.intro (And.intro (And.intro (And.intro (@ahQ_) (And.intro (@ajl_) (@akJ_))) (And.intro (@aiE_) (And.intro (@aec_) (@aix_)))) (And.intro (And.intro (@agc_) (And.intro (@ah6_) (@acf_))) (And.intro (And.intro (@VF_) (@Ks_)) (And.intro (@agB_) (@KM_))))) (And.intro (And.intro (And.intro (@ag7_) (And.intro (@aiM_) (@aaX_))) (And.intro (And.intro (@ahp_) (@aac_)) (And.intro (@ajW_) (@ajT_)))) (And.intro (And.intro (@aff_) (And.intro (@abh_) (@agt_))) (And.intro (And.intro (@akY_) (@agW_)) (And.intro (@Xb_) (@Kw_)))))) (And.intro (And.intro (And.intro (And.intro (@ahL_) (And.intro (@aeb_) (@aiq_))) (And.intro (@aeS_) (And.intro (@ag6_) (@akj_)))) (And.intro (And.intro (@ak3_) (And.intro (@Qy_) (@wL_))) (And.intro (And.intro (@abK_) (@ad8_)) (And.intro (@K9_) (@afD_))))) (And.intro (And.intro (And.intro (@ajd_) (And.intro (@aeH_) (@ZZ_))) (And.intro (And.intro (@aan_) (@Xx_)) (And.intro (@agY_) (@ahF_)))) (And.intro (And.intro (@aj2_) (And.intro (@ajb_) (@jt_))) (And.intro (And.intro (@aiY_) (@af0_)) (And.intro (@akw_) (@jm_))))))) (And.intro (And.intro (And.intro (And.intro (And.intro (@jn_) (And.intro (@zl_) (@zm_))) (And.intro (@aaH_) (And.intro (@Xu_) (@aiD_)))) (And.intro (And.intro (@ah8_) (And.intro (@ahn_) (@aez_))) (And.intro (And.intro (@akp_) (@aet_)) (And.intro (@agm_) (@aiA_))))) (And.intro (And.intro (And.intro (@aij_) (And.intro (@agi_) (@ag9_))) (And.intro (And.intro (@ahO_) (@ajx_)) (And.intro (@ah7_) (@akN_)))) (And.intro (And.intro (@ae7_) (And.intro (@ajc_) (@ah1_))) (And.intro (And.intro (@ah0_) (@ajS_)) (And.intro (@afe_) (@ae9_)))))) (And.intro (And.intro (And.intro (And.intro (@ais_) (And.intro (@adQ_) (@afR_))) (And.intro (And.intro (@aja_) (@ago_)) (And.intro (@ahg_) (@alb_)))) (And.intro (And.intro (@akG_) (And.intro (@akS_) (@ak2_))) (And.intro (And.intro (@ajU_) (@ain_)) (And.intro (@ahI_) (@aiQ_))))) (And.intro (And.intro (And.intro (@ahV_) (And.intro (@ahW_) (@ajh_))) (And.intro (And.intro (@ai9_) (@aiF_)) (And.intro (@aj1_) (@ai0_)))) (And.intro (And.intro (@anW_) (And.intro (@amp_) (@alU_))) (And.intro (And.intro (@amr_) (@ai5_)) (And.intro (@agj_) (@agZ_)))))))
def S1:=And.intro (And.intro (And.intro (And.intro (And.intro (And.intro (And.intro (And.intro (@air_) (@ako_)) (And.intro (@akz_) (And.intro (@alV_) (@ale_)))) (And.intro (And.intro (@al9_) (@Z7_)) (And.intro (@Qc_) (And.intro (@afk_) (@afz_))))) (And.intro (And.intro (And.intro (@ad4_) (@abU_)) (And.intro (@ai6_) (And.intro (@Wz_) (@aiK_)))) (And.intro (And.intro (@aiI_) (@beq_true)) (And.intro (@beq_false) (And.intro (@Bool.not_true) (@Bool.not_false)))))) (And.intro (And.intro (And.intro (And.intro (@Md.next_seq) (@Md.next_any)) (And.intro (@Md.next_qui) (And.intro (@Md.next_sof) (@acc_)))) (And.intro (And.intro (@acs_) (@aaJ_)) (And.intro (@Xe_) (And.intro (@Xf_) (@XL_))))) (And.intro (And.intro (And.intro (@alR_) (@alf_)) (And.intro (@aiv_) (And.intro (@aic_) (@ahS_)))) (And.intro (And.intro (@amq_) (And.intro (@akD_) (@ak0_))) (And.intro (@ak9_) (And.intro (@ake_) (@ajY_))))))) (And.intro (And.intro (And.intro (And.intro (And.intro (@aeg_) (@aew_)) (And.intro (@ad1_) (And.intro (@adH_) (@afu_)))) (And.intro (And.intro (@ad3_) (@ad6_)) (And.intro (@XX_) (And.intro (@adF_) (@aeT_))))) (And.intro (And.intro (And.intro (@adC_) (@aeq_)) (And.intro (@aeP_) (And.intro (@adT_) (@afO_)))) (And.intro (And.intro (@abE_) (And.intro (@J5_) (@ad7_))) (And.intro (@Vb_) (And.intro (@K4_) (@Qu_)))))) (And.intro (And.intro (And.intro (And.intro (@Qr_) (@KQ_)) (And.intro (@Ku_) (And.intro (@aeA_) (@Xg_)))) (And.intro (And.intro (@XK_) (@ab4_)) (And.intro (@XF_) (And.intro (@J9_) (@act_))))) (And.intro (And.intro (And.intro (@XM_) (@XN_)) (And.intro (@acE_) (And.intro (@abJ_) (@aba_)))) (And.intro (And.intro (@abV_) (And.intro (@ab1_) (@aex_))) (And.intro (@acp_) (And.intro (@ab6_) (@aaE_)))))))) (And.intro (And.intro (And.intro (And.intro (And.intro (And.intro (@acq_) (@acr_)) (And.intro (@acu_) (And.intro (@acy_) (@aaF_)))) (And.intro (And.intro (@acA_) (@ad9_)) (And.intro (@WM_) (And.intro (@Qt_) (@abO_))))) (And.intro (And.intro (And.intro (@Xj_) (@Xr_)) (And.intro (@Zk_) (And.intro (@w3_) (@Xh_)))) (And.intro (And.intro (@XT_) (And.intro (@aaR_) (@QR_))) (And.intro (@J1_) (And.intro (@V9_) (@QV_)))))) (And.intro (And.intro (And.intro (And.intro (@JO_) (@aas_)) (And.intro (@Q4_) (And.intro (@Ju_) (@Wo_)))) (And.intro (And.intro (@acj_) (@aaS_)) (And.intro (@aa7_) (And.intro (@abW_) (@aev_))))) (And.intro (And.intro (And.intro (@abZ_) (@x0_)) (And.intro (@x4_) (And.intro (@abu_) (@acx_)))) (And.intro (And.intro (@ack_) (And.intro (@aaD_) (@aa5_))) (And.intro (@ab8_) (And.intro (@adL_) (@Wm_))))))) (And.intro (And.intro (And.intro (And.intro (And.intro (@Qp_) (@aa2_)) (And.intro (@XR_) (And.intro (@Xp_) (@w9_)))) (And.intro (And.intro (@Zy_) (@Xy_)) (And.intro (@Xz_) (And.intro (@aa9_) (@Jb_))))) (And.intro (And.intro (And.intro (@Q9_) (@aap_)) (And.intro (@Je_) (And.intro (@Q1_) (@VJ_)))) (And.intro (And.intro (@Q0_) (And.intro (@JR_) (@WW_))) (And.intro (@abD_) (And.intro (@aaN_) (@abM_)))))) (And.intro (And.intro (And.intro (And.intro (@aaP_) (@aeu_)) (And.intro (@abn_) (And.intro (@acl_) (@aaM_)))) (And.intro (And.intro (@aaW_) (@aaA_)) (And.intro (@ach_) (And.intro (@aa0_) (@aa3_))))) (And.intro (And.intro (And.intro (@acg_) (@adZ_)) (And.intro (@aaf_) (And.intro (@Qi_) (@acm_)))) (And.intro (And.intro (@XQ_) (And.intro (@XD_) (@Zg_))) (And.intro (@wU_) (And.intro (@XB_) (@Xi_))))))))) (And.intro (And.intro (And.intro (And.intro (And.intro (And.intro (And.intro (@acv_) (@J2_)) (And.intro (@Ji_) (And.intro (@WS_) (@JD_)))) (And.intro (And.intro (@QN_) (@aav_)) (And.intro (@JI_) (And.intro (@J0_) (@WY_))))) (And.intro (And.intro (And.intro (@afH_) (@af2_)) (And.intro (@aak_) (And.intro (@agE_) (@af6_)))) (And.intro (And.intro (@ahq_) (And.intro (@afr_) (@agy_))) (And.intro (@ahr_) (And.intro (@afn_) (@afc_)))))) (And.intro (And.intro (And.intro (And.intro (@ahK_) (@amC_)) (And.intro (@W5_) (And.intro (@ags_) (@ahu_)))) (And.intro (And.intro (@agS_) (@afx_)) (And.intro (@ag5_) (And.intro (@af4_) (@ag0_))))) (And.intro (And.intro (And.intro (@aka_) (@ahj_)) (And.intro (@akq_) (And.intro (@VW_) (@WD_)))) (And.intro (And.intro (@Xa_) (And.intro (@amG_) (@alB_))) (And.intro (@aje_) (And.intro (@adU_) (@acw_))))))) (And.intro (And.intro (And.intro (And.intro (And.intro (@aa1_) (@abQ_)) (And.intro (@aeM_) (And.intro (@akm_) (@akr_)))) (And.intro (And.intro (@aeZ_) (@aca_)) (And.intro (@Wb_) (And.intro (@VZ_) (@aag_))))) (And.intro (And.intro (And.intro (@abP_) (@aku_)) (And.intro (@akf_) (And.intro (@agK_) (@aaK_)))) (And.intro (And.intro (@VT_) (And.intro (@WV_) (@W3_))) (And.intro (@aa6_) (And.intro (@ajZ_) (@akK_)))))) (And.intro (And.intro (And.intro (And.intro (@afT_) (@abr_)) (And.intro (@Wp_) (And.intro (@W1_) (@WL_)))) (And.intro (And.intro (@abA_) (@amh_)) (And.intro (@amn_) (And.intro (@aia_) (@aeJ_))))) (And.intro (And.intro (And.intro (@abp_) (@abN_)) (And.intro (@ab3_) (And.intro (@adX_) (@aiw_)))) (And.intro (And.intro (@ahR_) (And.intro (@Kq_) (@aj5_))) (And.intro (@aa4_) (And.intro (@K1_) (@jC_)))))))) (And.intro (And.intro (And.intro (And.intro (And.intro (And.intro (@an6_) (@alo_)) (And.intro (@amQ_) (And.intro (@alO_) (@Kx_)))) (And.intro (And.intro (@Xk_) (@xj_)) (And.intro (@Ko_) (And.intro (@Zj_) (@ZI_))))) (And.intro (And.intro (And.intro (@z2_) (@zH_)) (And.intro (@ahE_) (And.intro (@aiO_) (@afZ_)))) (And.intro (And.intro (@ajn_) (And.intro (@Jw_) (@adO_))) (And.intro (@agl_) (And.intro (@aer_) (@ab0_)))))) (And.intro (And.intro (And.intro (And.intro (@ah3_) (@afj_)) (And.intro (@aiC_) (And.intro (@aiy_) (@agk_)))) (And.intro (And.intro (@ahb_) (@am0_)) (And.intro (@amS_) (And.intro (@Option.map_some.{0,0}) (@Option.map_none.{0,0}))))) (And.intro (And.intro (And.intro (@Kt_) (@Vk_)) (And.intro (@ZO_) (And.intro (@aef_) (@KD_)))) (And.intro (And.intro (@Va_) (And.intro (@KO_) (@ahG_))) (And.intro (@aju_) (And.intro (@or_i) (@anv_))))))) (And.intro (And.intro (And.intro (And.intro (And.intro (@Vd_) (@KA_)) (And.intro (@Xm_) (And.intro (@zg_) (@List.cons_append.{0})))) (And.intro (And.intro (@List.nil_append.{0}) (@List.contains_cons.{0})) (And.intro (@List.contains_nil.{0}) (And.intro (@Bool.or_false) (@Bool.false_or))))) (And.intro (And.intro (And.intro (@Bool.or_true) (@Bool.true_or)) (And.intro (@Bool.false_eq_true) (And.intro (@aao_) (@wl_)))) (And.intro (And.intro (@X2_) (And.intro (@adr_) (@ahc_))) (And.intro (@Nat.add_sub_cancel_left) (And.intro (@List.set_set.{0}) (@Int.toNat_natCast)))))) (And.intro (And.intro (And.intro (And.intro (@Nat.mul_one) (@Nat.zero_add)) (And.intro (@Nat.add_zero) (And.intro (@ge_iff_le.{0}) (@gt_iff_lt.{0})))) (And.intro (And.intro (@beq_self_eq_true.{0}) (@an1_)) (And.intro (@an4_) (And.intro (@ajp_) (@ahZ_))))) (And.intro (And.intro (And.intro (@al7_) (@alZ_)) (And.intro (@aoi_) (And.intro (@anz_) (@an0_)))) (And.intro (And.intro (@aod_) (And.intro (@akb_) (@akg_))) (And.intro (@amA_) (And.intro (@aln_) (@akV_)))))))))
end Go.Sx
end
section
open Go Go.Proofs Go.Sx
namespace Go.Proofs
theorem Tryz.ix24:ixT Tryz.prog 24= .sl (false,1):=id (by kernel_rfl)
theorem Tryz.ix23:ixT Tryz.prog 23= .sl (true,6):=id (by kernel_rfl)
theorem Tryz.ix22:ixT Tryz.prog 22= .sl (true,3):=id (by kernel_rfl)
theorem Tryz.ix9:ixT Tryz.prog 9= .str:=id (by kernel_rfl)
theorem Tryz.ix75:ixT Tryz.prog 75= .sl (true,32):=id (by kernel_rfl)
theorem Tryz.ix68:ixT Tryz.prog 68= .sl (false,1):=id (by kernel_rfl)
theorem Tryz.ix82:ixT Tryz.prog 82= .sl (true,35):=id (by kernel_rfl)
theorem Tryz.ix69:ixT Tryz.prog 69= .sl (true,35):=id (by kernel_rfl)
theorem Tryz.ix110:ixT Tryz.prog 110= .arr 3 (false,1):=id (by kernel_rfl)
theorem Tryz.ix107:ixT Tryz.prog 107= .sl (false,1):=id (by kernel_rfl)
theorem Tryz.ix58:ixT Tryz.prog 58= .sl (true,2):=id (by kernel_rfl)
theorem Tryz.ix57:ixT Tryz.prog 57= .arr 3 (true,3):=id (by kernel_rfl)
theorem Tryz.ix54:ixT Tryz.prog 54= .sl (true,4):=id (by kernel_rfl)
theorem Tryz.ix53:ixT Tryz.prog 53= .sl (true,2):=id (by kernel_rfl)
theorem Tryz.ix133:ixT Tryz.prog 133= .sl (true,34):=id (by kernel_rfl)
theorem Tryz.ix65:ixT Tryz.prog 65= .sl (true,2):=id (by kernel_rfl)
theorem Tryz.ix142:ixT Tryz.prog 142= .sl (false,1):=id (by kernel_rfl)
theorem Tryz.ix72:ixT Tryz.prog 72= .sl (true,2):=id (by kernel_rfl)
theorem Tryz.ix151:ixT Tryz.prog 151= .sl (true,34):=id (by kernel_rfl)
theorem Tryz.ix97:ixT Tryz.prog 97= .sl (true,2):=id (by kernel_rfl)
theorem Tryz.ix202:ixT Tryz.prog 202= .sl (false,1):=id (by kernel_rfl)
theorem Tryz.ix203:ixT Tryz.prog 203= .arr 16 (false,1):=id (by kernel_rfl)
theorem Tryz.ix195:ixT Tryz.prog 195= .sl (false,1):=id (by kernel_rfl)
theorem Tryz.ix86:ixT Tryz.prog 86= .arr 32 (false,1):=id (by kernel_rfl)
theorem Tryz.ix249:ixT Tryz.prog 249= .arr 4 (false,1):=id (by kernel_rfl)
theorem Tryz.ix255:ixT Tryz.prog 255= .sl (true,3):=id (by kernel_rfl)
theorem Tryz.ix228:ixT Tryz.prog 228= .sl (true,34):=id (by kernel_rfl)
theorem Tryz.ix265:ixT Tryz.prog 265= .arr 8 (false,1):=id (by kernel_rfl)
theorem Tryz.ix289:ixT Tryz.prog 289= .arr 8 (false,1):=id (by kernel_rfl)
theorem Tryz.ix290:ixT Tryz.prog 290= .arr 64 (false,1):=id (by kernel_rfl)
theorem Tryz.ix313:ixT Tryz.prog 313= .arr 16 (false,1):=id (by kernel_rfl)
theorem Tryz.ix307:ixT Tryz.prog 307= .sl (true,2):=id (by kernel_rfl)
theorem Tryz.ag31:zP_ Tryz.prog 31=some (true,6):=id (by kernel_rfl)
theorem Tryz.ag3:zP_ Tryz.prog 3=some (false,1):=id (by kernel_rfl)
theorem Tryz.ag36:zP_ Tryz.prog 36=some (true,3):=id (by kernel_rfl)
theorem Tryz.ag9:zP_ Tryz.prog 9=some (false,1):=id (by kernel_rfl)
theorem Tryz.ag24:zP_ Tryz.prog 24=some (false,1):=id (by kernel_rfl)
theorem Tryz.ag88:zP_ Tryz.prog 88=some (true,35):=id (by kernel_rfl)
theorem Tryz.ag89:zP_ Tryz.prog 89=some (true,35):=id (by kernel_rfl)
theorem Tryz.ag86:zP_ Tryz.prog 86=some (true,32):=id (by kernel_rfl)
theorem Tryz.ag99:zP_ Tryz.prog 99=some (false,1):=id (by kernel_rfl)
theorem Tryz.ag106:zP_ Tryz.prog 106=some (false,1):=id (by kernel_rfl)
theorem Tryz.ag105:zP_ Tryz.prog 105=some (true,2):=id (by kernel_rfl)
theorem Tryz.ag110:zP_ Tryz.prog 110=some (true,3):=id (by kernel_rfl)
theorem Tryz.ag107:zP_ Tryz.prog 107=some (false,1):=id (by kernel_rfl)
theorem Tryz.ag116:zP_ Tryz.prog 116=some (false,1):=id (by kernel_rfl)
theorem Tryz.ag4:zP_ Tryz.prog 4=some (false,1):=id (by kernel_rfl)
theorem Tryz.ag58:zP_ Tryz.prog 58=some (false,1):=id (by kernel_rfl)
theorem Tryz.ag120:zP_ Tryz.prog 120=some (true,2):=id (by kernel_rfl)
theorem Tryz.ag53:zP_ Tryz.prog 53=some (false,1):=id (by kernel_rfl)
theorem Tryz.ag123:zP_ Tryz.prog 123=some (true,2):=id (by kernel_rfl)
theorem Tryz.ag101:zP_ Tryz.prog 101=some (true,5):=id (by kernel_rfl)
theorem Tryz.ag109:zP_ Tryz.prog 109=some (true,3):=id (by kernel_rfl)
theorem Tryz.ag60:zP_ Tryz.prog 60=some (true,13):=id (by kernel_rfl)
theorem Tryz.ag96:zP_ Tryz.prog 96=some (false,1):=id (by kernel_rfl)
theorem Tryz.ag54:zP_ Tryz.prog 54=some (false,1):=id (by kernel_rfl)
theorem Tryz.ag127:zP_ Tryz.prog 127=some (true,4):=id (by kernel_rfl)
theorem Tryz.ag132:zP_ Tryz.prog 132=some (true,34):=id (by kernel_rfl)
theorem Tryz.ag135:zP_ Tryz.prog 135=some (true,2):=id (by kernel_rfl)
theorem Tryz.ag141:zP_ Tryz.prog 141=some (true,3):=id (by kernel_rfl)
theorem Tryz.ag68:zP_ Tryz.prog 68=some (false,1):=id (by kernel_rfl)
theorem Tryz.ag82:zP_ Tryz.prog 82=some (false,1):=id (by kernel_rfl)
theorem Tryz.ag149:zP_ Tryz.prog 149=some (true,2):=id (by kernel_rfl)
theorem Tryz.ag166:zP_ Tryz.prog 166=some (true,3):=id (by kernel_rfl)
theorem Tryz.ag177:zP_ Tryz.prog 177=some (true,2):=id (by kernel_rfl)
theorem Tryz.ag199:zP_ Tryz.prog 199=some (true,2):=id (by kernel_rfl)
theorem Tryz.ag143:zP_ Tryz.prog 143=some (false,1):=id (by kernel_rfl)
theorem Tryz.ag155:zP_ Tryz.prog 155=some (true,34):=id (by kernel_rfl)
theorem Tryz.ag221:zP_ Tryz.prog 221=some (true,3):=id (by kernel_rfl)
theorem Tryz.ag32:zP_ Tryz.prog 32=some (false,1):=id (by kernel_rfl)
theorem Tryz.ag5:zP_ Tryz.prog 5=some (false,1):=id (by kernel_rfl)
theorem Tryz.ag103:zP_ Tryz.prog 103=some (false,1):=id (by kernel_rfl)
theorem Tryz.ag232:zP_ Tryz.prog 232=some (true,34):=id (by kernel_rfl)
theorem Tryz.ag205:zP_ Tryz.prog 205=some (true,18):=id (by kernel_rfl)
theorem Tryz.ag249:zP_ Tryz.prog 249=some (true,4):=id (by kernel_rfl)
theorem Tryz.ag133:zP_ Tryz.prog 133=some (false,1):=id (by kernel_rfl)
theorem Tryz.ag260:zP_ Tryz.prog 260=some (true,34):=id (by kernel_rfl)
theorem Tryz.ag75:zP_ Tryz.prog 75=some (false,1):=id (by kernel_rfl)
theorem Tryz.ag265:zP_ Tryz.prog 265=some (true,8):=id (by kernel_rfl)
theorem Tryz.ag218:zP_ Tryz.prog 218=some (false,1):=id (by kernel_rfl)
theorem Tryz.ag195:zP_ Tryz.prog 195=some (false,1):=id (by kernel_rfl)
theorem Tryz.ag286:zP_ Tryz.prog 286=some (true,3):=id (by kernel_rfl)
theorem Tryz.ag289:zP_ Tryz.prog 289=some (true,8):=id (by kernel_rfl)
theorem Tryz.ag290:zP_ Tryz.prog 290=some (true,64):=id (by kernel_rfl)
theorem Tryz.ag194:zP_ Tryz.prog 194=some (false,1):=id (by kernel_rfl)
theorem Tryz.ag301:zP_ Tryz.prog 301=some (false,1):=id (by kernel_rfl)
theorem Tryz.ag319:zP_ Tryz.prog 319=some (true,2):=id (by kernel_rfl)
theorem Tryz.ag317:zP_ Tryz.prog 317=some (false,1):=id (by kernel_rfl)
theorem Tryz.ag313:zP_ Tryz.prog 313=some (true,16):=id (by kernel_rfl)
theorem Tryz.zr86:zZ_ Tryz.prog 86=some (.agg (a8 (List.replicate 32 0))):=id (by kernel_rfl)
theorem Tryz.zr199:zZ_ Tryz.prog 199=some (.agg #[(.pointer none),(.slice none 0 0)]):=id (by kernel_rfl)
theorem Tryz.zr5:zZ_ Tryz.prog 5=some (v8 0):=id (by kernel_rfl)
theorem Tryz.zr249:zZ_ Tryz.prog 249=some (.agg (a8 (List.replicate 4 0))):=id (by kernel_rfl)
theorem Tryz.fl31_0:qK_ Tryz.prog 31 0=some (0,(false,1)):=id (by kernel_rfl)
theorem Tryz.fl36_0:qK_ Tryz.prog 36 0=some (0,(false,1)):=id (by kernel_rfl)
theorem Tryz.fl36_1:qK_ Tryz.prog 36 1=some (1,(false,1)):=id (by kernel_rfl)
theorem Tryz.fl31_2:qK_ Tryz.prog 31 2=some (2,(false,1)):=id (by kernel_rfl)
theorem Tryz.fl31_3:qK_ Tryz.prog 31 3=some (3,(false,1)):=id (by kernel_rfl)
theorem Tryz.fl31_4:qK_ Tryz.prog 31 4=some (4,(false,1)):=id (by kernel_rfl)
theorem Tryz.fl36_2:qK_ Tryz.prog 36 2=some (2,(false,1)):=id (by kernel_rfl)
theorem Tryz.fl31_1:qK_ Tryz.prog 31 1=some (1,(false,1)):=id (by kernel_rfl)
theorem Tryz.fl31_5:qK_ Tryz.prog 31 5=some (5,(false,1)):=id (by kernel_rfl)
theorem Tryz.fl60_2:qK_ Tryz.prog 60 2=some (10,(false,1)):=id (by kernel_rfl)
theorem Tryz.fl88_0:qK_ Tryz.prog 88 0=some (0,(true,32)):=id (by kernel_rfl)
theorem Tryz.fl88_1:qK_ Tryz.prog 88 1=some (32,(false,1)):=id (by kernel_rfl)
theorem Tryz.fl88_2:qK_ Tryz.prog 88 2=some (33,(false,1)):=id (by kernel_rfl)
theorem Tryz.fl88_3:qK_ Tryz.prog 88 3=some (34,(false,1)):=id (by kernel_rfl)
theorem Tryz.fl101_0:qK_ Tryz.prog 101 0=some (0,(false,1)):=id (by kernel_rfl)
theorem Tryz.fl109_0:qK_ Tryz.prog 109 0=some (0,(false,1)):=id (by kernel_rfl)
theorem Tryz.fl105_0:qK_ Tryz.prog 105 0=some (0,(false,1)):=id (by kernel_rfl)
theorem Tryz.fl105_1:qK_ Tryz.prog 105 1=some (1,(false,1)):=id (by kernel_rfl)
theorem Tryz.fl109_2:qK_ Tryz.prog 109 2=some (2,(false,1)):=id (by kernel_rfl)
theorem Tryz.fl109_1:qK_ Tryz.prog 109 1=some (1,(false,1)):=id (by kernel_rfl)
theorem Tryz.fl101_4:qK_ Tryz.prog 101 4=some (4,(false,1)):=id (by kernel_rfl)
theorem Tryz.fl101_3:qK_ Tryz.prog 101 3=some (3,(false,1)):=id (by kernel_rfl)
theorem Tryz.fl60_1:qK_ Tryz.prog 60 1=some (9,(false,1)):=id (by kernel_rfl)
theorem Tryz.fl60_0:qK_ Tryz.prog 60 0=some (0,(true,9)):=id (by kernel_rfl)
theorem Tryz.fl56_0:qK_ Tryz.prog 56 0=some (0,(false,1)):=id (by kernel_rfl)
theorem Tryz.fl56_1:qK_ Tryz.prog 56 1=some (1,(false,1)):=id (by kernel_rfl)
theorem Tryz.fl60_4:qK_ Tryz.prog 60 4=some (12,(false,1)):=id (by kernel_rfl)
theorem Tryz.fl60_3:qK_ Tryz.prog 60 3=some (11,(false,1)):=id (by kernel_rfl)
theorem Tryz.fl56_2:qK_ Tryz.prog 56 2=some (2,(false,1)):=id (by kernel_rfl)
theorem Tryz.fl123_1:qK_ Tryz.prog 123 1=some (1,(false,1)):=id (by kernel_rfl)
theorem Tryz.fl120_0:qK_ Tryz.prog 120 0=some (0,(false,1)):=id (by kernel_rfl)
theorem Tryz.fl120_1:qK_ Tryz.prog 120 1=some (1,(false,1)):=id (by kernel_rfl)
theorem Tryz.fl127_0:qK_ Tryz.prog 127 0=some (0,(false,1)):=id (by kernel_rfl)
theorem Tryz.fl127_3:qK_ Tryz.prog 127 3=some (3,(false,1)):=id (by kernel_rfl)
theorem Tryz.fl89_2:qK_ Tryz.prog 89 2=some (33,(false,1)):=id (by kernel_rfl)
theorem Tryz.fl135_1:qK_ Tryz.prog 135 1=some (1,(false,1)):=id (by kernel_rfl)
theorem Tryz.fl135_0:qK_ Tryz.prog 135 0=some (0,(false,1)):=id (by kernel_rfl)
theorem Tryz.fl141_0:qK_ Tryz.prog 141 0=some (0,(false,1)):=id (by kernel_rfl)
theorem Tryz.fl141_1:qK_ Tryz.prog 141 1=some (1,(false,1)):=id (by kernel_rfl)
theorem Tryz.fl141_2:qK_ Tryz.prog 141 2=some (2,(false,1)):=id (by kernel_rfl)
theorem Tryz.fl149_0:qK_ Tryz.prog 149 0=some (0,(false,1)):=id (by kernel_rfl)
theorem Tryz.fl149_1:qK_ Tryz.prog 149 1=some (1,(false,1)):=id (by kernel_rfl)
theorem Tryz.fl155_0:qK_ Tryz.prog 155 0=some (0,(true,32)):=id (by kernel_rfl)
theorem Tryz.fl155_1:qK_ Tryz.prog 155 1=some (32,(false,1)):=id (by kernel_rfl)
theorem Tryz.fl155_2:qK_ Tryz.prog 155 2=some (33,(false,1)):=id (by kernel_rfl)
theorem Tryz.fl89_1:qK_ Tryz.prog 89 1=some (32,(false,1)):=id (by kernel_rfl)
theorem Tryz.fl89_3:qK_ Tryz.prog 89 3=some (34,(false,1)):=id (by kernel_rfl)
theorem Tryz.fl101_1:qK_ Tryz.prog 101 1=some (1,(false,1)):=id (by kernel_rfl)
theorem Tryz.fl101_2:qK_ Tryz.prog 101 2=some (2,(false,1)):=id (by kernel_rfl)
theorem Tryz.fl123_0:qK_ Tryz.prog 123 0=some (0,(false,1)):=id (by kernel_rfl)
theorem Tryz.fl127_1:qK_ Tryz.prog 127 1=some (1,(false,1)):=id (by kernel_rfl)
theorem Tryz.fl127_2:qK_ Tryz.prog 127 2=some (2,(false,1)):=id (by kernel_rfl)
theorem Tryz.fl205_2:qK_ Tryz.prog 205 2=some (2,(true,16)):=id (by kernel_rfl)
theorem Tryz.fl132_0:qK_ Tryz.prog 132 0=some (0,(true,32)):=id (by kernel_rfl)
theorem Tryz.fl132_1:qK_ Tryz.prog 132 1=some (32,(false,1)):=id (by kernel_rfl)
theorem Tryz.fl132_2:qK_ Tryz.prog 132 2=some (33,(false,1)):=id (by kernel_rfl)
theorem Tryz.fl205_0:qK_ Tryz.prog 205 0=some (0,(false,1)):=id (by kernel_rfl)
theorem Tryz.fl89_0:qK_ Tryz.prog 89 0=some (0,(true,32)):=id (by kernel_rfl)
theorem Tryz.fl221_1:qK_ Tryz.prog 221 1=some (1,(false,1)):=id (by kernel_rfl)
theorem Tryz.fl221_0:qK_ Tryz.prog 221 0=some (0,(false,1)):=id (by kernel_rfl)
theorem Tryz.fl221_2:qK_ Tryz.prog 221 2=some (2,(false,1)):=id (by kernel_rfl)
theorem Tryz.fl166_2:qK_ Tryz.prog 166 2=some (2,(false,1)):=id (by kernel_rfl)
theorem Tryz.fl166_1:qK_ Tryz.prog 166 1=some (1,(false,1)):=id (by kernel_rfl)
theorem Tryz.fl166_0:qK_ Tryz.prog 166 0=some (0,(false,1)):=id (by kernel_rfl)
theorem Tryz.fl177_1:qK_ Tryz.prog 177 1=some (1,(false,1)):=id (by kernel_rfl)
theorem Tryz.fl177_0:qK_ Tryz.prog 177 0=some (0,(false,1)):=id (by kernel_rfl)
theorem Tryz.fl199_0:qK_ Tryz.prog 199 0=some (0,(true,2)):=id (by kernel_rfl)
theorem Tryz.fl205_1:qK_ Tryz.prog 205 1=some (1,(false,1)):=id (by kernel_rfl)
theorem Tryz.fl260_1:qK_ Tryz.prog 260 1=some (1,(false,1)):=id (by kernel_rfl)
theorem Tryz.fl260_0:qK_ Tryz.prog 260 0=some (0,(false,1)):=id (by kernel_rfl)
theorem Tryz.fl260_2:qK_ Tryz.prog 260 2=some (2,(true,32)):=id (by kernel_rfl)
theorem Tryz.fl232_0:qK_ Tryz.prog 232 0=some (0,(true,32)):=id (by kernel_rfl)
theorem Tryz.fl232_1:qK_ Tryz.prog 232 1=some (32,(false,1)):=id (by kernel_rfl)
theorem Tryz.fl232_2:qK_ Tryz.prog 232 2=some (33,(false,1)):=id (by kernel_rfl)
theorem Tryz.fl197_1:qK_ Tryz.prog 197 1=some (1,(false,1)):=id (by kernel_rfl)
theorem Tryz.fl286_0:qK_ Tryz.prog 286 0=some (0,(false,1)):=id (by kernel_rfl)
theorem Tryz.fl286_1:qK_ Tryz.prog 286 1=some (1,(false,1)):=id (by kernel_rfl)
theorem Tryz.fl286_2:qK_ Tryz.prog 286 2=some (2,(false,1)):=id (by kernel_rfl)
theorem Tryz.fl197_0:qK_ Tryz.prog 197 0=some (0,(false,1)):=id (by kernel_rfl)
theorem Tryz.fl319_0:qK_ Tryz.prog 319 0=some (0,(false,1)):=id (by kernel_rfl)
theorem Tryz.fl319_1:qK_ Tryz.prog 319 1=some (1,(false,1)):=id (by kernel_rfl)
theorem Tryz.cv5_3:cvT Tryz.prog 5 3= .int .i64:=id (by kernel_rfl)
theorem Tryz.cv96_3:cvT Tryz.prog 96 3= .int .i64:=id (by kernel_rfl)
theorem Tryz.cv3_5:cvT Tryz.prog 3 5= .int .u8:=id (by kernel_rfl)
theorem Tryz.cv195_9:cvT Tryz.prog 195 9= .bytesStr:=id (by kernel_rfl)
theorem Tryz.cv218_5:cvT Tryz.prog 218 5= .int .u8:=id (by kernel_rfl)
theorem Tryz.cv3_223:cvT Tryz.prog 3 223= .int .u64:=id (by kernel_rfl)
theorem Tryz.cv223_3:cvT Tryz.prog 223 3= .int .i64:=id (by kernel_rfl)
theorem Tryz.cv223_218:cvT Tryz.prog 223 218= .int .u32:=id (by kernel_rfl)
theorem Tryz.cv5_218:cvT Tryz.prog 5 218= .int .u32:=id (by kernel_rfl)
theorem Tryz.cv3_283:cvT Tryz.prog 3 283= .int .u64:=id (by kernel_rfl)
theorem Tryz.cv283_5:cvT Tryz.prog 283 5= .int .u8:=id (by kernel_rfl)
theorem Tryz.cv194_299:cvT Tryz.prog 194 299= .no:=id (by kernel_rfl)
theorem Tryz.cv299_194:cvT Tryz.prog 299 194= .no:=id (by kernel_rfl)
theorem Tryz.cv3_301:cvT Tryz.prog 3 301= .int .u64:=id (by kernel_rfl)
theorem Tryz.cv3_320:cvT Tryz.prog 3 320= .no:=id (by kernel_rfl)
theorem Tryz.cv320_3:cvT Tryz.prog 320 3= .no:=id (by kernel_rfl)
set_option linter.defProp false
def Tryz.fx:=And.intro (And.intro (And.intro (And.intro (And.intro (And.intro (And.intro (@Tryz.ix24) (@Tryz.ix23)) (And.intro (@Tryz.ix22) (And.intro (@Tryz.ix9) (@Tryz.ix75)))) (And.intro (And.intro (@Tryz.ix68) (And.intro (@Tryz.ix82) (@Tryz.ix69))) (And.intro (@Tryz.ix110) (And.intro (@Tryz.ix107) (@Tryz.ix58))))) (And.intro (And.intro (And.intro (@Tryz.ix57) (And.intro (@Tryz.ix54) (@Tryz.ix53))) (And.intro (@Tryz.ix133) (And.intro (@Tryz.ix65) (@Tryz.ix142)))) (And.intro (And.intro (@Tryz.ix72) (And.intro (@Tryz.ix151) (@Tryz.ix97))) (And.intro (@Tryz.ix202) (And.intro (@Tryz.ix203) (@Tryz.ix195)))))) (And.intro (And.intro (And.intro (And.intro (@Tryz.ix86) (@Tryz.ix249)) (And.intro (@Tryz.ix255) (And.intro (@Tryz.ix228) (@Tryz.ix265)))) (And.intro (And.intro (@Tryz.ix289) (And.intro (@Tryz.ix290) (@Tryz.ix313))) (And.intro (@Tryz.ix307) (And.intro (@Tryz.ag31) (@Tryz.ag3))))) (And.intro (And.intro (And.intro (@Tryz.ag36) (And.intro (@Tryz.ag9) (@Tryz.ag24))) (And.intro (@Tryz.ag88) (And.intro (@Tryz.ag89) (@Tryz.ag86)))) (And.intro (And.intro (@Tryz.ag99) (And.intro (@Tryz.ag106) (@Tryz.ag105))) (And.intro (@Tryz.ag110) (And.intro (@Tryz.ag107) (@Tryz.ag116))))))) (And.intro (And.intro (And.intro (And.intro (And.intro (@Tryz.ag4) (@Tryz.ag58)) (And.intro (@Tryz.ag120) (And.intro (@Tryz.ag53) (@Tryz.ag123)))) (And.intro (And.intro (@Tryz.ag101) (And.intro (@Tryz.ag109) (@Tryz.ag60))) (And.intro (@Tryz.ag96) (And.intro (@Tryz.ag54) (@Tryz.ag127))))) (And.intro (And.intro (And.intro (@Tryz.ag132) (And.intro (@Tryz.ag135) (@Tryz.ag141))) (And.intro (@Tryz.ag68) (And.intro (@Tryz.ag82) (@Tryz.ag149)))) (And.intro (And.intro (@Tryz.ag166) (And.intro (@Tryz.ag177) (@Tryz.ag199))) (And.intro (@Tryz.ag143) (And.intro (@Tryz.ag155) (@Tryz.ag221)))))) (And.intro (And.intro (And.intro (And.intro (@Tryz.ag32) (And.intro (@Tryz.ag5) (@Tryz.ag103))) (And.intro (@Tryz.ag232) (And.intro (@Tryz.ag205) (@Tryz.ag249)))) (And.intro (And.intro (@Tryz.ag133) (And.intro (@Tryz.ag260) (@Tryz.ag75))) (And.intro (@Tryz.ag265) (And.intro (@Tryz.ag218) (@Tryz.ag195))))) (And.intro (And.intro (And.intro (@Tryz.ag286) (And.intro (@Tryz.ag289) (@Tryz.ag290))) (And.intro (@Tryz.ag194) (And.intro (@Tryz.ag301) (@Tryz.ag319)))) (And.intro (And.intro (@Tryz.ag317) (And.intro (@Tryz.ag313) (@Tryz.fl31_0))) (And.intro (@Tryz.fl36_0) (And.intro (@Tryz.fl36_1) (@Tryz.fl31_2)))))))) (And.intro (And.intro (And.intro (And.intro (And.intro (And.intro (@Tryz.fl31_3) (@Tryz.fl31_4)) (And.intro (@Tryz.fl36_2) (And.intro (@Tryz.fl31_1) (@Tryz.fl31_5)))) (And.intro (And.intro (@Tryz.fl60_2) (And.intro (@Tryz.fl88_0) (@Tryz.fl88_1))) (And.intro (@Tryz.fl88_2) (And.intro (@Tryz.fl88_3) (@Tryz.fl101_0))))) (And.intro (And.intro (And.intro (@Tryz.fl109_0) (And.intro (@Tryz.fl105_0) (@Tryz.fl105_1))) (And.intro (@Tryz.fl109_2) (And.intro (@Tryz.fl109_1) (@Tryz.fl101_4)))) (And.intro (And.intro (@Tryz.fl101_3) (And.intro (@Tryz.fl60_1) (@Tryz.fl60_0))) (And.intro (@Tryz.fl56_0) (And.intro (@Tryz.fl56_1) (@Tryz.fl60_4)))))) (And.intro (And.intro (And.intro (And.intro (@Tryz.fl60_3) (@Tryz.fl56_2)) (And.intro (@Tryz.fl123_1) (And.intro (@Tryz.fl120_0) (@Tryz.fl120_1)))) (And.intro (And.intro (@Tryz.fl127_0) (And.intro (@Tryz.fl127_3) (@Tryz.fl89_2))) (And.intro (@Tryz.fl135_1) (And.intro (@Tryz.fl135_0) (@Tryz.fl141_0))))) (And.intro (And.intro (And.intro (@Tryz.fl141_1) (And.intro (@Tryz.fl141_2) (@Tryz.fl149_0))) (And.intro (@Tryz.fl149_1) (And.intro (@Tryz.fl155_0) (@Tryz.fl155_1)))) (And.intro (And.intro (@Tryz.fl155_2) (And.intro (@Tryz.fl89_1) (@Tryz.fl89_3))) (And.intro (@Tryz.fl101_1) (And.intro (@Tryz.fl101_2) (@Tryz.fl123_0))))))) (And.intro (And.intro (And.intro (And.intro (And.intro (@Tryz.fl127_1) (@Tryz.fl127_2)) (And.intro (@Tryz.fl205_2) (And.intro (@Tryz.fl132_0) (@Tryz.fl132_1)))) (And.intro (And.intro (@Tryz.fl132_2) (And.intro (@Tryz.fl205_0) (@Tryz.fl89_0))) (And.intro (@Tryz.fl221_1) (And.intro (@Tryz.fl221_0) (@Tryz.fl221_2))))) (And.intro (And.intro (And.intro (@Tryz.fl166_2) (And.intro (@Tryz.fl166_1) (@Tryz.fl166_0))) (And.intro (@Tryz.fl177_1) (And.intro (@Tryz.fl177_0) (@Tryz.fl199_0)))) (And.intro (And.intro (@Tryz.fl205_1) (And.intro (@Tryz.fl260_1) (@Tryz.fl260_0))) (And.intro (@Tryz.fl260_2) (And.intro (@Tryz.fl232_0) (@Tryz.fl232_1)))))) (And.intro (And.intro (And.intro (And.intro (@Tryz.fl232_2) (And.intro (@Tryz.fl197_1) (@Tryz.fl286_0))) (And.intro (@Tryz.fl286_1) (And.intro (@Tryz.fl286_2) (@Tryz.fl197_0)))) (And.intro (And.intro (@Tryz.fl319_0) (And.intro (@Tryz.fl319_1) (@Tryz.cv5_3))) (And.intro (@Tryz.cv96_3) (And.intro (@Tryz.cv3_5) (@Tryz.cv195_9))))) (And.intro (And.intro (And.intro (@Tryz.cv218_5) (And.intro (@Tryz.cv3_223) (@Tryz.cv223_3))) (And.intro (@Tryz.cv223_218) (And.intro (@Tryz.cv5_218) (@Tryz.cv3_283)))) (And.intro (And.intro (@Tryz.cv283_5) (And.intro (@Tryz.cv194_299) (@Tryz.cv299_194))) (And.intro (@Tryz.cv3_301) (And.intro (@Tryz.cv3_320) (@Tryz.cv320_3))))))))
theorem kp {X A G:Prop} (x:X) (h:G) (e:X→A=G:=by intro x;(try simp(disch:=(first|assumption|omega| (simp only[kd_,kc_,UInt64.reduceToNat];try omega))) only[↓Sx.S0,Sx.S1,Tryz.fx,Nat.reduceAdd,Nat.reducePow,Int.reducePow,Nat.reduceBEq, ↓reduceIte,UInt8.reduceToNat,UInt16.reduceToNat,UInt32.reduceToNat,UInt64.reduceToNat,Int.reduceToNat,x]);exact rfl):A:=(e x).mpr h
section
variable {P:Program} {w0:World} {f:Fr} {L:zc_} {K:xN_} {N:Fr→zc_→Prop} {ops:Array Oper} {md:Md} {l:List Oper} {X G:Prop}
theorem ks {c:Code} (z:List Nat) [Sx.Steps c] (x:X) (h:G) (e:X→vcC P w0 z c f L (bsK K)=G:=by intro x;(try simp(disch:=(first|assumption|omega| (simp only[kd_,kc_,UInt64.reduceToNat];try omega))) only[↓Sx.S0,Sx.S1,Tryz.fx,Nat.reduceAdd,Nat.reducePow,Int.reducePow,Nat.reduceBEq, ↓reduceIte,UInt8.reduceToNat,UInt16.reduceToNat,UInt32.reduceToNat,UInt64.reduceToNat,Int.reduceToNat,x]);exact rfl):Cw P w0 c f L K:=Cw.go z ((e x).mpr h)
theorem ko (x:X) (h:G) (e:X→vcL P w0 ops true md l f L (owk P w0 ops (bsN N))=G:=by intro x;(try simp(disch:=(first|assumption|omega| (simp only[kd_,kc_,UInt64.reduceToNat];try omega))) only[↓Sx.S0,Sx.S1,Tryz.fx,Nat.reduceAdd,Nat.reducePow,Int.reducePow,Nat.reduceBEq, ↓reduceIte,UInt8.reduceToNat,UInt16.reduceToNat,UInt32.reduceToNat,UInt64.reduceToNat,Int.reduceToNat,x]);exact rfl) (he:md.eff=true:=by rfl):Ow P w0 ops md l f L N:=Ow.go he ((e x).mpr h)
theorem kq (x:X) (h:G) (e:X→vcL P w0 ops false md l f L (owk P w0 ops (bsN N))=G:=by intro x;(try simp(disch:=(first|assumption|omega| (simp only[kd_,kc_,UInt64.reduceToNat];try omega))) only[↓Sx.S0,Sx.S1,Tryz.fx,Nat.reduceAdd,Nat.reducePow,Int.reducePow,Nat.reduceBEq, ↓reduceIte,UInt8.reduceToNat,UInt16.reduceToNat,UInt32.reduceToNat,UInt64.reduceToNat,Int.reduceToNat,x]);exact rfl):Ow P w0 ops md l f L N:=Ow.goQ ((e x).mpr h)
end
theorem ke {α:Type} {X:Prop} {a b:α} (x:X) (e:X→a=b:=by intro x;(try simp(disch:=(first|assumption|omega| (simp only[kd_,kc_,UInt64.reduceToNat];try omega))) only[↓Sx.S0,Sx.S1,Tryz.fx,Nat.reduceAdd,Nat.reducePow,Int.reducePow,Nat.reduceBEq, ↓reduceIte,UInt8.reduceToNat,UInt16.reduceToNat,UInt32.reduceToNat,UInt64.reduceToNat,Int.reduceToNat,x]);exact rfl):a=b:=e x
theorem kn {A G:Prop} (h:G) (e:A=G:=by(try simp(disch:=(first|assumption|omega| (simp only[kd_,kc_,UInt64.reduceToNat];try omega))) only[Zj_,ZI_,List.cons_append,List.nil_append]);exact rfl):A:=e.mpr h
theorem kf {A G:Prop} (h:G) (e:A=G:=by simp only[List.size_toArray,List.length_cons,List.length_nil,Nat.reduceAdd,Nat.reduceSub,List.replicate_succ,List.replicate_zero,List.cons_append,List.nil_append];exact rfl):A:=e.mpr h
theorem kv {A G:Prop} (h:G) (e:A=G:=by simp only[qP_,pin,Z7_,Qc_,List.contains_cons,List.contains_nil,Nat.reduceBEq,Bool.or_false,Bool.false_or,Bool.or_true,Bool.true_or,Nat.reduceAdd, ↓reduceIte,Bool.false_eq_true];exact rfl):A:=e.mpr h
set_option maxRecDepth 10000
set_option maxHeartbeats 1000000
set_option linter.unusedSimpArgs false
theorem Jl_ (p v:Value) (E:TypeId) (n:Nat):zp_ (some (false,n)) (some (.cells #[p,v] E (0,0))) 0=some p:=(rfl)
theorem Jm_ (p v:Value) (E:TypeId) (n:Nat):zp_ (some (false,n)) (some (.cells #[p,v] E (0,0))) 1=some v:=(rfl)
theorem aig_ (p v x:Value) (E:TypeId) (hx:Value.oneCell' x=true∧x.cells= #[x]):zn_ (some (false,1)) (some (.cells #[p,v] E (0,0))) 0 x=some (.cells #[x,v] E (0,0)):=by
 simp[zn_,hx,x8_]
theorem acQ_ (p v x:Value) (E:TypeId) (hx:Value.oneCell' x=true∧x.cells= #[x]):zn_ (some (false,1)) (some (.cells #[p,v] E (0,0))) 1 x=some (.cells #[p,x] E (0,0)):=by
 simp[zn_,hx,x8_]
theorem JC_ (p v:Value) (b o:Nat) (E:TypeId):zn_ (some (false,1)) (some (.cells #[p,v] E (0,0))) 0 (vp b o)=some (.cells #[vp b o,v] E (0,0)):=aig_ _ _ _ _ ⟨rfl,rfl⟩
theorem nilB (b o:Nat):qE_ Tryz.prog .eql 194 (vp b o) (.pointer none)=some (.bool false):=by
 simp[qE_,eqX,qu_,qz_,Tryz.underlying194,vp]
theorem ali_:qE_ Tryz.prog .eql 194 (.pointer none) (.pointer none)=some (.bool true):=by
 simp[qE_,eqX,qu_,qz_,Tryz.underlying194]
set_option linter.defProp false
def wH_:=And.intro (And.intro (@Jl_) (@Jm_)) (And.intro (@JC_) (And.intro (@nilB) (@ali_)))
theorem anD_:liesAt Tryz.prog Tryz.prog.depth 199 ((#[Value.pointer none,Value.pointer none]:Array Value).size / Tryz.prog.cellsOf 199) 0 197 1=true:=id (by kernel_rfl)
theorem aggB:zP_ Tryz.prog 197=some (true,2):=id (by kernel_rfl)
theorem ai8_ (x:Value) (w:World): (callFunc 214 #[x]).run Tryz.prog w= .ok (.value x) w:=by kernel_rfl
theorem ww_ (b:Nat) (p v:Value) (w:World) (hp:p= .pointer none∨p=vp b 0) (ho:w.heap[b]? =some (.cells #[p,v] 199 (0,0))):
  Rets Tryz.prog 185 #[vp b 0] w (fun v' D=> ∃o,D= [(b,o)]∧v'= .tuple #[]∧o= .cells #[vp b 0,v] 199 (0,0)):=by
 refine Rets.enterM Tryz.func185 rfl (rs:= []) Tryz.results185 Tryz.ntmps185 ho ?_
 refine kf ?_
 rcases hp with rfl|rfl
 ·first|with_reducible refine ks [] @wH_ ?_|refine kp @wH_ ?_
  refine Ow.toUnsafe rfl rfl (by kernel_rfl) rfl (jJ_ (xj_ _ _ _)) (by simp) aggB (by decide) Tryz.underlying194 Tryz.underlying299 ?_
  refine Ow.callExt (v:=vp b 0) rfl rfl (fun w=>ai8_ _ w) ?_
  refine Ow.ofUnsafe rfl rfl (by kernel_rfl) rfl (jJ_ (xj_ _ _ _)) aggB anD_ Tryz.underlying299 Tryz.underlying194 ?_
  refine ko @wH_ ?_
  first|with_reducible refine ks [] @wH_ ?_|refine kp @wH_ ?_
  refine⟨_,_,_,(ke @wH_),rfl,trivial, ?_⟩
  exact⟨rfl,rfl⟩
 ·first|with_reducible refine ks [2] @wH_ ?_|refine kp @wH_ ?_
  refine Cw.region ?_
  refine Ow.value rfl rfl rfl ?_
  refine Ow.value (v:=vp b 0) rfl rfl (by simp(disch:=(first|assumption|omega| (simp only[kd_,kc_,UInt64.reduceToNat];try omega))) only[↓Sx.S0,Sx.S1,Tryz.fx,wH_,Nat.reduceAdd,Nat.reducePow,Int.reducePow,Nat.reduceBEq, ↓reduceIte,UInt8.reduceToNat,UInt16.reduceToNat,UInt32.reduceToNat,UInt64.reduceToNat,Int.reduceToNat,ku_]) ?_
  refine Ow.value (v:=vp b 0) rfl rfl (by simp(disch:=(first|assumption|omega| (simp only[kd_,kc_,UInt64.reduceToNat];try omega))) only[↓Sx.S0,Sx.S1,Tryz.fx,wH_,Nat.reduceAdd,Nat.reducePow,Int.reducePow,Nat.reduceBEq, ↓reduceIte,UInt8.reduceToNat,UInt16.reduceToNat,UInt32.reduceToNat,UInt64.reduceToNat,Int.reduceToNat,ku_]) ?_
  refine Ow.value (v:=vp b 0) rfl rfl (by simp(disch:=(first|assumption|omega| (simp only[kd_,kc_,UInt64.reduceToNat];try omega))) only[↓Sx.S0,Sx.S1,Tryz.fx,wH_,Nat.reduceAdd,Nat.reducePow,Int.reducePow,Nat.reduceBEq, ↓reduceIte,UInt8.reduceToNat,UInt16.reduceToNat,UInt32.reduceToNat,UInt64.reduceToNat,Int.reduceToNat,ku_]) ?_
  refine Ow.value rfl rfl rfl ?_
  refine Ow.neqSame rfl Tryz.underlying194 aggB rfl rfl ?_
  refine ko @wH_ ?_
  first|with_reducible refine ks [] @wH_ ?_|refine kp @wH_ ?_
  refine⟨_,_,_,(ke @wH_),rfl,trivial, ?_⟩
  exact⟨rfl,rfl⟩
end Go.Proofs
end
section
open Go Go.Proofs Go.Sx
namespace Go.Proofs
set_option maxRecDepth 10000
set_option maxHeartbeats 1000000
set_option linter.unusedSimpArgs false
set_option linter.defProp false
def XA_:=And.intro (And.intro (@Jl_) (@Jm_)) (And.intro (@JC_) (And.intro (@nilB) (@ali_)))
def BldAt (b:Nat) (l:List UInt8) (X:zc_):Prop:=
 ∃p v,Sx.look X b=some (.cells #[p,v] 199 (0,0))∧(p= .pointer none∨p=vp b 0)∧Buf X 5 1 v l.length (l.map v8)∧slB v≠some b
theorem ws_ (b:Nat) (X:zc_) (l:List UInt8) (c:UInt8) (w:World) (hB:BldAt b l X) (hX: ∀p,p∈X→w.heap[p.1]? =some p.2) (hn: (keys X).Nodup) (hl:l.length<34359738368):
  Rets Tryz.prog 163 #[vp b 0,v8 c] w (XS w X (fun v D=>v= .nilIface∧BldAt b (l++ [c]) D)):=by
 obtain⟨p,v,hlk,hp,hb,hsl⟩:=hB
 refine Rets.enterX Tryz.func163 rfl (rs:= [.tmp 4]) Tryz.results163 Tryz.ntmps163 hX hn ?_
 refine kf ?_
 first|with_reducible refine ks [] @XA_ ?_|refine kp @XA_ ?_
 refine Ow.callM rfl rfl Tryz.call185 (zr_ hlk) (fun w' hw'=>ww_ b p v w' hp (hw'.has _ _ (zL_ hlk))) ?_
 have lk1:=ju_ (x:= .cells #[vp b 0,v] 199 (0,0)) hlk
 have rd1:=jJ_ (w0:=w) lk1
 have hb1:Buf (setB X b (.cells #[vp b 0,v] 199 (0,0))) 5 1 v l.length (l.map v8):=hb.setO hsl
 have kx:Ext w X (setB X b (.cells #[vp b 0,v] 199 (0,0))):=(Ext.refl w X).setB
 generalize setB X b (.cells #[vp b 0,v] 199 (0,0))=X1 at*
 refine ko @XA_ ?_
 first|with_reducible refine ks [] (And.intro @XA_ @rd1) ?_|refine kp (And.intro @XA_ @rd1) ?_
 refine Ow.buildSlice (e:=5) #[v8 c] rfl rfl (by kernel_rfl) fun b3 hb3 hw3=> ?_
 have lk3:Sx.look (X1++ [(b3, .cells #[v8 c] 5 (0,0))]) b3=some (.cells #[v8 c] 5 (0,0)):=k0_ hb3
 have hb2:Buf (X1++ [(b3, .cells #[v8 c] 5 (0,0))]) 5 1 v l.length (l.map v8):=hb1.app
 refine ko @XA_ ?_
 refine Ow.append (e:=5) _ rfl rfl rfl Tryz.underlying195 Tryz.ag5 (by kernel_rfl) Tryz.zr5 (by kernel_rfl) Tryz.underlying195 (by intro k h;cases h) hb2 (fun w' hw'=>AppX.block (k:=1) (new:= [v8 c]) (jJ_ lk3) (by simp) (by simp) rfl hw') (by omega) (fun v2 L2 hB2 hG2 hS2=> ?_)
 have lk2:Sx.look L2 b=some (.cells #[vp b 0,v] 199 (0,0)):=hG2.look b _ hsl (j2_ lk1)
 have st2:zn_ (some (false,1)) (some (.cells #[vp b 0,v] 199 (0,0))) 1 v2=some (.cells #[vp b 0,v2] 199 (0,0)):=acQ_ _ _ _ _ hB2.cell
 refine ko (And.intro @XA_ (And.intro @lk2 (And.intro @st2 (@afF_)))) ?_
 first|with_reducible refine ks [] @XA_ ?_|refine kp @XA_ ?_
 refine⟨_,(ke @XA_), ?_⟩
 have ex:=(kx.app (o:= .cells #[v8 c] 5 (0,0)) hw3).grew hG2
 have hs2:slB v2≠some b:=by
  rcases hS2 with h| ⟨c',h,ha⟩
  ·rw[h];exact hsl
  ·rw[h]
   intro e
   cases e
   exact Nat.lt_irrefl _ (zs_ ha (zr_ (j2_ lk1)))
 refine⟨ex.setB,rfl,vp b 0,v2,ju_ lk2, .inr rfl, ?_,hs2⟩
 rw[List.length_append,List.map_append]
 exact hB2.setO hs2
end Go.Proofs
end
section
open Go Go.Proofs Go.Sx
namespace Go.Proofs
set_option maxRecDepth 10000
set_option maxHeartbeats 1000000
set_option linter.unusedSimpArgs false
set_option linter.defProp false
def xv_:=And.intro (And.intro (@Jl_) (@Jm_)) (And.intro (@JC_) (And.intro (@nilB) (@ali_)))
theorem Qz_ (b:Nat) (X:zc_) (l s:List UInt8) (w:World) (hB:BldAt b l X) (hX: ∀p,p∈X→w.heap[p.1]? =some p.2) (hn: (keys X).Nodup) (hl:l.length+s.length<34359738368):
  Rets Tryz.prog 162 #[vp b 0,vs s] w (XS w X (fun v D=>v= .tuple #[vi s.length, .nilIface]∧BldAt b (l++s) D)):=by
 obtain⟨p,v,hlk,hp,hb,hsl⟩:=hB
 refine Rets.enterX Tryz.func162 rfl (rs:= [.tmp 4, .tmp 5]) Tryz.results162 Tryz.ntmps162 hX hn ?_
 refine kf ?_
 first|with_reducible refine ks [] @xv_ ?_|refine kp @xv_ ?_
 refine Ow.callM rfl rfl Tryz.call185 (zr_ hlk) (fun w' hw'=>ww_ b p v w' hp (hw'.has _ _ (zL_ hlk))) ?_
 have lk1:=ju_ (x:= .cells #[vp b 0,v] 199 (0,0)) hlk
 have rd1:=jJ_ (w0:=w) lk1
 have hb1:Buf (setB X b (.cells #[vp b 0,v] 199 (0,0))) 5 1 v l.length (l.map v8):=hb.setO hsl
 have kx:Ext w X (setB X b (.cells #[vp b 0,v] 199 (0,0))):=(Ext.refl w X).setB
 generalize setB X b (.cells #[vp b 0,v] 199 (0,0))=X1 at*
 refine ko @xv_ ?_
 first|with_reducible refine ks [] (And.intro @xv_ @rd1) ?_|refine kp (And.intro @xv_ @rd1) ?_
 refine Ow.append (e:=5) _ rfl rfl rfl Tryz.underlying195 Tryz.ag5 (by kernel_rfl) Tryz.zr5 (by kernel_rfl) Tryz.underlying9 (by intro k h;cases h) hb1 (fun w' hw'=>AppX.text _ w' s) (by omega) (fun v2 L2 hB2 hG2 hS2=> ?_)
 have lk2:Sx.look L2 b=some (.cells #[vp b 0,v] 199 (0,0)):=hG2.look b _ hsl lk1
 have st2:zn_ (some (false,1)) (some (.cells #[vp b 0,v] 199 (0,0))) 1 v2=some (.cells #[vp b 0,v2] 199 (0,0)):=acQ_ _ _ _ _ hB2.cell
 refine ko (And.intro @xv_ (And.intro @lk2 (And.intro @st2 (@afF_)))) ?_
 first|with_reducible refine ks [] @xv_ ?_|refine kp @xv_ ?_
 refine⟨_,(ke @xv_), ?_⟩
 have ex:=kx.grew hG2
 have hs2:slB v2≠some b:=by
  rcases hS2 with h| ⟨c',h,ha⟩
  ·rw[h];exact hsl
  ·rw[h]
   intro e
   cases e
   exact Nat.lt_irrefl _ (zs_ ha (zr_ lk1))
 refine⟨ex.setB,rfl,vp b 0,v2,ju_ lk2, .inr rfl, ?_,hs2⟩
 rw[List.length_append,List.map_append]
 exact hB2.setO hs2
theorem WE_ (b:Nat) (X:zc_) (l:List UInt8) (w:World) (hB:BldAt b l X) (hX: ∀p,p∈X→w.heap[p.1]? =some p.2) (hn: (keys X).Nodup) (hl:l.length<34359738368):
  Rets Tryz.prog 165 #[vp b 0] w (XS w X (fun v _D=>v=vs l)):=by
 obtain⟨p,v,hlk,hp,hb,hsl⟩:=hB
 have rd1:=jJ_ (w0:=w) hlk
 refine Rets.enterX Tryz.func165 rfl (rs:= [.tmp 2]) Tryz.results165 Tryz.ntmps165 hX hn ?_
 refine kf ?_
 first|with_reducible refine ks [] @xv_ ?_|refine kp @xv_ ?_
 refine Cw.regionS [b] [0,1,2,5,6,7,3,8,9,4,10,11] [] (by kernel_rfl) (by kernel_rfl) (by kernel_rfl) ?_
 simp only[zh_, ↓zd_, ↓zb_, ↓zl_, ↓zm_,za_]
 refine Ow.goQ ?_
 simp(disch:=(first|assumption|omega| (simp only[kd_,kc_,UInt64.reduceToNat];try omega))) only[↓Sx.S0,Sx.S1,Tryz.fx,xv_,Nat.reduceAdd,Nat.reducePow,Int.reducePow,Nat.reduceBEq, ↓reduceIte,UInt8.reduceToNat,UInt16.reduceToNat,UInt32.reduceToNat,UInt64.reduceToNat,Int.reduceToNat,rd1,hb.len]
 refine Ow.soft rfl rfl rfl ?_
 rcases hb.inv with⟨rfl,h0,-⟩ | ⟨b2,c,rest,rfl,hl2,h1,h3,h4,-⟩
 ·obtain rfl:l= []:=List.eq_nil_of_length_eq_zero h0
  refine Ow.sliceData (v:= .pointer none) rfl rfl (.inl ⟨0,0,rfl,rfl⟩) ?_
  with_reducible refine Ow.nil ?_
  refine⟨by intro b hb;simp only[List.mem_cons,List.not_mem_nil,or_false] at hb;(try subst hb);rfl, ?_⟩
  refine Ow.soft rfl rfl rfl ?_
  refine Ow.unsafeStringNil rfl rfl rfl rfl ?_
  with_reducible refine Ow.nil ?_
  refine⟨by intro b hb;simp only[List.mem_cons,List.not_mem_nil,or_false] at hb;(try subst hb);rfl, ?_⟩
  refine kq @xv_ ?_
  try with_reducible refine Ow.nil ?_
  first|with_reducible refine ks [] @xv_ ?_|refine kp @xv_ ?_
  refine⟨_,(ke @xv_), ?_⟩
  exact⟨Ext.refl _ _,rfl⟩
 ·refine Ow.sliceData (v:=vp b2 0) rfl rfl (.inr ⟨b2,_,c,rfl,by omega,rfl⟩) ?_
  with_reducible refine Ow.nil ?_
  refine⟨by intro b hb;simp only[List.mem_cons,List.not_mem_nil,or_false] at hb;(try subst hb);rfl, ?_⟩
  by_cases h0:l.length=0
  ·obtain rfl:l= []:=List.eq_nil_of_length_eq_zero h0
   refine Ow.soft rfl rfl rfl ?_
   refine Ow.unsafeStringNil rfl rfl rfl rfl ?_
   with_reducible refine Ow.nil ?_
   refine⟨by intro b hb;simp only[List.mem_cons,List.not_mem_nil,or_false] at hb;(try subst hb);rfl, ?_⟩
   refine kq @xv_ ?_
   try with_reducible refine Ow.nil ?_
   first|with_reducible refine ks [] @xv_ ?_|refine kp @xv_ ?_
   refine⟨_,(ke @xv_), ?_⟩
   exact⟨Ext.refl _ _,rfl⟩
  ·refine Ow.soft rfl rfl rfl ?_
   refine Ow.unsafeString rfl rfl rfl rfl hl2 (by omega) (by omega) Tryz.underlying273 (by kernel_rfl) (of_decide_eq_true (by kernel_rfl)) ?_
   with_reducible refine Ow.nil ?_
   refine⟨by intro b hb;simp only[List.mem_cons,List.not_mem_nil,or_false] at hb;(try subst hb);exact WB_ (fun e=>hsl (by rw[←e];rfl)), ?_⟩
   refine kq @xv_ ?_
   try with_reducible refine Ow.nil ?_
   first|with_reducible refine ks [] @xv_ ?_|refine kp @xv_ ?_
   refine⟨_,(ke @xv_), ?_⟩
   exact⟨(Ext.refl _ _).setB,rfl⟩
end Go.Proofs
end
section
open Go Go.Proofs Go.Sx
namespace Go.Proofs
set_option maxRecDepth 10000
set_option maxHeartbeats 1000000
set_option linter.unusedSimpArgs false
theorem nilW (b o:Nat):qE_ Tryz.prog .eql 242 (vp b o) (.pointer none)=some (.bool false):=by
 simp[qE_,eqX,qu_,qz_,Tryz.underlying242,vp]
set_option linter.defProp false
def xg_:=And.intro (@Jl_) (And.intro (@Jm_) (@nilW))
structure WG where
 g:Nat
 D:zc_
theorem XE_ (l:List (List UInt8)) (g:Nat) (h:g<l.length): (l.take (g+1)).flatten=(l.take g).flatten++l.getD g []:=by
 rw[List.take_add_one,List.getElem?_eq_getElem h,List.flatten_append,List.getD_eq_getElem?_getD,List.getElem?_eq_getElem h]
 simp
theorem VV_ (l:List (List UInt8)) (g:Nat): (l.take g).flatten.length≤l.flatten.length:=by
 conv=>rhs;rw[←List.take_append_drop g l,List.flatten_append,List.length_append]
 omega
theorem vM_ (b:Nat) (X:zc_) (l:List UInt8) (x:Value) (b2 off:Nat) (ls:List (List UInt8)) (arr:Array Value) (E:TypeId) (fz:Nat×Nat) (w:World) (hB:BldAt b l X) (hX: ∀p,p∈X→w.heap[p.1]? =some p.2) (hn: (keys X).Nodup)
  (hS:StrS w x ls b2 off arr E fz) (hne:0<ls.length→b2∉keys X) (hl:l.length+ls.flatten.length<34359738368) (hls:ls.length<34359738368):
  Rets Tryz.prog 123 #[vp b 0,x] w (XS w X (fun v D=>v= .tuple #[]∧BldAt b (l++ls.flatten) D)):=by
 refine Rets.enterX Tryz.func123 rfl (rs:= []) Tryz.results123 Tryz.ntmps123 hX hn ?_
 refine kf ?_
 ((try with_reducible refine Cw.go [] ?_);(try simp(disch:=(first|assumption|omega| (simp only[kd_,kc_,UInt64.reduceToNat];try omega))) only[↓Sx.S0,Sx.S1,Tryz.fx,xg_,Nat.reduceAdd,Nat.reducePow,Int.reducePow,Nat.reduceBEq, ↓reduceIte,UInt8.reduceToNat,UInt16.reduceToNat,UInt32.reduceToNat,UInt64.reduceToNat,Int.reduceToNat,hS.len]))
 refine Cw.loopG (G:=WG) [11,12,13,5,14,15,16,17,18,19,10] (fun g=> [(10,vi g.g)]) (fun g=>g.D) (fun g=>g.g≤ls.length∧Ext w X g.D∧BldAt b (l++ (ls.take g.g).flatten) g.D) (fun g=>ls.length - g.g) ⟨0,X⟩ rfl rfl ?_ ?_
 ·exact⟨by simp,Ext.refl _ _,by simpa using hB⟩
 intro g j hg
 refine kv ?_
 obtain⟨g,D⟩:=g
 simp only at hg ⊢
 obtain⟨hgL,hE,hBD⟩:=hg
 by_cases hlt:g<ls.length
 ·have hlg:=hS.get g hlt
  have hrd:=hE.old (hS.has (by omega)) (hne (by omega))
  ((try with_reducible refine Cw.go [] ?_);(try simp(disch:=(first|assumption|omega| (simp only[kd_,kc_,UInt64.reduceToNat];try omega))) only[↓Sx.S0,Sx.S1,Tryz.fx,xg_,Nat.reduceAdd,Nat.reducePow,Int.reducePow,Nat.reduceBEq, ↓reduceIte,UInt8.reduceToNat,UInt16.reduceToNat,UInt32.reduceToNat,UInt64.reduceToNat,Int.reduceToNat,Sx.loadV_one,hrd,hlg,hS.idx]))
  have hfl:=XE_ ls g hlt
  have hfle:=VV_ ls (g+1)
  have hfl2:=congrArg List.length hfl
  rw[List.length_append] at hfl2
  refine Ow.callX (Y:= []) (by simp) rfl rfl Tryz.call162 (fun w' hw' hX hn=>Qz_ b D _ (ls.getD g []) w' hBD hX hn (by rw[List.length_append];omega)) (fun v2 D2 hC hS2=> ?_)
  rw[List.append_nil]
  obtain⟨rfl,hB2⟩:=hS2
  refine ko @xg_ ?_
  first|with_reducible refine ks [] @xg_ ?_|refine kp @xg_ ?_
  refine Again.mk (WG.mk (g+1) D2) (by show ls.length - (g+1)<ls.length - g;omega) ⟨by show g+1≤ls.length;omega,hE.came0 hC, ?_⟩ rfl rfl
  show BldAt b (l++ (ls.take (g+1)).flatten) D2
  rw[hfl,←List.append_assoc]
  exact hB2
 ·obtain rfl:g=ls.length:=by omega
  first|with_reducible refine ks [] @xg_ ?_|refine kp @xg_ ?_
  refine⟨_,(ke @xg_), ?_⟩
  rw[List.take_length] at hBD
  exact⟨hE,rfl,hBD⟩
def maxN:Int:=1099511627775
def qd_ (n:Nat):List UInt8:=if h:n<128 then [UInt8.ofNat n] else UInt8.ofNat (n%128+128)::qd_ (n / 128)
termination_by n
decreasing_by omega
def zw_ (n:Int):Nat:=(if(if maxN<n then maxN else n)>0 then(if maxN<n then maxN else n) else 0).toNat
def j0_ (l:List Int):List UInt8:=(l.map fun n=>qd_ (zw_ n)).flatten
theorem jW_ {n:Nat} (h:n<128):qd_ n= [UInt8.ofNat n]:=by rw[qd_];simp[h]
theorem v5_ {n:Nat} (h: ¬n<128):qd_ n=UInt8.ofNat (n%128+128)::qd_ (n / 128):=by rw[qd_];simp[h]
theorem xR_: ∀ (k n:Nat),n<128^k→0<k→(qd_ n).length≤k
 |0,n,h,h0=>absurd h0 (by omega)
 |k+1,n,h,_=>by
  by_cases hn:n<128
  ·rw[jW_ hn];simp
  ·rw[v5_ hn]
   have hk:0<k:=by
    rcases Nat.eq_zero_or_pos k with rfl|hk
    ·simp at h;omega
    ·exact hk
   have:=xR_ k (n / 128) (by rw[Nat.pow_succ] at h;omega) hk
   simp only[List.length_cons];omega
theorem WO_ (n:Int):zw_ n<1099511627776:=by unfold zw_ maxN;split<;>split at* <;>omega
theorem zj_ (n:Int): (qd_ (zw_ n)).length≤6:=xR_ 6 _ (by have:=WO_ n;omega) (by omega)
theorem amH_: ∀b:BitVec 8,b.toNat<128→(b|||128#8)=b+128#8:=by decide
theorem v7_ (m:Nat):UInt8.ofInt (m:Int)=UInt8.ofNat m:=by
 apply UInt8.toBitVec_inj.1
 apply BitVec.eq_of_toNat_eq
 simp[UInt8.ofInt,UInt8.ofNat]
 omega
theorem akt_ (m:Nat):UInt8.ofInt ((m:Int)%128) |||128=UInt8.ofNat (m%128+128):=by
 rw[show((m:Int)%128)=((m%128:Nat):Int) by omega,v7_]
 apply UInt8.toBitVec_inj.1
 have h:=amH_ (BitVec.ofNat 8 (m%128)) (by simp[BitVec.toNat_ofNat];omega)
 have h1: (UInt8.ofNat (m%128) |||128).toBitVec=BitVec.ofNat 8 (m%128) |||128#8:=rfl
 rw[h1,h]
 apply BitVec.eq_of_toNat_eq
 simp[UInt8.ofNat]
structure NG where
 m:Nat
 pre:List UInt8
 D:zc_
theorem ja_ (b:Nat) (X:zc_) (l:List UInt8) (x:Value) (b2 off:Nat) (ls:List Int) (arr:Array Value) (E:TypeId) (fz:Nat×Nat) (w:World) (hB:BldAt b l X) (hX: ∀p,p∈X→w.heap[p.1]? =some p.2) (hn: (keys X).Nodup)
  (hS:OneS vi 0 w x ls b2 off arr E fz) (hne:0<ls.length→b2∉keys X) (hl:l.length+ls.length*6<34359738368):
  Rets Tryz.prog 124 #[vp b 0,x] w (XS w X (fun v D=>v= .tuple #[]∧BldAt b (l++j0_ ls) D)):=by
 refine Rets.enterX Tryz.func124 rfl (rs:= []) Tryz.results124 Tryz.ntmps124 hX hn ?_
 refine kf ?_
 ((try with_reducible refine Cw.go [] ?_);(try simp(disch:=(first|assumption|omega| (simp only[kd_,kc_,UInt64.reduceToNat];try omega))) only[↓Sx.S0,Sx.S1,Tryz.fx,xg_,Nat.reduceAdd,Nat.reducePow,Int.reducePow,Nat.reduceBEq, ↓reduceIte,UInt8.reduceToNat,UInt16.reduceToNat,UInt32.reduceToNat,UInt64.reduceToNat,Int.reduceToNat,hS.len]))
 refine Cw.loopG (G:=WG) [11,12,13,5,14,15,16,17,18,21,22,23,24,25,26,27,28,19,20,29,30,31,32,33,34,35,10] (fun g=> [(10,vi g.g)]) (fun g=>g.D) (fun g=>g.g≤ls.length∧Ext w X g.D∧BldAt b (l++j0_ (ls.take g.g)) g.D) (fun g=>ls.length - g.g) ⟨0,X⟩ rfl rfl ?_ ?_
 ·exact⟨by simp,Ext.refl _ _,by simpa [j0_] using hB⟩
 intro g j hg
 refine kv ?_
 obtain⟨g,D⟩:=g
 simp only at hg ⊢
 obtain⟨hgL,hE,hBD⟩:=hg
 by_cases hlt:g<ls.length
 ·have hlg:=hS.get g hlt
  have hrd:=hE.old (hS.has (by omega)) (hne (by omega))
  ((try with_reducible refine Cw.go [] ?_);(try simp(disch:=(first|assumption|omega| (simp only[kd_,kc_,UInt64.reduceToNat];try omega))) only[↓Sx.S0,Sx.S1,Tryz.fx,xg_,Nat.reduceAdd,Nat.reducePow,Int.reducePow,Nat.reduceBEq, ↓reduceIte,UInt8.reduceToNat,UInt16.reduceToNat,UInt32.reduceToNat,UInt64.reduceToNat,Int.reduceToNat,Sx.loadV_one,hrd,hlg,hS.idx]))
  refine Ow.minI rfl rfl rfl ?_
  refine Ow.maxI rfl rfl rfl ?_
  have hcl: (if(if maxN<ls.getD g 0 then maxN else ls.getD g 0)>0 then(if maxN<ls.getD g 0 then maxN else ls.getD g 0) else 0)=(zw_ (ls.getD g 0):Int):=by
   unfold zw_;omega
  have hcl': (if(if 1099511627775<ls.getD g 0 then 1099511627775 else ls.getD g 0)>0 then(if 1099511627775<ls.getD g 0 then 1099511627775 else ls.getD g 0) else 0)=(zw_ (ls.getD g 0):Int):=hcl
  rw[hcl']
  have hcb:=WO_ (ls.getD g 0)
  have hpl: (j0_ (ls.take g)).length≤g*6:=by
   unfold j0_
   rw[List.length_flatten,List.map_map]
   have: ∀ (q:List Int),(q.map (List.length∘fun n=>qd_ (zw_ n))).sum≤q.length*6:=by
    intro q
    induction q with
    |nil=>simp
    |cons y r ih=>have:=zj_ y;simp only[List.map_cons,List.sum_cons,List.length_cons,Function.comp];omega
   have h2:=this (ls.take g)
   rw[List.length_take] at h2
   have:min g ls.length*6≤g*6:=Nat.mul_le_mul_right _ (Nat.min_le_left _ _)
   omega
  have hnl:=zj_ (ls.getD g 0)
  have hsucc:j0_ (ls.take (g+1))=j0_ (ls.take g)++qd_ (zw_ (ls.getD g 0)):=by
   unfold j0_
   rw[List.take_succ_eq_append_getElem hlt,List.map_append,List.flatten_append,List.getD_eq_getElem?_getD,List.getElem?_eq_getElem hlt]
   simp only[List.map_cons,List.map_nil,List.flatten_cons,List.flatten_nil,List.append_nil,Option.getD_some]
  generalize zw_ (ls.getD g 0)=m0 at*
  refine ko @xg_ ?_
  first|with_reducible refine ks [] @xg_ ?_|refine kp @xg_ ?_
  refine Cw.loopG (G:=NG) [17,18,21,22,23,24,25,26,27,28,19,20,5] (fun q=> [(5,vi q.m)]) (fun q=>q.D) (fun q=>q.m≤m0∧Ext w X q.D∧qd_ m0=q.pre++qd_ q.m∧BldAt b (l++j0_ (ls.take g)++q.pre) q.D) (fun q=>q.m) ⟨m0,[],D⟩ rfl rfl ?_ ?_
  ·exact⟨Nat.le_refl _,hE,rfl,by rwa [List.append_nil]⟩
  intro q jq hq
  refine kv ?_
  obtain⟨m,pre,D1⟩:=q
  simp only at hq ⊢
  obtain⟨hqm,hE1,hpre,hB1⟩:=hq
  have hpl2:=congrArg List.length hpre
  rw[List.length_append] at hpl2
  by_cases hm:m<128
  ·first|with_reducible refine ks [] @xg_ ?_|refine kp @xg_ ?_
   rw[jW_ hm] at hpre hpl2
   have hlen: (l++j0_ (ls.take g)++pre).length+1<34359738368:=by
    rw[List.length_append,List.length_append]
    simp only[List.length_cons,List.length_nil] at hpl2
    omega
   refine Ow.callX (Y:= []) (by simp) rfl rfl Tryz.call163 (fun w' hw' hX hn=>ws_ b D1 _ _ w' hB1 hX hn (by omega)) (fun v2 D2 hC hS2=> ?_)
   rw[List.append_nil]
   obtain⟨rfl,hB2⟩:=hS2
   rw[v7_] at hB2
   refine ko @xg_ ?_
   first|with_reducible refine ks [] @xg_ ?_|refine kp @xg_ ?_
   refine Again.mk (WG.mk (g+1) D2) (by show ls.length - (g+1)<ls.length - g;omega) ⟨by show g+1≤ls.length;omega,hE1.came0 hC, ?_⟩ rfl rfl
   show BldAt b (l++j0_ (ls.take (g+1))) D2
   rw[hsucc,hpre,←List.append_assoc,←List.append_assoc]
   exact hB2
  ·first|with_reducible refine ks [] @xg_ ?_|refine kp @xg_ ?_
   rw[v5_ hm] at hpre hpl2
   have hlen: (l++j0_ (ls.take g)++pre).length+1<34359738368:=by
    rw[List.length_append,List.length_append]
    simp only[List.length_cons] at hpl2
    omega
   refine Ow.callX (Y:= []) (by simp) rfl rfl Tryz.call163 (fun w' hw' hX hn=>ws_ b D1 _ _ w' hB1 hX hn (by omega)) (fun v2 D2 hC hS2=> ?_)
   rw[List.append_nil]
   obtain⟨rfl,hB2⟩:=hS2
   rw[akt_] at hB2
   refine ko @xg_ ?_
   first|with_reducible refine ks [] @xg_ ?_|refine kp @xg_ ?_
   refine Again.mk (NG.mk (m / 128) (pre++ [UInt8.ofNat (m%128+128)]) D2) (by show m / 128<m;omega) ⟨by show m / 128≤m0;omega,hE1.came0 hC, ?_, ?_⟩ rfl rfl
   ·show qd_ m0=pre++ [UInt8.ofNat (m%128+128)]++qd_ (m / 128)
    rw[hpre];simp
   ·show BldAt b (l++j0_ (ls.take g)++ (pre++ [UInt8.ofNat (m%128+128)])) D2
    rw[←List.append_assoc]
    exact hB2
 ·obtain rfl:g=ls.length:=by omega
  first|with_reducible refine ks [] @xg_ ?_|refine kp @xg_ ?_
  refine⟨_,(ke @xg_), ?_⟩
  rw[List.take_length] at hBD
  exact⟨hE,rfl,hBD⟩
end Go.Proofs
end
section
open Go Go.Proofs Go.Sx
namespace Go.Proofs
set_option maxRecDepth 10000
set_option maxHeartbeats 1000000
set_option linter.unusedSimpArgs false
set_option linter.defProp false
def jx_:=And.intro (And.intro (@Jl_) (@Jm_)) (And.intro (@nilW) (And.intro (@afZ_) (@Jw_)))
theorem BldAt.app {b:Nat} {l:List UInt8} {X Y:zc_} (h:BldAt b l X):BldAt b l (X++Y):=by
 obtain⟨p,v,h1,h2,h3,h4⟩:=h
 exact⟨p,v,j2_ h1,h2,h3.app,h4⟩
def jQ_ (s:List UInt8):List UInt8:=qd_ (zw_ s.length)++s
def kR_ (ls:List (List UInt8)):List UInt8:=(ls.map jQ_).flatten
theorem w5_ (n:Int):j0_ [n]=qd_ (zw_ n):=by simp[j0_]
theorem aaQ_ (ls:List (List UInt8)) (g:Nat) (h:g<ls.length):kR_ (ls.take (g+1))=kR_ (ls.take g)++jQ_ (ls.getD g []):=by
 unfold kR_
 rw[List.take_succ_eq_append_getElem h,List.map_append,List.flatten_append,List.getD_eq_getElem?_getD,List.getElem?_eq_getElem h]
 simp only[List.map_cons,List.map_nil,List.flatten_cons,List.flatten_nil,List.append_nil,Option.getD_some]
theorem XJ_ (ls:List (List UInt8)) (g:Nat): (kR_ (ls.take g)).length≤ (kR_ ls).length:=by
 conv=>rhs;rw[←List.take_append_drop g ls]
 unfold kR_
 rw[List.map_append,List.flatten_append,List.length_append];omega
theorem adK_ (b:Nat) (X:zc_) (l:List UInt8) (x:Value) (b2 off:Nat) (ls:List (List UInt8)) (arr:Array Value) (E:TypeId) (fz:Nat×Nat) (w:World) (hB:BldAt b l X) (hX: ∀p,p∈X→w.heap[p.1]? =some p.2) (hn: (keys X).Nodup)
  (hS:StrS w x ls b2 off arr E fz) (hne:0<ls.length→b2∉keys X) (hl:l.length+ (kR_ ls).length<17179869184) (hls:ls.length<17179869184):
  Rets Tryz.prog 137 #[vp b 0,x] w (XS w X (fun v D=>v= .tuple #[]∧BldAt b (l++kR_ ls) D)):=by
 refine Rets.enterX Tryz.func137 rfl (rs:= []) Tryz.results137 Tryz.ntmps137 hX hn ?_
 refine kf ?_
 ((try with_reducible refine Cw.go [] ?_);(try simp(disch:=(first|assumption|omega| (simp only[kd_,kc_,UInt64.reduceToNat];try omega))) only[↓Sx.S0,Sx.S1,Tryz.fx,jx_,Nat.reduceAdd,Nat.reducePow,Int.reducePow,Nat.reduceBEq, ↓reduceIte,UInt8.reduceToNat,UInt16.reduceToNat,UInt32.reduceToNat,UInt64.reduceToNat,Int.reduceToNat,hS.len]))
 refine Cw.loopG (G:=WG) [9,10,11,5,12,13,14,15,16,17,18,19,20,21,8] (fun g=> [(8,vi g.g)]) (fun g=>g.D) (fun g=>g.g≤ls.length∧Ext w X g.D∧BldAt b (l++kR_ (ls.take g.g)) g.D) (fun g=>ls.length - g.g) ⟨0,X⟩ rfl rfl ?_ ?_
 ·exact⟨by simp,Ext.refl _ _,by simpa [kR_] using hB⟩
 intro g j hg
 refine kv ?_
 obtain⟨g,D⟩:=g
 simp only at hg ⊢
 obtain⟨hgL,hE,hBD⟩:=hg
 by_cases hlt:g<ls.length
 ·have hlg:=hS.get g hlt
  have hrd:=hE.old (hS.has (by omega)) (hne (by omega))
  have hsu:=aaQ_ ls g hlt
  have hle:=XJ_ ls (g+1)
  have hsl:=congrArg List.length hsu
  rw[List.length_append] at hsl
  have htl: (jQ_ (ls.getD g [])).length=(qd_ (zw_ (ls.getD g []).length)).length+ (ls.getD g []).length:=by unfold jQ_;rw[List.length_append]
  ((try with_reducible refine Cw.go [] ?_);(try simp(disch:=(first|assumption|omega| (simp only[kd_,kc_,UInt64.reduceToNat];try omega))) only[↓Sx.S0,Sx.S1,Tryz.fx,jx_,Nat.reduceAdd,Nat.reducePow,Int.reducePow,Nat.reduceBEq, ↓reduceIte,UInt8.reduceToNat,UInt16.reduceToNat,UInt32.reduceToNat,UInt64.reduceToNat,Int.reduceToNat,Sx.loadV_one,hrd,hlg,hS.idx]))
  refine Ow.buildSlice (e:=3) #[vi (ls.getD g []).length] rfl rfl (by kernel_rfl) fun b3 hb3 hw3=> ?_
  refine ko @jx_ ?_
  refine Ow.callX (Y:= [(b3, .cells #[vi (ls.getD g []).length] 3 (0,0))]) (by simp) rfl rfl Tryz.call124 (fun w' hw' hX hn=>ja_ b D _ _ b3 0 [((ls.getD g []).length:Int)] _ _ _ w' hBD hX hn (OneS.lit [((ls.getD g []).length:Int)] rfl rfl (hw'.has _ _ (List.mem_append_right _ List.mem_cons_self))) (fun _ hm=>Nat.lt_irrefl _ (zs_ hb3 hm)) (by rw[List.length_append];simp only[List.length_cons,List.length_nil];omega)) (fun v2 D2 hC hS2=> ?_)
  obtain⟨rfl,hB2⟩:=hS2
  have hE2:=(hE.app (o:= .cells #[vi (ls.getD g []).length] 3 (0,0)) hw3).came hC
  rw[w5_] at hB2
  have hB3:=BldAt.app (Y:= [(b3, .cells #[vi (ls.getD g []).length] 3 (0,0))]) hB2
  generalize D2++ [(b3,Obj.cells #[vi (ls.getD g []).length] 3 (0,0))]=D3 at*
  refine ko @jx_ ?_
  first|with_reducible refine ks [] @jx_ ?_|refine kp @jx_ ?_
  refine Ow.buildSlice (e:=9) #[vs (ls.getD g [])] rfl rfl (by kernel_rfl) fun b4 hb4 hw4=> ?_
  refine ko @jx_ ?_
  refine Ow.callX (Y:= [(b4, .cells #[vs (ls.getD g [])] 9 (0,0))]) (by simp) rfl rfl Tryz.call123 (fun w' hw' hX hn=>vM_ b D3 _ _ b4 0 [ls.getD g []] _ _ _ w' hB3 hX hn (StrS.lit [ls.getD g []] rfl rfl (hw'.has _ _ (List.mem_append_right _ List.mem_cons_self))) (fun _ hm=>Nat.lt_irrefl _ (zs_ hb4 hm)) (by rw[List.length_append,List.length_append];simp only[List.flatten_cons,List.flatten_nil,List.append_nil];omega) (by simp)) (fun v4 D4 hC4 hS4=> ?_)
  obtain⟨rfl,hB4⟩:=hS4
  have hE4:=(hE2.app (o:= .cells #[vs (ls.getD g [])] 9 (0,0)) hw4).came hC4
  have hB5:=BldAt.app (Y:= [(b4, .cells #[vs (ls.getD g [])] 9 (0,0))]) hB4
  generalize D4++ [(b4,Obj.cells #[vs (ls.getD g [])] 9 (0,0))]=D5 at*
  refine ko @jx_ ?_
  first|with_reducible refine ks [] @jx_ ?_|refine kp @jx_ ?_
  refine Again.mk (WG.mk (g+1) D5) (by show ls.length - (g+1)<ls.length - g;omega) ⟨by show g+1≤ls.length;omega,hE4, ?_⟩ rfl rfl
  show BldAt b (l++kR_ (ls.take (g+1))) D5
  rw[hsu]
  simpa [jQ_] using hB5
 ·obtain rfl:g=ls.length:=by omega
  first|with_reducible refine ks [] @jx_ ?_|refine kp @jx_ ?_
  refine⟨_,(ke @jx_), ?_⟩
  rw[List.take_length] at hBD
  exact⟨hE,rfl,hBD⟩
def idC (id:List UInt8):List Value:=id.map v8
structure IdL where
 l:List UInt8
 h:l.length=32
def idLC (x:IdL):List Value:=x.l.map v8
def id0:IdL:=⟨List.replicate 32 0,by simp⟩
theorem aiB_ (x:IdL): (idLC x).length=32:=by simp[idLC,x.h]
theorem afU_ (x:IdL): (idLC x).toArray=a8 x.l:=rfl
def idsL (ls:List IdL):List UInt8:=(ls.map IdL.l).flatten
theorem agu_ (ls:List IdL) (g:Nat) (h:g<ls.length):idsL (ls.take (g+1))=idsL (ls.take g)++ (ls.getD g id0).l:=by
 unfold idsL
 rw[List.take_succ_eq_append_getElem h,List.map_append,List.flatten_append,List.getD_eq_getElem?_getD,List.getElem?_eq_getElem h]
 simp only[List.map_cons,List.map_nil,List.flatten_cons,List.flatten_nil,List.append_nil,Option.getD_some]
theorem ah9_ (ls:List IdL): (idsL ls).length=32*ls.length:=by
 unfold idsL
 induction ls with
 |nil=>rfl
 |cons x r ih=>rw[List.map_cons,List.flatten_cons,List.length_append,ih,x.h,List.length_cons];omega
theorem adq_ (b:Nat) (X:zc_) (l:List UInt8) (x:Value) (b2 off:Nat) (ls:List IdL) (arr:Array Value) (E:TypeId) (fz:Nat×Nat) (w:World) (hB:BldAt b l X) (hX: ∀p,p∈X→w.heap[p.1]? =some p.2) (hn: (keys X).Nodup)
  (hS:RowS 32 idLC id0 w x ls b2 off arr E fz) (hne:0<ls.length→b2∉keys X) (hl:l.length+32*ls.length<17179869184):
  Rets Tryz.prog 125 #[vp b 0,x] w (XS w X (fun v D=>v= .tuple #[]∧BldAt b (l++idsL ls) D)):=by
 refine Rets.enterX Tryz.func125 rfl (rs:= []) Tryz.results125 Tryz.ntmps125 hX hn ?_
 refine kf ?_
 ((try with_reducible refine Cw.go [] ?_);(try simp(disch:=(first|assumption|omega| (simp only[kd_,kc_,UInt64.reduceToNat];try omega))) only[↓Sx.S0,Sx.S1,Tryz.fx,jx_,Nat.reduceAdd,Nat.reducePow,Int.reducePow,Nat.reduceBEq, ↓reduceIte,UInt8.reduceToNat,UInt16.reduceToNat,UInt32.reduceToNat,UInt64.reduceToNat,Int.reduceToNat,hS.len]))
 refine Cw.loopG (G:=WG) [9,10,11,5,12,13,14,15,16,17,8] (fun g=> [(8,vi g.g)]) (fun g=>g.D) (fun g=>g.g≤ls.length∧Ext w X g.D∧BldAt b (l++idsL (ls.take g.g)) g.D) (fun g=>ls.length - g.g) ⟨0,X⟩ rfl rfl ?_ ?_
 ·exact⟨by simp,Ext.refl _ _,by simpa [idsL] using hB⟩
 intro g j hg
 refine kv ?_
 obtain⟨g,D⟩:=g
 simp only at hg ⊢
 obtain⟨hgL,hE,hBD⟩:=hg
 by_cases hlt:g<ls.length
 ·have hrd:=hE.old (hS.has (by omega)) (hne (by omega))
  have hld:=hS.load aiB_ (by omega) hlt
  rw[afU_] at hld
  have hsu:=agu_ ls g hlt
  have hil:=(ls.getD g id0).h
  have hll:=ah9_ (ls.take g)
  rw[List.length_take] at hll
  have hmin:min g ls.length≤g:=Nat.min_le_left _ _
  ((try with_reducible refine Cw.go [] ?_);(try simp(disch:=(first|assumption|omega| (simp only[kd_,kc_,UInt64.reduceToNat];try omega))) only[↓Sx.S0,Sx.S1,Tryz.fx,jx_,Nat.reduceAdd,Nat.reducePow,Int.reducePow,Nat.reduceBEq, ↓reduceIte,UInt8.reduceToNat,UInt16.reduceToNat,UInt32.reduceToNat,UInt64.reduceToNat,Int.reduceToNat,hrd,hld,hS.idx]))
  refine Ow.alloc rfl rfl Tryz.zr86 fun b5 hb5 hw5=> ?_
  refine Ow.go rfl ?_
  simp(disch:=(first|assumption|omega| (simp only[kd_,kc_,UInt64.reduceToNat];try omega))) only[↓Sx.S0,Sx.S1,Tryz.fx,jx_,Nat.reduceAdd,Nat.reducePow,Int.reducePow,Nat.reduceBEq, ↓reduceIte,UInt8.reduceToNat,UInt16.reduceToNat,UInt32.reduceToNat,UInt64.reduceToNat,Int.reduceToNat,k0_ hb5,ahP_ hb5,afF_]
  have hE5:=hE.app (o:= .cells (a8 (ls.getD g id0).l) 86 (0,0)) hw5
  have hB5:=BldAt.app (Y:= [(b5, .cells (a8 (ls.getD g id0).l) 86 (0,0))]) hBD
  have rd5:zv_ w (D++ [(b5, .cells (a8 (ls.getD g id0).l) 86 (0,0))]) b5=_:=jJ_ (k0_ hb5)
  generalize D++ [(b5,Obj.cells (a8 (ls.getD g id0).l) 86 (0,0))]=D5 at*
  first|with_reducible refine ks [] (And.intro @jx_ @rd5) ?_|refine kp (And.intro @jx_ @rd5) ?_
  have e32:List.take 32 (List.drop 0 (ls.getD g id0).l)=(ls.getD g id0).l:=by rw[List.drop_zero,List.take_of_length_le (by omega)]
  rw[e32]
  refine Ow.buildSlice (e:=9) #[vs (ls.getD g id0).l] rfl rfl (by kernel_rfl) fun b6 hb6 hw6=> ?_
  refine ko @jx_ ?_
  refine Ow.callX (Y:= [(b6, .cells #[vs (ls.getD g id0).l] 9 (0,0))]) (by simp) rfl rfl Tryz.call123 (fun w' hw' hX hn=>vM_ b D5 _ _ b6 0 [(ls.getD g id0).l] _ _ _ w' hB5 hX hn (StrS.lit [(ls.getD g id0).l] rfl rfl (hw'.has _ _ (List.mem_append_right _ List.mem_cons_self))) (fun _ hm=>Nat.lt_irrefl _ (zs_ hb6 hm)) (by rw[List.length_append];simp only[List.flatten_cons,List.flatten_nil,List.append_nil];omega) (by simp)) (fun v4 D4 hC4 hS4=> ?_)
  obtain⟨rfl,hB4⟩:=hS4
  have hE4:=(hE5.app (o:= .cells #[vs (ls.getD g id0).l] 9 (0,0)) hw6).came hC4
  have hB6:=BldAt.app (Y:= [(b6, .cells #[vs (ls.getD g id0).l] 9 (0,0))]) hB4
  generalize D4++ [(b6,Obj.cells #[vs (ls.getD g id0).l] 9 (0,0))]=D6 at*
  refine ko @jx_ ?_
  first|with_reducible refine ks [] @jx_ ?_|refine kp @jx_ ?_
  refine Again.mk (WG.mk (g+1) D6) (by show ls.length - (g+1)<ls.length - g;omega) ⟨by show g+1≤ls.length;omega,hE4, ?_⟩ rfl rfl
  show BldAt b (l++idsL (ls.take (g+1))) D6
  rw[hsu]
  simpa using hB6
 ·obtain rfl:g=ls.length:=by omega
  first|with_reducible refine ks [] @jx_ ?_|refine kp @jx_ ?_
  refine⟨_,(ke @jx_), ?_⟩
  rw[List.take_length] at hBD
  exact⟨hE,rfl,hBD⟩
theorem Qb_ (b:Nat) (X:zc_) (l:List UInt8) (w:World) (hB:BldAt b l X) (hX: ∀p,p∈X→w.heap[p.1]? =some p.2) (hn: (keys X).Nodup) (hl:l.length<34359738368):
  Rets Tryz.prog 127 #[vp b 0] w (XS w X (fun v _=>v=vs l)):=by
 refine Rets.enterX Tryz.func127 rfl (rs:= [.tmp 2]) Tryz.results127 Tryz.ntmps127 hX hn ?_
 refine kf ?_
 first|with_reducible refine ks [] @jx_ ?_|refine kp @jx_ ?_
 refine Ow.callX (Y:= []) (by simp) rfl rfl Tryz.call165 (fun w' hw' hX hn=>WE_ b X l w' hB hX hn hl) (fun v2 D2 hC hS2=> ?_)
 subst hS2
 rw[List.append_nil]
 refine ko @jx_ ?_
 first|with_reducible refine ks [] @jx_ ?_|refine kp @jx_ ?_
 refine⟨_,(ke @jx_), ?_⟩
 exact⟨(Ext.refl _ _).came0 hC,rfl⟩
end Go.Proofs
end
section
open Go Go.Proofs Go.Sx
namespace Go.Proofs
set_option maxRecDepth 10000
set_option maxHeartbeats 1000000
set_option linter.unusedSimpArgs false
structure Rd where
 s:List UInt8
 at_:Nat
 err:Nat
def rdC (r:Rd):Array Value:= #[vs r.s,vi r.at_,vi r.err]
theorem xI_ (s:List UInt8) (a e:Int) (E:TypeId) (n:Nat):zp_ (some (false,n)) (some (.cells #[vs s,vi a,vi e] E (0,0))) 0=some (vs s):=(rfl)
theorem xH_ (s:List UInt8) (a e:Int) (E:TypeId) (n:Nat):zp_ (some (false,n)) (some (.cells #[vs s,vi a,vi e] E (0,0))) 1=some (vi a):=(rfl)
theorem xw_ (s:List UInt8) (a e:Int) (E:TypeId) (n:Nat):zp_ (some (false,n)) (some (.cells #[vs s,vi a,vi e] E (0,0))) 2=some (vi e):=(rfl)
theorem jI_ (s:List UInt8) (a e x:Int) (E:TypeId):zn_ (some (false,1)) (some (.cells #[vs s,vi a,vi e] E (0,0))) 1 (vi x)=some (.cells #[vs s,vi x,vi e] E (0,0)):=by
 simp[zn_,x8_,vi,Value.cells,Value.oneCell']
theorem jP_ (s:List UInt8) (a e x:Int) (E:TypeId):zn_ (some (false,1)) (some (.cells #[vs s,vi a,vi e] E (0,0))) 2 (vi x)=some (.cells #[vs s,vi a,vi x] E (0,0)):=by
 simp[zn_,x8_,vi,Value.cells,Value.oneCell']
theorem nilR (b o:Nat):qE_ Tryz.prog .eql 161 (vp b o) (.pointer none)=some (.bool false):=by
 simp[qE_,eqX,qu_,qz_,Tryz.underlying161,vp]
theorem alj_:qE_ Tryz.prog .eql 161 (.pointer none) (.pointer none)=some (.bool true):=by
 simp[qE_,eqX,qu_,qz_,Tryz.underlying161]
theorem aky_ (b o:Nat):qE_ Tryz.prog .neq 161 (vp b o) (.pointer none)=some (.bool true):=by
 simp[qE_,eqX,qu_,qz_,Tryz.underlying161,vp]
theorem agF_:qE_ Tryz.prog .neq 161 (.pointer none) (.pointer none)=some (.bool false):=by
 simp[qE_,eqX,qu_,qz_,Tryz.underlying161]
set_option linter.defProp false
def zO_:=And.intro (And.intro (And.intro (@xI_) (@xH_)) (And.intro (@xw_) (@jI_))) (And.intro (And.intro (@jP_) (@nilR)) (And.intro (@alj_) (And.intro (@aky_) (@agF_))))
theorem Zl_ (b:Nat) (s:List UInt8) (a e:Int) (w:World) (ho:w.heap[b]? =some (.cells #[vs s,vi a,vi e] 221 (0,0))):
  Rets Tryz.prog 143 #[vp b 0] w (fun v D=>v=vi e∧D= []):=by
 refine Rets.enterV Tryz.func143 rfl (rs:= [.tmp 2]) Tryz.results143 Tryz.ntmps143 ?_
 refine kf ?_
 first|with_reducible refine ks [] (And.intro @zO_ @ho) ?_|refine kp (And.intro @zO_ @ho) ?_
 refine⟨_,(ke @zO_),trivial, ?_⟩
 rfl
theorem aib_ (b:Nat) (s:List UInt8) (a e:Int) (w:World) (ho:w.heap[b]? =some (.cells #[vs s,vi a,vi e] 221 (0,0))):
  Rets Tryz.prog 145 #[vp b 0] w (fun v D=>v=vi a∧D= []):=by
 refine Rets.enterV Tryz.func145 rfl (rs:= [.tmp 2]) Tryz.results145 Tryz.ntmps145 ?_
 refine kf ?_
 first|with_reducible refine ks [] (And.intro @zO_ @ho) ?_|refine kp (And.intro @zO_ @ho) ?_
 refine⟨_,(ke @zO_),trivial, ?_⟩
 rfl
theorem afy_ (b:Nat) (s:List UInt8) (a e:Int) (w:World) (ho:w.heap[b]? =some (.cells #[vs s,vi a,vi e] 221 (0,0))):
  Rets Tryz.prog 92 #[vp b 0] w (fun v D=>v=vi (if e≠0 then e else if a<s.length then 5 else 0)∧D= []):=by
 refine Rets.enterV Tryz.func92 rfl (rs:= [.tmp 2]) Tryz.results92 Tryz.ntmps92 ?_
 refine kf ?_
 first|with_reducible refine ks [] @zO_ ?_|refine kp @zO_ ?_
 refine Ow.callFV rfl Tryz.call143 (fun w' hw'=>Zl_ b s a e w' (by rw[hw'.old b (Array.getElem?_eq_some_iff.1 ho).1 (by simp[keys])];exact ho)) ?_
 refine ko @zO_ ?_
 first|with_reducible refine ks [] @zO_ ?_|refine kp @zO_ ?_
 by_cases he:e=0
 ·first|with_reducible refine ks [] @zO_ ?_|refine kp @zO_ ?_
  refine Cw.regionS [b] [0,1,2,4,5,6,3,7,8,9] [] (by kernel_rfl) (by kernel_rfl) (by kernel_rfl) ?_
  simp only[zh_, ↓zd_, ↓zb_, ↓zl_, ↓zm_,za_]
  refine kq (And.intro @zO_ @ho) ?_
  try with_reducible refine Ow.nil ?_
  first|with_reducible refine ks [] @zO_ ?_|refine kp @zO_ ?_
  refine cdC.splitp (fun hc=> ?_) (fun hc=> ?_)
  ·first|with_reducible refine ks [] @zO_ ?_|refine kp @zO_ ?_
   refine⟨_,(ke @zO_),trivial, ?_⟩
   simp[hc,he,vt_]
  ·first|with_reducible refine ks [] @zO_ ?_|refine kp @zO_ ?_
   refine⟨_,(ke @zO_),trivial, ?_⟩
   simp[hc,he,vt_]
 ·first|with_reducible refine ks [] @zO_ ?_|refine kp @zO_ ?_
  refine⟨_,(ke @zO_),trivial, ?_⟩
  simp[he,vt_]
theorem jZ_ (b:Nat) (s:List UInt8) (a e x y:Int) (w:World) (ho:w.heap[b]? =some (.cells #[vs s,vi a,vi e] 221 (0,0))):
  Rets Tryz.prog 144 #[vp b 0,vi x,vi y] w (fun v D=> ∃o,D= [(b,o)]∧v= .tuple #[]∧o= .cells #[vs s,vi (if e=0 then y else a),vi (if e=0 then x else e)] 221 (0,0)):=by
 refine Rets.enterM Tryz.func144 rfl (rs:= []) Tryz.results144 Tryz.ntmps144 ho ?_
 refine kf ?_
 first|with_reducible refine ks [] @zO_ ?_|refine kp @zO_ ?_
 by_cases he:e=0
 ·first|with_reducible refine ks [] @zO_ ?_|refine kp @zO_ ?_
  refine⟨_,_,_,(ke @zO_),rfl,trivial, ?_⟩
  simp[he,vt_]
 ·first|with_reducible refine ks [] @zO_ ?_|refine kp @zO_ ?_
  refine⟨_,_,_,(ke @zO_),rfl,trivial, ?_⟩
  simp[he,vt_]
def qw_ (s:List UInt8) (a:Nat) (e n:Int):List UInt8×Nat×Int:=
 if e≠0 then([],a,e) else if n<0 then([],a,2) else if(s.length:Int) - a<n then([],a,3) else((s.drop a).take n.toNat,a+n.toNat,0)
theorem JT_ (b:Nat) (s:List UInt8) (a:Nat) (e n:Int) (w:World) (ha:a≤s.length) (hs:s.length<9223372036854775808) (ho:w.heap[b]? =some (.cells #[vs s,vi a,vi e] 221 (0,0))):
  Rets Tryz.prog 88 #[vp b 0,vi n] w (fun v D=> ∃o,D= [(b,o)]∧v=vs (qw_ s a e n).1∧o= .cells #[vs s,vi (qw_ s a e n).2.1,vi (qw_ s a e n).2.2] 221 (0,0)):=by
 refine Rets.enterM Tryz.func88 rfl (rs:= [.tmp 4]) Tryz.results88 Tryz.ntmps88 ho ?_
 refine kf ?_
 first|with_reducible refine ks [] @zO_ ?_|refine kp @zO_ ?_
 refine Ow.callFV rfl Tryz.call143 (fun w' hw'=>Zl_ b s a e w' (hw'.has _ _ List.mem_cons_self)) ?_
 refine ko @zO_ ?_
 first|with_reducible refine ks [] @zO_ ?_|refine kp @zO_ ?_
 unfold qw_
 by_cases he:e=0
 ·subst he
  rw[if_neg (fun h=>h rfl)]
  first|with_reducible refine ks [] @zO_ ?_|refine kp @zO_ ?_
  by_cases hn:n<0
  ·rw[if_pos hn]
   first|with_reducible refine ks [] @zO_ ?_|refine kp @zO_ ?_
   refine Ow.callM rfl rfl Tryz.call144 (by simp[keys]) (fun w' hw'=>jZ_ b s a 0 2 a w' (hw'.has _ _ List.mem_cons_self)) ?_
   refine ko @zO_ ?_
   first|with_reducible refine ks [] @zO_ ?_|refine kp @zO_ ?_
   refine⟨_,_,_,(ke @zO_),rfl,trivial, ?_⟩
   exact⟨rfl,rfl⟩
  ·rw[if_neg hn]
   first|with_reducible refine ks [] @zO_ ?_|refine kp @zO_ ?_
   refine Cw.regionS [b] [0,1,2,3,6,7,8,4,5,9,10,11,12] [] (by kernel_rfl) (by kernel_rfl) (by kernel_rfl) ?_
   simp only[zh_, ↓zd_, ↓zb_, ↓zl_, ↓zm_,za_]
   refine kq @zO_ ?_
   try with_reducible refine Ow.nil ?_
   first|with_reducible refine ks [] @zO_ ?_|refine kp @zO_ ?_
   by_cases hl: (s.length:Int) - a<n
   ·rw[if_pos hl]
    first|with_reducible refine ks [] @zO_ ?_|refine kp @zO_ ?_
    refine Ow.callM rfl rfl Tryz.call144 (by simp[keys]) (fun w' hw'=>jZ_ b s a 0 3 a w' (hw'.has _ _ List.mem_cons_self)) ?_
    refine ko @zO_ ?_
    first|with_reducible refine ks [] @zO_ ?_|refine kp @zO_ ?_
    refine⟨_,_,_,(ke @zO_),rfl,trivial, ?_⟩
    exact⟨rfl,rfl⟩
   ·rw[if_neg hl]
    obtain⟨m,rfl⟩: ∃m:Nat,n=(m:Int):=⟨n.toNat,by omega⟩
    first|with_reducible refine ks [] @zO_ ?_|refine kp @zO_ ?_
    refine Cw.regionS [b] [0,1,2,4,5,6,8,9,10,12,3,7,11,13,14,15] [] (by kernel_rfl) (by kernel_rfl) (by kernel_rfl) ?_
    simp only[zh_, ↓zd_, ↓zb_, ↓zl_, ↓zm_,za_]
    refine kq @zO_ ?_
    try with_reducible refine Ow.nil ?_
    first|with_reducible refine ks [] @zO_ ?_|refine kp @zO_ ?_
    refine⟨_,_,_,(ke @zO_),rfl,trivial, ?_⟩
    refine⟨?_, ?_⟩
    ·simp only[vt_,Int.toNat_natCast]
     rw[List.drop_take,Nat.add_sub_cancel_left]
    ·rw[Int.toNat_natCast,Int.natCast_add]
 ·rw[if_pos he]
  first|with_reducible refine ks [] @zO_ ?_|refine kp @zO_ ?_
  refine⟨_,_,_,(ke @zO_),rfl,trivial, ?_⟩
  exact⟨rfl,rfl⟩
end Go.Proofs
end
section
open Go Go.Proofs Go.Sx
namespace Go.Proofs
set_option maxRecDepth 10000
set_option maxHeartbeats 8000000
set_option linter.unusedSimpArgs false
set_option linter.defProp false
def zG_:=And.intro (And.intro (And.intro (@xI_) (@xH_)) (And.intro (@xw_) (@jI_))) (And.intro (And.intro (@jP_) (@nilR)) (And.intro (@alj_) (And.intro (@aky_) (@agF_))))
def qm_ (most:Int):List UInt8→Nat→Nat→Except Nat (Nat×Nat)
 | [],_,_=> .error 3
 |c::r,k,n=>
  if 128≤c.toNat then(if k+1=6 then .error 4 else qm_ most r (k+1) (n+c.toNat%128*128^k))
  else if c.toNat=0∧0<k then .error 2
  else if n+c.toNat%128*128^k≤1099511627775∧((n+c.toNat%128*128^k:Nat):Int)≤most then .ok (n+c.toNat%128*128^k,k+1)
  else .error 4
def zx_ (s:List UInt8) (a:Nat) (e most:Int):Int×Nat×Int:=
 if e≠0 then(0,a,e) else match qm_ most (s.drop a) 0 0 with
  | .ok (n,k)=>(n,a+k,0)
  | .error x=>(0,a,x)
theorem Jf_ {s:List UInt8} {a:Nat} {e most:Int} {n k:Nat} (he:e=0) (h:qm_ most (s.drop a) 0 0= .ok (n,k)):zx_ s a e most=((n:Int),a+k,0):=by
 unfold zx_;rw[if_neg (by simp[he]),h]
theorem jw_ {s:List UInt8} {a:Nat} {e most:Int} {x:Nat} (he:e=0) (h:qm_ most (s.drop a) 0 0= .error x):zx_ s a e most=(0,a,(x:Int)):=by
 unfold zx_;rw[if_neg (by simp[he]),h]
structure NumS where
 more:Bool
 k:Nat
 n:Nat
 x:Nat
theorem Qg_ (b:Nat) (s:List UInt8) (a:Nat) (e most:Int) (w:World) (ha:a≤s.length) (hs:s.length<9223372036854775808) (ho:w.heap[b]? =some (.cells #[vs s,vi a,vi e] 221 (0,0))):
  Rets Tryz.prog 89 #[vp b 0,vi most] w (fun v D=> ∃o,D= [(b,o)]∧v=vi (zx_ s a e most).1∧o= .cells #[vs s,vi (zx_ s a e most).2.1,vi (zx_ s a e most).2.2] 221 (0,0)):=by
 refine Rets.enterM Tryz.func89 rfl (rs:= [.tmp 4]) Tryz.results89 Tryz.ntmps89 ho ?_
 refine kf ?_
 first|with_reducible refine ks [] @zG_ ?_|refine kp @zG_ ?_
 by_cases he:e=0
 ·subst he
  refine Cw.scopeL (G:=NumS) (fun g=>(if g.more then 1 else 0)) [10,11,12,4,5,6,7,13,14,15,16,8,9,17,18,19,20,21,22,23,24,25,26,27,28,29,30,31,32,33,34,35,36,37,38,39,40,41,42,43,44,45,46,47,48,49,50,51,52,53,54,55,56,57,58,59,60,61,62,63,64,65,66,67,68,69,70,71,72,73] (fun g=>(if g.more then [(5,vi g.n),(6,vi (7*g.k:Nat)),(8,vi 3),(9,vi a)] else [(8,vi g.x),(9,vi a)])) (fun g=> [(b, .cells #[vs s,vi (a+g.k:Nat),vi 0] 221 (0,0))]) (fun g=>a+g.k≤s.length∧(if g.more then qm_ most (s.drop a) 0 0=qm_ most (s.drop (a+g.k)) g.k g.n∧g.n<128^g.k∧g.k<6 else qm_ most (s.drop a) 0 0= .error g.x)) (fun g=>(if g.more then 7 - g.k else 0)) ?_ ?_ ?_
  ·intro g
   obtain⟨m,k,n,x⟩:=g
   cases m<;>rfl
  ·intro g j hg
   obtain⟨m,k,n,x⟩:=g
   obtain⟨hk,hg⟩:=hg
   simp only at hk
   cases m with
   |false=>
    simp only[Bool.false_eq_true, ↓reduceIte] at hg ⊢
    simp only[Qx_,hasL,Bool.or_false,Bool.false_or,Bool.or_true,Bool.true_or,Nat.reduceBEq,beq_self_eq_true, ↓reduceIte,Bool.false_eq_true]
    refine kv ?_
    try with_reducible refine Qj_ ?_
    first|with_reducible refine ks [] @zG_ ?_|refine kp @zG_ ?_
    refine Ow.callM rfl rfl Tryz.call144 (by simp[keys]) (fun w' hw'=>jZ_ b s _ 0 x a w' (hw'.has _ _ List.mem_cons_self)) ?_
    refine ko @zG_ ?_
    first|with_reducible refine ks [] @zG_ ?_|refine kp @zG_ ?_
    rw[jw_ rfl hg]
    refine⟨_,_,_,(ke @zG_),rfl,trivial, ?_⟩
    simp[vt_]
   |true=>
    simp only[↓reduceIte] at hg ⊢
    obtain⟨hgo,hn,hk6⟩:=hg
    simp only[Qx_,hasL,Bool.or_false,Bool.false_or,Bool.or_true,Bool.true_or,Nat.reduceBEq,beq_self_eq_true, ↓reduceIte,Bool.false_eq_true]
    refine kv ?_
    try with_reducible refine Qj_ ?_
    first|with_reducible refine ks [] @zG_ ?_|refine kp @zG_ ?_
    refine Cw.regionS [b] [0,1,2,4,5,6,3,7,8,9] [] (by kernel_rfl) (by kernel_rfl) (by kernel_rfl) ?_
    simp only[zh_, ↓zd_, ↓zb_, ↓zl_, ↓zm_,za_]
    refine kq @zG_ ?_
    try with_reducible refine Ow.nil ?_
    by_cases hend:a+k=s.length
    ·first|with_reducible refine ks [] @zG_ ?_|refine kp @zG_ ?_
     refine Jump.mk (NumS.mk false k n 3) rfl (by show 0<7 - k;omega) ⟨hk, ?_⟩ rfl rfl
     show qm_ most (s.drop a) 0 0= .error 3
     rw[hgo,hend,List.drop_length];rfl
    ·first|with_reducible refine ks [] @zG_ ?_|refine kp @zG_ ?_
     have hak:a+k<s.length:=by omega
     have hdrop:s.drop (a+k)=s.getD (a+k) 0::s.drop (a+k+1):=by
      rw[List.drop_eq_getElem_cons hak,List.getD_eq_getElem?_getD,List.getElem?_eq_getElem hak];rfl
     rw[hdrop] at hgo
     refine Cw.regionS [b] [0,1,2,4,5,6,3,7,8,9] [] (by kernel_rfl) (by kernel_rfl) (by kernel_rfl) ?_
     simp only[zh_, ↓zd_, ↓zb_, ↓zl_, ↓zm_,za_]
     refine kq @zG_ ?_
     try with_reducible refine Ow.nil ?_
     generalize s.getD (a+k) 0=c at*
     have hp:128^k≤34359738368:=Nat.pow_le_pow_right (by omega) (show k≤5 by omega)
     have hp0:0<128^k:=Nat.pow_pos (by omega)
     have hd: (c%128).toNat=c.toNat%128:=by simp
     have hcl:=c.toNat_lt
     have hdm:c.toNat%128*128^k≤127*128^k:=Nat.mul_le_mul_right _ (by omega)
     have hshl:zk_ .shl (vi ((c.toNat%128:Nat):Int)) (vi ((7*k:Nat):Int))=some (vi ((c.toNat%128*128^k:Nat):Int)):=by
      have h2: (2:Int)^ (7*k)=((128^k:Nat):Int):=by
       rw[Int.pow_mul];push_cast;rfl
      have:=afs_ ((c.toNat%128:Nat):Int) .i64 (7*k) (by rw[h2];refine⟨by omega,by omega, ?_⟩;rw[←Int.natCast_mul];omega)
      rw[h2,←Int.natCast_mul] at this
      exact this
     have hor:zk_ .or (vi (n:Int)) (vi ((c.toNat%128*128^k:Nat):Int))=some (vi ((n+c.toNat%128*128^k:Nat):Int)):=by
      have:=or_i (n:Int) ((c.toNat%128*128^k:Nat):Int) ⟨by omega,by omega,by omega,by omega⟩
      rw[this]
      congr 3
      rw[Int.toNat_natCast,Int.toNat_natCast,show 128^k=2^ (7*k) by rw[Nat.pow_mul],Nat.mul_comm,Nat.or_comm,←Nat.two_pow_add_eq_or_of_lt (by rw[Nat.pow_mul];exact hn),Nat.add_comm]
     have hlt:n+c.toNat%128*128^k<128^ (k+1):=by rw[Nat.pow_succ];omega
     have hrem:zk_ .rem (v8 c) (v8 128)=some (v8 (c%128)):=XX_ _ _ (by decide)
     first|with_reducible refine ks [] (And.intro @zG_ (And.intro @hrem (And.intro @hd (And.intro @hshl (@hor))))) ?_|refine kp (And.intro @zG_ (And.intro @hrem (And.intro @hd (And.intro @hshl (@hor))))) ?_
     have hle:decide ((128:UInt8)≤c)=decide (128≤c.toNat):=by simp[UInt8.le_iff_toNat_le]
     cases h128:decide ((128:UInt8)≤c)
     ·rw[h128] at hle
      have hc128: ¬128≤c.toNat:=of_decide_eq_false hle.symm
      cases hz: (c==0)
      ·have hc0: ¬ (c.toNat=0∧0<k):=by
        rintro⟨h0,-⟩
        have:c=0:=UInt8.toNat_inj.1 h0
        rw[this] at hz
        exact absurd hz (by decide)
       first|with_reducible refine ks [] (And.intro @zG_ @hz) ?_|refine kp (And.intro @zG_ @hz) ?_
       by_cases hm:n+c.toNat%128*128^k≤1099511627775
       ·have e1:decide (((n+c.toNat%128*128^k:Nat):Int)≤1099511627775)=true:=decide_eq_true (by omega)
        first|with_reducible refine ks [] (And.intro @zG_ @e1) ?_|refine kp (And.intro @zG_ @e1) ?_
        by_cases hmo: ((n+c.toNat%128*128^k:Nat):Int)≤most
        ·first|with_reducible refine ks [] @zG_ ?_|refine kp @zG_ ?_
         rw[Jf_ rfl (by rw[hgo,qm_,if_neg hc128,if_neg hc0,if_pos ⟨hm,hmo⟩])]
         refine⟨_,_,_,(ke @zG_),rfl,trivial, ?_⟩
         exact⟨rfl,rfl⟩
        ·first|with_reducible refine ks [] @zG_ ?_|refine kp @zG_ ?_
         refine Ow.callM rfl rfl Tryz.call144 (by simp[keys]) (fun w' hw'=>jZ_ b s _ 0 4 a w' (hw'.has _ _ List.mem_cons_self)) ?_
         refine ko @zG_ ?_
         first|with_reducible refine ks [] @zG_ ?_|refine kp @zG_ ?_
         rw[jw_ (x:=4) rfl (by rw[hgo,qm_,if_neg hc128,if_neg hc0,if_neg (fun h=>hmo h.2)])]
         refine⟨_,_,_,(ke @zG_),rfl,trivial, ?_⟩
         exact⟨rfl,rfl⟩
       ·have e1:decide (((n+c.toNat%128*128^k:Nat):Int)≤1099511627775)=false:=decide_eq_false (by omega)
        first|with_reducible refine ks [] (And.intro @zG_ @e1) ?_|refine kp (And.intro @zG_ @e1) ?_
        refine Ow.callM rfl rfl Tryz.call144 (by simp[keys]) (fun w' hw'=>jZ_ b s _ 0 4 a w' (hw'.has _ _ List.mem_cons_self)) ?_
        refine ko @zG_ ?_
        first|with_reducible refine ks [] @zG_ ?_|refine kp @zG_ ?_
        rw[jw_ (x:=4) rfl (by rw[hgo,qm_,if_neg hc128,if_neg hc0,if_neg (fun h=>hm h.1)])]
        refine⟨_,_,_,(ke @zG_),rfl,trivial, ?_⟩
        exact⟨rfl,rfl⟩
      ·have hcz:c=0:=eq_of_beq hz
       have hct:c.toNat=0:=by rw[hcz];rfl
       first|with_reducible refine ks [] (And.intro @zG_ @hz) ?_|refine kp (And.intro @zG_ @hz) ?_
       by_cases hk0:0<k
       ·first|with_reducible refine ks [] @zG_ ?_|refine kp @zG_ ?_
        refine Jump.mk (NumS.mk false (k+1) n 2) rfl (by show 0<7 - k;omega) ⟨by show a+ (k+1)≤s.length;omega, ?_⟩ rfl rfl
        show qm_ most (s.drop a) 0 0= .error 2
        rw[hgo,qm_,if_neg hc128,if_pos ⟨hct,hk0⟩]
       ·have hc0: ¬ (c.toNat=0∧0<k):=fun h=>hk0 h.2
        first|with_reducible refine ks [] @zG_ ?_|refine kp @zG_ ?_
        by_cases hm:n+c.toNat%128*128^k≤1099511627775
        ·have e1:decide (((n+c.toNat%128*128^k:Nat):Int)≤1099511627775)=true:=decide_eq_true (by omega)
         first|with_reducible refine ks [] (And.intro @zG_ @e1) ?_|refine kp (And.intro @zG_ @e1) ?_
         by_cases hmo: ((n+c.toNat%128*128^k:Nat):Int)≤most
         ·first|with_reducible refine ks [] @zG_ ?_|refine kp @zG_ ?_
          rw[Jf_ rfl (by rw[hgo,qm_,if_neg hc128,if_neg hc0,if_pos ⟨hm,hmo⟩])]
          refine⟨_,_,_,(ke @zG_),rfl,trivial, ?_⟩
          exact⟨rfl,rfl⟩
         ·first|with_reducible refine ks [] @zG_ ?_|refine kp @zG_ ?_
          refine Ow.callM rfl rfl Tryz.call144 (by simp[keys]) (fun w' hw'=>jZ_ b s _ 0 4 a w' (hw'.has _ _ List.mem_cons_self)) ?_
          refine ko @zG_ ?_
          first|with_reducible refine ks [] @zG_ ?_|refine kp @zG_ ?_
          rw[jw_ (x:=4) rfl (by rw[hgo,qm_,if_neg hc128,if_neg hc0,if_neg (fun h=>hmo h.2)])]
          refine⟨_,_,_,(ke @zG_),rfl,trivial, ?_⟩
          exact⟨rfl,rfl⟩
        ·have e1:decide (((n+c.toNat%128*128^k:Nat):Int)≤1099511627775)=false:=decide_eq_false (by omega)
         first|with_reducible refine ks [] (And.intro @zG_ @e1) ?_|refine kp (And.intro @zG_ @e1) ?_
         refine Ow.callM rfl rfl Tryz.call144 (by simp[keys]) (fun w' hw'=>jZ_ b s _ 0 4 a w' (hw'.has _ _ List.mem_cons_self)) ?_
         refine ko @zG_ ?_
         first|with_reducible refine ks [] @zG_ ?_|refine kp @zG_ ?_
         rw[jw_ (x:=4) rfl (by rw[hgo,qm_,if_neg hc128,if_neg hc0,if_neg (fun h=>hm h.1)])]
         refine⟨_,_,_,(ke @zG_),rfl,trivial, ?_⟩
         exact⟨rfl,rfl⟩
     ·rw[h128] at hle
      have hc128:128≤c.toNat:=of_decide_eq_true hle.symm
      first|with_reducible refine ks [] @zG_ ?_|refine kp @zG_ ?_
      by_cases hk5:k=5
      ·first|with_reducible refine ks [] @zG_ ?_|refine kp @zG_ ?_
       refine Jump.mk (NumS.mk false (k+1) n 4) rfl (by show 0<7 - k;omega) ⟨by show a+ (k+1)≤s.length;omega, ?_⟩ rfl rfl
       show qm_ most (s.drop a) 0 0= .error 4
       rw[hgo,qm_,if_pos hc128,if_pos (by omega)]
      ·first|with_reducible refine ks [] @zG_ ?_|refine kp @zG_ ?_
       refine Jump.mk (NumS.mk true (k+1) (n+c.toNat%128*128^k) 0) rfl (by show 7 - (k+1)<7 - k;omega) ⟨by show a+ (k+1)≤s.length;omega, ?_⟩ rfl rfl
       show qm_ most (s.drop a) 0 0=qm_ most (s.drop (a+ (k+1))) (k+1) (n+c.toNat%128*128^k)∧n+c.toNat%128*128^k<128^ (k+1)∧k+1<6
       refine⟨?_,hlt,by omega⟩
       rw[hgo,qm_,if_pos hc128,if_neg (by omega)]
       rfl
  ·intro key
   have key0:=fun f'=>key (NumS.mk true 0 0 0) f'
   simp only[Qx_,hasL,Bool.or_false,Bool.false_or,Bool.or_true,Bool.true_or,Nat.reduceBEq,beq_self_eq_true, ↓reduceIte,Bool.false_eq_true] at key0
   clear key
   repeat ((try with_reducible refine Cw.go [999999] ?_);(simp(disch:=(first|assumption|omega| (simp only[kd_,kc_,UInt64.reduceToNat];try omega))) only[↓Sx.S0,Sx.S1,Tryz.fx,zG_,Nat.reduceAdd,Nat.reducePow,Int.reducePow,Nat.reduceBEq, ↓reduceIte,UInt8.reduceToNat,UInt16.reduceToNat,UInt32.reduceToNat,UInt64.reduceToNat,Int.reduceToNat]))
   refine Ow.callFV rfl Tryz.call143 (fun w' hw'=>Zl_ b s a 0 w' (hw'.has _ _ List.mem_cons_self)) ?_
   refine ko @zG_ ?_
   repeat ((try with_reducible refine Cw.go [999999] ?_);(simp(disch:=(first|assumption|omega| (simp only[kd_,kc_,UInt64.reduceToNat];try omega))) only[↓Sx.S0,Sx.S1,Tryz.fx,zG_,Nat.reduceAdd,Nat.reducePow,Int.reducePow,Nat.reduceBEq, ↓reduceIte,UInt8.reduceToNat,UInt16.reduceToNat,UInt32.reduceToNat,UInt64.reduceToNat,Int.reduceToNat]))
   repeat ((try with_reducible refine Cw.go [999999] ?_);(simp(disch:=(first|assumption|omega| (simp only[kd_,kc_,UInt64.reduceToNat];try omega))) only[↓Sx.S0,Sx.S1,Tryz.fx,zG_,Nat.reduceAdd,Nat.reducePow,Int.reducePow,Nat.reduceBEq, ↓reduceIte,UInt8.reduceToNat,UInt16.reduceToNat,UInt32.reduceToNat,UInt64.reduceToNat,Int.reduceToNat]))
   refine Cw.regionS [b] [0,1,2,4,3,5] [] (by kernel_rfl) (by kernel_rfl) (by kernel_rfl) ?_
   simp only[zh_, ↓zd_, ↓zb_, ↓zl_, ↓zm_,za_]
   refine kq @zG_ ?_
   try with_reducible refine Ow.nil ?_
   repeat ((try with_reducible refine Cw.go [999999] ?_);(simp(disch:=(first|assumption|omega| (simp only[kd_,kc_,UInt64.reduceToNat];try omega))) only[↓Sx.S0,Sx.S1,Tryz.fx,zG_,Nat.reduceAdd,Nat.reducePow,Int.reducePow,Nat.reduceBEq, ↓reduceIte,UInt8.reduceToNat,UInt16.reduceToNat,UInt32.reduceToNat,UInt64.reduceToNat,Int.reduceToNat]))
   refine Cw.label ?_
   refine key0 _ ⟨by omega,rfl,by omega,by omega⟩ ?_
   rfl
 ·refine Cw.scopeS ?_
  first|with_reducible refine ks [] @zG_ ?_|refine kp @zG_ ?_
  refine Ow.callFV rfl Tryz.call143 (fun w' hw'=>Zl_ b s a e w' (hw'.has _ _ List.mem_cons_self)) ?_
  refine ko @zG_ ?_
  first|with_reducible refine ks [] @zG_ ?_|refine kp @zG_ ?_
  unfold zx_
  refine⟨_,_,_,(ke @zG_),rfl,trivial, ?_⟩
  simp[he,vt_]
end Go.Proofs
end
namespace Go.Sx
open Go
section
variable {P:Program} {w0:World} {f:Fr} {L:zc_} {N:Fr→zc_→Prop} {ops:Array Oper} {rest:List Oper} {md:Md}
 {d:Option Tmp} {ty:TypeId} {ps:String} {af:Array Edge} {g:Option (Nat×Bool)}
theorem JM_ (l:List UInt8) (k size:Nat) (w:World): (Builtin.firstCells size k (vs l)).run P w= .ok ((l.take k).map v8).toArray w:=by
 simp only[vs,Builtin.firstCells]
 show Result.ok _ w=_
 congr 1
 have: ((ByteArray.mk l.toArray).extract 0 k).data=(l.take k).toArray:=by
  rw[ByteArray.data_extract]
  simp
 rw[this]
 simp
 rfl
theorem zf_ (R:List Nat) (x:UInt8):rdIn R (v8 x)=true:=(rfl)
theorem v2_ (R:List Nat) (x:UInt16):rdIn R (v16 x)=true:=(rfl)
theorem wh_ (R:List Nat) (x:UInt32):rdIn R (v32 x)=true:=(rfl)
theorem wa_ (R:List Nat) (x:UInt64):rdIn R (v64 x)=true:=(rfl)
theorem ze_ (R:List Nat) (x:Int):rdIn R (vi x)=true:=(rfl)
theorem Ow.copyText {td tx e:TypeId} {m:Bool×Nat} {x y:Operand} {b off n c:Nat} {l:List UInt8} {cs:Array Value} {E:TypeId} {md':Md} (he:md.turn=some md')
  (hs:zo_ ops f ⟨d, .call ⟨.builtin .copy, #[x,y], #[td,tx]⟩,ty,ps,af,g⟩=false) (hu:P.underlying td=some (.slice e)) (hm:zP_ P e=some m)
  (hx:ev f x=vsl b off n c) (hy:ev f y=vs l) (hl:look L b=some (.cells cs E (0,0))) (hn:off+n≤cs.size)
  (hO:Ow P w0 ops md' rest (qU_ f d (vi (min l.length n:Nat))) (setB L b (.cells (x8_ cs off ((l.take (min l.length n)).map v8)) E (0,0))) N):
  Ow P w0 ops md (⟨d, .call ⟨.builtin .copy, #[x,y], #[td,tx]⟩,ty,ps,af,g⟩::rest) f L N:=by
 refine Ow.step he rfl hs fun w hw=> ?_
 have hb:=hw.has _ _ (zL_ hl)
 have hlt:=(Array.getElem?_eq_some_iff.1 hb).1
 have hlen: (Builtin.lenOf (vs l)).run P w= .ok l.length w:=by simp only[vs,Builtin.lenOf,ZV_];rfl
 have hfc:=JM_ (P:=P) l (min l.length n) m.2 w
 have hst:=j3_ (P:=P) (b:=b) (off:=off) (E:=E) (fz:=(0,0)) ((l.take (min l.length n)).map v8) 0 cs w hb (by
  rw[List.length_map,List.length_take];have:=Nat.min_le_right l.length n;omega) (.inl (Nat.le_refl 0)) (by rw[List.all_map,List.all_eq_true];intro x _;rfl)
 refine .inl ⟨vi (min l.length n:Nat),{w with heap:=w.heap.setIfInBounds b (.cells (x8_ cs off ((l.take (min l.length n)).map v8)) E (0,0))},_, ?_,hw.set (zr_ hl) rfl rfl rfl rfl,hO⟩
 simp only[execOp,resolve,Sem.run_bind,Sem.run_pure,Result.andThen_ok,invoke,builtin,List.map_toArray,List.map_cons,List.map_nil,hx,hy]
 have: (Builtin.copy_ #[td,tx] ty #[vsl b off n c,vs l]).run P w= .ok (vi (min l.length n:Nat)) {w with heap:=w.heap.setIfInBounds b (.cells (x8_ cs off ((l.take (min l.length n)).map v8)) E (0,0))}:=by
  simp only[Builtin.copy_,vsl,List.getElem?_toArray,List.getElem?_cons_zero,List.getElem?_cons_succ,Sem.run_bind,run_underlying hu w,Result.andThen_ok,hlen,zz_ hm w]
  rw[show l.length.min n=min l.length n from rfl,hfc]
  simp only[Result.andThen_ok]
  rw[hst]
  rfl
 rw[this]
 rfl
end
end Go.Sx
section
open Go Go.Proofs Go.Sx
namespace Go.Proofs
set_option maxRecDepth 10000
set_option maxHeartbeats 2000000
set_option linter.unusedSimpArgs false
set_option linter.defProp false
def q3_:=And.intro (And.intro (And.intro (@xI_) (@xH_)) (And.intro (@xw_) (@jI_))) (And.intro (And.intro (@jP_) (@nilR)) (And.intro (@alj_) (And.intro (@aky_) (@agF_))))
theorem KT_ (most:Int): ∀ (l:List UInt8) (k n m k':Nat),qm_ most l k n= .ok (m,k')→k<k'∧k'≤k+l.length
 | [],k,n,m,k',h=>by cases h
 |c::r,k,n,m,k',h=>by
  unfold qm_ at h
  split at h
  ·split at h
   ·cases h
   ·have:=KT_ most r (k+1) _ m k' h
    simp only[List.length_cons];omega
  ·split at h
   ·cases h
   ·split at h
    ·cases h;simp only[List.length_cons];omega
    ·cases h
theorem qx_ {s:List UInt8} {a:Nat} {e most:Int} (ha:a≤s.length):a≤ (zx_ s a e most).2.1∧(zx_ s a e most).2.1≤s.length:=by
 unfold zx_
 split
 ·exact⟨Nat.le_refl _,ha⟩
 ·cases h:qm_ most (s.drop a) 0 0 with
  |error x=>exact⟨Nat.le_refl _,ha⟩
  |ok p=>
   obtain⟨n,k⟩:=p
   have:=KT_ most _ _ _ _ _ h
   rw[List.length_drop] at this
   exact⟨by show a≤a+k;omega,by show a+k≤s.length;omega⟩
theorem vL_ {s:List UInt8} {a:Nat} {e n:Int} (ha:a≤s.length):a≤ (qw_ s a e n).2.1∧(qw_ s a e n).2.1≤s.length:=by
 unfold qw_
 split
 ·exact⟨Nat.le_refl _,ha⟩
 ·split
  ·exact⟨Nat.le_refl _,ha⟩
  ·split
   ·exact⟨Nat.le_refl _,ha⟩
   ·exact⟨by show a≤a+n.toNat;omega,by show a+n.toNat≤s.length;omega⟩
def zY_ (s:List UInt8) (a:Nat) (e most:Int):List UInt8×Nat×Int:=
 let p:=zx_ s a e most
 let q:=qw_ s p.2.1 p.2.2 p.1
 if q.2.2≠0 then([],a,q.2.2) else q
theorem adJ_ (b:Nat) (s:List UInt8) (a:Nat) (e most:Int) (w:World) (ha:a≤s.length) (hs:s.length<9223372036854775808) (ho:w.heap[b]? =some (.cells #[vs s,vi a,vi e] 221 (0,0))):
  Rets Tryz.prog 90 #[vp b 0,vi most] w (fun v D=> ∃o,D= [(b,o)]∧v=vs (zY_ s a e most).1∧o= .cells #[vs s,vi (zY_ s a e most).2.1,vi (zY_ s a e most).2.2] 221 (0,0)):=by
 refine Rets.enterM Tryz.func90 rfl (rs:= [.tmp 4]) Tryz.results90 Tryz.ntmps90 ho ?_
 refine kf ?_
 first|with_reducible refine ks [] @q3_ ?_|refine kp @q3_ ?_
 refine Ow.callFV rfl Tryz.call145 (fun w' hw'=>aib_ b s a e w' (hw'.has _ _ List.mem_cons_self)) ?_
 refine ko @q3_ ?_
 first|with_reducible refine ks [] @q3_ ?_|refine kp @q3_ ?_
 have hp:=qx_ (e:=e) (most:=most) ha
 unfold zY_
 refine Ow.callM rfl rfl Tryz.call89 (by simp[keys]) (fun w' hw'=>Qg_ b s a e most w' ha hs (hw'.has _ _ List.mem_cons_self)) ?_
 generalize zx_ s a e most=p at*
 obtain⟨n,a1,e1⟩:=p
 simp only at hp ⊢
 refine ko @q3_ ?_
 refine Ow.callM rfl rfl Tryz.call88 (by simp[keys]) (fun w' hw'=>JT_ b s a1 e1 n w' hp.2 hs (hw'.has _ _ List.mem_cons_self)) ?_
 have hq:=vL_ (e:=e1) (n:=n) hp.2
 generalize qw_ s a1 e1 n=q at*
 obtain⟨t,a2,e2⟩:=q
 simp only at hq ⊢
 refine ko @q3_ ?_
 first|with_reducible refine ks [] @q3_ ?_|refine kp @q3_ ?_
 by_cases he:e2=0
 ·first|with_reducible refine ks [] @q3_ ?_|refine kp @q3_ ?_
  refine⟨_,_,_,(ke @q3_),rfl,trivial, ?_⟩
  simp[he,vt_]
 ·first|with_reducible refine ks [] @q3_ ?_|refine kp @q3_ ?_
  refine Ow.minI rfl rfl rfl ?_
  have hmin: (if(a:Int)< (a2:Int) then(a:Int) else(a2:Int))=a:=by split<;>omega
  rw[hmin]
  refine ko @q3_ ?_
  first|with_reducible refine ks [] @q3_ ?_|refine kp @q3_ ?_
  refine⟨_,_,_,(ke @q3_),rfl,trivial, ?_⟩
  simp[he,vt_]
def z32:List UInt8:=List.replicate 32 0
def idR (s:List UInt8) (a:Nat) (e:Int):List UInt8×Nat×Int:=
 let q:=qw_ s a e 32
 (if q.1.length=32 then q.1 else z32,q.2)
theorem add_ {s:List UInt8} {a:Nat} {e:Int} (_ha:a≤s.length): (qw_ s a e 32).1= []∨(qw_ s a e 32).1.length=32:=by
 unfold qw_
 split
 ·exact .inl rfl
 ·split
  ·exact .inl rfl
  ·split
   ·exact .inl rfl
   ·right
    show((s.drop a).take 32).length=32
    rw[List.length_take,List.length_drop];omega
theorem aj3_ {t:List UInt8} (h:t= []∨t.length=32):x8_ (a8 (List.replicate 32 0)) 0 ((t.take (min t.length 32)).map v8)=a8 (if t.length=32 then t else z32):=by
 rcases h with rfl|h
 ·rfl
 ·rw[if_pos h,h,Nat.min_self,List.take_of_length_le (by omega)]
  have:=ac3_ (t.map v8) [] ((List.replicate 32 (0:UInt8)).map v8) (by simp[h])
  simp only[List.nil_append,List.length_nil] at this
  show x8_ ((List.replicate 32 (0:UInt8)).map v8).toArray 0 (t.map v8)=(t.map v8).toArray
  rw[this]
  rw[List.drop_eq_nil_of_le (by simp[h]),List.append_nil]
theorem ai4_ (b:Nat) (s:List UInt8) (a:Nat) (e:Int) (w:World) (ha:a≤s.length) (hs:s.length<9223372036854775808) (ho:w.heap[b]? =some (.cells #[vs s,vi a,vi e] 221 (0,0))):
  Rets Tryz.prog 91 #[vp b 0] w (fun v D=> ∃o,D= [(b,o)]∧v= .agg (a8 (idR s a e).1)∧o= .cells #[vs s,vi (idR s a e).2.1,vi (idR s a e).2.2] 221 (0,0)):=by
 have hbl:=(Array.getElem?_eq_some_iff.1 ho).1
 have hq:=add_ (e:=e) ha
 unfold idR
 refine Rets.enterM Tryz.func91 rfl (rs:= [.cell 2 86]) Tryz.results91 Tryz.ntmps91 ho ?_
 refine kf ?_
 first|with_reducible refine ks [] @q3_ ?_|refine kp @q3_ ?_
 refine Ow.alloc rfl rfl Tryz.zr86 fun b2 hb2 hw2=> ?_
 refine ko @q3_ ?_
 first|with_reducible refine ks [] @q3_ ?_|refine kp @q3_ ?_
 refine Ow.alloc rfl rfl Tryz.zr86 fun b3 hb3 hw3=> ?_
 obtain⟨h13,h23,-⟩:=hb3
 obtain⟨h12,-⟩:=hb2
 refine ko @q3_ ?_
 first|with_reducible refine ks [] @q3_ ?_|refine kp @q3_ ?_
 refine Cw.regionS [] [0,1,2,3] [] (by kernel_rfl) (by kernel_rfl) (by kernel_rfl) ?_
 simp only[zh_, ↓zd_, ↓zb_, ↓zl_, ↓zm_,za_]
 refine kq @q3_ ?_
 refine Ow.soft rfl rfl rfl ?_
 refine Ow.callM rfl rfl Tryz.call88 (by simp[keys]) (fun w' hw'=>JT_ b s a e 32 w' ha hs (hw'.has _ _ List.mem_cons_self)) ?_
 generalize qw_ s a e 32=q at*
 obtain⟨t,a2,e2⟩:=q
 simp only at hq ⊢
 try with_reducible refine Ow.nil ?_
 refine⟨fun b hb=>absurd hb (by simp), ?_⟩
 simp(disch:=omega) only[Zj_]
 refine Ow.soft rfl rfl rfl ?_
 refine Ow.copyText (cs:=a8 (List.replicate 32 0)) (E:=86) (e:=5) rfl rfl Tryz.underlying195 Tryz.ag5 rfl rfl (by simp(disch:=omega) only[Ko_,xj_]) (by rw[Jk_];simp) ?_
 rw[aj3_ hq]
 have hil: (if t.length=32 then t else z32).length=32:=by
  split
  ·assumption
  ·simp[z32]
 generalize (if t.length=32 then t else z32)=id at*
 try with_reducible refine Ow.nil ?_
 refine⟨fun b hb=>absurd hb (by simp), ?_⟩
 simp(disch:=omega) only[Zj_,ZI_]
 refine kq @q3_ ?_
 try with_reducible refine Ow.nil ?_
 first|with_reducible refine ks [] @q3_ ?_|refine kp @q3_ ?_
 refine⟨_,_,_,(ke @q3_),rfl,⟨hw2,hw3,trivial⟩, ?_⟩
 exact⟨rfl,rfl⟩
theorem aam_ (s:List UInt8) (w:World):
  Rets Tryz.prog 87 #[vs s] w (fun v D=> ∃b,w.heap.size≤b∧v=vp b 0∧D= [(b, .cells #[vs s,vi 0,vi 0] 221 (0,0))]):=by
 refine Rets.enter Tryz.func87 rfl (rs:= [.tmp 2]) Tryz.results87 Tryz.ntmps87 ?_
 refine kf ?_
 first|with_reducible refine ks [] @q3_ ?_|refine kp @q3_ ?_
 refine Ow.build (.agg #[vs s,vi 0,vi 0]) rfl (by kernel_rfl) ?_
 refine ko @q3_ ?_
 refine Ow.box rfl rfl fun b1 hb1 hw1=> ?_
 refine ko @q3_ ?_
 first|with_reducible refine ks [] @q3_ ?_|refine kp @q3_ ?_
 refine⟨_,(by simp only[wl_,aao_,adr_,jm_,jn_,X2_];rfl),b1,hw1,rfl, ?_⟩
 rfl
end Go.Proofs
end
section
open Go Go.Proofs Go.Sx
namespace Go.Proofs
set_option maxRecDepth 10000
set_option maxHeartbeats 4000000
set_option linter.unusedSimpArgs false
set_option linter.defProp false
def zu_:=And.intro (And.intro (And.intro (@zf_) (@v2_)) (And.intro (@wh_) (And.intro (@wa_) (@ze_)))) (And.intro (And.intro (@xI_) (@xH_)) (And.intro (@xw_) (And.intro (@jI_) (@jP_))))
theorem wM_ (b:Nat) (s:List UInt8) (a:Nat) (e n:Int) (w:World) (ha:a≤s.length) (hs:s.length<1099511627776) (ho:w.heap[b]? =some (.cells #[vs s,vi a,vi e] 166 (0,0))):
  Rets Tryz.prog 96 #[vp b 0,vi n] w (fun v D=> ∃o,D= [(b,o)]∧v=vs (qw_ s a e n).1∧o= .cells #[vs s,vi (qw_ s a e n).2.1,vi (qw_ s a e n).2.2] 166 (0,0)):=by
 refine Rets.enterM Tryz.func96 rfl (rs:= [.tmp 4]) Tryz.results96 Tryz.ntmps96 ho ?_
 refine kf ?_
 first|with_reducible refine ks [] @zu_ ?_|refine kp @zu_ ?_
 unfold qw_
 by_cases he:e=0
 ·subst he
  rw[if_neg (fun h=>h rfl)]
  first|with_reducible refine ks [] @zu_ ?_|refine kp @zu_ ?_
  by_cases hn:n<0
  ·rw[if_pos hn]
   first|with_reducible refine ks [] @zu_ ?_|refine kp @zu_ ?_
   refine⟨_,_,_,(ke @zu_),rfl,trivial, ?_⟩
   exact⟨rfl,rfl⟩
  ·rw[if_neg hn]
   first|with_reducible refine ks [] @zu_ ?_|refine kp @zu_ ?_
   refine Cw.regionS [b] [0,1,2,5,6,7,10,3,4,8,9,11] [] (by kernel_rfl) (by kernel_rfl) (by kernel_rfl) ?_
   simp only[zh_, ↓zd_, ↓zb_, ↓zl_, ↓zm_,za_]
   refine kq @zu_ ?_
   try with_reducible refine Ow.nil ?_
   first|with_reducible refine ks [] @zu_ ?_|refine kp @zu_ ?_
   by_cases hl: (s.length:Int) - a<n
   ·rw[if_pos hl]
    first|with_reducible refine ks [] @zu_ ?_|refine kp @zu_ ?_
    refine⟨_,_,_,(ke @zu_),rfl,trivial, ?_⟩
    exact⟨rfl,rfl⟩
   ·rw[if_neg hl]
    obtain⟨m,rfl⟩: ∃m:Nat,n=(m:Int):=⟨n.toNat,by omega⟩
    first|with_reducible refine ks [] @zu_ ?_|refine kp @zu_ ?_
    refine Cw.regionS [b] [0,1,2,4,5,6,8,9,10,12,3,7,11,13,14,15] [] (by kernel_rfl) (by kernel_rfl) (by kernel_rfl) ?_
    simp only[zh_, ↓zd_, ↓zb_, ↓zl_, ↓zm_,za_]
    refine kq @zu_ ?_
    try with_reducible refine Ow.nil ?_
    first|with_reducible refine ks [] @zu_ ?_|refine kp @zu_ ?_
    refine⟨_,_,_,(ke @zu_),rfl,trivial, ?_⟩
    refine⟨?_, ?_⟩
    ·simp only[vt_,Int.toNat_natCast]
     rw[List.drop_take,Nat.add_sub_cancel_left]
    ·rw[Int.toNat_natCast,Int.natCast_add]
 ·rw[if_pos he]
  first|with_reducible refine ks [] @zu_ ?_|refine kp @zu_ ?_
  refine⟨_,_,_,(ke @zu_),rfl,trivial, ?_⟩
  exact⟨rfl,rfl⟩
theorem abG_ (b:Nat) (s:List UInt8) (a e:Int) (w:World) (ho:w.heap[b]? =some (.cells #[vs s,vi a,vi e] 166 (0,0))):
  Rets Tryz.prog 98 #[vp b 0] w (fun v D=>v=vi (if e≠0 then e else if a<s.length then 5 else 0)∧D= []):=by
 refine Rets.enterV Tryz.func98 rfl (rs:= [.tmp 2]) Tryz.results98 Tryz.ntmps98 ?_
 refine kf ?_
 first|with_reducible refine ks [] (And.intro @zu_ @ho) ?_|refine kp (And.intro @zu_ @ho) ?_
 by_cases he:e=0
 ·first|with_reducible refine ks [] @zu_ ?_|refine kp @zu_ ?_
  refine Cw.regionS [b] [0,1,2,4,5,6,3,7,8,9] [] (by kernel_rfl) (by kernel_rfl) (by kernel_rfl) ?_
  simp only[zh_, ↓zd_, ↓zb_, ↓zl_, ↓zm_,za_]
  refine kq (And.intro @zu_ @ho) ?_
  try with_reducible refine Ow.nil ?_
  first|with_reducible refine ks [] @zu_ ?_|refine kp @zu_ ?_
  refine cdC.splitp (fun hc=> ?_) (fun hc=> ?_)
  ·first|with_reducible refine ks [] @zu_ ?_|refine kp @zu_ ?_
   refine⟨_,(ke @zu_),trivial, ?_⟩
   simp[hc,he,vt_]
  ·first|with_reducible refine ks [] @zu_ ?_|refine kp @zu_ ?_
   refine⟨_,(ke @zu_),trivial, ?_⟩
   simp[hc,he,vt_]
 ·first|with_reducible refine ks [] (And.intro @zu_ @ho) ?_|refine kp (And.intro @zu_ @ho) ?_
  refine⟨_,(ke @zu_),trivial, ?_⟩
  simp[he,vt_]
structure KN where
 k:Nat
 n:Nat
theorem wy_ (b:Nat) (s:List UInt8) (a:Nat) (e most:Int) (w:World) (ha:a≤s.length) (hs:s.length<1099511627776) (ho:w.heap[b]? =some (.cells #[vs s,vi a,vi e] 166 (0,0))):
  Rets Tryz.prog 94 #[vp b 0,vi most] w (fun v D=> ∃o,D= [(b,o)]∧v=vi (zx_ s a e most).1∧o= .cells #[vs s,vi (zx_ s a e most).2.1,vi (zx_ s a e most).2.2] 166 (0,0)):=by
 refine Rets.enterM Tryz.func94 rfl (rs:= [.tmp 4]) Tryz.results94 Tryz.ntmps94 ho ?_
 refine kf ?_
 first|with_reducible refine ks [] @zu_ ?_|refine kp @zu_ ?_
 by_cases he:e=0
 ·subst he
  first|with_reducible refine ks [] @zu_ ?_|refine kp @zu_ ?_
  refine Cw.loopG (G:=KN) [14,15,18,19,20,21,22,23,24,25,26,27,28,29,30,31,32,4,33,34,35,36,37,38,39,40,41,42,43,44,8,45,46,47,48,49,50,5,51,52,6,53,54,55,56,57,58,59,60,61,62,63,64,65,66,67,68,69,70,71,72,73,74,75,76,77,78,79,80,81,82,83,84,16,17,7] (fun g=> [(5,vi g.n),(6,vi (128^g.k:Nat)),(7,vi g.k)]) (fun g=> [(b, .cells #[vs s,vi a,vi 0] 166 (0,0))]) (fun g=>g.k≤6∧(g.k<6→qm_ most (s.drop a) 0 0=qm_ most (s.drop (a+g.k)) g.k g.n∧a+g.k≤s.length∧g.n<128^g.k)∧(g.k=6→qm_ most (s.drop a) 0 0= .error 4)) (fun g=>6 - g.k) ⟨0,0⟩ rfl rfl ?_ ?_
  ·exact⟨by simp,fun _=>⟨rfl,by simpa using ha,by simp⟩,fun h=>by cases h⟩
  intro g j hg
  refine kv ?_
  obtain⟨k,n⟩:=g
  simp only at hg ⊢
  obtain⟨hk6,hg1,hg2⟩:=hg
  by_cases hk:k<6
  ·obtain⟨hgo,hak,hn⟩:=hg1 hk
   first|with_reducible refine ks [] @zu_ ?_|refine kp @zu_ ?_
   refine Cw.regionS [b] [0,1,2,4,6,7,8,3,5,9,10,11] [] (by kernel_rfl) (by kernel_rfl) (by kernel_rfl) ?_
   simp only[zh_, ↓zd_, ↓zb_, ↓zl_, ↓zm_,za_]
   refine kq @zu_ ?_
   try with_reducible refine Ow.nil ?_
   first|with_reducible refine ks [] @zu_ ?_|refine kp @zu_ ?_
   by_cases hend:a+k=s.length
   ·first|with_reducible refine ks [] @zu_ ?_|refine kp @zu_ ?_
    rw[jw_ (x:=3) rfl (by rw[hgo,hend,List.drop_length];rfl)]
    refine⟨_,_,_,(ke @zu_),rfl,trivial, ?_⟩
    exact⟨rfl,rfl⟩
   ·have hak':a+k<s.length:=by omega
    have hdrop:s.drop (a+k)=s.getD (a+k) 0::s.drop (a+k+1):=by
     rw[List.drop_eq_getElem_cons hak',List.getD_eq_getElem?_getD,List.getElem?_eq_getElem hak'];rfl
    rw[hdrop] at hgo
    first|with_reducible refine ks [] @zu_ ?_|refine kp @zu_ ?_
    refine Cw.regionS [b] [0,1,2,4,5,6,8,3,7,9,10,11,12] [] (by kernel_rfl) (by kernel_rfl) (by kernel_rfl) ?_
    simp only[zh_, ↓zd_, ↓zb_, ↓zl_, ↓zm_,za_]
    have hcast: ((a:Int)+ (k:Int))=((a+k:Nat):Int):=by omega
    refine kq (And.intro @zu_ @hcast) ?_
    try with_reducible refine Ow.nil ?_
    generalize s.getD (a+k) 0=c at*
    have hp:128^k≤34359738368:=Nat.pow_le_pow_right (by omega) (show k≤5 by omega)
    have hp0:0<128^k:=Nat.pow_pos (by omega)
    have hcl:=c.toNat_lt
    have hdm:c.toNat%128*128^k≤127*128^k:=Nat.mul_le_mul_right _ (by omega)
    have hcm: ((c.toNat:Int)%128)=((c.toNat%128:Nat):Int):=by omega
    have hmul:zk_ .mul (vi ((c.toNat%128:Nat):Int)) (vi ((128^k:Nat):Int))=some (vi ((c.toNat%128*128^k:Nat):Int)):=by
     rw[aak_ _ _ (by rw[←Int.natCast_mul];omega),←Int.natCast_mul]
    have hpow: (((128^k:Nat):Int)*128)=((128^ (k+1):Nat):Int):=by rw[Nat.pow_succ,Int.natCast_mul];rfl
    have hlt:n+c.toNat%128*128^k<128^ (k+1):=by rw[Nat.pow_succ];omega
    first|with_reducible refine ks [] (And.intro @zu_ (And.intro @hcm (And.intro @hmul (@hpow)))) ?_|refine kp (And.intro @zu_ (And.intro @hcm (And.intro @hmul (@hpow)))) ?_
    rw[show((n:Int)+ ((c.toNat%128*128^k:Nat):Int))=((n+c.toNat%128*128^k:Nat):Int) from(Int.natCast_add _ _).symm]
    by_cases hc128:128≤c.toNat
    ·first|with_reducible refine ks [] @zu_ ?_|refine kp @zu_ ?_
     refine Again.mk (KN.mk (k+1) (n+c.toNat%128*128^k)) (by show 6 - (k+1)<6 - k;omega) ⟨by show k+1≤6;omega,fun h=>⟨?_,by show a+ (k+1)≤s.length;omega,hlt⟩,fun h=> ?_⟩ rfl rfl
     ·show qm_ most (s.drop a) 0 0=qm_ most (s.drop (a+ (k+1))) (k+1) (n+c.toNat%128*128^k)
      have h':k+1<6:=h
      rw[hgo,qm_,if_pos hc128,if_neg (by omega)]
      rfl
     ·have h':k+1=6:=h
      rw[hgo,qm_,if_pos hc128,if_pos h']
    ·by_cases hz:c.toNat=0
     ·have e0: ((c.toNat:Int)==0)=true:=by simp[hz]
      first|with_reducible refine ks [] (And.intro @zu_ @e0) ?_|refine kp (And.intro @zu_ @e0) ?_
      by_cases hk0:0<k
      ·first|with_reducible refine ks [] @zu_ ?_|refine kp @zu_ ?_
       rw[jw_ (x:=2) rfl (by rw[hgo,qm_,if_neg hc128,if_pos ⟨hz,hk0⟩])]
       refine⟨_,_,_,(ke @zu_),rfl,trivial, ?_⟩
       exact⟨rfl,rfl⟩
      ·have hc0: ¬ (c.toNat=0∧0<k):=fun h=>hk0 h.2
       first|with_reducible refine ks [] @zu_ ?_|refine kp @zu_ ?_
       by_cases hm:n+c.toNat%128*128^k≤1099511627775
       ·have e1:decide ((1099511627775:Int)< ((n+c.toNat%128*128^k:Nat):Int))=false:=decide_eq_false (by omega)
        first|with_reducible refine ks [] (And.intro @zu_ @e1) ?_|refine kp (And.intro @zu_ @e1) ?_
        by_cases hmo: ((n+c.toNat%128*128^k:Nat):Int)≤most
        ·first|with_reducible refine ks [] @zu_ ?_|refine kp @zu_ ?_
         rw[Jf_ rfl (by rw[hgo,qm_,if_neg hc128,if_neg hc0,if_pos ⟨hm,hmo⟩])]
         refine⟨_,_,_,(ke @zu_),rfl,trivial, ?_⟩
         exact⟨rfl,rfl⟩
        ·first|with_reducible refine ks [] @zu_ ?_|refine kp @zu_ ?_
         rw[jw_ (x:=4) rfl (by rw[hgo,qm_,if_neg hc128,if_neg hc0,if_neg (fun h=>hmo h.2)])]
         refine⟨_,_,_,(ke @zu_),rfl,trivial, ?_⟩
         exact⟨rfl,rfl⟩
       ·have e1:decide ((1099511627775:Int)< ((n+c.toNat%128*128^k:Nat):Int))=true:=decide_eq_true (by omega)
        first|with_reducible refine ks [] (And.intro @zu_ @e1) ?_|refine kp (And.intro @zu_ @e1) ?_
        rw[jw_ (x:=4) rfl (by rw[hgo,qm_,if_neg hc128,if_neg hc0,if_neg (fun h=>hm h.1)])]
        refine⟨_,_,_,(ke @zu_),rfl,trivial, ?_⟩
        exact⟨rfl,rfl⟩
     ·have e0: ((c.toNat:Int)==0)=false:=by simp;omega
      have hc0: ¬ (c.toNat=0∧0<k):=fun h=>hz h.1
      first|with_reducible refine ks [] (And.intro @zu_ @e0) ?_|refine kp (And.intro @zu_ @e0) ?_
      by_cases hm:n+c.toNat%128*128^k≤1099511627775
      ·have e1:decide ((1099511627775:Int)< ((n+c.toNat%128*128^k:Nat):Int))=false:=decide_eq_false (by omega)
       first|with_reducible refine ks [] (And.intro @zu_ @e1) ?_|refine kp (And.intro @zu_ @e1) ?_
       by_cases hmo: ((n+c.toNat%128*128^k:Nat):Int)≤most
       ·first|with_reducible refine ks [] @zu_ ?_|refine kp @zu_ ?_
        rw[Jf_ rfl (by rw[hgo,qm_,if_neg hc128,if_neg hc0,if_pos ⟨hm,hmo⟩])]
        refine⟨_,_,_,(ke @zu_),rfl,trivial, ?_⟩
        exact⟨rfl,rfl⟩
       ·first|with_reducible refine ks [] @zu_ ?_|refine kp @zu_ ?_
        rw[jw_ (x:=4) rfl (by rw[hgo,qm_,if_neg hc128,if_neg hc0,if_neg (fun h=>hmo h.2)])]
        refine⟨_,_,_,(ke @zu_),rfl,trivial, ?_⟩
        exact⟨rfl,rfl⟩
      ·have e1:decide ((1099511627775:Int)< ((n+c.toNat%128*128^k:Nat):Int))=true:=decide_eq_true (by omega)
       first|with_reducible refine ks [] (And.intro @zu_ @e1) ?_|refine kp (And.intro @zu_ @e1) ?_
       rw[jw_ (x:=4) rfl (by rw[hgo,qm_,if_neg hc128,if_neg hc0,if_neg (fun h=>hm h.1)])]
       refine⟨_,_,_,(ke @zu_),rfl,trivial, ?_⟩
       exact⟨rfl,rfl⟩
  ·have hke:k=6:=by omega
   first|with_reducible refine ks [] @zu_ ?_|refine kp @zu_ ?_
   rw[jw_ (x:=4) rfl (hg2 hke)]
   refine⟨_,_,_,(ke @zu_),rfl,trivial, ?_⟩
   exact⟨rfl,rfl⟩
 ·first|with_reducible refine ks [] @zu_ ?_|refine kp @zu_ ?_
  unfold zx_
  refine⟨_,_,_,(ke @zu_),rfl,trivial, ?_⟩
  simp[he,vt_]
end Go.Proofs
end
section
open Go Go.Proofs Go.Sx
namespace Go.Proofs
set_option maxRecDepth 10000
set_option maxHeartbeats 4000000
set_option linter.unusedSimpArgs false
set_option linter.defProp false
def q9_:=And.intro (And.intro (And.intro (@zf_) (@v2_)) (And.intro (@wh_) (And.intro (@wa_) (@ze_)))) (And.intro (And.intro (@xI_) (@xH_)) (And.intro (@xw_) (And.intro (@jI_) (@jP_))))
theorem WK_ (b:Nat) (s:List UInt8) (a:Nat) (e most:Int) (w:World) (ha:a≤s.length) (hs:s.length<1099511627776) (ho:w.heap[b]? =some (.cells #[vs s,vi a,vi e] 166 (0,0))):
  Rets Tryz.prog 95 #[vp b 0,vi most] w (fun v D=> ∃o,D= [(b,o)]∧v=vs (zY_ s a e most).1∧o= .cells #[vs s,vi (zY_ s a e most).2.1,vi (zY_ s a e most).2.2] 166 (0,0)):=by
 refine Rets.enterM Tryz.func95 rfl (rs:= [.tmp 4]) Tryz.results95 Tryz.ntmps95 ho ?_
 refine kf ?_
 first|with_reducible refine ks [] @q9_ ?_|refine kp @q9_ ?_
 by_cases he:e=0
 ·first|with_reducible refine ks [] @q9_ ?_|refine kp @q9_ ?_
  have hp:=qx_ (e:=e) (most:=most) ha
  unfold zY_
  refine Ow.callM rfl rfl Tryz.call94 (by simp[keys]) (fun w' hw'=>wy_ b s a e most w' ha hs (hw'.has _ _ List.mem_cons_self)) ?_
  generalize zx_ s a e most=p at*
  obtain⟨n,a1,e1⟩:=p
  simp only at hp ⊢
  refine ko @q9_ ?_
  first|with_reducible refine ks [] @q9_ ?_|refine kp @q9_ ?_
  refine Ow.callM rfl rfl Tryz.call96 (by simp[keys]) (fun w' hw'=>wM_ b s a1 e1 n w' hp.2 hs (hw'.has _ _ List.mem_cons_self)) ?_
  generalize qw_ s a1 e1 n=q at*
  obtain⟨t,a2,e2⟩:=q
  simp only
  refine ko @q9_ ?_
  first|with_reducible refine ks [] @q9_ ?_|refine kp @q9_ ?_
  by_cases he2:e2=0
  ·first|with_reducible refine ks [] @q9_ ?_|refine kp @q9_ ?_
   refine⟨_,_,_,(ke @q9_),rfl,trivial, ?_⟩
   simp[he2,vt_]
  ·first|with_reducible refine ks [] @q9_ ?_|refine kp @q9_ ?_
   refine⟨_,_,_,(ke @q9_),rfl,trivial, ?_⟩
   simp[he2,vt_]
 ·first|with_reducible refine ks [] @q9_ ?_|refine kp @q9_ ?_
  have:zY_ s a e most=([],a,e):=by
   unfold zY_ zx_ qw_
   simp[he]
  rw[this]
  refine⟨_,_,_,(ke @q9_),rfl,trivial, ?_⟩
  exact⟨rfl,rfl⟩
def K0_ (t:List UInt8) (g:Nat):List UInt8:=t.take g++List.replicate (32 - g) 0
theorem afl_ (t:List UInt8) (g:Nat) (h:g≤t.length) (h2:t.length≤32): (K0_ t g).length=32:=by
 unfold K0_;rw[List.length_append,List.length_take,List.length_replicate];omega
theorem aeK_ (t:List UInt8) (g:Nat) (h:g<t.length) (h2:t.length≤32): (K0_ t g).set g (t.getD g 0)=K0_ t (g+1):=by
 unfold K0_
 have hl: (t.take g).length=g:=by rw[List.length_take];omega
 obtain⟨m,hm⟩: ∃m,32 - g=m+1:=⟨31 - g,by omega⟩
 rw[hm,List.replicate_succ,List.set_append_right _ _ (by omega),hl,Nat.sub_self,List.set_cons_zero,List.take_succ_eq_append_getElem h,List.getD_eq_getElem?_getD,List.getElem?_eq_getElem h,show 32 - (g+1)=m by omega,List.append_assoc]
 rfl
theorem ahw_ (t:List UInt8) (h:t= []∨t.length=32):K0_ t t.length=(if t.length=32 then t else z32):=by
 unfold K0_
 rcases h with rfl|h
 ·rfl
 ·rw[if_pos h,h,List.take_of_length_le (by omega)];simp
theorem aep_ (b:Nat) (s:List UInt8) (a:Nat) (e:Int) (w:World) (ha:a≤s.length) (hs:s.length<1099511627776) (ho:w.heap[b]? =some (.cells #[vs s,vi a,vi e] 166 (0,0))):
  Rets Tryz.prog 97 #[vp b 0] w (fun v D=> ∃o,D= [(b,o)]∧v= .agg (a8 (idR s a e).1)∧o= .cells #[vs s,vi (idR s a e).2.1,vi (idR s a e).2.2] 166 (0,0)):=by
 have hbl:=(Array.getElem?_eq_some_iff.1 ho).1
 have hq:=add_ (e:=e) ha
 unfold idR
 refine Rets.enterM Tryz.func97 rfl (rs:= [.cell 2 86]) Tryz.results97 Tryz.ntmps97 ho ?_
 refine kf ?_
 first|with_reducible refine ks [] @q9_ ?_|refine kp @q9_ ?_
 refine Ow.alloc rfl rfl Tryz.zr86 fun b2 hb2 hw2=> ?_
 obtain⟨h12,-⟩:=hb2
 refine ko @q9_ ?_
 first|with_reducible refine ks [] @q9_ ?_|refine kp @q9_ ?_
 refine Ow.callM rfl rfl Tryz.call96 (by simp[keys]) (fun w' hw'=>wM_ b s a e 32 w' ha hs (hw'.has _ _ List.mem_cons_self)) ?_
 generalize qw_ s a e 32=q at*
 obtain⟨t,a2,e2⟩:=q
 simp only at hq ⊢
 have ht32:t.length≤32:=by rcases hq with rfl|h<;>simp_all
 refine ko @q9_ ?_
 first|with_reducible refine ks [] @q9_ ?_|refine kp @q9_ ?_
 refine Ow.alloc rfl rfl Tryz.zr86 fun b3 hb3 hw3=> ?_
 refine ko @q9_ ?_
 obtain⟨h13,h23,-⟩:=hb3
 rw[show a8 (List.replicate 32 0)=a8 (K0_ t 0) from rfl]
 first|with_reducible refine ks [] @q9_ ?_|refine kp @q9_ ?_
 refine Cw.loopG (G:=Nat) [8,9,10,11,14,15,16,17,18,12,13,5] (fun g=> [(5,vi g)]) (fun g=> [(b, .cells #[vs s,vi a2,vi e2] 166 (0,0)),(b2, .cells (a8 z32) 86 (0,0)),(b3, .cells (a8 (K0_ t g)) 86 (0,0))]) (fun g=>g≤t.length) (fun g=>t.length - g) 0 rfl rfl ?_ ?_
 ·omega
 intro g j hg
 refine kv ?_
 by_cases hlt:g<t.length
 ·have hil:=afl_ t g hg ht32
  first|with_reducible refine ks [] @q9_ ?_|refine kp @q9_ ?_
  refine Again.mk (g+1) (by omega) (by omega) ?_ rfl
  rw[aeK_ t g hlt ht32]
 ·obtain rfl:g=t.length:=by omega
  rw[ahw_ t hq]
  have hil: (if t.length=32 then t else z32).length=32:=by
   split
   ·assumption
   ·simp[z32]
  have hz32:z32.length=32:=by simp[z32]
  generalize (if t.length=32 then t else z32)=id at*
  first|with_reducible refine ks [] @q9_ ?_|refine kp @q9_ ?_
  refine⟨_,_,_,(ke @q9_),rfl,⟨hw2,hw3,trivial⟩, ?_⟩
  exact⟨rfl,rfl⟩
end Go.Proofs
end
namespace Go.Sx
open Go
section
variable {P:Program} {w0:World} {f:Fr} {L:zc_} {N:Fr→zc_→Prop} {ops:Array Oper} {rest:List Oper} {md:Md}
 {d:Option Tmp} {ty:TypeId} {ps:String} {af:Array Edge} {g:Option (Nat×Bool)}
def v32i (n:Int):Value:= .int .i32 n
theorem aiH_ (op:BinOp) (t:TypeId) (a b:Int):qE_ P op t (v32i a) (v32i b)=zk_ op (v32i a) (v32i b):=(rfl)
theorem abk_ (a b:Int):zk_ .lss (v32i a) (v32i b)=some (.bool (decide (a<b))):=by simp[zk_,v32i,jl_,Zw_]
theorem abx_ (a b:Int):zk_ .gtr (v32i a) (v32i b)=some (.bool (decide (b<a))):=by simp[zk_,v32i,jl_,Zw_]
theorem ace_ (a b:Int):zk_ .eql (v32i a) (v32i b)=some (.bool (a==b)):=by simp[zk_,v32i,jl_,Zw_]
theorem aki_ (n:Int):Value.int .i32 n=v32i n:=(rfl)
theorem Ow.callFn1 {x y:Operand} {ts:Array TypeId} {k:FuncId} {v a:Value} (hs:zo_ ops f ⟨d, .call ⟨.value x, #[y],ts⟩,ty,ps,af,g⟩=false) (hx:ev f x= .func (.func k) #[] #[]) (hy:ev f y=a)
  (hk: ∀a w,(callFunc k a).run P w= .ok (.enter k a) w) (hc: ∀w,Hp w0 L w→Rets P k #[a] w (fun v' D=>v'=v∧D= [])) (hn:Ow P w0 ops md.next rest (qU_ f d v) L N):
  Ow P w0 ops md (⟨d, .call ⟨.value x, #[y],ts⟩,ty,ps,af,g⟩::rest) f L N:=
 Ow.callV hs hx hk (fun w hw=>by simpa [hy] using hc w hw) hn
end
end Go.Sx
namespace Go.Sx
open Go
abbrev VN_:=List (List UInt8×List UInt8)
def fnd (k:List UInt8):VN_→Nat→Option (Nat×List UInt8)
 | [],_=>none
 |p::r,i=>if k==p.1 then some (i,p.2) else fnd k r (i+1)
def updV (k v:List UInt8):VN_→VN_
 | []=> [(k,v)]
 |p::r=>if k==p.1 then(p.1,v)::r else p::updV k v r
def delV (k:List UInt8):VN_→VN_
 | []=> []
 |p::r=>if k==p.1 then r else p::delV k r
def wr_ (p:List UInt8×List UInt8):Value×Value:=(vs p.1, .agg (a8 p.2))
def MapR (o:Obj) (m:VN_):Prop:= ∃es clock,o= .map es clock∧es.toList.map (fun e=>(e.key,e.val))=m.map wr_∧(es.toList.map (·.born)++ [clock]).Pairwise (· < ·)
theorem WJ_ {es:List MapEntry} {c:Nat} {e:MapEntry} (h: (es.map (·.born)++ [c]).Pairwise (· < ·)) (he:e.born=c): ((es++ [e]).map (·.born)++ [c+1]).Pairwise (· < ·):=by
 rw[List.map_append,List.map_cons,List.map_nil,he]
 refine List.pairwise_append.2 ⟨h,List.pairwise_singleton _ _, ?_⟩
 intro a ha b hb
 rw[List.mem_singleton] at hb
 subst hb
 rcases List.mem_append.1 ha with hm|hm
 ·have:=(List.pairwise_append.1 h).2.2 a hm c (List.mem_singleton.2 rfl)
  omega
 ·rw[List.mem_singleton] at hm
  omega
theorem JG_ {es:List MapEntry} {j:Nat} {g:MapEntry→MapEntry} (hg: ∀e,(g e).born=e.born): (es.modify j g).map (·.born)=es.map (·.born):=by
 apply List.ext_getElem?
 intro i
 rw[List.getElem?_map,List.getElem?_map,List.getElem?_modify]
 cases es[i]? with
 |none=>rfl
 |some e=>
  by_cases h:j=i
  ·simp[h,hg]
  ·simp[h]
theorem adt_ (a b:List UInt8): ((ByteArray.mk a.toArray)==(ByteArray.mk b.toArray))=(a==b):=by
 show(a.toArray==b.toArray)=(a==b)
 simp
theorem X1_ (k:List UInt8): ∀ (es:List MapEntry) (m:VN_) (i:Nat),es.map (fun e=>(e.key,e.val))=m.map wr_→
  Instr.findNow .string (vs k) es i=some ((fnd k m i).map fun p=>(p.1, .agg (a8 p.2)))
 | [],[],i,_=>rfl
 | [],_::_,_,h=>by cases h
 |_::_,[],_,h=>by cases h
 |e::es,p::m,i,h=>by
  simp only[List.map_cons,List.cons.injEq,wr_,Prod.mk.injEq] at h
  obtain⟨⟨h1,h2⟩,h3⟩:=h
  unfold Instr.findNow
  have hs:Instr.sameNow .string (vs k) e.key=some (k==p.1):=by
   rw[h1]
   simp only[vs,Instr.sameNow,adt_]
  rw[hs]
  unfold fnd
  cases hk: (k==p.1)
  ·simp only[Bool.false_eq_true, ↓reduceIte]
   exact X1_ k es m (i+1) h3
  ·simp[h2]
theorem Vt_ (k:List UInt8): ∀ (m:VN_) (i j:Nat) (v:List UInt8),fnd k m i=some (j,v)→i≤j∧ ∃a,m[j - i]? =some (k,a)∧a=v
 | [],_,_,_,h=>by cases h
 |p::r,i,j,v,h=>by
  unfold fnd at h
  split at h
  ·rename_i hk
   cases h
   refine⟨Nat.le_refl _,p.2, ?_,rfl⟩
   rw[Nat.sub_self,List.getElem?_cons_zero,eq_of_beq hk]
  ·obtain⟨h1,a,h2,h3⟩:=Vt_ k r (i+1) j v h
   refine⟨by omega,a, ?_,h3⟩
   rw[show j - i=(j - (i+1))+1 by omega,List.getElem?_cons_succ];exact h2
theorem VS_ (k v:List UInt8): ∀ (es:List MapEntry) (m:VN_) (i j:Nat) (a:List UInt8),es.map (fun e=>(e.key,e.val))=m.map wr_→fnd k m i=some (j,a)→
  (es.modify (j - i) fun e=>{e with key:=vs k,val:= .agg (a8 v)}).map (fun e=>(e.key,e.val))=(updV k v m).map wr_
 | [],[],_,_,_,_,h=>by cases h
 | [],_::_,_,_,_,h,_=>by cases h
 |_::_,[],_,_,_,h,_=>by cases h
 |e::es,p::m,i,j,a,h,hf=>by
  simp only[List.map_cons,List.cons.injEq,wr_,Prod.mk.injEq] at h
  obtain⟨⟨h1,h2⟩,h3⟩:=h
  unfold fnd at hf
  unfold updV
  split at hf
  ·rename_i hk
   cases hf
   rw[if_pos hk,Nat.sub_self]
   simp only[List.modify_zero_cons,List.map_cons,wr_,eq_of_beq hk]
   rw[h3]
  ·rename_i hk
   have hle:=(Vt_ k m (i+1) j a hf).1
   rw[if_neg hk,show j - i=(j - (i+1))+1 by omega]
   simp only[List.modify_succ_cons,List.map_cons,wr_]
   rw[VS_ k v es m (i+1) j a h3 hf,h1,h2]
theorem VL_ (k v:List UInt8): ∀ (m:VN_) (i:Nat),fnd k m i=none→updV k v m=m++ [(k,v)]
 | [],_,_=>rfl
 |p::r,i,h=>by
  unfold fnd at h
  split at h
  ·cases h
  ·rename_i hk
   unfold updV
   rw[if_neg hk,VL_ k v r (i+1) h];rfl
section
variable {P:Program} {w0:World} {f:Fr} {L:zc_} {N:Fr→zc_→Prop} {ops:Array Oper} {rest:List Oper} {md:Md}
 {d:Option Tmp} {ty:TypeId} {ps:String} {af:Array Edge} {g:Option (Nat×Bool)}
theorem abq_ {w:World} {t:TypeId} (hu:P.underlying t=some .string) (k:List UInt8) (es:List MapEntry) (m:VN_) (h:es.map (fun e=>(e.key,e.val))=m.map wr_):
  (Instr.findKey t (vs k) es).run P w= .ok ((fnd k m 0).map fun p=>(p.1, .agg (a8 p.2))) w:=by
 simp only[Instr.findKey,Sem.run_bind,run_underlying hu w,Result.andThen_ok,X1_ k es m 0 h]
 rfl
theorem Qs_ {w:World} {t:TypeId} (hu:P.underlying t=some .string) (e:Bool) (k:List UInt8): (Instr.checkKey e 10000 t (vs k)).run P w= .ok () w:=by
 unfold Instr.checkKey
 simp only[Sem.run_bind,run_underlying hu w,Result.andThen_ok,vs]
 rfl
theorem jT_ {w:World} {b:Nat} {es:Array MapEntry} {c:Nat} (hb:w.heap[b]? =some (.map es c)): (getObj b).run P w= .ok (.map es c) w:=by
 simp only[getObj,Sem.run,hb]
theorem we_ {w:World} {b:Nat} {es:Array MapEntry} {c:Nat} (hb:w.heap[b]? =some (.map es c)) (o:Obj): (setObj b o).run P w= .ok () {w with heap:=w.heap.setIfInBounds b o}:=by
 simp only[setObj,Sem.run,hb]
def vm (b:Nat):Value:= .map (some b)
theorem Ow.makeMap {t:TypeId} {md':Md} (he:md.turn=some md') (hs:zo_ ops f ⟨d, .makeMap t none,ty,ps,af,g⟩=false)
  (hn: ∀b o,xt_ L b→w0.heap.size≤b→MapR o []→Ow P w0 ops md' rest (qU_ f d (vm b)) (L++ [(b,o)]) N):
  Ow P w0 ops md (⟨d, .makeMap t none,ty,ps,af,g⟩::rest) f L N:=by
 refine Ow.step he rfl hs fun w hw=> .inl ⟨vm w.heap.size,w.alloc (.map #[] 0),_, ?_,hw.alloc _,hn _ _ (qO_ fun b hb=>hw.lt hb) hw.size ⟨#[],0,rfl,rfl,List.pairwise_singleton _ _⟩⟩
 simp only[execOp,Instr.makeMap,Sem.run_bind,Option.map_none]
 rfl
theorem alk_ {k:List UInt8} {m:VN_} {es:List MapEntry} {j:Nat} {a:List UInt8} (h:es.map (fun e=>(e.key,e.val))=m.map wr_) (hf:fnd k m 0=some (j,a)): ∃e,es[j]? =some e∧e.key=vs k:=by
 obtain⟨-,a',h1,rfl⟩:=Vt_ k m 0 j a hf
 rw[Nat.sub_zero] at h1
 have:=congrArg (·[j]?) h
 simp only[List.getElem?_map,h1,Option.map_some] at this
 cases he:es[j]? with
 |none=>rw[he] at this;cases this
 |some e=>
  rw[he] at this
  simp only[Option.map_some,Option.some.injEq,wr_,Prod.mk.injEq] at this
  exact⟨e,rfl,this.1⟩
theorem Ow.mapUpdate {t kt vt:TypeId} {x y z:Operand} {b:Nat} {o:Obj} {m:VN_} {k v:List UInt8} {md':Md} (he:md.turn=some md') (hs:zo_ ops f ⟨d, .mapUpdate t x y z,ty,ps,af,g⟩=false) (hu:P.underlying t=some (.map kt vt)) (huk:P.underlying kt=some .string)
  (hx:ev f x=vm b) (hy:ev f y=vs k) (hz:ev f z= .agg (a8 v)) (hl:look L b=some o) (hm:MapR o m)
  (hn: ∀o',MapR o' (updV k v m)→Ow P w0 ops md' rest (qU_ f d undef) (setB L b o') N):
  Ow P w0 ops md (⟨d, .mapUpdate t x y z,ty,ps,af,g⟩::rest) f L N:=by
 obtain⟨es,c,rfl,hes,hbo⟩:=hm
 refine Ow.step he rfl hs fun w hw=> ?_
 have hb:=hw.has _ _ (zL_ hl)
 have hfk:=abq_ (w:=w) huk k es.toList m hes
 cases hf:fnd k m 0 with
 |none=>
  rw[hf] at hfk
  refine .inr (.inl ⟨{w with heap:=w.heap.setIfInBounds b (.map (es.push {key:=vs k,val:= .agg (a8 v),born:=c}) (c+1))},_, ?_,hw.set (zr_ hl) rfl rfl rfl rfl,hn _ ⟨_,_,rfl, ?_,by rw[Array.toList_push];exact WJ_ hbo rfl⟩⟩)
  ·have: (Instr.mapUpdate t (vm b) (vs k) (.agg (a8 v))).run P w= .ok () {w with heap:=w.heap.setIfInBounds b (.map (es.push {key:=vs k,val:= .agg (a8 v),born:=c}) (c+1))}:=by
    simp only[Instr.mapUpdate,vm,Sem.run_bind,run_underlying hu w,Result.andThen_ok,jT_ hb,Qs_ huk,hfk,Option.map_none,we_ hb]
   simp only[execOp,Sem.run_bind,hx,hy,hz]
   rw[this];rfl
  ·rw[VL_ k v m 0 hf,Array.toList_push,List.map_append,hes,List.map_append];rfl
 |some p=>
  obtain⟨j,a⟩:=p
  rw[hf] at hfk
  obtain⟨e,hej,hek⟩:=alk_ hes hf
  have hej':es[j]? =some e:=by simpa using hej
  have hkt: (Instr.keyThatStays (((es[j]?).map (·.key)).getD (vs k)) (vs k)).run P w= .ok (vs k) w:=by
   rw[hej',Option.map_some,Option.getD_some,hek]
   unfold Instr.keyThatStays
   have:Instr.sameBits 10000 (vs k) (vs k)=true:=by simp[vs,Instr.sameBits,adt_]
   rw[if_pos this];rfl
  refine .inr (.inl ⟨{w with heap:=w.heap.setIfInBounds b (.map (es.modify j fun e=>{e with key:=vs k,val:= .agg (a8 v)}) c)},_, ?_,hw.set (zr_ hl) rfl rfl rfl rfl,hn _ ⟨_,_,rfl, ?_,by rw[Array.toList_modify,JG_ (g:=fun e=>{e with key:=vs k,val:= .agg (a8 v)}) fun _=>rfl];exact hbo⟩⟩)
  ·have: (Instr.mapUpdate t (vm b) (vs k) (.agg (a8 v))).run P w= .ok () {w with heap:=w.heap.setIfInBounds b (.map (es.modify j fun e=>{e with key:=vs k,val:= .agg (a8 v)}) c)}:=by
    simp only[Instr.mapUpdate,vm,Sem.run_bind,run_underlying hu w,Result.andThen_ok,jT_ hb,Qs_ huk,hfk,Option.map_some,hkt,we_ hb]
   simp only[execOp,Sem.run_bind,hx,hy,hz]
   rw[this];rfl
  ·rw[Array.toList_modify]
   have:=VS_ k v es.toList m 0 j a hes hf
   rw[Nat.sub_zero] at this
   exact this
end
end Go.Sx
namespace Go.Sx
open Go
section
variable {P:Program} {w0:World} {f:Fr} {L:zc_} {N:Fr→zc_→Prop} {ops:Array Oper} {rest:List Oper} {md:Md}
 {d:Option Tmp} {ty:TypeId} {ps:String} {af:Array Edge} {g:Option (Nat×Bool)}
def getV (k:List UInt8) (z:List UInt8) (m:VN_):List UInt8:=match m.find? fun p=>k==p.1 with|some p=>p.2|none=>z
end
end Go.Sx
namespace Go.Sx
open Go
theorem New.mono {n m:Nat} (h:n≤m): ∀ {L:zc_},New m L→New n L
 | [],_=>trivial
 | (_,_)::_,hL=>⟨Nat.le_trans h hL.1,New.mono h hL.2⟩
theorem New.app {n:Nat} {M:zc_}: ∀ {L:zc_},New n L→New n M→New n (L++M)
 | [],_,hM=>hM
 | (_,_)::_,hL,hM=>⟨hL.1,New.app hL.2 hM⟩
section
variable {P:Program} {w0:World} {f:Fr} {L:zc_} {N:Fr→zc_→Prop} {ops:Array Oper} {rest:List Oper} {md:Md}
 {d:Option Tmp} {ty:TypeId} {ps:String} {af:Array Edge} {g:Option (Nat×Bool)}
theorem Ow.callE {l:List Operand} {ts:Array TypeId} {k:FuncId} {b:Nat} {S:Value→Obj→Prop} {md':Md} (he:md.turn=some md')
  (hs:zo_ ops f ⟨d, .call ⟨.value (.func k),l.toArray,ts⟩,ty,ps,af,g⟩=false)
  (hk: ∀a w,(callFunc k a).run P w= .ok (.enter k a) w) (hb:b∈keys L)
  (hc: ∀w,Hp w0 L w→Rets P k (l.map (ev f)).toArray w (fun v D=> ∃o,D= [(b,o)]∧S v o))
  (hn: ∀v o,S v o→Ow P w0 ops md' rest (qU_ f d v) (setB L b o) N):
  Ow P w0 ops md (⟨d, .call ⟨.value (.func k),l.toArray,ts⟩,ty,ps,af,g⟩::rest) f L N:=by
 refine Ow.callF he hs hk (S:=fun _ v D=> ∃o,D= [(b,o)]∧S v o) hc ?_
 rintro B v D - - ⟨o,rfl,hS⟩
 exact⟨_,Mrg.set hb,hn v o hS⟩
theorem Ow.callN {l:List Operand} {ts:Array TypeId} {k:FuncId} {S:Nat→Value→zc_→Prop} {md':Md} (he:md.turn=some md')
  (hs:zo_ ops f ⟨d, .call ⟨.value (.func k),l.toArray,ts⟩,ty,ps,af,g⟩=false)
  (hk: ∀a w,(callFunc k a).run P w= .ok (.enter k a) w)
  (hc: ∀w,Hp w0 L w→Rets P k (l.map (ev f)).toArray w (fun v D=>S w.heap.size v D))
  (hnew: ∀B v D,S B v D→New B D)
  (hn: ∀B v D,xt_ L B→w0.heap.size≤B→S B v D→Ow P w0 ops md' rest (qU_ f d v) (L++D) N):
  Ow P w0 ops md (⟨d, .call ⟨.value (.func k),l.toArray,ts⟩,ty,ps,af,g⟩::rest) f L N:=by
 refine Ow.callF he hs hk (S:=S) hc ?_
 intro B v D ha hB hS
 exact⟨_,Mrg.fresh (hnew B v D hS).le,hn B v D ha hB hS⟩
end
end Go.Sx
section
namespace Go.Sx
open Go
set_option linter.unusedSimpArgs false
section
variable {P:Program} {w0:World} {L:zc_}
theorem Z6_ {w:World} {ts tx ty e:TypeId} {m:Bool×Nat} {z x:Value} {b k:Nat} {new:List Value} (hw:Hp w0 L w)
  (hu:P.underlying ts=some (.slice e)) (hm:zP_ P e=some m) (hi:vb_ P e=true) (hz:zZ_ P e=some z) (hzs:z.cells.size=m.2) {d:TypeDesc} (hux:P.underlying tx=some d) (hnx: ∀k,d≠ .int k)
  (hXa: ∀w,Hp w0 L w→AppX P w m.2 x k new) (hbig:2* (0+k)+768≤2^38):
  (k=0∧(Builtin.append_ #[ts,tx] ty #[vsl b 0 0 0,x]).run P w= .ok (vsl b 0 0 0) w)∨
  (0<k∧ ∃v' w' L',(Builtin.append_ #[ts,tx] ty #[vsl b 0 0 0,x]).run P w= .ok v' w'∧Hp w0 L' w'∧Buf L' e m.2 v' (0+k) ([]++new)∧Grew w0 (.slice none 0 0) L L'∧ ∃c,slB v'=some c∧xt_ L c):=by
 obtain⟨i,hi,hb0,hbig⟩:=vG_ hi hbig
 have hti: ∀w,(typeInfo e).run P w= .ok i w:=by
  intro w
  simp only[typeInfo,program,Sem.run_bind]
  show Result.andThen (Result.ok P w) _=_
  simp only[Result.andThen_ok,hi]
  rfl
 have hmd: (match d with| .int _=>true|_=>false)=false:=by
  cases d<;>first|rfl|exact absurd rfl (hnx _)
 have e1: ∀ {α β:Type} (a:α) (f:α→World→Result β),(Sem.run P (pure a) w).andThen f=f a w:=fun _ _=>rfl
 have hX:=hXa w hw
 have hxl:=hX.len
 have hxc:=hX.cells
 have hzv:=xb_ (P:=P) hz
 have room: ∀ (b:Nat) (w:World),(askRoom b).run P w= .ok () w:=by
  intro b w
  unfold askRoom
  split<;>rfl
 have zc: ∀j,(Builtin.zeroCells z.cells j).toList.length=j*m.2:=by
  intro j;simp[Builtin.zeroCells,hzs]
 have hbg: ∀c,c<0+k→ ¬ (Builtin.nextslicecap (0+k) c*i.bytes>2^48):=by
  intro c hc
  have:=vI_ hc
  have h2:=Nat.mul_le_mul_right i.bytes this
  omega
 by_cases hk:k=0
 ·subst hk
  have hnew:new= []:=List.eq_nil_of_length_eq_zero (by have:=hX.size;omega)
  subst hnew
  refine .inl ⟨rfl, ?_⟩
  simp only[Builtin.append_,vsl,List.getElem?_toArray,List.getElem?_cons_zero,List.getElem?_cons_succ,Sem.run_bind,run_underlying hu w,Result.andThen_ok,zz_ hm w,run_underlying hux w,hmd,e1,Bool.false_eq_true, ↓reduceIte,hxl,Bool.not_false,Nat.add_zero,Nat.le_refl,hxc]
  rfl
 ·have hpos: ¬0+k≤0:=by omega
  have hbg':=hbg 0 (by omega)
  simp only[Builtin.append_,List.getElem?_toArray,List.getElem?_cons_zero,List.getElem?_cons_succ,Sem.run_bind,run_underlying hu w,Result.andThen_ok,zz_ hm w,run_underlying hux w,hmd,e1,Bool.false_eq_true, ↓reduceIte,hxl,Bool.not_false,hpos,vsl,hti,hb0,or_false,and_false,hbg']
  have hch: (choose (Question.appendCap (0+k) 0 e)).run P w= .ok ((0+k)+w.tape w.drawn (.appendCap (0+k) 0 e)% (2^63 - (0+k))) w.drew:=rfl
  rw[hch]
  generalize hcc: (0+k)+w.tape w.drawn (.appendCap (0+k) 0 e)% (2^63 - (0+k))=c
  have hw1:=hw.drew
  have hX1:=hXa _ hw1
  have hold: (Builtin.firstCells m.2 0 (Value.slice (some ⟨b,0,none⟩) 0 0)).run P w.drew= .ok #[] w.drew:=by
   simp only[Builtin.firstCells,Nat.zero_mul];rfl
  simp only[Result.andThen_ok,room,hold,hX1.cells,hzv]
  refine .inr ⟨by omega,_,_,L++ [(w.drew.heap.size, .cells ([]++new++ (Builtin.zeroCells z.cells (c - (0+k))).toList).toArray e (0,0))],rfl, ?_, .at_ (b:=w.drew.heap.size) (rest:=(Builtin.zeroCells z.cells (c - (0+k))).toList) ?_ ?_ ?_ (by omega) (by omega), ?_,⟨_,rfl,qO_ fun b hb=>hw1.lt hb⟩⟩
  ·have ea: ([]++new++ (Builtin.zeroCells z.cells (c - (0+k))).toList).toArray= #[]++new.toArray++Builtin.zeroCells z.cells (c - (0+k)):=by apply Array.ext';simp
   rw[ea]
   exact hw1.alloc _
  ·rw[kC_ (fun hm=>Nat.lt_irrefl _ (hw1.lt hm))]
   simp[look]
  ·rw[List.nil_append,hX.size,Nat.zero_add]
  ·exact zc _
  ·refine⟨fun c hc=>by rw[zR_];exact List.mem_append_left _ hc,fun c hc=> ?_,fun c o hne ho=>j2_ ho⟩
   rw[zR_] at hc
   rcases List.mem_append.1 hc with hc|hc
   ·exact .inl hc
   ·right
    simp only[keys,List.map_cons,List.map_nil,List.mem_singleton] at hc
    subst hc
    exact⟨qO_ fun b hb=>hw1.lt hb,hw1.size⟩
end
section
variable {P:Program} {w0:World} {f:Fr} {L:zc_} {N:Fr→zc_→Prop} {ops:Array Oper} {rest:List Oper} {md:Md}
 {d:Option Tmp} {ty:TypeId} {ps:String} {af:Array Edge} {g:Option (Nat×Bool)}
theorem Ow.appendEm {ts tx e:TypeId} {m:Bool×Nat} {z:Value} {s x:Operand} {b k:Nat} {new:List Value} {dx:TypeDesc} {md':Md} (hsv:ev f s=vsl b 0 0 0) (he:md.turn=some md')
  (hs:zo_ ops f ⟨d, .call ⟨.builtin .append, #[s,x], #[ts,tx]⟩,ty,ps,af,g⟩=false)
  (hu:P.underlying ts=some (.slice e)) (hm:zP_ P e=some m) (hi:vb_ P e=true) (hz:zZ_ P e=some z) (hzs:z.cells.size=m.2) (hux:P.underlying tx=some dx) (hnx: ∀k,dx≠ .int k)
  (hX: ∀w,Hp w0 L w→AppX P w m.2 (ev f x) k new) (hbig:2* (0+k)+768≤2^38)
  (hn0:k=0→Ow P w0 ops md' rest (qU_ f d (vsl b 0 0 0)) L N)
  (hn: ∀v' L',0<k→Buf L' e m.2 v' (0+k) ([]++new)→Grew w0 (.slice none 0 0) L L'→(∃c,slB v'=some c∧xt_ L c)→Ow P w0 ops md' rest (qU_ f d v') L' N):
  Ow P w0 ops md (⟨d, .call ⟨.builtin .append, #[s,x], #[ts,tx]⟩,ty,ps,af,g⟩::rest) f L N:=by
 refine Ow.step he rfl hs fun w hw=> ?_
 rcases Z6_ (ty:=ty) (b:=b) hw hu hm hi hz hzs hux hnx hX hbig with⟨hk,hr⟩ | ⟨hk,v',w',L',hr,hp,hb,hg,hsl⟩
 ·refine .inl ⟨_,w,L, ?_,hw,hn0 hk⟩
  simp only[execOp,resolve,Sem.run_bind,Sem.run_pure,Result.andThen_ok,invoke,builtin,List.map_toArray,List.map_cons,List.map_nil,hsv]
  rw[hr]
  rfl
 ·refine .inl ⟨v',w',L', ?_,hp,hn v' L' hk hb hg hsl⟩
  simp only[execOp,resolve,Sem.run_bind,Sem.run_pure,Result.andThen_ok,invoke,builtin,List.map_toArray,List.map_cons,List.map_nil,hsv]
  rw[hr]
  rfl
end
end Go.Sx
end
namespace Go.Sx
open Go
section
variable {P:Program} {w0:World} {f:Fr} {L:zc_} {N:Fr→zc_→Prop} {K:xN_} {l:List Oper} {listed:List Bool} {n:Nat} {R ts:List Nat} {a d:Nat} {z:Obj}
theorem VG_ {Q:Exit→Act→World→Prop} {o:Oper} {x:Act} {d:Option Tmp} {v:Value} {K:Act→World→Prop} (hd: ∀t,d=some t→o.dst≠some t)
  (hQ: ∀c a w,Q (.panic c) a w→Q (.panic c) (a.put d v) w) (r:Result Next) (h:o.upon P x (fun a' w'=>K (a'.put d v) w') Q r):
  o.upon P (x.put d v) K Q r:=by
 have comm: ∀u,(x.put o.dst u).put d v=(x.put d v).put o.dst u:=fun u=>(Act.put_comm x v u hd).symm
 match r,h with
 | .ok (.value u) _,h=>show K _ _;rw[←comm];exact h
 | .ok .skip _,h=>show K _ _;rw[←comm];exact h
 | .ok (.defer e) w',h=>
  have h':K ((({x with defers:=e::x.defers}:Act).put o.dst undef).put d v) w':=h
  rw[←Act.put_comm _ v undef hd,←Act.put_defers] at h'
  exact h'
 | .ok (.enter f args) _,h=>
  refine Calls.mono h fun e w'' he=> ?_
  match e,he with
  | .returned u,he=>show K _ _;rw[←comm];exact he
  | .panicked c,he=>exact hQ _ _ _ he
  | .outgrown,he=>exact he
 | .ok (.row row args) _,h=>exact Rows.mono h fun u w'' he=>by rw[←comm];exact he
 | .halt (.panic u) _,h=>exact hQ _ _ _ h
theorem V7_ {ops:Array Oper} {Q:Exit→Act→World→Prop} {j:Nat} {oj:Oper} {d:Option Tmp} {v:Value} (hj:ops[j]? =some oj) (h1: ∀t,d=some t→t∉oj.looksAt ops) (h2: ∀t,d=some t→oj.dst≠some t) (hsj: ∀cs b,oj.op≠ .select cs b)
  (hQ: ∀c a w,Q (.panic c) a w→Q (.panic c) (a.put d v) w) {K:Act→World→Prop} {x:Act} {w:World}
  (h:wpOp P ops Q j (fun a' w'=>K (a'.put d v) w') x w):wpOp P ops Q j K (x.put d v) w:=by
 unfold wpOp at h ⊢
 simp only[hj] at h ⊢
 rw[wanted_put oj x d v h1]
 cases hw:Region.wanted oj (yielded ops x.tmps) with
 |true=>
  rw[hw] at h
  simp only[if_true] at h ⊢
  rcases h with h| ⟨hasks,hl⟩
  ·left
   unfold Oper.wp at h ⊢
   rw[execOp_put oj hsj x d v h1]
   exact VG_ h2 hQ _ h
  ·right
   exact⟨by unfold Oper.asks at*;rwa [execOp_put oj hsj x d v h1],hl⟩
 |false=>
  rw[hw] at h
  simp only[Bool.false_eq_true,if_false] at h ⊢
  rw[Act.put_comm x v undef h2]
  exact h
structure Drift (P:Program) (l:List Oper) (ts:List Nat) (a d:Nat) (z:Obj):Prop where
 here: ∃oa t zv,l.toArray[a]? =some oa∧oa.op= .alloc t∧oa.dst=some d∧oa.guard=none∧zZ_ P t=some zv∧z= .cells zv.cells t
 ts:a∉ts
 sel:Region.noSelect l.toArray=true
def aow_ (l:List Oper) (ts:List Nat) (a d:Nat):Bool:=
 (match kW_ l a with
 |some oa=>(match oa.op with| .alloc _=>true|_=>false)&&oa.dst==some d&&oa.guard==none
 |none=>false)&& !ts.contains a&&Region.noSelect l.toArray
def OwD (P:Program) (w0:World) (l:List Oper) (R ts:List Nat) (a d:Nat) (z:Obj) (n:Nat) (listed:List Bool) (f:Fr) (L:zc_) (N:Fr→zc_→Prop):Prop:=
 (∀w,Hp w0 L w→xu_ P l.toArray (jp_ w0 N) ts (SR w0 R L) (n+1) listed.toArray (act f) w)∧
 (∀b w,w0.heap.size≤b→b∉keys L→Hp w0 (L++ [(b,z)]) w→xu_ P l.toArray (jp_ w0 N) ts (SR w0 R L) n (listed.set a true).toArray (act (KV_ f d (vp b 0))) w)
theorem SR.ofE {w:World} {b:Nat} (hb:w0.heap.size≤b) (h:Hp w0 (L++ [(b,z)]) w):SR w0 R L w:=by
 intro r _ o ho
 unfold zv_ at ho
 split at ho
 ·rename_i o' hl
  cases ho
  exact h.has _ _ (List.mem_append_left _ (zL_ hl))
 ·rename_i hl
  have hlt:=(Array.getElem?_eq_some_iff.1 ho).1
  rw[h.old r hlt ?_];exact ho
  intro hm
  simp only[keys,List.map_append,List.map_cons,List.map_nil,List.mem_append,List.mem_singleton] at hm
  rcases hm with hm|hm
  ·exact Zo_ hl hm
  ·omega
theorem aft_ {c:List PanicEntry} {x x':Act} {w:World} (h:jp_ w0 N (.panic c) x w):jp_ w0 N (.panic c) x' w:=zS_ h
theorem Hp.perm {w:World} {M:zc_} (h:Hp w0 L w) (hp:M.Perm L):Hp w0 M w:=
 h.same (fun _=>hp.mem_iff) ((List.Perm.nodup_iff (hp.map Prod.fst)).2 h.nodup)
def chkD (P:Program) (l:List Oper) (ts:List Nat) (a:Nat):List Nat→List Bool→Option (List Bool)
 | [],listed=>some listed
 |k::is,listed=>
  match kW_ l k,kW_ l a with
  |some o,some oa=>if k !=a&& !ts.contains k&& (ts.all fun t=> !listed.toArray.getD t true&& !(listed.set a true).toArray.getD t true)&& (Region.ready .any l.toArray listed.toArray).contains k&&Region.free .any l.toArray listed.toArray k&&
    (Region.ready .any l.toArray (listed.set a true).toArray).contains k&&Region.free .any l.toArray (listed.set a true).toArray k&&o.apart l.toArray oa&&
    (xq_ P o.op|| (Xn_ o.op&&JN_ l.toArray ts listed.toArray k&&JN_ l.toArray ts (listed.set a true).toArray k)) then chkD P l ts a is (listed.set k true) else none
  |_,_=>none
theorem OwD.step {k:Nat} {o:Oper} {v:Value} (hD:Drift P l ts a d z) (hk:kW_ l k=some o) {rest:List Bool} (hc:chkD P l ts a [k] listed=some rest)
  (hY:YieldsC P l.toArray (SR w0 R L) (xq_ P o.op=true) o v (act f)) (h:OwD P w0 l R ts a d z n rest (qU_ f o.dst v) L N):OwD P w0 l R ts a d z (n+1) listed f L N:=by
 obtain⟨⟨oa,t,zv,ha,hop,hdst,hg,hz,rfl⟩,hats,hns⟩:=hD
 have hoi:l.toArray[k]? =some o:=by rw[xl_] at hk;simpa using hk
 have ha':kW_ l a=some oa:=by rw[xl_];simpa using ha
 unfold chkD at hc
 rw[hk,ha'] at hc
 simp only at hc
 split at hc
 ·rename_i hcc
  simp only[chkD,Option.some.injEq] at hc
  subst hc
  simp only[Bool.and_eq_true,Bool.or_eq_true,Bool.not_eq_true',List.all_eq_true,List.contains_eq_mem,decide_eq_true_eq,decide_eq_false_iff_not,bne_iff_ne,ne_eq] at hcc
  obtain⟨⟨⟨⟨⟨⟨⟨⟨c1,c2⟩,c3⟩,c4⟩,c5⟩,c6⟩,c7⟩,c8⟩,c9⟩:=hcc
  obtain⟨q1,q2,q3⟩:=Oper.apart_spec c8
  have hsel:=Region.noSelect_spec hns
  have hset: (listed.set k true).set a true=(listed.set a true).set k true:=List.set_comm _ _ c1
  refine⟨fun w hw=> ?_,fun b w hb hbL hw=> ?_⟩
  ·refine k1_ hoi c2 hsel (fun c a w h=>zS_ h) _ _ _ _ (xC_ (P:=P) hoi c4 c5 (c9.imp id fun h=>⟨h.1.1,h.1.2,fun t ht=>(c3 t ht).1⟩)) (.inr fun t ht=>(c3 t ht).1) hY ?_
   rw[z7_,qk_]
   exact h.1 w hw
  ·have hY2:YieldsC P l.toArray (SR w0 R L) (xq_ P o.op=true) o v (act (KV_ f d (vp b 0))):=by
    refine hY.left (hsel k o · · hoi) (oj:=oa) q3 ⟨vp b 0,[], ?_⟩
    rw[hdst]
    exact(z7_ f (some d) (vp b 0)).symm
   refine k1_ hoi c2 hsel (fun c a w h=>zS_ h) _ _ _ _ (xC_ (P:=P) hoi c6 c7 (c9.imp id fun h=>⟨h.1.1,h.2,fun t ht=>(c3 t ht).2⟩)) (.inr fun t ht=>(c3 t ht).2) hY2 ?_
   have e: (act (KV_ f d (vp b 0))).put o.dst v=act (KV_ (qU_ f o.dst v) d (vp b 0)):=by
    have e1:act (KV_ f d (vp b 0))=(act f).put (some d) (vp b 0):=(z7_ f (some d) (vp b 0)).symm
    rw[e1,Act.put_comm (act f) (x:=some d) (y:=o.dst) (vp b 0) v (fun t ht hod=>by cases ht;exact q2 _ hod hdst),z7_,z7_];rfl
   rw[e,qk_,←hset]
   exact h.2 b w hb hbL hw
 ·cases hc
theorem ahf_ {k:Nat} {is:List Nat} {listed listed':List Bool} (h:chkD P l ts a (k::is) listed=some listed'):chkD P l ts a [k] listed=some (listed.set k true)∧chkD P l ts a is (listed.set k true)=some listed':=by
 rw[chkD] at h
 cases ho:kW_ l k with
 |none=>rw[ho] at h;cases h
 |some o=>
  cases hoa:kW_ l a with
  |none=>rw[ho,hoa] at h;cases h
  |some oa=>
   rw[ho,hoa] at h
   simp only at h
   split at h
   ·rename_i hcc
    refine⟨?_,h⟩
    rw[chkD,ho,hoa]
    simp only
    rw[if_pos hcc];rfl
   ·cases h
theorem OwD.runs {k:Md→List Oper→Fr→zc_→Prop} (hD:Drift P l ts a d z): ∀ (is:List Nat) {listed listed':List Bool} {f:Fr} {L:zc_},chkD P l ts a is listed=some listed'→
  (∀md r f' L',k md r f' L'→r= []∧OwD P w0 l R ts a d z n listed' f' L' N)→vcL P w0 l.toArray false (.sof R [] []) (xs_ l is) f L k→OwD P w0 l R ts a d z (is.length+n) listed f L N
 | [],listed,listed',f,L,hc,hk,h=>by
  cases hc
  rw[List.length_nil,Nat.zero_add]
  exact(hk _ _ _ _ h).2
 |i::is,listed,listed',f,L,hc,hk,h=>by
  obtain⟨hc1,hc2⟩:=ahf_ hc
  rw[zb_] at h
  cases ho:kW_ l i with
  |none=>unfold chkD at hc1;rw[ho] at hc1;cases hc1
  |some o=>
   rw[ho,za_] at h
   unfold vcL at h
   rw[List.length_cons,show is.length+1+n=(is.length+n)+1 by omega]
   cases hs:zo_ l.toArray f o with
   |true=>
    rw[hs] at h
    have hw0:Region.wanted o (yielded l.toArray (act f).tmps)=false:=by rw[qn_,hs];rfl
    exact OwD.step hD ho hc1 (v:=undef) (.inr ⟨hw0,rfl⟩) (OwD.runs hD is hc2 hk h)
   |false=>
    rw[hs] at h
    have hw0:Region.wanted o (yielded l.toArray (act f).tmps)=true:=by rw[qn_,hs];rfl
    simp only[ib,vcB] at h
    split at h
    ·cases hrd:KJ_ (.sof R [] []) f o.op with
     |false=>rw[hrd] at h;exact absurd (hk _ _ _ _ h).1 (by simp)
     |true=>
      rw[hrd] at h
      simp only at h
      cases hv:ku_ P w0 L f o.op with
      |none=>rw[hv] at h;exact absurd (hk _ _ _ _ h).1 (by simp)
      |some v=>
       rw[hv] at h
       refine OwD.step hD ho hc1 (v:=v) (.inl ⟨hw0,fun w hw=> ?_⟩) (OwD.runs hD is hc2 hk h)
       rw[jr_]
       rcases hw with hp|hw
       ·exact q0_ (Hp.refl w) (xK_ hp hv w)
       ·exact q0_ (Hp.refl w) (wG_ hrd hv hw)
    ·exact absurd (hk _ _ _ _ h).1 (by simp)
    ·exact absurd (hk _ _ _ _ h).1 (by simp)
theorem OwD.run (is:List Nat) (listed':List Bool) (n:Nat) {m:Nat} (hm:m=is.length+n) (hD:Drift P l ts a d z) (hc:chkD P l ts a is listed=some listed')
  (h: ∀k:Md→List Oper→Fr→zc_→Prop,(∀md f L,OwD P w0 l R ts a d z n listed' f L N→k md [] f L)→nl (xs_ l is) fun l'=>vcL P w0 l.toArray false (.sof R [] []) l' f L k):OwD P w0 l R ts a d z m listed f L N:=by
 subst hm
 refine OwD.runs (k:=fun _ r f' L'=>r= []∧OwD P w0 l R ts a d z n listed' f' L' N) hD is hc (fun _ _ _ _ h=>h) ?_
 exact h _ fun _ _ _ h=>⟨rfl,h⟩
theorem X4_ {t:TypeId} {zv:Value} {oa:Oper} {Q:Exit→Act→World→Prop} {X:Act→World→Prop} {w:World} (ha:l.toArray[a]? =some oa) (hop:oa.op= .alloc t) (hdst:oa.dst=some d) (hg:oa.guard=none) (hz:zZ_ P t=some zv)
  (h:X (act (KV_ f d (vp w.heap.size 0))) (w.alloc (.cells zv.cells t))):wpOp P l.toArray Q a X (act f) w:=by
 obtain⟨dst,op,ty,pos,after,guard⟩:=oa
 simp only at hop hdst hg
 subst hop;subst hdst;subst hg
 unfold wpOp
 simp only[ha]
 have hw:Region.wanted ⟨some d, .alloc t,ty,pos,after,none⟩ (yielded l.toArray (act f).tmps)=true:=by rw[qn_];rfl
 rw[hw]
 simp only[↓reduceIte]
 left
 unfold Oper.wp
 have hr: (execOp (act f).eval ⟨some d, .alloc t,ty,pos,after,none⟩).run P w= .ok (.value (vp w.heap.size 0)) (w.alloc (.cells zv.cells t)):=by
  simp only[execOp,Instr.alloc,Sem.run_bind,xb_ hz w,Result.andThen_ok]
  rfl
 rw[hr]
 show X ((act f).put (some d) (vp w.heap.size 0)) _
 rw[z7_]
 exact h
theorem v9_ {L':zc_} (hS: ∀b,b∈R→zv_ w0 L' b=zv_ w0 L b):SR w0 R L=SR w0 R L':=by
 funext v
 unfold SR
 apply propext
 constructor
 ·intro hh b hb o ho;exact hh b hb o (by rw[←hS b hb];exact ho)
 ·intro hh b hb o ho;exact hh b hb o (by rw[hS b hb];exact ho)
def adj_ (l:List Oper) (ts:List Nat) (a:Nat) (ks:List Nat) (listed:List Bool):Bool:=
 ((Region.ready .any l.toArray listed.toArray).all fun i=>i==a||ks.contains i)&& (Region.ready .any l.toArray listed.toArray != [])&& ((Region.ready .any l.toArray (listed.set a true).toArray).all fun i=>ks.contains i)&& (Region.ready .any l.toArray (listed.set a true).toArray != [])&&ks.all fun k=>
  match kW_ l k,kW_ l a with
  |some o,some oa=>k !=a&& !ts.contains k&&o.apart l.toArray oa
  |_,_=>false
theorem OwD.softs (ks:List Nat) (hD:Drift P l ts a d z) (hs:adj_ l ts a ks listed=true)
  (h: ∀k,k∈ks→ ∀o,kW_ l k=some o→ ∀E,(E= []∨ ∃b,E= [(b,z)]∧w0.heap.size≤b∧b∉keys L)→Ow P w0 l.toArray .seq [o] f (L++E) (fun f' L''=> ∃L',(L'++E).Perm L''∧(∀r,r∈R→zv_ w0 L' r=zv_ w0 L r)∧OwD P w0 l R ts a d z n (listed.set k true) f' L' N)):
  OwD P w0 l R ts a d z (n+1) listed f L N:=by
 obtain⟨⟨oa,t,zv,ha,hop,hdst,hg,hz,rfl⟩,hats,hns⟩:=hD
 have ha':kW_ l a=some oa:=by rw[xl_];simpa using ha
 unfold adj_ at hs
 simp only[Bool.and_eq_true,List.all_eq_true,Bool.or_eq_true,beq_iff_eq,bne_iff_ne,ne_eq,List.contains_eq_mem,decide_eq_true_eq] at hs
 obtain⟨⟨⟨⟨c3,c4⟩,c5⟩,c5'⟩,c6⟩:=hs
 have hsel:=Region.noSelect_spec hns
 have hkk: ∀k,k∈ks→ ∃o,kW_ l k=some o∧k≠a∧k∉ts∧o.apart l.toArray oa=true:=by
  intro k hk
  have:=c6 k hk
  rw[ha'] at this
  cases ho:kW_ l k with
  |none=>rw[ho] at this;cases this
  |some o=>
   rw[ho] at this
   simp only[Bool.and_eq_true,Bool.not_eq_true',bne_iff_ne,ne_eq,decide_eq_false_iff_not] at this
   exact⟨o,rfl,this.1.1,this.1.2,this.2⟩
 have t2: ∀b w,w0.heap.size≤b→b∉keys L→Hp w0 (L++ [(b, .cells zv.cells t)]) w→xu_ P l.toArray (jp_ w0 N) ts (SR w0 R L) (n+1) (listed.set a true).toArray (act (KV_ f d (vp b 0))) w:=by
  intro b w hb hbL hw
  refine⟨fun _=>SR.ofE hb hw,(fun h=>absurd h c5'), ?_⟩
  intro k hi
  have hkm:=c5 k hi
  obtain⟨o,hk,c1,c2,c7⟩:=hkk k hkm
  have hoi:l.toArray[k]? =some o:=by rw[xl_] at hk;simpa using hk
  obtain⟨q1,q2,q3⟩:=Oper.apart_spec c7
  have hset: (listed.set k true).set a true=(listed.set a true).set k true:=List.set_comm _ _ c1
  have e1:act (KV_ f d (vp b 0))=(act f).put (some d) (vp b 0):=(z7_ f (some d) (vp b 0)).symm
  rw[e1]
  refine V7_ hoi (fun t ht=>by cases ht;exact q3 d hdst) (fun t ht=>by cases ht;exact fun hod=>q2 d hod hdst) (hsel _ o · · hoi) (fun c a w h=>aft_ h) ?_
  refine wN_ hoi (X:=fun a' w'=>xu_ P l.toArray (jp_ w0 N) ts (SR w0 R L) n ((listed.set a true).toArray.setIfInBounds k true) (a'.put (some d) (vp b 0)) w') ?_ hw
  intro w' hw'
  refine kj_ ?_ (h k hkm o hk [(b, .cells zv.cells t)] (.inr ⟨b,rfl,hb,hbL⟩) w' hw')
  rintro f' L'' ⟨L',hpm,hR,hO⟩ w'' hw''
  have hw3:=hw''.perm hpm
  rw[z7_,qk_,←hset,v9_ hR]
  refine hO.2 b w'' hb (fun hm=> ?_) hw3
  have hnd:=hw3.nodup
  rw[zR_,List.nodup_append] at hnd
  exact hnd.2.2 b hm b (by simp[keys]) rfl
 refine⟨fun w hw=>⟨fun _=>SR.of hw,fun h=>absurd h c4,fun k hi=> ?_⟩,t2⟩
 rcases c3 k hi with rfl|hkm
 ·refine X4_ ha hop hdst hg hz ?_
  rw[qk_]
  refine t2 _ _ hw.size (fun hm=>Nat.lt_irrefl _ (hw.lt hm)) (hw.alloc _)
 ·obtain⟨o,hk,c1,c2,c7⟩:=hkk k hkm
  have hoi:l.toArray[k]? =some o:=by rw[xl_] at hk;simpa using hk
  refine wN_ hoi (X:=xu_ P l.toArray (jp_ w0 N) ts (SR w0 R L) (n+1) (listed.toArray.setIfInBounds k true)) ?_ hw
  intro w' hw'
  have h1:=h k hkm o hk [] (.inl rfl)
  rw[List.append_nil] at h1
  refine kj_ ?_ (h1 w' hw')
  rintro f' L'' ⟨L',hpm,hR,hO⟩ w'' hw''
  rw[List.append_nil] at hpm
  rw[qk_,v9_ hR]
  exact hO.1 w'' (hw''.perm hpm)
theorem OwD.soft (k:Nat) (o:Oper) (hD:Drift P l ts a d z) (hk:kW_ l k=some o) (hs:adj_ l ts a [k] listed=true)
  (h: ∀E,(E= []∨ ∃b,E= [(b,z)]∧w0.heap.size≤b∧b∉keys L)→Ow P w0 l.toArray .seq [o] f (L++E) (fun f' L''=> ∃L',(L'++E).Perm L''∧(∀r,r∈R→zv_ w0 L' r=zv_ w0 L r)∧OwD P w0 l R ts a d z n (listed.set k true) f' L' N)):
  OwD P w0 l R ts a d z (n+1) listed f L N:=OwD.softs [k] hD hs fun k' hk' o' ho'=>by
 rw[List.mem_singleton] at hk'
 subst hk'
 rw[hk] at ho'
 cases ho'
 exact h
theorem OwD.two (k k2:Nat) (o o2:Oper) (hD:Drift P l ts a d z) (hk:kW_ l k=some o) (hk2:kW_ l k2=some o2) (hs:adj_ l ts a [k,k2] listed=true)
  (h: ∀E,(E= []∨ ∃b,E= [(b,z)]∧w0.heap.size≤b∧b∉keys L)→Ow P w0 l.toArray .seq [o] f (L++E) (fun f' L''=> ∃L',(L'++E).Perm L''∧(∀r,r∈R→zv_ w0 L' r=zv_ w0 L r)∧OwD P w0 l R ts a d z n (listed.set k true) f' L' N))
  (h2: ∀E,(E= []∨ ∃b,E= [(b,z)]∧w0.heap.size≤b∧b∉keys L)→Ow P w0 l.toArray .seq [o2] f (L++E) (fun f' L''=> ∃L',(L'++E).Perm L''∧(∀r,r∈R→zv_ w0 L' r=zv_ w0 L r)∧OwD P w0 l R ts a d z n (listed.set k2 true) f' L' N)):
  OwD P w0 l R ts a d z (n+1) listed f L N:=OwD.softs [k,k2] hD hs fun k' hk' o' ho'=>by
 simp only[List.mem_cons,List.not_mem_nil,or_false] at hk'
 rcases hk' with rfl|rfl
 ·rw[hk] at ho';cases ho';exact h
 ·rw[hk2] at ho';cases ho';exact h2
theorem OwD.real (is:List Nat) {m:Nat} (hm:m=is.length) (hD:Drift P l ts a d z) (hr:Region.ready .any l.toArray listed.toArray= [a]) (hB:Z9_ P l.toArray ts is (listed.set a true).toArray=true) (hts: (ts.all fun t=> !(listed.set a true).toArray.getD t true)=true)
  (hl:is.map (fun i:Nat=>l[i]?)=(xs_ l is).map some) (hR: ∀r,r∈R→r∈keys L∨r<w0.heap.size)
  (h:nl (xs_ l is) fun l'=> ∀b,w0.heap.size≤b→b∉keys L→Ow P w0 l.toArray (.sof R is ts) l' (KV_ f d (vp b 0)) (L++ [(b,z)]) N):OwD P w0 l R ts a d z m listed f L N:=by
 subst hm
 obtain⟨⟨oa,t,zv,ha,hop,hdst,hg,hz,rfl⟩,hats,hns⟩:=hD
 simp only[List.all_eq_true,Bool.not_eq_true'] at hts
 revert hl h
 generalize xs_ l is=l'
 intro hl h
 have hlen:is.length=l'.length:=by have:=congrArg List.length hl;simpa using this
 have hF:Fits P l.toArray ts is l' (listed.set a true).toArray:=⟨hlen,fun j=>by
  have:=congrArg (·[j]?) hl
  simp only[List.getElem?_map] at this
  cases hj:is[j]? with
  |none=>
   rw[hj] at this
   simp only[Option.map_none] at this
   cases hj':l'[j]? with
   |none=>rfl
   |some x=>rw[hj'] at this;cases this
  |some i=>
   rw[hj] at this
   simp only[Option.map_some] at this
   cases hj':l'[j]? with
   |none=>rw[hj'] at this;cases this
   |some x=>
    rw[hj'] at this
    simp only[Option.map_some,Option.some.injEq] at this
    simp[this],hns,hB⟩
 have hRb: ∀b,w0.heap.size≤b→b∉keys L→ ∀r,r∈R→zv_ w0 (L++ [(b,Obj.cells zv.cells t)]) r=zv_ w0 L r:=by
  intro b hb hbL r hr
  unfold zv_
  cases hlk:look L r with
  |some o=>rw[j2_ hlk]
  |none=>
   have hrn:r∉keys L:=Zo_ hlk
   have hne:b≠r:=by
    rcases hR r hr with h|h
    ·exact absurd h hrn
    ·omega
   rw[kC_ hrn]
   unfold look
   rw[if_neg hne];rfl
 have t2: ∀b w,w0.heap.size≤b→b∉keys L→Hp w0 (L++ [(b, .cells zv.cells t)]) w→xu_ P l.toArray (jp_ w0 N) ts (SR w0 R L) is.length (listed.set a true).toArray (act (KV_ f d (vp b 0))) w:=by
  intro b w hb hbL hw
  rw[hlen,v9_ (hRb b hb hbL)]
  exact h b hb hbL _ hF (fun t ht=>hts t ht) w hw
 refine⟨fun w hw=>⟨fun _=>SR.of hw,(fun h=>by rw[hr] at h;cases h),fun i hi=> ?_⟩,t2⟩
 rw[hr,List.mem_singleton] at hi
 subst hi
 refine X4_ ha hop hdst hg hz ?_
 rw[qk_]
 exact t2 _ _ hw.size (fun hm=>Nat.lt_irrefl _ (hw.lt hm)) (hw.alloc _)
end
end Go.Sx
namespace Go.Sx
open Go
def Gr (L:zc_) (E:TypeId) (m:Nat) (v:Value) (n:Nat) (cs:List Value):Prop:=
 Buf L E m v n cs∨(n=0∧cs= []∧ ∃b,v=vsl b 0 0 0∧look L b=some (.cells #[] E (0,0)))
theorem Gr.nl {L:zc_} {E:TypeId} {m:Nat}:Gr L E m (.slice none 0 0) 0 []:= .inl .nl
theorem Grew.any {w0:World} {v v':Value} {L L':zc_} (h:Grew w0 v L L') (hv:slB v=none):Grew w0 v' L L':=
 ⟨h.keys,h.new,fun c o _ hl=>h.look c o (by rw[hv];simp) hl⟩
theorem Gr.keep {L L':zc_} {E:TypeId} {m n:Nat} {v:Value} {cs:List Value} (h:Gr L E m v n cs) (hk: ∀b o,slB v=some b→look L b=some o→look L' b=some o):Gr L' E m v n cs:=by
 rcases h with h| ⟨h1,h2,b,rfl,h3⟩
 ·exact .inl (h.keep hk)
 ·exact .inr ⟨h1,h2,b,rfl,hk b _ rfl h3⟩
theorem Gr.app {L M:zc_} {E:TypeId} {m n:Nat} {v:Value} {cs:List Value} (h:Gr L E m v n cs):Gr (L++M) E m v n cs:=h.keep fun _ _ _ hl=>j2_ hl
theorem Gr.len {L:zc_} {E:TypeId} {m n:Nat} {v:Value} {cs:List Value} (h:Gr L E m v n cs) (x:Bool×Nat):Vx_ (.sl x) v=some (vi n):=by
 rcases h with h| ⟨rfl,rfl,b,rfl,-⟩
 ·exact h.len x
 ·rfl
theorem Gr.cell {L:zc_} {E:TypeId} {m n:Nat} {v:Value} {cs:List Value} (h:Gr L E m v n cs):Value.oneCell' v=true∧v.cells= #[v]:=by
 rcases h with h| ⟨rfl,rfl,b,rfl,-⟩
 ·exact h.cell
 ·exact⟨rfl,rfl⟩
theorem Gr.key {L:zc_} {E:TypeId} {m n:Nat} {v:Value} {cs:List Value} (h:Gr L E m v n cs) {b:Nat} (hb:slB v=some b):b∈keys L:=by
 rcases h with h| ⟨rfl,rfl,c,rfl,hl⟩
 ·rcases h.inv with⟨rfl,-,-⟩ | ⟨c,cc,rest,rfl,hl,-⟩
  ·cases hb
  ·cases hb;exact zr_ hl
 ·cases hb;exact zr_ hl
section
variable {α:Type} {m:Nat} {enc:α→List Value} {z:α} {w:World} {v:Value} {l:List α}
theorem Gr.slM {L:zc_} {E:TypeId} {n:Nat} {cs:List Value} (h:Gr L E m v n cs) (hw: ∀b o,(b,o)∈L→w.heap[b]? =some o) (hl:l.length=n) (hcs:cs=(l.map enc).flatten) (hm: ∀x,(enc x).length=m):SlV m enc z w v l:=by
 rcases h with h| ⟨rfl,rfl,b,rfl,hlk⟩
 ·exact h.slM hw hl hcs hm
 ·obtain rfl:l= []:=List.eq_nil_of_length_eq_zero hl
  exact SlV.sl (l:=([]:List α)) (off:=0) (c:=0) (hw _ _ (zL_ hlk)) (fun k hk=>by simp at hk) (Nat.le_refl 0) (by simp)
theorem Gr.slV {L:zc_} {E:TypeId} {n:Nat} {cs:List Value} {w0:World} (h:Gr L E m v n cs) (hw:Hp w0 L w) (hl:l.length=n) (hcs:cs=(l.map enc).flatten) (hm: ∀x,(enc x).length=m):SlV m enc z w v l:=h.slM hw.has hl hcs hm
theorem Z5_ (hm: ∀x,(enc x).length=m) (arr:Array Value): ∀ (ls:List α) (off:Nat),off+ls.length*m≤arr.size→(∀k j,k<ls.length→j<m→arr[off+k*m+j]? =(enc (ls.getD k z))[j]?)→
  (arr.extract off (off+ls.length*m)).toList=(ls.map enc).flatten
 | [],off,_,_=>by simp
 |r::ls,off,hs,h=>by
  have hlm: (r::ls).length*m=m+ls.length*m:=by rw[List.length_cons,Nat.add_mul,Nat.one_mul,Nat.add_comm]
  rw[hlm] at hs ⊢
  have ih:=Z5_ hm arr ls (off+m) (by omega) (fun k j hk hj=>by
   have:=h (k+1) j (by simpa using hk) hj
   rw[List.getD_cons_succ] at this
   rw[←this];congr 1;rw[Nat.add_mul,Nat.one_mul];omega)
  have h0: (arr.extract off (off+m)).toList=enc r:=by
   apply List.ext_getElem?
   intro j
   rw[Array.getElem?_toList,Array.getElem?_extract]
   by_cases hj:j<m
   ·rw[if_pos (by omega)]
    have:=h 0 j (by simp) hj
    simpa using this
   ·rw[if_neg (by omega),List.getElem?_eq_none (by rw[hm];omega)]
  rw[List.map_cons,List.flatten_cons,←ih,←h0,←Array.toList_append]
  congr 1
  rw[Array.extract_append_extract]
  congr 1<;>omega
theorem kp_ (hm: ∀x,(enc x).length=m) (l:List α): (l.map enc).flatten.length=l.length*m:=by
 induction l with
 |nil=>simp
 |cons x r ih=>rw[List.map_cons,List.flatten_cons,List.length_append,ih,hm,List.length_cons,Nat.add_mul,Nat.one_mul,Nat.add_comm]
theorem AppX.one1 {P:Program} {b:Nat} {E:TypeId} {fz:Nat×Nat} {cs:List Value} (hb:w.heap[b]? =some (.cells cs.toArray E fz)) (hm:cs.length=m) (h1:cs.all Value.oneCell'=true):AppX P w m (vsl b 0 1 1) 1 cs:=by
 refine AppX.block (w0:=w) (L:= []) (by rw[Zi_];exact hb) (by simp;omega) ?_ h1 (Hp.refl w)
 rw[List.extract_toArray,List.extract_eq_take_drop,List.drop_zero,List.take_of_length_le (by omega)]
theorem SlV.appX {P:Program} (h:SlV m enc z w v l) (hm: ∀x,(enc x).length=m) (h1: ∀x,(enc x).all Value.oneCell'=true):AppX P w m v l.length (l.map enc).flatten:=by
 obtain⟨b,off,c,arr,E,fz,hr,hc,hv⟩:=h
 rcases hv with⟨rfl,rfl,rfl⟩ | ⟨rfl,hhas,hsz⟩
 ·exact AppX.nil P w m
 ·refine AppX.block (w0:=w) (L:= []) (by rw[Zi_];exact hhas) hsz (Z5_ (z:=z) hm arr l off hsz (fun k j hk hj=>hr.get k hk j hj)) ?_ (Hp.refl w)
  rw[List.all_flatten,List.all_map,List.all_eq_true]
  exact fun r _=>h1 r
end
section
variable {P:Program} {w0:World} {f:Fr} {L:zc_} {N:Fr→zc_→Prop} {ops:Array Oper} {rest:List Oper} {md:Md}
 {d:Option Tmp} {ty:TypeId} {ps:String} {af:Array Edge} {g:Option (Nat×Bool)}
theorem Ow.appendG {ts tx e:TypeId} {m:Bool×Nat} {z:Value} {s x:Operand} {n k:Nat} {cs new:List Value} {dx:TypeDesc} {md':Md} (sv:Value) (hsv:ev f s=sv) (he:md.turn=some md')
  (hs:zo_ ops f ⟨d, .call ⟨.builtin .append, #[s,x], #[ts,tx]⟩,ty,ps,af,g⟩=false)
  (hu:P.underlying ts=some (.slice e)) (hm:zP_ P e=some m) (hi:vb_ P e=true) (hz:zZ_ P e=some z) (hzs:z.cells.size=m.2) (hux:P.underlying tx=some dx) (hnx: ∀k,dx≠ .int k)
  (hB:Gr L e m.2 sv n cs) (hX: ∀w,Hp w0 L w→AppX P w m.2 (ev f x) k new) (hlen:new.length=k*m.2) (hbig:2* (n+k)+768≤2^38)
  (hn: ∀v' L',Gr L' e m.2 v' (n+k) (cs++new)→(0<k→Buf L' e m.2 v' (n+k) (cs++new))→Grew w0 sv L L'→(slB v'=slB sv∨ ∃c,slB v'=some c∧xt_ L c)→Ow P w0 ops md' rest (qU_ f d v') L' N):
  Ow P w0 ops md (⟨d, .call ⟨.builtin .append, #[s,x], #[ts,tx]⟩,ty,ps,af,g⟩::rest) f L N:=by
 rcases hB with hB| ⟨rfl,rfl,b,rfl,hlk⟩
 ·exact Ow.append sv hsv he hs hu hm hi hz hzs hux hnx hB hX hbig fun v' L' h1 h2 h3=>hn v' L' (.inl h1) (fun _=>h1) h2 h3
 ·refine Ow.appendEm hsv he hs hu hm hi hz hzs hux hnx hX hbig (fun h0=> ?_) (fun v' L' hk h1 h2 h3=> ?_)
  ·subst h0
   obtain rfl:new= []:=List.eq_nil_of_length_eq_zero (by rw[hlen,Nat.zero_mul])
   exact hn _ L (.inr ⟨rfl,rfl,b,rfl,hlk⟩) (fun h=>absurd h (Nat.lt_irrefl 0)) (Grew.refl _ _ _) (.inl rfl)
  ·exact hn v' L' (.inl h1) (fun _=>h1) (h2.any rfl) (.inr h3)
end
end Go.Sx
namespace Go.Sx
open Go
theorem New.of_le {n:Nat}: ∀ {D:zc_},(∀c,c∈keys D→n≤c)→New n D
 | [],_=>trivial
 | (b,o)::r,h=>⟨h b (by simp[keys]),New.of_le fun c hc=>h c (by simp only[keys,List.map_cons,List.mem_cons] at hc ⊢;exact .inr hc)⟩
theorem Ext.new0 {w:World} {D:zc_} (h:Ext w [] D):New w.heap.size D:=by
 have hn:=h.new
 have key: ∀ (D:zc_),(∀c,c∈Sx.keys D→w.heap.size≤c)→New w.heap.size D:=by
  intro D
  induction D with
  |nil=>intro _;trivial
  |cons p r ih=>
   obtain⟨b,o⟩:=p
   intro hh
   exact⟨hh b (by simp[Sx.keys]),ih fun c hc=>hh c (by simp only[Sx.keys,List.map_cons,List.mem_cons] at hc ⊢;exact .inr hc)⟩
 refine key D fun c hc=> ?_
 rcases hn c hc with h1|h1
 ·cases h1
 ·exact h1
theorem Ext.of_new {w:World} {D:zc_} (h:New w.heap.size D):Ext w [] D:=⟨fun c hc=> .inr (h.le c hc),fun c hc=>by cases hc⟩
section
variable {P:Program} {w0:World} {f:Fr} {L:zc_} {N:Fr→zc_→Prop} {K:xN_} {ops:Array Oper} {rest:List Oper} {md:Md}
 {d:Option Tmp} {ty:TypeId} {ps:String} {af:Array Edge} {g:Option (Nat×Bool)}
theorem wI_ {b:Nat} {o:Obj}: ∀ {B:zc_},(keys B).Nodup→(b,o)∈B→look B b=some o
 | [],_,h=>by cases h
 | (c,x)::q,hn,h=>by
  simp only[keys,List.map_cons,List.nodup_cons] at hn
  unfold look
  rcases List.mem_cons.1 h with h|h
  ·cases h;rw[if_pos rfl]
  ·have:c≠b:=fun e=>hn.1 (e▸List.mem_map.2 ⟨_,h,rfl⟩)
   rw[if_neg this]
   exact wI_ hn.2 h
theorem SR.perm {R:List Nat} {M:zc_} (h:M.Perm L) (hn: (keys L).Nodup):SR w0 R M=SR w0 R L:=by
 refine v9_ fun r _=> ?_
 have hk: ∀ (A B:zc_),A.Perm B→(keys B).Nodup→ ∀o,look A r=some o→look B r=some o:=fun A B hp hB o ho=>wI_ hB (hp.mem_iff.1 (zL_ ho))
 have hnM: (keys M).Nodup:=(List.Perm.nodup_iff (h.map Prod.fst)).2 hn
 unfold zv_
 cases hl:look L r with
 |some o=>rw[hk L M h.symm hnM o hl]
 |none=>
  cases hm:look M r with
  |none=>rfl
  |some o=>rw[hk M L h hn o hm] at hl;cases hl
theorem OwD.permL {l:List Oper} {listed:List Bool} {n:Nat} {R ts:List Nat} {a d:Nat} {z:Obj} {M:zc_} (hp:M.Perm L) (h:OwD P w0 l R ts a d z n listed f M N):OwD P w0 l R ts a d z n listed f L N:=by
 refine⟨fun w hw=> ?_,fun b w hb hbL hw=> ?_⟩
 ·have:=h.1 w (hw.perm hp)
  rw[SR.perm hp hw.nodup] at this
  exact this
 ·have hnd: (keys L).Nodup:=by
   have:=hw.nodup
   rw[zR_,List.nodup_append] at this
   exact this.1
  have:=h.2 b w hb (fun hm=>hbL (by have:=(hp.map Prod.fst).mem_iff.1 hm;exact this)) (hw.perm (hp.append_right _))
  rw[SR.perm hp hnd] at this
  exact this
theorem Cw.permL {c:Code} {M:zc_} (hp:M.Perm L) (h:Cw P w0 c f M K):Cw P w0 c f L K:=fun w hw=>h w (hw.perm hp)
theorem Ow.permL {M:zc_} {l:List Oper} (hp:M.Perm L) (h:Ow P w0 ops .seq l f M N):Ow P w0 ops .seq l f L N:=fun w hw=>h w (hw.perm hp)
theorem Ow.callC {l:List Operand} {ts:Array TypeId} {k:FuncId} {S:Value→zc_→Prop} {md':Md} (he:md.turn=some md')
  (hs:zo_ ops f ⟨d, .call ⟨.value (.func k),l.toArray,ts⟩,ty,ps,af,g⟩=false)
  (hk: ∀a w,(callFunc k a).run P w= .ok (.enter k a) w)
  (hc: ∀w,Hp w0 L w→Rets P k (l.map (ev f)).toArray w (XS w [] S))
  (hn: ∀B v D,xt_ L B→w0.heap.size≤B→New B D→S v D→Ow P w0 ops md' rest (qU_ f d v) (L++D) N):
  Ow P w0 ops md (⟨d, .call ⟨.value (.func k),l.toArray,ts⟩,ty,ps,af,g⟩::rest) f L N:=
 Ow.callN he hs hk (S:=fun B v D=>New B D∧S v D) (fun w hw=>(hc w hw).mono fun _v _D h=>⟨h.1.new0,h.2⟩) (fun _ _ _ h=>h.1) (fun B v D hA hB hS=>hn B v D hA hB hS.1 hS.2)
theorem Hp.part {w:World} {X Y:zc_} (h:Hp w0 (X++Y) w):Hp w X w:=
 ⟨fun b o hm=>h.has b o (List.mem_append_left _ hm),by have:=h.nodup;rw[zR_,List.nodup_append] at this;exact this.1,fun _ _ _=>rfl,Nat.le_refl _,rfl,rfl,rfl⟩
theorem Hp.join {w w':World} {X Y D:zc_} (h:Hp w0 (X++Y) w) (k:Hp w D w') (h1: ∀c,c∈keys X→c∈keys D) (h2: ∀c,c∈keys D→c∈keys X∨w.heap.size≤c):Hp w0 (D++Y) w':=by
 have hnd:=h.nodup
 rw[zR_,List.nodup_append] at hnd
 have hY: ∀c,c∈keys Y→c∉keys D:=by
  intro c hc hd
  rcases h2 c hd with hx|hx
  ·exact hnd.2.2 c hx c hc rfl
  ·have:=h.lt (b:=c) (by rw[zR_];exact List.mem_append_right _ hc)
   omega
 have ht:=h.trans k
 have e: (X++Y).filter (fun p=> !(keys D).contains p.1)=Y:=by
  rw[List.filter_append,x3_ hY]
  have:X.filter (fun p=> !(keys D).contains p.1)= []:=by
   rw[List.filter_eq_nil_iff]
   intro p hp
   have:=h1 p.1 (List.mem_map.2 ⟨p,hp,rfl⟩)
   simp[this]
  rw[this,List.nil_append]
 rw[e] at ht
 exact ht.perm List.perm_append_comm
end
def GrI (D:zc_) (E:TypeId) (m:Nat) (v:Value) (n:Nat) (cs:List Value):Prop:= ∃X,(∀p,p∈X→p∈D)∧Gr X E m v n cs
theorem Gr.i {X D:zc_} {E:TypeId} {m n:Nat} {v:Value} {cs:List Value} (h:Gr X E m v n cs) (hX: ∀p,p∈X→p∈D):GrI D E m v n cs:=⟨X,hX,h⟩
theorem GrI.mono {D D':zc_} {E:TypeId} {m n:Nat} {v:Value} {cs:List Value} (h:GrI D E m v n cs) (hX: ∀p,p∈D→p∈D'):GrI D' E m v n cs:=by
 obtain⟨X,h1,h2⟩:=h;exact⟨X,fun p hp=>hX p (h1 p hp),h2⟩
theorem GrI.slV {α:Type} {m:Nat} {enc:α→List Value} {z:α} {w0 w:World} {v:Value} {l:List α} {D:zc_} {E:TypeId} {n:Nat} {cs:List Value} (h:GrI D E m v n cs) (hw:Hp w0 D w) (hl:l.length=n) (hcs:cs=(l.map enc).flatten) (hm: ∀x,(enc x).length=m):SlV m enc z w v l:=by
 obtain⟨X,h1,h2⟩:=h
 exact h2.slM (fun b o hm=>hw.has b o (h1 _ hm)) hl hcs hm
section
variable {P:Program} {w0:World} {f:Fr} {L:zc_} {N:Fr→zc_→Prop}
end
end Go.Sx
namespace Go.Sx
open Go
theorem q8_ {P:Program} {t e:TypeId} {m:Nat} {zc:Array Value} {cs:List Value} (hu:P.underlying t=some (.slice e)) (ha:zP_ P e=some (true,m)) (hz:zZ_ P e=some (.agg zc)) (hm:0<m∧m≤16777216) (hc:cs.length=m):
  JX_ P t 1 [(0, .agg cs.toArray)]=some (e,cs.toArray):=by
 have h2:Value.cells (.agg cs.toArray)=cs.toArray:=zg_ _
 have hg: ¬ (1*m>2^24):=by simp;omega
 have h0: ¬ (1*m=0):=by omega
 simp only[JX_,hu,ha,hz,Option.map_some]
 rw[if_neg hg,if_neg h0]
 simp only
 generalize hI: (Array.range (1*m)).map (fun x=>(Value.cells (.agg zc))[x% (Value.cells (.agg zc)).size]!)=I
 have hIs:I.size=m:=by rw[←hI];simp
 have hfl:Instr.fill (fun i=>some (i*m,m)) I [(0,Value.agg cs.toArray)]=some cs.toArray:=by
  unfold Instr.fill
  have s3:cs.toArray.size=m:=by simp[hc]
  simp only[h2,s3,hIs,Nat.zero_mul,ne_eq,not_true_eq_false,decide_false,Bool.false_or,Nat.zero_add,Nat.lt_irrefl,gt_iff_lt,Bool.false_eq_true, ↓reduceIte]
  unfold Instr.fill
  congr 1
  have hz:=ZP_ cs 0 0 I
  rw[Nat.add_zero,ac9_ I cs (by rw[hc,hIs])] at hz
  simp only[Nat.zero_add] at hz
  rw[←Array.foldl_toList,Array.toList_zipIdx]
  exact hz
 rw[hfl]
 rfl
end Go.Sx
namespace Go.Sx
open Go
abbrev ltB (a b:List UInt8):Bool:=Op.bytesLess a b
theorem Zm_: ∀ (x y:List UInt8),ltB x y=decide (x<y)
 | [],[]=>by simp[ltB,Op.bytesLess]
 |_::_,[]=>by simp[ltB,Op.bytesLess]
 | [],_::_=>by simp[ltB,Op.bytesLess]
 |a::x,b::y=>by
  have ih:=Zm_ x y
  simp only[ltB] at ih ⊢
  rw[Op.bytesLess,ih]
  simp only[List.cons_lt_cons_iff]
  by_cases h1:a<b<;>by_cases h2:a=b<;>by_cases h3:x<y<;>simp[h1,h2,h3]
theorem jA_ (a:List UInt8):ltB a a=false:=by
 rw[Zm_];simp
theorem xS_ {a b c:List UInt8} (h:ltB a b=true) (k:ltB b c=true):ltB a c=true:=by
 rw[Zm_,decide_eq_true_eq] at*
 exact List.lt_trans h k
theorem Zh_ {a b:List UInt8} (h:ltB a b=true):ltB b a=false:=by
 cases hb:ltB b a
 ·rfl
 ·have:=xS_ h hb
  rw[jA_] at this;cases this
theorem agn_ {a b:List UInt8} (h:ltB a b=true):a≠b:=by
 rintro rfl
 rw[jA_] at h;cases h
theorem x2_ {a b:List UInt8} (h:ltB a b=false) (hne:a≠b):ltB b a=true:=by
 rw[Zm_,decide_eq_false_iff_not] at h
 rw[Zm_,decide_eq_true_eq]
 rcases Std.Trichotomous.rel_or_eq_or_rel_swap (r:=(· < · :List UInt8→List UInt8→Prop)) (a:=a) (b:=b) with h1|h1|h1
 ·exact absurd h1 h
 ·exact absurd h1 hne
 ·exact h1
end Go.Sx
namespace Go.StP
open Go Go.Sx
variable {α:Type} (key:α→List UInt8)
def lt (a b:α):Bool:=ltB (key a) (key b)
def Sorted (l:List α):Prop:=l.Pairwise fun a b=>lt key b a=false
def of (k:List UInt8) (l:List α):List α:=l.filter fun a=>key a==k
def St (l l':List α):Prop:= ∀k,of key k l'=of key k l
theorem St.refl (l:List α):St key l l:=fun _=>rfl
variable {key}
theorem St.trans {a b c:List α} (h:St key a b) (h':St key b c):St key a c:=fun k=>(h' k).trans (h k)
theorem St.symm {a b:List α} (h:St key a b):St key b a:=fun k=>(h k).symm
theorem ady_ (k:List UInt8) (a b:List α):of key k (a++b)=of key k a++of key k b:=List.filter_append ..
theorem St.app {a a' b b':List α} (h:St key a a') (h':St key b b'):St key (a++b) (a'++b'):=fun k=>by rw[ady_,ady_,h,h']
theorem ajF_ {k:List UInt8} {l:List α} {x:α}:x∈of key k l↔x∈l∧key x=k:=by
 unfold of;rw[List.mem_filter];simp
theorem St.mem {a b:List α} (h:St key a b) (x:α):x∈b↔x∈a:=by
 have e:=h (key x)
 have h1:x∈b↔x∈of key (key x) b:=by rw[ajF_];simp
 have h2:x∈a↔x∈of key (key x) a:=by rw[ajF_];simp
 rw[h1,h2,e]
theorem afA_ {k:List UInt8} {l:List α} (h: ∀x,x∈l→key x≠k):of key k l= []:=by
 unfold of
 rw[List.filter_eq_nil_iff]
 intro x hx
 simpa using h x hx
theorem St.swap {a b:List α} (h: ∀x,x∈a→ ∀y,y∈b→key x≠key y):St key (a++b) (b++a):=by
 intro k
 rw[ady_,ady_]
 by_cases ha: ∃x,x∈a∧key x=k
 ·obtain⟨x,hx,rfl⟩:=ha
  have:of key (key x) b= []:=afA_ fun y hy e=>h x hx y hy e.symm
  rw[this,List.append_nil,List.nil_append]
 ·have:of key k a= []:=afA_ fun x hx e=>ha ⟨x,hx,e⟩
  rw[this,List.append_nil,List.nil_append]
theorem alm_ {a b:α} (h:lt key a b=true):key a≠key b:=agn_ h
theorem lt_trans {a b c:α} (h:lt key a b=true) (k:lt key b c=true):lt key a c=true:=xS_ h k
theorem KG_ {a b:α} (h:lt key a b=true):lt key b a=false:=Zh_ h
theorem lt_irrefl (a:α):lt key a a=false:=jA_ _
theorem anO_ {a b:α} (h:lt key a b=false) (k:lt key b a=false):key a=key b:=by
 cases hk:decide (key a=key b)
 ·have hne:key a≠key b:=of_decide_eq_false hk
  have:=x2_ h hne
  unfold lt at k
  rw[this] at k;cases k
 ·exact of_decide_eq_true hk
theorem Zb_ {a b c:α} (h:lt key b a=false) (k:lt key c b=false):lt key c a=false:=by
 cases hc:lt key c a
 ·rfl
 ·by_cases e:key b=key c
  ·unfold lt at*
   rw[e,hc] at h;cases h
  ·have h1:lt key b c=true:=by
    refine x2_ ?_ (fun e'=>e e'.symm)
    exact k
   have:=lt_trans h1 hc
   rw[h] at this;cases this
theorem wz_ {a b c:α} (h:lt key a b=true) (k:lt key c b=false):lt key a c=true:=by
 cases hc:lt key a c
 ·have:=Zb_ (key:=key) (a:=b) (b:=c) (c:=a) k hc
  rw[h] at this;cases this
 ·rfl
theorem XC_ {a b c:α} (h:lt key b a=false) (k:lt key b c=true):lt key a c=true:=by
 cases hc:lt key a c
 ·have:=Zb_ (key:=key) (a:=c) (b:=a) (c:=b) hc h
  rw[k] at this;cases this
 ·rfl
theorem St.head {a b:α} {l l':List α} (hs:Sorted key (a::l)) (hs':Sorted key (b::l')) (h:St key (a::l) (b::l')):a=b∧St key l l':=by
 have h1:lt key b a=false:=by
  have hb:b∈a::l:=(h.mem b).1 List.mem_cons_self
  rcases List.mem_cons.1 hb with rfl|hb
  ·exact lt_irrefl _
  ·exact(List.pairwise_cons.1 hs).1 b hb
 have h2:lt key a b=false:=by
  have ha:a∈b::l':=(h.mem a).2 List.mem_cons_self
  rcases List.mem_cons.1 ha with rfl|ha
  ·exact lt_irrefl _
  ·exact(List.pairwise_cons.1 hs').1 a ha
 have hk:key a=key b:=anO_ h2 h1
 have he:=h (key a)
 unfold of at he
 rw[List.filter_cons,List.filter_cons,if_pos (by simp[hk]),if_pos (by simp)] at he
 have hab:b=a:=(List.cons.inj he).1
 refine⟨hab.symm,fun k=> ?_⟩
 have hk':=h k
 subst hab
 unfold of at hk' ⊢
 rw[List.filter_cons,List.filter_cons] at hk'
 split at hk'
 ·exact(List.cons.inj hk').2
 ·exact hk'
theorem St.eq: ∀ {l l':List α},Sorted key l→Sorted key l'→St key l l'→l=l'
 | [],[],_,_,_=>rfl
 | [],b::l',_,_,h=>by
  have:b∈ ([]:List α):=(h.mem b).1 List.mem_cons_self
  cases this
 |a::l,[],_,_,h=>by
  have:a∈ ([]:List α):=(h.mem a).2 List.mem_cons_self
  cases this
 |a::l,b::l',hs,hs',h=>by
  obtain⟨rfl,h'⟩:=St.head hs hs' h
  rw[St.eq (List.pairwise_cons.1 hs).2 (List.pairwise_cons.1 hs').2 h']
theorem Sorted.app {a b:List α} (ha:Sorted key a) (hb:Sorted key b) (h: ∀x,x∈a→ ∀y,y∈b→lt key y x=false):Sorted key (a++b):=
 List.pairwise_append.2 ⟨ha,hb,h⟩
theorem Sorted.left {a b:List α} (h:Sorted key (a++b)):Sorted key a:=(List.pairwise_append.1 h).1
theorem Sorted.right {a b:List α} (h:Sorted key (a++b)):Sorted key b:=(List.pairwise_append.1 h).2.1
theorem Sorted.cross {a b:List α} (h:Sorted key (a++b)): ∀x,x∈a→ ∀y,y∈b→lt key y x=false:=(List.pairwise_append.1 h).2.2
theorem adG_ {a b:List α} {x:α} (h:Sorted key (a++b)) (hb: ∀y,y∈b→lt key x y=true) (ha: ∀y,y∈a→lt key x y=false):Sorted key (a++x::b)∧St key (a++b++ [x]) (a++x::b):=by
 refine⟨Sorted.app h.left (List.pairwise_cons.2 ⟨fun y hy=>KG_ (hb y hy),h.right⟩) ?_, ?_⟩
 ·intro y hy z hz
  rcases List.mem_cons.1 hz with rfl|hz
  ·exact ha y hy
  ·exact h.cross y hy z hz
 ·rw[List.append_assoc]
  refine St.app (St.refl key a) ?_
  exact St.swap (a:=b) (b:= [x]) fun y hy z hz=>by
   rw[List.mem_singleton] at hz
   subst hz
   exact fun e=>alm_ (hb y hy) e.symm
end Go.StP
namespace Go.Sx
open Go
section
variable {α:Type} (enc:α→List Value)
def rowO (E:TypeId) (rest:List Value) (d:List α):Obj:= .cells ((d.map enc).flatten++rest).toArray E (0,0)
variable {enc} {m:Nat} {E:TypeId} {rest:List Value} {d:List α} {z:α}
theorem VI_ (hm: ∀x,(enc x).length=m) {k:Nat} (hk:k<d.length): ∃A C,(d.map enc).flatten++rest=A++ (enc (d.getD k z)++C)∧A.length=k*m∧ ∀x,((d.set k x).map enc).flatten++rest=A++ (enc x++C):=by
 refine⟨((d.take k).map enc).flatten,((d.drop (k+1)).map enc).flatten++rest, ?_, ?_,fun x=> ?_⟩
 ·have e:d=d.take k++d.getD k z::d.drop (k+1):=by
   rw[List.getD_eq_getElem?_getD,List.getElem?_eq_getElem hk,Option.getD_some,List.getElem_cons_drop,List.take_append_drop]
  have e2:=congrArg (fun l=>(l.map enc).flatten++rest) e
  simp only[List.map_append,List.map_cons,List.flatten_append,List.flatten_cons,List.append_assoc] at e2
  exact e2
 ·rw[kp_ hm,List.length_take,Nat.min_eq_left (Nat.le_of_lt hk)]
 ·have e:d.set k x=d.take k++x::d.drop (k+1):=List.set_eq_take_append_cons_drop.trans (by rw[if_pos hk])
  rw[e]
  simp only[List.map_append,List.map_cons,List.flatten_append,List.flatten_cons,List.append_assoc]
theorem Vu_ (hm: ∀x,(enc x).length=m) (k:Nat) (hk:k<d.length):zp_ (some (true,m)) (some (rowO enc E rest d)) (k*m)=some (.agg (enc (d.getD k z)).toArray):=by
 obtain⟨A,C,e,hA,-⟩:=VI_ (z:=z) (rest:=rest) hm hk
 unfold rowO
 rw[e]
 exact va_ A _ C E (0,0) hA (hm _)
theorem QW_ (hm: ∀x,(enc x).length=m) (h1: ∀x,(enc x).all Value.oneCell'=true) (k:Nat) (x:α) (a:Bool) (hk:k<d.length):
  zn_ (some (a,m)) (some (rowO enc E rest d)) (k*m) (.agg (enc x).toArray)=some (rowO enc E rest (d.set k x)):=by
 obtain⟨A,C,e,hA,e2⟩:=VI_ (z:=x) (rest:=rest) hm hk
 unfold rowO
 rw[e,e2 x]
 exact z4_ A _ _ C a _ E hA (hm _) (zg_ _) (hm _) (h1 _)
end
section
variable {P:Program} {w0:World} {f:Fr} {L:zc_} {N:Fr→zc_→Prop} {ops:Array Oper} {rest:List Oper} {md:Md} {d:Option Tmp} {ty:TypeId} {ps:String} {af:Array Edge} {g:Option (Nat×Bool)}
theorem Ow.callFn2 {x y y2:Operand} {ts:Array TypeId} {k:FuncId} {v a a2:Value} (hs:zo_ ops f ⟨d, .call ⟨.value x, #[y,y2],ts⟩,ty,ps,af,g⟩=false) (hx:ev f x= .func (.func k) #[] #[]) (hy:ev f y=a) (hy2:ev f y2=a2)
  (hk: ∀a w,(callFunc k a).run P w= .ok (.enter k a) w) (hc: ∀w,Hp w0 L w→Rets P k #[a,a2] w (fun v' D=>v'=v∧D= [])) (hn:Ow P w0 ops md.next rest (qU_ f d v) L N):
  Ow P w0 ops md (⟨d, .call ⟨.value x, #[y,y2],ts⟩,ty,ps,af,g⟩::rest) f L N:=
 Ow.callV hs hx hk (fun w hw=>by simpa [hy,hy2] using hc w hw) hn
end
end Go.Sx
namespace Go.StP
open Go Go.Sx
variable {α:Type} {key:α→List UInt8} {z:α}
theorem qQ_ {a b:List α} {k:Nat} (h:k<a.length): (a++b).getD k z=a.getD k z:=by
 rw[List.getD_eq_getElem?_getD,List.getD_eq_getElem?_getD,List.getElem?_append_left h]
theorem qH_ {a b:List α} {k:Nat} (h:a.length≤k): (a++b).getD k z=b.getD (k - a.length) z:=by
 rw[List.getD_eq_getElem?_getD,List.getD_eq_getElem?_getD,List.getElem?_append_right h]
theorem v6_ {l:List α} {x:α} (h:x∈l): ∃k,k<l.length∧l.getD k z=x:=by
 obtain⟨k,hk,rfl⟩:=List.mem_iff_getElem.1 h
 exact⟨k,hk,by rw[List.getD_eq_getElem?_getD,List.getElem?_eq_getElem hk];rfl⟩
theorem Zz_ {l:List α} {k n:Nat} (h:k<n): (l.take n).getD k z=l.getD k z:=by
 rw[List.getD_eq_getElem?_getD,List.getD_eq_getElem?_getD,List.getElem?_take,if_pos h]
theorem w2_ {l:List α} {k n:Nat}: (l.drop n).getD k z=l.getD (n+k) z:=by
 rw[List.getD_eq_getElem?_getD,List.getD_eq_getElem?_getD,List.getElem?_drop]
theorem drop_cons {l:List α} {k:Nat} (h:k<l.length):l.drop k=l.getD k z::l.drop (k+1):=by
 rw[List.getD_eq_getElem?_getD,List.getElem?_eq_getElem h]
 exact List.drop_eq_getElem_cons h
theorem take_snoc {l:List α} {k:Nat} (h:k<l.length):l.take (k+1)=l.take k++ [l.getD k z]:=by
 rw[List.getD_eq_getElem?_getD,List.getElem?_eq_getElem h]
 exact List.take_succ_eq_append_getElem h
theorem Sorted.at_ {l:List α} (h:Sorted key l) {i j:Nat} (hij:i≤j) (hj:j<l.length):lt key (l.getD j z) (l.getD i z)=false:=by
 rcases Nat.lt_or_eq_of_le hij with h1|rfl
 ·have:=List.pairwise_iff_getElem.1 h i j (by omega) hj h1
  rw[List.getD_eq_getElem?_getD,List.getD_eq_getElem?_getD,List.getElem?_eq_getElem hj,List.getElem?_eq_getElem (show i<l.length by omega)]
  exact this
 ·exact lt_irrefl _
theorem Sorted.take_lt {l:List α} (h:Sorted key l) {k:Nat} {x:α} (hk:k≤l.length) (hx:k=0∨lt key (l.getD (k - 1) z) x=true): ∀y,y∈l.take k→lt key y x=true:=by
 intro y hy
 obtain⟨i,hi,rfl⟩:=v6_ (z:=z) hy
 rw[List.length_take,Nat.min_eq_left hk] at hi
 rw[Zz_ hi]
 rcases hx with rfl|hx
 ·omega
 ·exact XC_ (h.at_ (by omega) (by omega)) hx
theorem Sorted.take_le {l:List α} (h:Sorted key l) {k:Nat} {x:α} (hk:k≤l.length) (hx:k=0∨lt key x (l.getD (k - 1) z)=false): ∀y,y∈l.take k→lt key x y=false:=by
 intro y hy
 obtain⟨i,hi,rfl⟩:=v6_ (z:=z) hy
 rw[List.length_take,Nat.min_eq_left hk] at hi
 rw[Zz_ hi]
 rcases hx with rfl|hx
 ·omega
 ·exact Zb_ (h.at_ (by omega) (by omega)) hx
theorem Sorted.drop_gt {l:List α} (h:Sorted key l) {k:Nat} {x:α} (hx:l.length≤k∨lt key x (l.getD k z)=true): ∀y,y∈l.drop k→lt key x y=true:=by
 intro y hy
 obtain⟨i,hi,rfl⟩:=v6_ (z:=z) hy
 rw[List.length_drop] at hi
 rw[w2_]
 rcases hx with hx|hx
 ·omega
 ·exact wz_ hx (h.at_ (by omega) (by omega))
theorem Sorted.drop_ge {l:List α} (h:Sorted key l) {k:Nat} {x:α} (hx:l.length≤k∨lt key (l.getD k z) x=false): ∀y,y∈l.drop k→lt key y x=false:=by
 intro y hy
 obtain⟨i,hi,rfl⟩:=v6_ (z:=z) hy
 rw[List.length_drop] at hi
 rw[w2_]
 rcases hx with hx|hx
 ·omega
 ·exact Zb_ hx (h.at_ (by omega) (by omega))
theorem ahh_ {a c:List α} (u v:α) {i:Nat} (h:i=a.length): ((a++u::v::c).set i v).set (i+1) u=a++v::u::c:=by
 subst h
 rw[List.set_append_right _ _ (Nat.le_refl _),Nat.sub_self,List.set_cons_zero,List.set_append_right _ _ (by omega),show a.length+1 - a.length=1 by omega]
 rfl
theorem at_0 {a c:List α} (u:α) {i:Nat} (h:i=a.length): (a++u::c).getD i z=u:=by
 subst h
 rw[qH_ (Nat.le_refl _),Nat.sub_self];rfl
theorem at_1 {a c:List α} (u v:α) {i:Nat} (h:i=a.length+1): (a++u::v::c).getD i z=v:=by
 subst h
 rw[qH_ (by omega),show a.length+1 - a.length=1 by omega];rfl
def z9_ (a s:List α) (x:α) (b:List α) (k:Nat):List α:=a++ (s.take k++ (x:: (s.drop k++b)))
theorem jv_ (a s:List α) (x:α) (b:List α) (k:Nat): (z9_ a s x b k).length=a.length+s.length+1+b.length:=by
 unfold z9_;simp only[List.length_append,List.length_cons,List.length_take,List.length_drop];omega
theorem xp_ {a s:List α} {x:α} {b:List α} {k i:Nat} (hk:k≤s.length) (h:i=a.length+k): (z9_ a s x b k).getD i z=x:=by
 unfold z9_
 rw[←List.append_assoc]
 exact at_0 x (by simp only[List.length_append,List.length_take];omega)
theorem Z0_ {a s:List α} {x:α} {b:List α} {k i:Nat} (hk:k<s.length) (h:i=a.length+k): (z9_ a s x b (k+1)).getD i z=s.getD k z:=by
 unfold z9_
 rw[take_snoc (z:=z) hk,List.append_assoc,List.singleton_append,←List.append_assoc]
 exact at_0 _ (by simp only[List.length_append,List.length_take];omega)
theorem ahl_ {a s:List α} {x:α} {b:List α} {k i:Nat} (hk:k<s.length) (h:i=a.length+k+1): (z9_ a s x b k).getD i z=s.getD k z:=by
 unfold z9_
 rw[drop_cons (z:=z) hk,←List.append_assoc,List.cons_append]
 exact at_1 x _ (by simp only[List.length_append,List.length_take];omega)
theorem ac5_ {a s:List α} {x:α} {b:List α} {k h i:Nat} (hh:h<k) (hk:k≤s.length) (e:i=a.length+h): (z9_ a s x b k).getD i z=s.getD h z:=by
 subst e
 unfold z9_
 rw[qH_ (by omega),Nat.add_sub_cancel_left,qQ_ (by rw[List.length_take];omega),Zz_ hh]
theorem ac7_ {a s:List α} {x:α} {b:List α} {k h i:Nat} (hh:k≤h) (hk:h<s.length) (e:i=a.length+1+h): (z9_ a s x b k).getD i z=s.getD h z:=by
 subst e
 unfold z9_
 rw[qH_ (by omega),qH_ (by rw[List.length_take];omega),List.length_take,show a.length+1+h - a.length - min k s.length=(h - k)+1 by omega,List.getD_cons_succ,qQ_ (by rw[List.length_drop];omega),w2_,show k+ (h - k)=h by omega]
theorem v3_ {a s:List α} {x:α} {b:List α} {k i:Nat} (hk:k<s.length) (h:i=a.length+k): ((z9_ a s x b (k+1)).set i x).set (i+1) (s.getD k z)=z9_ a s x b k:=by
 unfold z9_
 rw[take_snoc (z:=z) hk,drop_cons (z:=z) hk,List.append_assoc,List.singleton_append,←List.append_assoc,←List.append_assoc]
 rw[ahh_ _ _ (by simp only[List.length_append,List.length_take];omega),List.cons_append]
theorem adp_ {a s:List α} {x:α} {b:List α} {k i:Nat} (hk:k<s.length) (h:i=a.length+k): ((z9_ a s x b k).set i (s.getD k z)).set (i+1) x=z9_ a s x b (k+1):=by
 unfold z9_
 rw[take_snoc (z:=z) hk,drop_cons (z:=z) hk,List.append_assoc,List.singleton_append,←List.append_assoc,←List.append_assoc,List.cons_append]
 rw[ahh_ _ _ (by simp only[List.length_append,List.length_take];omega)]
theorem w8_ {l:List α} {i j:Nat} (h:i≠j) (u v:α): (l.set i u).set j v=(l.set j v).set i u:=List.set_comm _ _ h
theorem Zf_ (a s:List α) (x:α) (b:List α) {k:Nat} (h:s.length≤k):z9_ a s x b k=a++ ((s++ [x])++b):=by
 unfold z9_
 rw[List.take_of_length_le h,List.drop_eq_nil_of_le h,List.nil_append,List.append_assoc,List.singleton_append]
theorem XY_ (a s:List α) (x:α) (b:List α):z9_ a s x b 0=a++ (([x]++s)++b):=by
 unfold z9_;rfl
theorem xa_ (a s:List α) (x:α) (b:List α) (k:Nat):z9_ a s x b k=a++ ((s.take k++x::s.drop k)++b):=by
 unfold z9_
 rw[List.append_assoc,List.cons_append]
theorem jB_ {s:List α} {x:α} {k:Nat} (hs:Sorted key s) (hk:k≤s.length) (h1:k=0∨lt key x (s.getD (k - 1) z)=false) (h2:s.length≤k∨lt key x (s.getD k z)=true):
  Sorted key (s.take k++x::s.drop k)∧St key (s++ [x]) (s.take k++x::s.drop k):=by
 have:=adG_ (a:=s.take k) (b:=s.drop k) (x:=x) (by rw[List.take_append_drop];exact hs) (hs.drop_gt h2) (hs.take_le hk h1)
 rwa [List.take_append_drop] at this
theorem Za_ {s:List α} {x:α} {k:Nat} (hs:Sorted key s) (hk:k≤s.length) (h1:k=0∨lt key (s.getD (k - 1) z) x=true) (h2:s.length≤k∨lt key (s.getD k z) x=false):
  Sorted key (s.take k++x::s.drop k)∧St key ([x]++s) (s.take k++x::s.drop k):=by
 have ht:=hs.take_lt hk h1
 have hd:=hs.drop_ge h2
 have hs':Sorted key (s.take k++s.drop k):=by rw[List.take_append_drop];exact hs
 refine⟨Sorted.app hs'.left (List.pairwise_cons.2 ⟨fun y hy=>hd y hy,hs'.right⟩) ?_, ?_⟩
 ·intro y hy w hw
  rcases List.mem_cons.1 hw with rfl|hw
  ·exact KG_ (ht y hy)
  ·exact hs'.cross y hy w hw
 ·have e: [x]++s=([x]++s.take k)++s.drop k:=by rw[List.append_assoc,List.take_append_drop]
  rw[e,show s.take k++x::s.drop k=(s.take k++ [x])++s.drop k by simp]
  refine St.app (St.swap fun y hy w hw=> ?_) (St.refl key _)
  rw[List.mem_singleton] at hy
  subst hy
  exact fun e=>alm_ (ht w hw) e.symm
theorem Wl_ {l r:List α} {i j:Nat} {x1 x2:List α} (hl:Sorted key l) (hr:Sorted key r) (hi:i≤l.length) (hj:j≤r.length)
  (h1:j=0∨l.length≤i∨lt key (r.getD (j - 1) z) (l.getD i z)=true) (h2:i=0∨r.length≤j∨lt key (r.getD j z) (l.getD (i - 1) z)=false)
  (s1:Sorted key x1) (t1:St key (l.take i++r.take j) x1) (s2:Sorted key x2) (t2:St key (l.drop i++r.drop j) x2):Sorted key (x1++x2)∧St key (l++r) (x1++x2):=by
 have hl':Sorted key (l.take i++l.drop i):=by rw[List.take_append_drop];exact hl
 have hr':Sorted key (r.take j++r.drop j):=by rw[List.take_append_drop];exact hr
 have ha: ∀x,x∈r.take j→ ∀y,y∈l.drop i→lt key x y=true:=by
  intro x hx y hy
  rcases h1 with rfl|h1|h1
  ·cases hx
  ·rw[List.drop_eq_nil_of_le h1] at hy;cases hy
  ·have:=hr.take_lt (k:=j) (x:=l.getD i z) hj (.inr h1) x hx
   obtain⟨k,hk,rfl⟩:=v6_ (z:=z) hy
   rw[List.length_drop] at hk
   rw[w2_]
   exact wz_ this (hl.at_ (by omega) (by omega))
 have hb: ∀x,x∈l.take i→ ∀y,y∈r.drop j→lt key y x=false:=by
  intro x hx y hy
  rcases h2 with rfl|h2|h2
  ·cases hx
  ·rw[List.drop_eq_nil_of_le h2] at hy;cases hy
  ·have:=hr.drop_ge (k:=j) (x:=l.getD (i - 1) z) (.inr h2) y hy
   obtain⟨k,hk,rfl⟩:=v6_ (z:=z) hx
   rw[List.length_take,Nat.min_eq_left hi] at hk
   rw[Zz_ hk]
   exact Zb_ (hl.at_ (by omega) (by omega)) this
 refine⟨Sorted.app s1 s2 fun x hx y hy=> ?_, ?_⟩
 ·rw[t1.mem,List.mem_append] at hx
  rw[t2.mem,List.mem_append] at hy
  rcases hx with hx|hx<;>rcases hy with hy|hy
  ·exact hl'.cross x hx y hy
  ·exact hb x hx y hy
  ·exact KG_ (ha x hx y hy)
  ·exact hr'.cross x hx y hy
 ·have e:l++r=l.take i++ ((l.drop i++r.take j)++r.drop j):=by
   rw[List.append_assoc,List.take_append_drop,←List.append_assoc,List.take_append_drop]
  rw[e]
  refine St.trans (b:=l.take i++ ((r.take j++l.drop i)++r.drop j)) (St.app (St.refl key _) (St.app (St.swap fun x hx y hy e=>alm_ (ha y hy x hx) e.symm) (St.refl key _))) ?_
  rw[show l.take i++ ((r.take j++l.drop i)++r.drop j)=(l.take i++r.take j)++ (l.drop i++r.drop j) by simp only[List.append_assoc]]
  exact St.app t1 t2
end Go.StP
section
open Go Go.Proofs Go.Sx Go.StP
namespace Go.Proofs
set_option maxRecDepth 10000
set_option maxHeartbeats 4000000
set_option linter.unusedSimpArgs false
structure EntL where
 name:List UInt8
 kind:Int
 id:IdL
def kF_ (r:EntL):List Value:= [vs r.name]++ ([vi r.kind]++ (r.id.l.map v8))
def ent0:EntL:=⟨[],0,id0⟩
theorem Zr_ (r:EntL): (kF_ r).length=34:=by simp[kF_,r.id.h]
theorem qA_ (r:EntL):Value.cells (.agg (kF_ r).toArray)=(kF_ r).toArray:=zg_ _
theorem adc_ (r:EntL): (kF_ r).all Value.oneCell'=true:=by
 unfold kF_
 simp only[List.all_append,List.all_cons,List.all_nil,w6_,Bool.and_true,Bool.true_and]
 rfl
theorem K5_ (r:EntL):kF_ r=([]:List Value)++ (([vs r.name])++ ([vi r.kind]++ (r.id.l.map v8))):=by
 unfold kF_;simp only[List.append_assoc,List.nil_append,List.append_nil]
theorem alK_ (r:EntL):Sx.partV (false,1) (kF_ r).toArray 0=some (vs r.name):=by
 rw[K5_];exact wX_ _ _ _ (by simp)
theorem x7_ (r:EntL) (n:Nat) (E:TypeId) (fz:Nat×Nat):zp_ (some (false,n)) (some (.cells (kF_ r).toArray E fz)) 0=some (vs r.name):=by
 rw[K5_];exact q6_ _ _ _ n E fz (by simp)
theorem Ki_ (r:EntL) (x:List UInt8) (a:Bool) (E:TypeId):zn_ (some (a,1)) (some (.cells (kF_ r).toArray E (0,0))) 0 (vs x)=some (.cells (kF_ {r with name:=x}).toArray E (0,0)):=by
 rw[K5_ r,K5_ {r with name:=x}];exact z4_ _ _ _ _ a _ E (by simp) rfl (rfl) rfl (rfl)
theorem KX_ (r:EntL):kF_ r=(([vs r.name]))++ (([vi r.kind])++ (r.id.l.map v8)):=by
 unfold kF_;simp only[List.append_assoc,List.nil_append,List.append_nil]
theorem am4_ (r:EntL):Sx.partV (false,1) (kF_ r).toArray 1=some (vi r.kind):=by
 rw[KX_];exact wX_ _ _ _ (by simp)
theorem kI_ (r:EntL) (n:Nat) (E:TypeId) (fz:Nat×Nat):zp_ (some (false,n)) (some (.cells (kF_ r).toArray E fz)) 1=some (vi r.kind):=by
 rw[KX_];exact q6_ _ _ _ n E fz (by simp)
theorem X9_ (r:EntL) (x:Int) (a:Bool) (E:TypeId):zn_ (some (a,1)) (some (.cells (kF_ r).toArray E (0,0))) 1 (vi x)=some (.cells (kF_ {r with kind:=x}).toArray E (0,0)):=by
 rw[KX_ r,KX_ {r with kind:=x}];exact z4_ _ _ _ _ a _ E (by simp) rfl (rfl) rfl (rfl)
theorem KY_ (r:EntL):kF_ r=(([vs r.name])++ ([vi r.kind]))++ ((r.id.l.map v8)++ (([]:List Value))):=by
 unfold kF_;simp only[List.append_assoc,List.nil_append,List.append_nil]
theorem alG_ (r:EntL):Sx.partV (true,32) (kF_ r).toArray 2=some (Value.agg (a8 r.id.l)):=by
 rw[KY_,ac1_ _ _ _ (by simp) (by simp[r.id.h])];rfl
theorem kB_ (r:EntL) (E:TypeId) (fz:Nat×Nat):zp_ (some (true,32)) (some (.cells (kF_ r).toArray E fz)) 2=some (Value.agg (a8 r.id.l)):=by
 rw[KY_,va_ _ _ _ E fz (by simp) (by simp[r.id.h])];rfl
theorem XV_ (r:EntL) (x:IdL) (a:Bool) (E:TypeId):zn_ (some (a,32)) (some (.cells (kF_ r).toArray E (0,0))) 2 (Value.agg (a8 x.l))=some (.cells (kF_ {r with id:=x}).toArray E (0,0)):=by
 rw[KY_ r,KY_ {r with id:=x}];exact z4_ _ _ _ _ a _ E (by simp) (by simp[r.id.h]) (zg_ _) (by simp[x.h]) (w6_ _)
theorem q5_ (r:EntL) (E:TypeId) (fz:Nat×Nat):zp_ (some (true,34)) (some (.cells (kF_ r).toArray E fz)) 0=some (.agg (kF_ r).toArray):=xB_ _ E fz 34 (by rw[List.size_toArray,Zr_])
theorem ag3_ (old:Array Value) (r:EntL) (a:Bool) (E:TypeId) (h:old.size=34):zn_ (some (a,34)) (some (.cells old E (0,0))) 0 (.agg (kF_ r).toArray)=some (.cells (kF_ r).toArray E (0,0)):=x6_ _ a old E (Zr_ r) (adc_ r) h
theorem qh_ (r r':EntL) (a:Bool) (E:TypeId):zn_ (some (a,34)) (some (.cells (kF_ r').toArray E (0,0))) 0 (.agg (kF_ r).toArray)=some (.cells (kF_ r).toArray E (0,0)):=ag3_ _ r a E (by rw[List.size_toArray,Zr_])
theorem aji_:Tryz.prog.stoodInHeld 260=false:=by kernel_rfl
theorem aim_:Tryz.prog.eqGuardType Tryz.prog.depth 260=false:=by kernel_rfl
theorem alT_ (r r':EntL):eqD Tryz.prog 8 260 (.agg (kF_ r).toArray) (.agg (kF_ r').toArray)=some ((r.name==r'.name)&& (r.kind==r'.kind)&& (r.id.l==r'.id.l)):=by
 have hs: ∀ (a b:List UInt8),eqD Tryz.prog 7 9 (vs a) (vs b)=some (a==b):=by
  intro a b;unfold eqD;rw[Tryz.underlying9];simp only[vs,adt_]
 have hi: ∀ (a b:Int),eqD Tryz.prog 7 3 (vi a) (vi b)=some (a==b):=by
  intro a b;unfold eqD;rw[Tryz.underlying3];rfl
 have hd: ∀ (a b:IdL),eqD Tryz.prog 7 86 (.agg (a8 a.l)) (.agg (a8 b.l))=some (a.l==b.l):=fun a b=>Wh_ (d:=5) Tryz.underlying86 Tryz.underlying5 Tryz.ag5 _ _ a.h b.h
 have ags:zP_ Tryz.prog 9=some (false,1):=id (by kernel_rfl)
 have agi:zP_ Tryz.prog 3=some (false,1):=id (by kernel_rfl)
 have agd:zP_ Tryz.prog 86=some (true,32):=id (by kernel_rfl)
 unfold eqD
 rw[Tryz.underlying260]
 simp only
 rw[aji_]
 simp only[Bool.false_eq_true, ↓reduceIte,xe_,xQ_,ags,agi,agd,alK_,am4_,alG_,hs,hi,hd]
 cases(r.name==r'.name)<;>cases(r.kind==r'.kind)<;>cases(r.id.l==r'.id.l)<;>simp
theorem anY_ (r r':EntL):qE_ Tryz.prog .neq 260 (.agg (kF_ r).toArray) (.agg (kF_ r').toArray)=some (.bool (!((r.name==r'.name)&& (r.kind==r'.kind)&& (r.id.l==r'.id.l)))):=by
 unfold qE_ eqX;rw[aim_];simp[qu_,alT_]
theorem Kd_ (s:List UInt8) (w:World):Rets Tryz.prog 129 #[vs s] w (fun v D=>v= .bool false∧D= []):=by
 refine Rets.enterV Tryz.func129 rfl (rs:= [.tmp 2]) Tryz.results129 Tryz.ntmps129 ?_
 refine kf ?_
 first|with_reducible refine ks [] @Nat.add_zero ?_|refine kp @Nat.add_zero ?_
 refine⟨_,(ke @Nat.add_zero),trivial, ?_⟩
 simp[vt_]
def cmpS (a b:List UInt8):Int:=if ltB a b then -1 else if ltB b a then 1 else 0
theorem vh_ (a b:List UInt8): (!(Op.bytesLess a b||a==b))=ltB b a:=by
 cases h:ltB a b
 ·have h':Op.bytesLess a b=false:=h
  rw[h',Bool.false_or]
  by_cases e:a=b
  ·subst e;rw[h];simp
  ·rw[x2_ h e];simp[e]
 ·have h':Op.bytesLess a b=true:=h
  rw[h',Zh_ h];rfl
theorem Z8_ (a b:List UInt8) (w:World):Rets Tryz.prog 72 #[vs a,vs b] w (fun v D=>v=vi (cmpS a b)∧D= []):=by
 refine Rets.enterV Tryz.func72 rfl (rs:= [.tmp 4]) Tryz.results72 Tryz.ntmps72 ?_
 refine kf ?_
 first|with_reducible refine ks [] @Nat.add_zero ?_|refine kp @Nat.add_zero ?_
 refine Ow.callFV rfl Tryz.call129 (fun w' hw'=>Kd_ a w') ?_
 refine ko @Nat.add_zero ?_
 refine Ow.callFV rfl Tryz.call129 (fun w' hw'=>Kd_ b w') ?_
 refine ko @Nat.add_zero ?_
 unfold cmpS
 cases h1:Op.bytesLess a b
 ·cases h2:ltB b a
  ·have h3: (!(Op.bytesLess a b||a==b))=false:=by rw[vh_,h2]
   rw[h1] at h3
   first|with_reducible refine ks [] (And.intro @h3 @vh_) ?_|refine kp (And.intro @h3 @vh_) ?_
   refine⟨_,(ke @Nat.add_zero),trivial, ?_⟩
   simp[vt_,ltB,h1,h2]
  ·have h3: (!(Op.bytesLess a b||a==b))=true:=by rw[vh_,h2]
   rw[h1] at h3
   first|with_reducible refine ks [] (And.intro @h3 @vh_) ?_|refine kp (And.intro @h3 @vh_) ?_
   refine⟨_,(ke @Nat.add_zero),trivial, ?_⟩
   simp[vt_,ltB,h1]
 ·first|with_reducible refine ks [] @Nat.add_zero ?_|refine kp @Nat.add_zero ?_
  refine⟨_,(ke @Nat.add_zero),trivial, ?_⟩
  simp[vt_,ltB,h1]
set_option linter.defProp false
def aqz_:=And.intro (@x7_) (@qA_)
def cmpE (a b:EntL):Int:=cmpS a.name b.name
end Go.Proofs
end
section
open Go Go.Proofs Go.Sx Go.StP
namespace Go.Proofs
set_option maxRecDepth 10000
set_option maxHeartbeats 4000000
set_option linter.unusedSimpArgs false
def swp {α:Type} (a x m y c:List α) (i:Nat):List α:=a++ ((y.take i++x.drop i)++ (m++ ((x.take i++y.drop i)++c)))
section
variable {α:Type} {a x m y c:List α} {i k:Nat} {z:α}
theorem afJ_ (hx:x.length=k) (hy:y.length=k) (hi:i≤k): (swp a x m y c i).length=a.length+k+m.length+k+c.length:=by
 unfold swp;simp only[List.length_append,List.length_take,List.length_drop];omega
theorem am1_ (hx:x.length=k) (hy:y.length=k) (hi:i<k) {n:Nat} (hn:n=a.length+i): (swp a x m y c i).getD n z=x.getD i z:=by
 subst hn
 unfold swp
 rw[drop_cons (z:=z) (l:=x) (by omega),List.append_assoc,List.cons_append,←List.append_assoc]
 exact at_0 _ (by simp only[List.length_append,List.length_take];omega)
theorem amb_ (hx:x.length=k) (hy:y.length=k) (hi:i<k) {n:Nat} (hn:n=a.length+k+m.length+i): (swp a x m y c i).getD n z=y.getD i z:=by
 subst hn
 unfold swp
 rw[drop_cons (z:=z) (l:=y) (by omega),List.append_assoc (x.take i),List.cons_append,←List.append_assoc,←List.append_assoc,←List.append_assoc]
 exact at_0 _ (by simp only[List.length_append,List.length_take,List.length_drop];omega)
theorem ajD_ {l r:List α} (u v:α) {n:Nat} (h:n=l.length): (l++u::r).set n v=l++v::r:=by
 subst h
 rw[List.set_append_right _ _ (Nat.le_refl _),Nat.sub_self,List.set_cons_zero]
theorem adg_ (hx:x.length=k) (hy:y.length=k) (hi:i<k) {n n':Nat} (hn:n=a.length+i) (hn':n'=a.length+k+m.length+i):
  ((swp a x m y c i).set n (y.getD i z)).set n' (x.getD i z)=swp a x m y c (i+1):=by
 subst hn hn'
 have e:swp a x m y c i=(a++y.take i)++ (x.getD i z:: (x.drop (i+1)++ (m++ (x.take i++ (y.getD i z:: (y.drop (i+1)++c)))))):=by
  unfold swp
  rw[drop_cons (z:=z) (l:=y) (by omega),drop_cons (z:=z) (l:=x) (by omega)]
  simp only[List.append_assoc,List.cons_append]
 have e':swp a x m y c (i+1)=(a++y.take i)++ (y.getD i z:: (x.drop (i+1)++ (m++ (x.take i++ (x.getD i z:: (y.drop (i+1)++c)))))):=by
  unfold swp
  rw[take_snoc (z:=z) (l:=y) (by omega),take_snoc (z:=z) (l:=x) (by omega)]
  simp only[List.append_assoc,List.cons_append,List.nil_append]
 rw[e,e',ajD_ _ _ (by simp only[List.length_append,List.length_take];omega)]
 have e2: ∀u v:α,(a++y.take i)++ (u:: (x.drop (i+1)++ (m++ (x.take i++ (v:: (y.drop (i+1)++c))))))=((a++y.take i)++ (u:: (x.drop (i+1)++ (m++x.take i))))++ (v:: (y.drop (i+1)++c)):=fun u v=>by
  simp only[List.append_assoc,List.cons_append]
 rw[e2,e2,ajD_ _ _ (by simp only[List.length_append,List.length_take,List.length_cons,List.length_drop];omega)]
end
abbrev entO (rest:List Value) (d:List EntL):Obj:=rowO kF_ 260 rest d
theorem kE_ {rest:List Value} {d:List EntL} (k:Nat) (hk:k<d.length):zp_ (some (true,34)) (some (entO rest d)) (k*34)=some (.agg (kF_ (d.getD k ent0)).toArray):=Vu_ (z:=ent0) Zr_ k hk
theorem xL_ {rest:List Value} {d:List EntL} (k:Nat) (x:EntL) (a:Bool) (hk:k<d.length):zn_ (some (a,34)) (some (entO rest d)) (k*34) (.agg (kF_ x).toArray)=some (entO rest (d.set k x)):=QW_ Zr_ adc_ k x a hk
set_option linter.defProp false
def aqF_:=And.intro (And.intro (@kE_) (@xL_)) (And.intro (@q5_) (And.intro (@qh_) (@qA_)))
structure RotG where
 A:List EntL
 U:List EntL
 V:List EntL
 B:List EntL
theorem Kn_ {α:Type} (l:List α) {k:Nat} (h:k≤l.length): ∃a b,l=a++b∧a.length=k:=⟨l.take k,l.drop k,(List.take_append_drop k l).symm,by rw[List.length_take];omega⟩
end Go.Proofs
end
section
open Go Go.Proofs Go.Sx Go.StP
namespace Go.Proofs
set_option maxRecDepth 10000
set_option maxHeartbeats 4000000
set_option linter.unusedSimpArgs false
abbrev ltE (a b:EntL):Bool:=StP.lt EntL.name a b
abbrev KZ_ (l:List EntL):Prop:=StP.Sorted EntL.name l
abbrev StE (l l':List EntL):Prop:=StP.St EntL.name l l'
theorem ab7_ (a b:EntL):decide (cmpE a b<0)=ltE a b:=by
 unfold cmpE cmpS ltE StP.lt
 cases h:ltB a.name b.name
 ·rw[if_neg (by simp)]
  split<;>rfl
 ·rw[if_pos rfl];rfl
structure InsG where
 S:List EntL
 R:List EntL
set_option linter.defProp false
def ao0_:=And.intro (And.intro (@kE_) (And.intro (@xL_) (@q5_))) (And.intro (@qh_) (And.intro (@qA_) (@ab7_)))
end Go.Proofs
end
section
open Go Go.Proofs Go.Sx Go.StP
namespace Go.Proofs
set_option maxRecDepth 10000
set_option maxHeartbeats 4000000
set_option linter.unusedSimpArgs false
theorem Ze_ (p q:Nat) (h:p+q<4611686018427387904):IntKind.wrap .i64 ((jH_ (UInt64.ofInt ((p:Int)+ (q:Int))) 1).toNat:Int)=(((p+q) / 2:Nat):Int):=by
 have e: (UInt64.ofInt ((p:Int)+ (q:Int))).toNat=p+q:=by
  have h2:UInt64.ofInt ((p:Int)+ (q:Int))=UInt64.ofNat (((p:Int)+ (q:Int))%2^64).toNat:=rfl
  rw[h2,UInt64.toNat_ofNat']
  omega
 have e2: (jH_ (UInt64.ofInt ((p:Int)+ (q:Int))) 1).toNat=(p+q) / 2:=by
  unfold jH_
  rw[e,UInt64.toNat_ofNat',Nat.pow_one]
  omega
 rw[e2,jg_ _ (by omega)]
structure BsG where
 i:Nat
 j:Nat
def aoZ_ (rb:Nat) (A X Y B:List EntL) (rest:List Value) (v:Value) (D:zc_):Prop:=
 ∃o,D= [(rb,o)]∧v= .tuple #[]∧ ∃Z,o=entO rest (A++ (Z++B))∧Z.length=X.length+Y.length∧KZ_ Z∧StE (X++Y) Z
set_option linter.defProp false
def apy_:=And.intro (And.intro (@kE_) (And.intro (@xL_) (@q5_))) (And.intro (And.intro (@qh_) (@qA_)) (And.intro (@ab7_) (@Ze_)))
end Go.Proofs
end
section
open Go Go.Proofs Go.Sx Go.StP
namespace Go.Proofs
set_option maxRecDepth 10000
set_option maxHeartbeats 4000000
set_option linter.unusedSimpArgs false
set_option linter.defProp false
def aqO_:=And.intro (And.intro (@kE_) (And.intro (@xL_) (@q5_))) (And.intro (And.intro (@qh_) (@qA_)) (And.intro (@ab7_) (@Ze_)))
end Go.Proofs
end
section
open Go Go.Proofs Go.Sx Go.StP
namespace Go.Proofs
set_option maxRecDepth 10000
set_option maxHeartbeats 4000000
set_option linter.unusedSimpArgs false
def Blks (k:Nat) (ls:List (List EntL)):Prop:= ∀x,x∈ls→x.length=k∧KZ_ x
theorem Blks.snoc {k:Nat} {ls:List (List EntL)} {x:List EntL} (h:Blks k ls) (hx:x.length=k) (hs:KZ_ x):Blks k (ls++ [x]):=by
 intro y hy
 rcases List.mem_append.1 hy with hy|hy
 ·exact h y hy
 ·rw[List.mem_singleton] at hy;subst hy;exact⟨hx,hs⟩
structure StG where
 k:Nat
 ls:List (List EntL)
 r:List EntL
structure StH where
 l2:List (List EntL)
 ls:List (List EntL)
end Go.Proofs
end
namespace Go.Sx
open Go
def JF_ (r:Option Nat):Fence:={Fence.wide with round:=r}
def JB_:Op→Bool
 | .defer _=>false
 |_=>true
section
variable {P:Program} {w0:World} {f:Fr} {L:zc_} {K:xN_} {N:Fr→zc_→Prop} {ops:Array Oper} {rest:List Oper} {r:Option Nat} {n:Nat}
theorem aaI_ {k:FuncId} {args:Array Value} {w:World} {R:Ending→World→Prop} (h:Calls P k args w R):CallsIn (JF_ r) n P k args w R:=
 (callsIn_wide.2 h:CallsIn Fence.wide n P k args w R)
theorem ad5_ {row:String} {args:Array Value} {w:World} {R:Value→World→Prop} (h:Rows P row args w R):RowsIn (JF_ r) n P row args w R:=
 (fun c cs _=>let ⟨v,w',hr,s⟩:=h c cs;⟨v,w',hr,stepsIn_wide.2 s⟩:RowsIn Fence.wide n P row args w R)
theorem akU_ {o:Oper} {a:Act} {w:World} {next:Act→World→Prop} {Q:Exit→Act→World→Prop} (hd:JB_ o.op=true) (h:o.wp P a w next Q):o.wpIn (JF_ r) n P a w next Q:=by
 refine⟨fun _ _=>trivial, ?_⟩
 rw[Oper.semAt_eq _ _ _ (fun c e=>by rw[e] at hd;cases hd)]
 unfold Oper.wp at h
 generalize (execOp a.eval o).run P w=x at h
 match x,h with
 | .ok (.value v) _,h=>exact h
 | .ok .skip _,h=>exact h
 | .ok (.defer e) _,h=>exact h
 | .ok (.enter k args) w',h=>
  have h':Calls P k args w' _:=h
  exact⟨fun(e:false=true)=>(by cases e),aaI_ h'⟩
 | .ok (.row row args) w',h=>
  have h':Rows P row args w' _:=h
  exact⟨fun(e:false=true)=>(by cases e),ad5_ h'⟩
 | .halt (.panic u) _,h=>exact h
theorem abR_ {Q:Exit→Act→World→Prop} {l2:List Oper}: ∀ (l1:List Oper) (a:Act) (w:World),(l1.all fun o=>JB_ o.op)=true→
  wpList P ops (fun e a w=>e= .normal∧wpListIn (JF_ r) n P ops Q l2 a w) l1 a w→wpListIn (JF_ r) n P ops Q (l1++l2) a w
 | [],_,_,_,h=>h.2
 |o::l1,a,w,hd,h=>by
  rw[List.cons_append]
  unfold wpList at h
  unfold wpListIn
  rw[List.all_cons,Bool.and_eq_true] at hd
  split at h
  ·rename_i hw
   rw[if_pos hw]
   rcases h with h| ⟨-,hl⟩
   ·exact akU_ hd.1 (vR_ (fun a w hx=>abR_ l1 a w hd.2 hx) (fun e a w hne hq=>hne hq.1) h)
   ·obtain⟨_,_,he,-⟩:=hl
    cases he
  ·rename_i hw
   rw[if_neg hw]
   exact⟨fun _ _=>trivial,abR_ l1 _ _ hd.2 h⟩
def OwI (r:Option Nat) (P:Program) (w0:World) (ops:Array Oper) (l:List Oper) (f:Fr) (L:zc_) (N:Fr→zc_→Prop):Prop:=
 ∀w,Hp w0 L w→wpListIn (JF_ r) 0 P ops (jp_ w0 N) l (act f) w
theorem OwI.nil (h:N f L):OwI r P w0 ops [] f L N:=fun _ hw=>⟨rfl,rfl,L,hw,by simpa [act] using h⟩
theorem OwI.pre {l1 l2:List Oper} (hd: (l1.all fun o=>JB_ o.op)=true) (h:Ow P w0 ops .seq l1 f L (fun f' L'=>OwI r P w0 ops l2 f' L' N)):OwI r P w0 ops (l1++l2) f L N:=by
 intro w hw
 refine abR_ l1 _ _ hd ?_
 have h1:=h w hw
 have mono: ∀ (l:List Oper) (a:Act) (w:World),wpList P ops (jp_ w0 (fun f' L'=>OwI r P w0 ops l2 f' L' N)) l a w→wpList P ops (fun e a w=>e= .normal∧wpListIn (JF_ r) 0 P ops (jp_ w0 N) l2 a w) l a w:=by
  intro l
  induction l with
  |nil=>
   rintro a w ⟨-,hd',L',hp,hO⟩
   refine⟨rfl, ?_⟩
   have:=hO w hp
   rwa [←JV_ hd'] at this
  |cons o l ih=>
   intro a w h
   unfold wpList at h ⊢
   split at h
   ·rename_i hw
    rw[if_pos hw]
    rcases h with h| ⟨-,hl⟩
    ·exact .inl (vR_ ih (fun e a w hne hq=>hne hq.1) h)
    ·obtain⟨_,_,he,-⟩:=hl
     cases he
   ·rename_i hw
    rw[if_neg hw]
    exact ih _ _ h
 exact mono l1 _ _ h1
theorem Ow.mono_seq {l:List Oper} {N':Fr→zc_→Prop} (h:Ow P w0 ops .seq l f L N) (hN: ∀f L,N f L→N' f L):Ow P w0 ops .seq l f L N':=by
 intro w hw
 have h1:=h w hw
 clear h
 revert h1
 generalize act f=a
 clear hw
 induction l generalizing a w with
 |nil=>rintro⟨h1,h2,L',h3,h4⟩;exact⟨h1,h2,L',h3,hN _ _ h4⟩
 |cons o l ih=>
  intro h
  unfold wpList at h ⊢
  split at h
  ·rename_i hw
   rw[if_pos hw]
   rcases h with h| ⟨-,hl⟩
   ·exact .inl (vR_ (fun a w hx=>ih w a hx) (fun e a w hne hq=>hne hq.1) h)
   ·obtain⟨_,_,he,-⟩:=hl
    cases he
  ·rename_i hw
   rw[if_neg hw]
   exact ih _ _ h
theorem OwI.all {l:List Oper} (hd: (l.all fun o=>JB_ o.op)=true) (h:Ow P w0 ops .seq l f L N):OwI r P w0 ops l f L N:=by
 have:=OwI.pre (r:=r) (l2:= []) (N:=N) hd (Ow.mono_seq h (fun f L hN=>OwI.nil hN))
 simpa using this
def CwR (r:Option Nat) (P:Program) (w0:World) (c:Code) (f:Fr) (L:zc_) (K:xN_):Prop:= ∀w,Hp w0 L w→c.wpIn (JF_ r) 0 P (post w0 K) (act f) w
theorem CwR.region {id:Nat} {l:List Oper} (hd: (l.all fun o=>JB_ o.op)=true) (h:Ow P w0 l.toArray .seq l f L (K .normal)):CwR r P w0 (.region id l.toArray false) f L K:=
 fun w hw=>wpIn_mono (wpIn_region_lit (OwI.all hd h w hw)) fun _ _ _ h=>kD_ h
theorem CwR.block {id:Nat} {c:Code} (h:CwR r P w0 c f L (kq_ id K)):CwR r P w0 (.block id c) f L K:=by
 intro w hw
 refine wpIn_block (wpIn_mono (h w hw) ?_)
 rintro e a w' ⟨hd,L',hp,k⟩
 cases e with
 |exit i=>
  simp only[Exit.inBlock]
  simp only[kq_] at k
  split
  ·rename_i e;rw[if_pos e] at k;exact⟨hd,L',hp,k⟩
  ·rename_i e;rw[if_neg e] at k;exact⟨hd,L',hp,k⟩
 |_=>exact⟨hd,L',hp,k⟩
theorem Hp.put {w:World} (h:Hp w0 L w) {b:Nat} {o:Obj} (hb:b∈keys L):Hp w0 (setB L b o) (w.putObj b o):=h.set hb rfl rfl rfl rfl
theorem YieldAt.of {l:Nat} {rc:Loop} {X:zc_} {args:Array Value} {w:World} {r0:Option Nat} {S:zc_→Prop} (hX:Hp w X w) (hl:look X l=some (.loop rc)) (hr:rc.state= .ready) (hp:rc.pending=none) (hs:args.size=rc.params.size)
  (h:CwR (some l) P w rc.assign ((rc.params.zip args).foldl (fun tmps (p:Tmp×Value)=>tmps.setIfInBounds p.1 p.2) rc.tmps).toList X (fun e f1 L1=>e= .normal∧look L1 l=some (.loop rc)∧
   CwR (some l) P w rc.body f1 (setB L1 l (.loop {rc with state:= .busy})) (fun e _ L2=>e= .normal∧look L2 l=some (.loop {rc with state:= .busy})∧S (setB L2 l (.loop rc))))):
  YieldAt (JF_ r0) 0 P l args w (fun e w'=> ∃D,e= .returned (.bool true)∧Hp w D w'∧S D):=by
 obtain⟨st,pe,fn0,tm,pa,asg,bo,de⟩:=rc
 obtain rfl:st= .ready:=hr
 obtain rfl:pe=none:=hp
 have hl0:=hX.has _ _ (zL_ hl)
 refine⟨fn0,_,asg,bo,run_yield hl0 hs,roundIn_of_wpIn (F:=JF_ r0) (n:=0) trivial ?_⟩
 have h1:=h w hX
 have ea:act ((pa.zip args).foldl (fun tmps (p:Tmp×Value)=>tmps.setIfInBounds p.1 p.2) tm).toList={tmps:=(pa.zip args).foldl (fun tmps (p:Tmp×Value)=>tmps.setIfInBounds p.1 p.2) tm,defers:= []}:=by
  simp[act]
 simp only at h1
 rw[ea] at h1
 refine wpIn_mono h1 ?_
 rintro e a1 w1 ⟨hd1,L1,hp1,rfl,hl1,hbody⟩
 have hb1:=run_beginRound (P:=P) (hp1.has _ _ (zL_ hl1)) rfl
 refine⟨_,hb1, ?_⟩
 have h2:=hbody _ (hp1.put (o:= .loop {state:= .busy,pending:=none,fn:=fn0,tmps:=tm,params:=pa,assign:=asg,body:=bo,defers:=de}) (zr_ hl1))
 rw[←JV_ hd1] at h2
 refine wpIn_mono h2 ?_
 rintro e a2 w2 ⟨hd2,L2,hp2,rfl,hl2,hS⟩
 have he:=run_endRound (P:=P) none (hp2.has _ _ (zL_ hl2))
 exact⟨_,_,he,_,rfl,hp2.put (zr_ hl2),hS⟩
def anB_ (ds:List Deferred) (w0:World) (K:xN_) (e:Exit) (a:Act) (w:World):Prop:=a.defers=ds∧ ∃L,Hp w0 L w∧K e a.tmps.toList L
def CwE (ds:List Deferred) (P:Program) (w0:World) (c:Code) (f:Fr) (L:zc_) (K:xN_):Prop:= ∀w,Hp w0 L w→c.wp P (anB_ ds w0 K) ⟨f.toArray,ds⟩ w
theorem CwE.seq {ds:List Deferred} {x y:Code} (h:CwE ds P w0 x f L (vD_ (fun f L=>CwE ds P w0 y f L K) K)):CwE ds P w0 (.seq x y) f L K:=by
 intro w hw
 refine wp_seq (wp_mono (h w hw) ?_)
 rintro e a w' ⟨hd,L',hp,k⟩
 cases e with
 |normal=>
  have:=k w' hp
  have ea:a=⟨a.tmps.toList.toArray,ds⟩:=by cases a;simp only at hd;subst hd;simp
  rw[ea]
  exact this
 |_=>exact⟨hd,L',hp,k⟩
theorem CwE.ret {ds:List Deferred} (h:K .ret f L):CwE ds P w0 .ret f L K:=fun _ hw=>wp_ret ⟨rfl,L,hw,by simpa using h⟩
def evVs (P:Program) (w0:World) (L:zc_):List Oper→Fr→Option Fr
 | [],f=>some f
 |o::r,f=>match o.guard,ku_ P w0 L f o.op with
  |none,some v=>evVs P w0 L r (qU_ f o.dst v)
  |_,_=>none
theorem Kh_ {ds:List Deferred} {Q:Exit→Act→World→Prop} {w:World} (hw:Hp w0 L w): ∀ (l:List Oper) (f f':Fr),evVs P w0 L l f=some f'→Q .normal ⟨f'.toArray,ds⟩ w→wpList P ops Q l ⟨f.toArray,ds⟩ w
 | [],f,f',h,hQ=>by cases h;exact hQ
 |o::l,f,f',h,hQ=>by
  unfold evVs at h
  split at h
  ·rename_i v hg hv
   unfold wpList
   have hwn:Region.wanted o (yielded ops (⟨f.toArray,ds⟩:Act).tmps)=true:=by unfold Region.wanted;rw[hg]
   rw[if_pos hwn]
   refine .inl ?_
   unfold Oper.wp
   have he: (⟨f.toArray,ds⟩:Act).eval=ev f:=by
    have:=jr_ f
    funext x
    exact(congrFun this x)
   rw[he,q0_ hw hv]
   have hp: (⟨f.toArray,ds⟩:Act).put o.dst v=⟨(qU_ f o.dst v).toArray,ds⟩:=by
    have:=z7_ f o.dst v
    cases hd:o.dst with
    |none=>rfl
    |some d=>simp only[Act.put,qU_,afd_]
   show wpList P ops Q l ((⟨f.toArray,ds⟩:Act).put o.dst v) w
   rw[hp]
   exact Kh_ hw l _ f' h hQ
  ·cases h
theorem CwE.region {ds:List Deferred} {id:Nat} {l:List Oper} {f':Fr} (h:evVs P w0 L l f=some f') (hk:K .normal f' L):CwE ds P w0 (.region id l.toArray false) f L K:=
 fun w hw=>wp_region_lit (Kh_ hw l f f' h ⟨rfl,L,hw,by simpa using hk⟩)
theorem Gr.at_ {L:zc_} {E:TypeId} {m n:Nat} {v:Value} {cs:List Value} (h:Gr L E m v n cs) {b:Nat} (hb:slB v=some b): ∃a,look L b=some (.cells a E (0,0)):=by
 rcases h with h| ⟨rfl,rfl,c,rfl,hl⟩
 ·rcases h.inv with⟨rfl,-,-⟩ | ⟨c,cc,rest,rfl,hl,-⟩
  ·cases hb
  ·have:c=b:=by simpa [slB,vsl] using hb
   subst this;exact⟨_,hl⟩
 ·have:c=b:=by simpa [slB,vsl] using hb
  subst this;exact⟨_,hl⟩
theorem Gr.setB {L:zc_} {E:TypeId} {m n:Nat} {v:Value} {cs:List Value} (h:Gr L E m v n cs) {b:Nat} (hb:slB v≠some b) (x:Obj):Gr (setB L b x) E m v n cs:=
 h.keep fun c o hc ho=>by rw[ki_ (fun e:b=c=>hb (by rw[e];exact hc))];exact ho
def recR (fn:FuncId) (f:Fr) (ps:Array Tmp) (assign body:Code) (dk:Nat) (st:LoopState):Loop:={state:=st,pending:=none,fn,tmps:=f.toArray,params:=ps,assign,body,defers:=dk}
def aqI_ (P:Program) (gf:Nat) (lb:Array Value) {α:Type} (enc:α→Value) (xs:List α) (w:World):Prop:=
 ∀ (l:Nat) (J:List α→zc_→Prop) (w1:World) (X:zc_),(∀b,b<w.heap.size→w1.heap[b]? =w.heap[b]?)→(∀b,b∈keys X→w.heap.size≤b)→w.heap.size≤w1.heap.size→Hp w1 X w1→J [] X→(∀pre X Y,J pre X→J pre (X++Y))→
  (∀pre x post X2 w2,xs=pre++x::post→Hp w2 X2 w2→(∀b,b∈keys X2→w.heap.size≤b)→J pre X2→YieldAt (JF_ none) 0 P l #[enc x] w2 (fun e w3=> ∃D,e= .returned (.bool true)∧Hp w2 D w3∧Ext w2 X2 D∧J (pre++ [x]) D))→
  Rets P gf (#[.func (.yield l) #[] #[]]++lb) w1 (XS w1 X (fun _ D=>J xs D))
end
end Go.Sx
section
open Go Go.Proofs Go.Sx Go.StP
namespace Go.Proofs
set_option maxRecDepth 10000
set_option maxHeartbeats 4000000
set_option linter.unusedSimpArgs false
abbrev EntS (w:World) (v:Value) (l:List EntL):Prop:=SlV 34 kF_ ent0 w v l
structure ValG where
 k:Nat
 X:zc_
set_option linter.defProp false
def aqH_:=And.intro (And.intro (@kE_) (@xL_)) (And.intro (@q5_) (And.intro (@qh_) (@qA_)))
end Go.Proofs
end
section
open Go Go.Proofs Go.Sx Go.StP
namespace Go.Proofs
set_option maxRecDepth 10000
set_option maxHeartbeats 4000000
set_option linter.unusedSimpArgs false
set_option linter.defProp false
def aq3_:=And.intro (And.intro (@kE_) (@xL_)) (And.intro (@q5_) (And.intro (@qh_) (@qA_)))
end Go.Proofs
end
section
open Go Go.Proofs Go.Sx Go.StP
namespace Go.Proofs
set_option maxRecDepth 10000
set_option maxHeartbeats 4000000
set_option linter.unusedSimpArgs false
def SortOf (l Z:List EntL):Prop:=Z.length=l.length∧KZ_ Z∧StE l Z
theorem SortOf.eq {l Z Z':List EntL} (h:SortOf l Z) (h':SortOf l Z'):Z=Z':=StP.St.eq h.2.1 h'.2.1 (h.2.2.symm.trans h'.2.2)
end Go.Proofs
end
section
open Go Go.Proofs Go.Sx
namespace Go.Proofs
set_option maxRecDepth 10000
set_option maxHeartbeats 4000000
set_option linter.unusedSimpArgs false
def badR (c:Int):Bool:=decide (c<33) ||decide (126<c) || (c==47)
def badB (b:UInt8):Bool:=decide (b.toNat<33) ||decide (126<b.toNat) || (b.toNat==47)
theorem eqb (a b:Bool):qE_ Tryz.prog .eql 4 (.bool a) (.bool b)=some (.bool (a==b)):=by
 simp[qE_,eqX,qu_,qz_,Tryz.underlying4]
theorem alN_ (a:Value): (#[a]:Array Value)[0]? =some a:=(rfl)
set_option linter.defProp false
def apg_:=And.intro (And.intro (And.intro (@zf_) (And.intro (@v2_) (@wh_))) (And.intro (And.intro (@wa_) (@ze_)) (And.intro (@aiH_) (@abk_)))) (And.intro (And.intro (And.intro (@abx_) (@ace_)) (And.intro (@aki_) (@alN_))) (And.intro (And.intro (@Sx.tup3_0) (@Sx.tup3_1)) (And.intro (@Sx.tup3_2) (@eqb))))
set_option linter.defProp false
def apH_:=And.intro (And.intro (@zf_) (@v2_)) (And.intro (@wh_) (And.intro (@wa_) (@ze_)))
def anF_ (s:List UInt8):Bool:= !(s== [])&&decide (s.length≤32)&& !(s.any badB)
end Go.Proofs
end
section
open Go Go.Proofs Go.Sx Go.StP
namespace Go.Proofs
set_option maxRecDepth 10000
set_option maxHeartbeats 4000000
set_option linter.unusedSimpArgs false
def aoa_ (l:List EntL) (i:Nat):Bool:=
 anF_ (l.getD i ent0).name&& ((l.getD i ent0).kind==1|| (l.getD i ent0).kind==2)&& (i==0||ltB (l.getD (i - 1) ent0).name (l.getD i ent0).name)
def ajE_ (l:List EntL):Bool:=decide (l.length≤32)&& (List.range l.length).all (aoa_ l)
set_option linter.defProp false
def aqo_:=And.intro (And.intro (And.intro (@x7_) (@kI_)) (And.intro (@kB_) (@q5_))) (And.intro (And.intro (@qh_) (@qA_)) (And.intro (@zf_) (@ze_)))
def amc_ (l:List EntL):Prop:= ∀i,i<l.length→(l.getD i ent0).name.length<1099511627776
end Go.Proofs
end
section
open Go Go.Proofs Go.Sx Go.StP
namespace Go.Proofs
set_option maxRecDepth 10000
set_option maxHeartbeats 4000000
set_option linter.unusedSimpArgs false
set_option linter.defProp false
def aqy_:=And.intro (And.intro (And.intro (@x7_) (@kI_)) (And.intro (@kB_) (@q5_))) (And.intro (And.intro (@qh_) (@qA_)) (And.intro (@zf_) (@ze_)))
theorem ahv_ (a b:List UInt8): (Op.bytesLess a b||a==b)= !ltB b a:=by rw[←vh_,Bool.not_not]
end Go.Proofs
end
section
open Go Go.Proofs Go.Sx Go.StP
namespace Go.Proofs
set_option maxRecDepth 10000
set_option maxHeartbeats 4000000
set_option linter.unusedSimpArgs false
theorem Wn_ (x:IdL): (idLC x).length=32:=by simp[idLC,x.h]
abbrev IdS (w:World) (v:Value) (l:List IdL):Prop:=SlV 32 idLC id0 w v l
theorem alE_ {w:World} {v:Value} {l:List IdL} {b off:Nat} {arr:Array Value} {E:TypeId} {fz:Nat×Nat} (h:RowS 32 idLC id0 w v l b off arr E fz) {k:Nat} (hk:k<l.length):
  zp_ (some (true,32)) (some (.cells arr E fz)) (off+k*32)=some (.agg (a8 (l.getD k id0).l)):=RowS.load h Wn_ (by omega) hk
theorem aaU_ (a b:IdL):qE_ Tryz.prog .eql 86 (.agg (a8 a.l)) (.agg (a8 b.l))=some (.bool (a.l==b.l)):=
 ak8_ Tryz.underlying86 Tryz.underlying5 Tryz.ag5 (by kernel_rfl) a.l b.l ⟨a.h,b.h⟩
theorem aek_ (a b:IdL):qE_ Tryz.prog .neq 86 (.agg (a8 a.l)) (.agg (a8 b.l))=some (.bool (!(a.l==b.l))):=
 aiU_ Tryz.underlying86 Tryz.underlying5 Tryz.ag5 (by kernel_rfl) a.l b.l ⟨a.h,b.h⟩
instance:DecidableEq IdL:=fun a b=>if h:a.l=b.l then .isTrue (by cases a;cases b;simp only at h;subst h;rfl) else .isFalse (fun e=>h (by rw[e]))
theorem IdL.ext' {a b:IdL} (h:a.l=b.l):a=b:=by cases a;cases b;simp only at h;subst h;rfl
def idxG (x:IdL):List IdL→Nat→Int
 | [],_=> -1
 |y::r,i=>if x.l==y.l then(i:Int) else idxG x r (i+1)
theorem qY_ (x:IdL) (E:TypeId) (fz:Nat×Nat):zp_ (some (true,32)) (some (.cells (a8 x.l) E fz)) 0=some (.agg (a8 x.l)):=Jw_ _ E fz 32 x.h
set_option linter.defProp false
def apu_:=And.intro (And.intro (@aaU_) (@aek_)) (And.intro (@qY_) (And.intro (@zf_) (@ze_)))
end Go.Proofs
end
section
open Go Go.Proofs Go.Sx Go.StP
namespace Go.Proofs
set_option maxRecDepth 100000
set_option maxHeartbeats 400000
set_option linter.unusedSimpArgs false
structure RwL where
 id:IdL
 place:Int
 spot:Int
def rwC (r:RwL):List Value:=r.id.l.map v8++ ([vi r.place]++ ([vi r.spot]))
def rw0:RwL:=⟨id0,0,0⟩
theorem zT_ (r:RwL): (rwC r).length=34:=by simp[rwC,r.id.h]
theorem qB_ (r:RwL):Value.cells (.agg (rwC r).toArray)=(rwC r).toArray:=zg_ _
theorem JJ_ (r:RwL): (rwC r).all Value.oneCell'=true:=by
 unfold rwC
 simp only[List.all_append,List.all_cons,List.all_nil,w6_,Bool.and_true,Bool.true_and]
 rfl
theorem zrRw:zZ_ Tryz.prog 132=some (.agg (rwC rw0).toArray):=id (by kernel_rfl)
theorem amd_:zP_ Tryz.prog 132=some (true,34):=id (by kernel_rfl)
theorem V0_ (r:RwL):rwC r=([]:List Value)++ ((r.id.l.map v8)++ ([vi r.place]++ ([vi r.spot]))):=by
 unfold rwC;simp only[List.append_assoc,List.nil_append,List.append_nil]
theorem xF_ (r:RwL) (E:TypeId) (fz:Nat×Nat):zp_ (some (true,32)) (some (.cells (rwC r).toArray E fz)) 0=some (Value.agg (a8 r.id.l)):=by
 rw[V0_,va_ _ _ _ E fz (by simp) (by simp[r.id.h])];rfl
theorem an5_ (r:RwL): (rwC r).toArray.extract 0 32=a8 r.id.l:=by
 rw[V0_];exact KS_ (o:=0) (n:=32) _ _ _ (by simp) (by simp[r.id.h])
theorem abe_ {w:World} {v:Value} {l:List RwL} {b off:Nat} {arr:Array Value} {E:TypeId} {fz:Nat×Nat} (h:RowS 34 rwC rw0 w v l b off arr E fz) {k:Nat} (hk:k<l.length):zp_ (some (true,32)) (some (.cells arr E fz)) (off+k*34+0)=some (Value.agg (a8 (l.getD k rw0).id.l)):=by
 rw[RowS.part h zT_ hk (by omega) (by omega),an5_]
theorem ahA_ (r:RwL) (x:IdL) (a:Bool) (E:TypeId):zn_ (some (a,32)) (some (.cells (rwC r).toArray E (0,0))) 0 (Value.agg (a8 x.l))=some (.cells (rwC {r with id:=x}).toArray E (0,0)):=by
 rw[V0_ r,V0_ {r with id:=x}];exact z4_ _ _ _ _ a _ E (by simp) (by simp[r.id.h]) (zg_ _) (by simp[x.h]) (w6_ _)
theorem acW_ (r:RwL):rwC r=((r.id.l.map v8))++ (([vi r.place])++ ([vi r.spot])):=by
 unfold rwC;simp only[List.append_assoc,List.nil_append,List.append_nil]
theorem ke_ (r:RwL) (n:Nat) (E:TypeId) (fz:Nat×Nat):zp_ (some (false,n)) (some (.cells (rwC r).toArray E fz)) 32=some (vi r.place):=by
 rw[acW_];exact q6_ _ _ _ n E fz (by simp[r.id.h])
theorem agQ_ {w:World} {v:Value} {l:List RwL} {b off:Nat} {arr:Array Value} {E:TypeId} {fz:Nat×Nat} (h:RowS 34 rwC rw0 w v l b off arr E fz) {k:Nat} (hk:k<l.length) (n:Nat):zp_ (some (false,n)) (some (.cells arr E fz)) (off+k*34+32)=some (vi (l.getD k rw0).place):=by
 rw[RowS.cell h hk (by omega)];generalize l.getD k rw0=r;rw[acW_];exact ve_ _ _ _ (by simp[r.id.h])
theorem Wd_ (r:RwL) (x:Int) (a:Bool) (E:TypeId):zn_ (some (a,1)) (some (.cells (rwC r).toArray E (0,0))) 32 (vi x)=some (.cells (rwC {r with place:=x}).toArray E (0,0)):=by
 rw[acW_ r,acW_ {r with place:=x}];exact z4_ _ _ _ _ a _ E (by simp[r.id.h]) rfl (rfl) rfl (rfl)
theorem acV_ (r:RwL):rwC r=((r.id.l.map v8)++ ([vi r.place]))++ (([vi r.spot])++ (([]:List Value))):=by
 unfold rwC;simp only[List.append_assoc,List.nil_append,List.append_nil]
theorem kh_ (r:RwL) (n:Nat) (E:TypeId) (fz:Nat×Nat):zp_ (some (false,n)) (some (.cells (rwC r).toArray E fz)) 33=some (vi r.spot):=by
 rw[acV_];exact q6_ _ _ _ n E fz (by simp[r.id.h])
theorem ahk_ {w:World} {v:Value} {l:List RwL} {b off:Nat} {arr:Array Value} {E:TypeId} {fz:Nat×Nat} (h:RowS 34 rwC rw0 w v l b off arr E fz) {k:Nat} (hk:k<l.length) (n:Nat):zp_ (some (false,n)) (some (.cells arr E fz)) (off+k*34+33)=some (vi (l.getD k rw0).spot):=by
 rw[RowS.cell h hk (by omega)];generalize l.getD k rw0=r;rw[acV_];exact ve_ _ _ _ (by simp[r.id.h])
theorem VP_ (r:RwL) (x:Int) (a:Bool) (E:TypeId):zn_ (some (a,1)) (some (.cells (rwC r).toArray E (0,0))) 33 (vi x)=some (.cells (rwC {r with spot:=x}).toArray E (0,0)):=by
 rw[acV_ r,acV_ {r with spot:=x}];exact z4_ _ _ _ _ a _ E (by simp[r.id.h]) rfl (rfl) rfl (rfl)
theorem xk_ (r:RwL) (E:TypeId) (fz:Nat×Nat):zp_ (some (true,34)) (some (.cells (rwC r).toArray E fz)) 0=some (.agg (rwC r).toArray):=xB_ _ E fz 34 (by rw[List.size_toArray,zT_])
theorem ajt_ (old:Array Value) (r:RwL) (a:Bool) (E:TypeId) (h:old.size=34):zn_ (some (a,34)) (some (.cells old E (0,0))) 0 (.agg (rwC r).toArray)=some (.cells (rwC r).toArray E (0,0)):=x6_ _ a old E (zT_ r) (JJ_ r) h
theorem q1_ (r r':RwL) (a:Bool) (E:TypeId):zn_ (some (a,34)) (some (.cells (rwC r').toArray E (0,0))) 0 (.agg (rwC r).toArray)=some (.cells (rwC r).toArray E (0,0)):=ajt_ _ r a E (by rw[List.size_toArray,zT_])
theorem aip_ (r:RwL):ql_ (vo_ Tryz.prog 132) (zZ_ Tryz.prog 132) [(0,Value.agg (a8 r.id.l)),(1,vi r.place),(2,vi r.spot)]=some (.agg (rwC r).toArray):=by
 have hp:vo_ Tryz.prog 132=some [(0,32),(32,1),(33,1)]:=id (by kernel_rfl)
 rw[hp,zrRw]
 have e0: (rwC rw0).toArray=(([]:List Value)++ ((rw0.id.l.map v8)++ ([vi rw0.place]++ ([vi rw0.spot])))).toArray:=by congr 1<;>simp only[rwC,List.append_assoc,List.nil_append,List.append_nil]
 have q0:x8_ (([]:List Value)++ ((rw0.id.l.map v8)++ ([vi rw0.place]++ ([vi rw0.spot])))).toArray 0 (r.id.l.map v8)=(([]:List Value)++ ((r.id.l.map v8)++ ([vi rw0.place]++ ([vi rw0.spot])))).toArray:=jc_ _ _ _ _ (by simp) (by simp[rw0.id.h,r.id.h])
 have s0: (([]:List Value)++ ((rw0.id.l.map v8)++ ([vi rw0.place]++ ([vi rw0.spot])))).toArray.size=34:=by simp[r.id.h,rw0.id.h]
 have z0: (Value.cells (Value.agg (a8 r.id.l))).toList=r.id.l.map v8:=by rw[zg_];rfl
 have y0: (Value.cells (Value.agg (a8 r.id.l))).size=32:=by rw[←Array.length_toList,z0];simp[r.id.h]
 have e1: (([]:List Value)++ ((r.id.l.map v8)++ ([vi rw0.place]++ ([vi rw0.spot])))).toArray=(((r.id.l.map v8))++ (([vi rw0.place])++ ([vi rw0.spot]))).toArray:=by congr 1<;>simp only[rwC,List.append_assoc,List.nil_append,List.append_nil]
 have q1:x8_ (((r.id.l.map v8))++ (([vi rw0.place])++ ([vi rw0.spot]))).toArray 32 ([vi r.place])=(((r.id.l.map v8))++ (([vi r.place])++ ([vi rw0.spot]))).toArray:=jc_ _ _ _ _ (by simp[r.id.h]) (rfl)
 have s1: (((r.id.l.map v8))++ (([vi rw0.place])++ ([vi rw0.spot]))).toArray.size=34:=by simp[r.id.h,rw0.id.h]
 have z1: (Value.cells (vi r.place)).toList= [vi r.place]:=by rfl
 have y1: (Value.cells (vi r.place)).size=1:=by rw[←Array.length_toList,z1];simp
 have e2: (((r.id.l.map v8))++ (([vi r.place])++ ([vi rw0.spot]))).toArray=(((r.id.l.map v8)++ ([vi r.place]))++ (([vi rw0.spot])++ (([]:List Value)))).toArray:=by congr 1<;>simp only[rwC,List.append_assoc,List.nil_append,List.append_nil]
 have q2:x8_ (((r.id.l.map v8)++ ([vi r.place]))++ (([vi rw0.spot])++ (([]:List Value)))).toArray 33 ([vi r.spot])=(((r.id.l.map v8)++ ([vi r.place]))++ (([vi r.spot])++ (([]:List Value)))).toArray:=jc_ _ _ _ _ (by simp[r.id.h]) (rfl)
 have s2: (((r.id.l.map v8)++ ([vi r.place]))++ (([vi rw0.spot])++ (([]:List Value)))).toArray.size=34:=by simp[r.id.h,rw0.id.h]
 have z2: (Value.cells (vi r.spot)).toList= [vi r.spot]:=by rfl
 have y2: (Value.cells (vi r.spot)).size=1:=by rw[←Array.length_toList,z2];simp
 have e3: (((r.id.l.map v8)++ ([vi r.place]))++ (([vi r.spot])++ (([]:List Value)))).toArray=(rwC r).toArray:=by congr 1<;>simp only[rwC,List.append_assoc,List.nil_append,List.append_nil]
 simp only[ql_]
 rw[e0]
 unfold Sx.fillV
 simp only[List.getElem?_cons_zero,List.getElem?_cons_succ,z0,y0]
 rw[if_pos ⟨trivial,by rw[s0];decide⟩,q0]
 rw[e1]
 unfold Sx.fillV
 simp only[List.getElem?_cons_zero,List.getElem?_cons_succ,z1,y1]
 rw[if_pos ⟨trivial,by rw[s1];decide⟩,q1]
 rw[e2]
 unfold Sx.fillV
 simp only[List.getElem?_cons_zero,List.getElem?_cons_succ,z2,y2]
 rw[if_pos ⟨trivial,by rw[s2];decide⟩,q2]
 rw[e3];rfl
theorem aaB_: ∀ (a b:List UInt8),Lib.compareBytes a b=if ltB a b=true then -1 else if ltB b a=true then 1 else 0
 | [],[]=>by simp[Lib.compareBytes,ltB,Op.bytesLess]
 |_::_,[]=>by simp[Lib.compareBytes,ltB,Op.bytesLess]
 | [],_::_=>by simp[Lib.compareBytes,ltB,Op.bytesLess]
 |a::x,b::y=>by
  have ih:=aaB_ x y
  unfold Lib.compareBytes
  rw[Zm_,Zm_] at*
  rw[ih]
  simp only[List.cons_lt_cons_iff,decide_eq_true_eq]
  by_cases h1:a<b
  ·simp[h1]
  ·by_cases h2:b<a
   ·have: ¬a=b:=fun e=>by subst e;exact h1 h2
    simp[h1,h2,this]
   ·have:a=b:=UInt8.le_antisymm (UInt8.not_lt.1 h2) (UInt8.not_lt.1 h1)
    subst this
    simp[h1]
theorem wt_ {b:Nat} {E:TypeId} {fz:Nat×Nat} {arr:Array Value} {w:World} (hb:w.heap[b]? =some (.cells arr E fz)): ∀ (l:List UInt8) (off:Nat) (acc:ByteArray),(∀j,j<l.length→arr[off+j]? =some (v8 (l.getD j 0)))→
  (Extern.Bytes.loadBytes ⟨b,off,none⟩ l.length acc).run Tryz.prog w= .ok (acc++ ⟨l.toArray⟩) w
 | [],off,acc,_=>by
  show Result.ok acc w=_
  congr 1
  apply ByteArray.ext
  simp
 |x::l,off,acc,h=>by
  have h0:=h 0 (by simp)
  simp only[Nat.add_zero,List.getD_cons_zero] at h0
  have hc:w.cell? ⟨b,off,none⟩=some (v8 x):=by rw[cell_of_row w b _ arr E fz hb];exact h0
  have hld: (load ⟨b,off,none⟩).run Tryz.prog w= .ok (v8 x) w:=by
   simp only[load,Sem.run,hc]
  rw[List.length_cons,Extern.Bytes.loadBytes,Sem.run_bind,hld,Result.andThen_ok]
  simp only[v8,q4_]
  have e: ((x.toNat:Int).toNat.toUInt8)=x:=by
   rw[Int.toNat_natCast]
   exact UInt8.ofNat_toNat
  rw[e,wt_ hb l (off+1) _ (fun j hj=>by
   have:=h (j+1) (by simpa using hj)
   rw[List.getD_cons_succ] at this
   rw[←this];congr 1;omega)]
  congr 1
  apply ByteArray.ext
  simp
def xm_ (arr:Array Value) (off:Nat) (l:List UInt8):Prop:= ∀j,j<l.length→arr[off+j]? =some (v8 (l.getD j 0))
theorem Z4_ {b off c:Nat} {l:List UInt8} {arr:Array Value} {E:TypeId} {fz:Nat×Nat} {w:World} (hb:w.heap[b]? =some (.cells arr E fz)) (h:xm_ arr off l): (Extern.Bytes.bytesOf (vsl b off l.length c)).run Tryz.prog w= .ok ⟨l.toArray⟩ w:=by
 have h:=wt_ hb l off .empty h
 show(Extern.Bytes.loadBytes ⟨b,off,none⟩ l.length .empty).run Tryz.prog w=_
 rw[h]
 congr 1
theorem Wj_ {b o1 k1 c o2 k2:Nat} {l m:List UInt8} {a1 a2:Array Value} {E E2:TypeId} {f1 f2:Nat×Nat} {w:World} (hb:w.heap[b]? =some (.cells a1 E f1)) (h1:xm_ a1 o1 l) (hc:w.heap[c]? =some (.cells a2 E2 f2)) (h2:xm_ a2 o2 m):
  (callFunc 171 #[vsl b o1 l.length k1,vsl c o2 m.length k2]).run Tryz.prog w= .ok (.value (vi (Lib.compareBytes l m))) w:=by
 rw[run_callFunc_extern Tryz.func171 (by kernel_rfl) (by kernel_rfl) (by kernel_rfl) (e:=Extern.BytealgCompare.compare) (by kernel_rfl)]
 show((Extern.BytealgCompare.compare #[vsl b o1 l.length k1,vsl c o2 m.length k2]).run Tryz.prog w).andThen _=_
 have: (Extern.BytealgCompare.compare #[vsl b o1 l.length k1,vsl c o2 m.length k2]).run Tryz.prog w= .ok (vi (Lib.compareBytes l m)) w:=by
  change Sem.run Tryz.prog (do pure (goInt (Extern.BytealgCompare.cmp (←Extern.Bytes.bytesOf _) (←Extern.Bytes.bytesOf _)))) w=_
  have h1:=Z4_ (c:=k1) hb h1
  have h2:=Z4_ (c:=k2) hc h2
  rw[Sem.run_bind]
  erw[h1]
  rw[Result.andThen_ok,Sem.run_bind]
  erw[h2]
  rw[Result.andThen_ok,Lib.cmp_eq]
  rfl
 rw[this];rfl
theorem ahy_ {b o1 k1 c o2 k2:Nat} {l m:List UInt8} {a1 a2:Array Value} {E E2:TypeId} {f1 f2:Nat×Nat} {w:World} (hb:w.heap[b]? =some (.cells a1 E f1)) (h1:xm_ a1 o1 l) (hc:w.heap[c]? =some (.cells a2 E2 f2)) (h2:xm_ a2 o2 m):
  Rets Tryz.prog 146 #[vsl b o1 l.length k1,vsl c o2 m.length k2] w (fun v D=>v=vi (Lib.compareBytes l m)∧D= []):=by
 have hr:=Wj_ (k1:=k1) (k2:=k2) hb h1 hc h2
 have hcc:Calls Tryz.prog 146 #[vsl b o1 l.length k1,vsl c o2 m.length k2] w fun e w'=>e= .returned (vi (Lib.compareBytes l m))∧w'=w:=by
  generalize vsl b o1 l.length k1=x at hr ⊢
  generalize vsl c o2 m.length k2=y at hr ⊢
  go_enter Tryz.func146,Tryz.ntmps146
  go_wp2
  go_ret
  exact⟨rfl,rfl⟩
 refine Calls.mono hcc ?_
 rintro e w' ⟨rfl,rfl⟩
 exact⟨_,[],rfl,Hp.refl _,rfl,rfl⟩
def wQ_ (x y:IdL):Int:=cmpS x.l y.l
theorem ajC_ {b o1 k1 c o2 k2:Nat} {x y:IdL} {a1 a2:Array Value} {E E2:TypeId} {f1 f2:Nat×Nat} {w:World} (hb:w.heap[b]? =some (.cells a1 E f1)) (h1:xm_ a1 o1 x.l) (hc:w.heap[c]? =some (.cells a2 E2 f2)) (h2:xm_ a2 o2 y.l):
  Rets Tryz.prog 146 #[vsl b o1 32 k1,vsl c o2 32 k2] w (fun v D=>v=vi (wQ_ x y)∧D= []):=by
 have h:=ahy_ (k1:=k1) (k2:=k2) hb h1 hc h2
 rw[x.h,y.h,aaB_] at h
 exact h
theorem ac4_ (r:RwL):xm_ (rwC r).toArray 0 r.id.l:=by
 intro j hj
 rw[Nat.zero_add,List.getElem?_toArray,V0_,List.nil_append,List.getElem?_append_left (by simpa using hj),List.getElem?_map,List.getElem?_eq_getElem hj,List.getD_eq_getElem?_getD,List.getElem?_eq_getElem hj]
 rfl
set_option linter.defProp false
def K8_:=And.intro (@zf_) (And.intro (@ze_) (@qB_))
theorem X6_ (a b:RwL) (w:World):Rets Tryz.prog 121 #[.agg (rwC a).toArray, .agg (rwC b).toArray] w (fun v D=>v=vi (wQ_ a.id b.id)∧D= []):=by
 refine Rets.enterV Tryz.func121 rfl (rs:= [.tmp 4]) Tryz.results121 Tryz.ntmps121 ?_
 refine kf ?_
 first|with_reducible refine ks [] @K8_ ?_|refine kp @K8_ ?_
 refine Ow.box rfl rfl fun b1 hb1 hw1=> ?_
 simp only[jt_,jm_,jn_,zg_,List.nil_append,List.cons_append]
 refine Ow.go rfl ?_
 simp(disch:=(first|assumption|omega| (simp only[kd_,kc_,UInt64.reduceToNat];try omega))) only[↓Sx.S0,Sx.S1,Tryz.fx,K8_,Nat.reduceAdd,Nat.reducePow,Int.reducePow,Nat.reduceBEq, ↓reduceIte,UInt8.reduceToNat,UInt16.reduceToNat,UInt32.reduceToNat,UInt64.reduceToNat,Int.reduceToNat]
 refine Ow.box rfl rfl fun b2 hb2 hw2=> ?_
 simp only[jt_,jm_,jn_,zg_,List.nil_append,List.cons_append]
 refine Ow.go rfl ?_
 simp(disch:=(first|assumption|omega| (simp only[kd_,kc_,UInt64.reduceToNat];try omega))) only[↓Sx.S0,Sx.S1,Tryz.fx,K8_,Nat.reduceAdd,Nat.reducePow,Int.reducePow,Nat.reduceBEq, ↓reduceIte,UInt8.reduceToNat,UInt16.reduceToNat,UInt32.reduceToNat,UInt64.reduceToNat,Int.reduceToNat]
 obtain⟨h12,-⟩:=hb2
 have hn:b1≠b2:=by omega
 first|with_reducible refine ks [] @K8_ ?_|refine kp @K8_ ?_
 refine Cw.regionS [b1,b2] [0,1,2,3,4,5] [] (by kernel_rfl) (by kernel_rfl) (by kernel_rfl) ?_
 simp only[zh_, ↓zd_, ↓zb_, ↓zl_, ↓zm_,za_]
 refine kq @K8_ ?_
 refine Ow.soft rfl rfl rfl ?_
 refine Ow.callFV rfl Tryz.call146 (fun w' hw'=>ajC_ (x:=a.id) (y:=b.id) (hw'.has b1 (.cells (rwC a).toArray 132 (0,0)) (by simp)) (ac4_ a) (hw'.has b2 (.cells (rwC b).toArray 132 (0,0)) (by simp)) (ac4_ b)) ?_
 with_reducible refine Ow.nil ?_
 refine⟨by intro b hb;simp only[List.mem_cons,List.not_mem_nil,or_false] at hb;(try subst hb);rfl, ?_⟩
 refine kq @K8_ ?_
 refine⟨_,(ke @K8_),⟨hw1,hw2,trivial⟩, ?_⟩
 rfl
def kY_ (a b:RwL):Int:=cmpS a.id.l b.id.l
theorem xG_ (a b:RwL) (w:World):Rets Tryz.prog 121 #[.agg (rwC a).toArray, .agg (rwC b).toArray] w (fun v D=>v=vi (kY_ a b)∧D= []):=X6_ a b w
end Go.Proofs
end
section
open Go Go.Proofs Go.Sx Go.StP
namespace Go.Proofs
set_option maxRecDepth 10000
set_option maxHeartbeats 4000000
set_option linter.unusedSimpArgs false
abbrev zA_ (rest:List Value) (d:List RwL):Obj:=rowO rwC 132 rest d
theorem xE_ {rest:List Value} {d:List RwL} (k:Nat) (hk:k<d.length):zp_ (some (true,34)) (some (zA_ rest d)) (k*34)=some (.agg (rwC (d.getD k rw0)).toArray):=Vu_ (z:=rw0) zT_ k hk
theorem j4_ {rest:List Value} {d:List RwL} (k:Nat) (x:RwL) (a:Bool) (hk:k<d.length):zn_ (some (a,34)) (some (zA_ rest d)) (k*34) (.agg (rwC x).toArray)=some (zA_ rest (d.set k x)):=QW_ zT_ JJ_ k x a hk
set_option linter.defProp false
def x9_:=And.intro (And.intro (@xE_) (@j4_)) (And.intro (@xk_) (And.intro (@q1_) (@qB_)))
theorem jG_ (rb n c:Nat) (A X M Y C:List RwL) (rest:List Value) (fv:Value) (a b k:Nat) (w:World) (hX:X.length=k) (hY:Y.length=k) (ha:A.length=a) (hb:b=a+k+M.length) (hn:n=a+k+M.length+k+C.length) (hs:n<1000000)
  (ho:w.heap[rb]? =some (zA_ rest (A++ (X++ (M++ (Y++C)))))):
  Rets Tryz.prog 227 #[vsl rb 0 n c,vi a,vi b,vi k,fv] w (fun v D=> ∃o,D= [(rb,o)]∧v= .tuple #[]∧o=zA_ rest (A++ (Y++ (M++ (X++C))))):=by
 refine Rets.enterM Tryz.func227 rfl (rs:= []) Tryz.results227 Tryz.ntmps227 ho ?_
 refine kf ?_
 first|with_reducible refine ks [] @x9_ ?_|refine kp @x9_ ?_
 subst ha hb hn
 refine Cw.loopG (G:=Nat) [11,12,13,16,17,18,19,20,21,22,23,24,25,26,27,28,29,30,31,32,33,34,35,36,37,14,15,10] (fun g=> [(10,vi g)]) (fun g=> [(rb,zA_ rest (swp A X M Y C g))]) (fun g=>g≤k) (fun g=>k - g) 0 rfl rfl ?_ ?_
 ·exact Nat.zero_le _
 ·intro g j hg
  refine kv ?_
  by_cases hlt:g<k
  ·first|with_reducible refine ks [] @x9_ ?_|refine kp @x9_ ?_
   have hl:=afJ_ (a:=A) (m:=M) (c:=C) hX hY hg
   have h1:=am1_ (a:=A) (m:=M) (c:=C) (z:=rw0) hX hY hlt rfl
   have h2:=amb_ (a:=A) (m:=M) (c:=C) (z:=rw0) hX hY hlt rfl
   refine Cw.regionS [rb] [0,1,2,3,4,5,6,7,8,9,10,11,12,14,15,16,17,18,13,19,20,21,22,23] [21,23] (by kernel_rfl) (by kernel_rfl) (by kernel_rfl) ?_
   simp only[zh_, ↓zd_, ↓zb_, ↓zl_, ↓zm_,za_]
   refine kq @x9_ ?_
   refine Ow.store rfl rfl rfl (ke @x9_) ?_
   refine ko @x9_ ?_
   rw[h1,h2]
   refine Again.mk (g+1) (by omega) (by omega) ?_ rfl
   rw[adg_ hX hY hlt rfl rfl]
  ·obtain rfl:g=k:=by omega
   first|with_reducible refine ks [] @x9_ ?_|refine kp @x9_ ?_
   refine⟨_,_,_,(ke @x9_),rfl,trivial, ?_⟩
   exact⟨rfl,by unfold swp;rw[List.take_of_length_le (by omega),List.take_of_length_le (by omega),List.drop_eq_nil_of_le (by omega),List.drop_eq_nil_of_le (by omega),List.append_nil,List.append_nil]⟩
structure rws_RotG where
 A:List RwL
 U:List RwL
 V:List RwL
 B:List RwL
theorem Q2_ (rb n c:Nat) (A U V B:List RwL) (rest:List Value) (fv:Value) (a m b:Nat) (w:World) (hU:0<U.length) (hV:0<V.length) (ha:A.length=a) (hm:m=a+U.length) (hb:b=m+V.length) (hn:n=b+B.length) (hs:n<1000000)
  (ho:w.heap[rb]? =some (zA_ rest (A++ (U++ (V++B))))):
  Rets Tryz.prog 213 #[vsl rb 0 n c,vi a,vi m,vi b,fv] w (fun v D=> ∃o,D= [(rb,o)]∧v= .tuple #[]∧o=zA_ rest (A++ (V++ (U++B)))):=by
 have e1: (m:Int) - a=(U.length:Nat):=by omega
 have e2: (b:Int) - m=(V.length:Nat):=by omega
 refine Rets.enterM Tryz.func213 rfl (rs:= []) Tryz.results213 Tryz.ntmps213 ho ?_
 refine kf ?_
 first|with_reducible refine ks [] (And.intro @x9_ (And.intro @e1 (@e2))) ?_|refine kp (And.intro @x9_ (And.intro @e1 (@e2))) ?_
 refine Cw.loopG (G:=rws_RotG) [18,19,20,21,22,23,24,25,26,27,28,29,30,31,32,33,34,10,35,36,37,38,39,40,41,42,43,44,45,46,47,48,49,11] (fun g=> [(10,vi g.U.length),(11,vi g.V.length)]) (fun g=> [(rb,zA_ rest (g.A++ (g.U++ (g.V++g.B))))]) (fun g=>0<g.U.length∧0<g.V.length∧g.A.length+g.U.length=m∧g.A++ (g.V++ (g.U++g.B))=A++ (V++ (U++B))∧m+g.V.length+g.B.length=n) (fun g=>g.U.length+g.V.length) ⟨A,U,V,B⟩ rfl rfl ?_ ?_
 ·exact⟨hU,hV,by show A.length+U.length=m;omega,rfl,by show m+V.length+B.length=n;omega⟩
 ·intro g j hg
  refine kv ?_
  obtain⟨A',U',V',B'⟩:=g
  obtain⟨hu,hv,hA,hT,hN⟩:=hg
  dsimp only at hu hv hA hT hN ⊢
  have e3: (m:Int) - U'.length=(A'.length:Nat):=by omega
  by_cases h1:U'.length=V'.length
  ·first|with_reducible refine ks [] (And.intro @x9_ @e3) ?_|refine kp (And.intro @x9_ @e3) ?_
   refine Ow.callM rfl rfl Tryz.call227 (by simp[keys]) (fun w' hw'=>jG_ rb n c A' U' [] V' B' rest fv A'.length m U'.length w' rfl h1.symm rfl (by simp only[List.length_nil];omega) (by simp only[List.length_nil];omega) hs (hw'.has _ _ List.mem_cons_self)) ?_
   refine ko @x9_ ?_
   refine⟨_,_,_,(ke @x9_),rfl,trivial, ?_⟩
   exact⟨rfl,congrArg (zA_ rest) hT⟩
  ·by_cases h2:V'.length<U'.length
   ·obtain⟨U1,U2,rfl,hU1⟩:=Kn_ U' (Nat.le_of_lt h2)
    rw[List.length_append] at hA h2 hu h1
    have e4: (m:Int) - (U1++U2).length=(A'.length:Nat):=by rw[List.length_append];omega
    first|with_reducible refine ks [] (And.intro @x9_ @e4) ?_|refine kp (And.intro @x9_ @e4) ?_
    refine Ow.callM rfl rfl Tryz.call227 (by simp[keys]) (fun w' hw'=>jG_ rb n c A' U1 U2 V' B' rest fv A'.length m V'.length w' hU1 rfl rfl (by omega) (by omega) hs (by rw[←List.append_assoc U1];exact hw'.has _ _ List.mem_cons_self)) ?_
    have e5: ((U1++U2).length:Int) - (V'.length:Int)=(U2.length:Nat):=by rw[List.length_append];omega
    refine ko (And.intro @x9_ @e5) ?_
    refine Again.mk ⟨A'++V',U2,U1,B'⟩ (by simp only[List.length_append];omega) ⟨by show 0<U2.length;omega,by show 0<U1.length;omega,by simp only[List.length_append];omega, ?_,by show m+U1.length+B'.length=n;omega⟩ ?_ ?_
    ·rw[←hT];simp only[List.append_assoc]
    ·simp only[List.append_assoc]
    ·dsimp only;rw[hU1];rfl
   ·obtain⟨V1,V2,rfl,hV1⟩:=Kn_ V' (show V'.length - U'.length≤V'.length by omega)
    rw[List.length_append] at hN h2 hv h1 hV1
    have e4: (m:Int)+ (V1++V2).length - U'.length=((A'.length+U'.length+V1.length:Nat):Int):=by rw[List.length_append];omega
    first|with_reducible refine ks [] (And.intro @x9_ (And.intro @e3 (@e4))) ?_|refine kp (And.intro @x9_ (And.intro @e3 (@e4))) ?_
    refine Ow.callM rfl rfl Tryz.call227 (by simp[keys]) (fun w' hw'=>jG_ rb n c A' U' V1 V2 B' rest fv A'.length (A'.length+U'.length+V1.length) U'.length w' rfl (by omega) rfl (by omega) (by omega) hs (by rw[←List.append_assoc V1];exact hw'.has _ _ List.mem_cons_self)) ?_
    have e5: ((V1++V2).length:Int) - (U'.length:Int)=(V1.length:Nat):=by rw[List.length_append];omega
    have e6:V2.length=U'.length:=by omega
    refine ko (And.intro @x9_ @e5) ?_
    refine Again.mk ⟨A',V2,V1,U'++B'⟩ (by simp only[List.length_append];omega) ⟨by show 0<V2.length;omega,by show 0<V1.length;omega,by show A'.length+V2.length=m;omega, ?_,by simp only[List.length_append];omega⟩ ?_ ?_
    ·rw[←hT];simp only[List.append_assoc]
    ·simp only[List.append_assoc]
    ·dsimp only;rw[e6];rfl
end Go.Proofs
end
section
open Go Go.Proofs Go.Sx Go.StP
namespace Go.Proofs
set_option maxRecDepth 10000
set_option maxHeartbeats 4000000
set_option linter.unusedSimpArgs false
abbrev jb_ (a b:RwL):Bool:=StP.lt (fun r:RwL=>r.id.l) a b
abbrev zE_ (l:List RwL):Prop:=StP.Sorted (fun r:RwL=>r.id.l) l
abbrev jy_ (l l':List RwL):Prop:=StP.St (fun r:RwL=>r.id.l) l l'
theorem wC_ (a b:RwL):decide (kY_ a b<0)=jb_ a b:=by
 unfold kY_ cmpS jb_ StP.lt
 cases h:ltB a.id.l b.id.l
 ·rw[if_neg (by simp)]
  split<;>rfl
 ·rw[if_pos rfl];rfl
structure rws_InsG where
 S:List RwL
 R:List RwL
set_option linter.defProp false
def xh_:=And.intro (And.intro (@xE_) (And.intro (@j4_) (@xk_))) (And.intro (@q1_) (And.intro (@qB_) (@wC_)))
theorem kk_ (rb n c:Nat) (A M B:List RwL) (rest:List Value) (a b:Nat) (w:World) (ha:A.length=a) (hb:b=a+M.length) (hn:n=b+B.length) (hs:n<1000000)
  (ho:w.heap[rb]? =some (zA_ rest (A++ (M++B)))):
  Rets Tryz.prog 183 #[vsl rb 0 n c,vi a,vi b, .func (.func 121) #[] #[]] w (fun v D=> ∃o,D= [(rb,o)]∧v= .tuple #[]∧ ∃M',o=zA_ rest (A++ (M'++B))∧M'.length=M.length∧zE_ M'∧jy_ M M'):=by
 cases M with
 |nil=>
  simp only[List.length_nil,Nat.add_zero] at hb
  subst hb
  refine Rets.enterM Tryz.func183 rfl (rs:= []) Tryz.results183 Tryz.ntmps183 ho ?_
  refine kf ?_
  first|with_reducible refine ks [] @xh_ ?_|refine kp @xh_ ?_
  refine Cw.loopG (G:=Unit) [12,13,14,17,9,18,19,20,21,22,23,24,25,26,27,28,29,30,31,32,33,34,37,38,39,40,41,42,43,44,45,46,47,48,49,50,51,52,35,36,15,16,8] (fun g=> [(8,vi (b+1))]) (fun g=> [(rb,zA_ rest (A++ ([]++B)))]) (fun g=>True) (fun g=>0) () rfl rfl ?_ ?_
  ·trivial
  ·intro g j hg
   refine kv ?_
   first|with_reducible refine ks [] @xh_ ?_|refine kp @xh_ ?_
   refine⟨_,_,_,(ke @xh_),rfl,trivial, ?_⟩
   exact⟨rfl,[],rfl,rfl,List.Pairwise.nil,StP.St.refl _ _⟩
 |cons x0 M=>
  refine Rets.enterM Tryz.func183 rfl (rs:= []) Tryz.results183 Tryz.ntmps183 ho ?_
  refine kf ?_
  first|with_reducible refine ks [] @xh_ ?_|refine kp @xh_ ?_
  have e0: (a:Int)+1=((a+ [x0].length:Nat):Int):=by simp
  rw[e0]
  refine Cw.loopG (G:=rws_InsG) [12,13,14,17,9,18,19,20,21,22,23,24,25,26,27,28,29,30,31,32,33,34,37,38,39,40,41,42,43,44,45,46,47,48,49,50,51,52,35,36,15,16,8] (fun g=> [(8,vi (a+g.S.length:Nat))]) (fun g=> [(rb,zA_ rest (A++ (g.S++ (g.R++B))))]) (fun g=> ∃M1,x0::M=M1++g.R∧g.S.length=M1.length∧zE_ g.S∧jy_ M1 g.S) (fun g=>g.R.length) ⟨[x0],M⟩ rfl rfl ?_ ?_
  ·exact⟨[x0],rfl,rfl,List.pairwise_singleton _ _,StP.St.refl _ _⟩
  ·intro g j hg
   refine kv ?_
   obtain⟨S,R⟩:=g
   obtain⟨M1,hM,hS1,hS2,hS3⟩:=hg
   dsimp only at hM hS1 hS2 hS3 ⊢
   have hlen:=congrArg List.length hM
   rw[List.length_cons,List.length_append] at hlen
   rw[List.length_cons] at hb
   cases R with
   |nil=>
    rw[List.length_nil] at hlen
    first|with_reducible refine ks [] @xh_ ?_|refine kp @xh_ ?_
    refine⟨_,_,_,(ke @xh_),rfl,trivial, ?_⟩
    exact⟨rfl,S,rfl,by show S.length=M.length+1;omega,hS2,by rw[show x0::M=M1 from by rw[hM,List.append_nil]];exact hS3⟩
   |cons x R=>
    rw[List.length_cons] at hlen
    have e1:A++ (S++ (x::R++B))=z9_ A S x (R++B) S.length:=by rw[Zf_ _ _ _ _ (Nat.le_refl _)];simp only[List.append_assoc,List.cons_append,List.nil_append]
    rw[e1]
    first|with_reducible refine ks [] @xh_ ?_|refine kp @xh_ ?_
    refine Cw.loopG (G:=Nat) [18,19,20,21,22,23,24,25,26,27,28,29,30,31,32,33,34,37,38,39,40,41,42,43,44,45,46,47,48,49,50,51,52,35,36,9] (fun g=> [(9,vi (a+g:Nat))]) (fun g=> [(rb,zA_ rest (z9_ A S x (R++B) g))]) (fun g=>g≤S.length∧(S.length≤g∨jb_ x (S.getD g rw0)=true)) (fun g=>g) S.length rfl rfl ?_ ?_
    ·exact⟨Nat.le_refl _, .inl (Nat.le_refl _)⟩
    ·intro k jk hk
     refine kv ?_
     obtain⟨hk1,hk2⟩:=hk
     have hl:=jv_ A S x (R++B) k
     rw[List.length_append] at hl
     have done: (k=0∨jb_ x (S.getD (k - 1) rw0)=false)→jy_ (M1++ [x]) (S.take k++x::S.drop k)∧zE_ (S.take k++x::S.drop k):=fun h=>by
      obtain⟨q1,q2⟩:=jB_ (z:=rw0) hS2 hk1 h hk2
      exact⟨(StP.St.app hS3 (StP.St.refl _ _)).trans q2,q1⟩
     first|with_reducible refine ks [] @xh_ ?_|refine kp @xh_ ?_
     by_cases hk0:k=0
     ·have e2:decide ((a:Int)< ((a+k:Nat):Int))=false:=decide_eq_false (by omega)
      refine Cw.regionS [rb] [0,1,2,3,4,5,6,7,9,10,11,12,8,13,14,15,16] [] (by kernel_rfl) (by kernel_rfl) (by kernel_rfl) ?_
      simp only[zh_, ↓zd_, ↓zb_, ↓zl_, ↓zm_,za_]
      refine kq (And.intro @xh_ @e2) ?_
      first|with_reducible refine ks [] @xh_ ?_|refine kp @xh_ ?_
      obtain⟨d1,d2⟩:=done (.inl hk0)
      refine Again.mk ⟨S.take k++x::S.drop k,R⟩ (by show R.length< (x::R).length;simp) ⟨M1++ [x],by rw[hM];simp,by simp only[List.length_append,List.length_cons,List.length_nil,List.length_take,List.length_drop];omega,d2,d1⟩ ?_ ?_
      ·rw[xa_]
      ·dsimp only
       rw[show(S.take k++x::S.drop k).length=S.length+1 by simp only[List.length_append,List.length_cons,List.length_take,List.length_drop];omega]
       rfl
     ·have e2:decide ((a:Int)< ((a+k:Nat):Int))=true:=decide_eq_true (by omega)
      refine Cw.regionS [rb] [0,1,2,3,4,5,6,7,9,10,11,12,8,13,14,15,16] [] (by kernel_rfl) (by kernel_rfl) (by kernel_rfl) ?_
      simp only[zh_, ↓zd_, ↓zb_, ↓zl_, ↓zm_,za_]
      refine kq (And.intro @xh_ @e2) ?_
      refine Ow.callFn2 (v:=vi (kY_ x (S.getD (k - 1) rw0))) rfl rfl (by
       show Value.agg _=Value.agg (rwC x).toArray
       rw[xp_ (z:=rw0) hk1 (by rw[ha])]) (by
       show Value.agg _=Value.agg (rwC (S.getD (k - 1) rw0)).toArray
       rw[show k=(k - 1)+1 by omega,Z0_ (z:=rw0) (k:=k - 1) (by omega) (by rw[ha];omega)];rfl) Tryz.call121 (fun w' hw'=>xG_ x (S.getD (k - 1) rw0) w') ?_
      refine kq @xh_ ?_
      cases hc:jb_ x (S.getD (k - 1) rw0)
      ·first|with_reducible refine ks [] @xh_ ?_|refine kp @xh_ ?_
       obtain⟨d1,d2⟩:=done (.inr hc)
       refine Again.mk ⟨S.take k++x::S.drop k,R⟩ (by show R.length< (x::R).length;simp) ⟨M1++ [x],by rw[hM];simp,by simp only[List.length_append,List.length_cons,List.length_nil,List.length_take,List.length_drop];omega,d2,d1⟩ ?_ ?_
       ·rw[xa_]
       ·dsimp only
        rw[show(S.take k++x::S.drop k).length=S.length+1 by simp only[List.length_append,List.length_cons,List.length_take,List.length_drop];omega]
        rfl
      ·first|with_reducible refine ks [] @xh_ ?_|refine kp @xh_ ?_
       obtain⟨k,rfl⟩: ∃q,k=q+1:=⟨k - 1,by omega⟩
       have h1:=xp_ (z:=rw0) (a:=A) (b:=R++B) (x:=x) hk1 (show a+ (k+1)=A.length+ (k+1) by omega)
       have h2:=Z0_ (z:=rw0) (a:=A) (b:=R++B) (x:=x) (k:=k) (s:=S) (by omega) (show a+k=A.length+k by omega)
       have e3:a+ (k+1) - 1=a+k:=by omega
       refine Cw.regionS [rb] [0,1,2,3,4,5,6,7,8,10,11,12,9,13,14,15,16,17] [15,17] (by kernel_rfl) (by kernel_rfl) (by kernel_rfl) ?_
       simp only[zh_, ↓zd_, ↓zb_, ↓zl_, ↓zm_,za_]
       refine kq (And.intro @xh_ (And.intro @e3 (And.intro @h1 (@h2)))) ?_
       refine Ow.store rfl rfl rfl (ke (And.intro @xh_ (And.intro @e3 (And.intro @h1 (@h2))))) ?_
       refine ko (And.intro @xh_ (And.intro @e3 (And.intro @h1 (@h2)))) ?_
       rw[w8_ (by omega),←Nat.add_assoc,v3_ (z:=rw0) (by omega) (by rw[ha])]
       refine Again.mk k (by omega) ⟨by omega, .inr hc⟩ rfl ?_
       rw[show(((a+k+1:Nat):Int)) - 1=((a+k:Nat):Int) by omega]
       rfl
end Go.Proofs
end
section
open Go Go.Proofs Go.Sx Go.StP
namespace Go.Proofs
set_option maxRecDepth 10000
set_option maxHeartbeats 4000000
set_option linter.unusedSimpArgs false
abbrev qS_:Value:= .func (.func 121) #[] #[]
def ZB_ (rb:Nat) (A X Y B:List RwL) (rest:List Value) (v:Value) (D:zc_):Prop:=
 ∃o,D= [(rb,o)]∧v= .tuple #[]∧ ∃Z,o=zA_ rest (A++ (Z++B))∧Z.length=X.length+Y.length∧zE_ Z∧jy_ (X++Y) Z
set_option linter.defProp false
def kM_:=And.intro (And.intro (@xE_) (And.intro (@j4_) (@xk_))) (And.intro (And.intro (@q1_) (@qB_)) (And.intro (@wC_) (@Ze_)))
theorem KE_ (rb n c:Nat) (A:List RwL) (x:RwL) (Y B:List RwL) (rest:List Value) (a m b:Nat) (w:World) (ha:A.length=a) (hm:m=a+1) (hb:b=m+Y.length) (hn:n=b+B.length) (hs:n<1000000) (hY:zE_ Y)
  (ho:w.heap[rb]? =some (zA_ rest (A++ ([x]++ (Y++B))))):
  Rets Tryz.prog 184 #[vsl rb 0 n c,vi a,vi m,vi b,qS_] w (ZB_ rb A [x] Y B rest):=by
 subst hb
 refine Rets.enterM Tryz.func184 rfl (rs:= []) Tryz.results184 Tryz.ntmps184 ho ?_
 refine kf ?_
 first|with_reducible refine ks [] @kM_ ?_|refine kp @kM_ ?_
 have e0:A++x:: (Y++B)=z9_ A Y x B 0:=by rw[XY_];simp only[List.append_assoc,List.cons_append,List.nil_append]
 rw[e0]
 refine Cw.loopG (G:=BsG) [31,32,33,34,35,36,37,38,39,12,40,41,42,43,44,45,46,47,48,49,50,51,52,10,53,11] (fun g=> [(10,vi (m+g.i:Nat)),(11,vi (m+g.j:Nat))]) (fun g=> [(rb,zA_ rest (z9_ A Y x B 0))]) (fun g=>g.i≤g.j∧g.j≤Y.length∧(g.i=0∨jb_ (Y.getD (g.i - 1) rw0) x=true)∧(Y.length≤g.j∨jb_ (Y.getD g.j rw0) x=false)) (fun g=>g.j - g.i) ⟨0,Y.length⟩ rfl rfl ?_ ?_
 ·exact⟨Nat.zero_le _,Nat.le_refl _, .inl rfl, .inl (Nat.le_refl _)⟩
 ·intro g j hg
  refine kv ?_
  obtain⟨i,j⟩:=g
  obtain⟨h1,h2,h3,h4⟩:=hg
  dsimp only at h1 h2 h3 h4 ⊢
  by_cases hij:i<j
  ·have e1: (m+i+ (m+j)) / 2=m+ (i+j) / 2:=by omega
   have hl:=jv_ A Y x B 0
   first|with_reducible refine ks [] (And.intro @kM_ @e1) ?_|refine kp (And.intro @kM_ @e1) ?_
   have g1: (z9_ A Y x B 0).getD (m+ (i+j) / 2) rw0=Y.getD ((i+j) / 2) rw0:=ac7_ (Nat.zero_le _) (by omega) (by omega)
   have g2: (z9_ A Y x B 0).getD a rw0=x:=xp_ (Nat.zero_le _) (by omega)
   refine Cw.regionS [rb] [0,1,2,3,5,6,7,4,8,9,10] [] (by kernel_rfl) (by kernel_rfl) (by kernel_rfl) ?_
   simp only[zh_, ↓zd_, ↓zb_, ↓zl_, ↓zm_,za_]
   refine kq (And.intro @kM_ (And.intro @g1 (@g2))) ?_
   refine Ow.callFn2 (v:=vi (kY_ (Y.getD ((i+j) / 2) rw0) x)) rfl rfl rfl rfl Tryz.call121 (fun w' hw'=>xG_ _ _ w') ?_
   refine kq @kM_ ?_
   cases hc:jb_ (Y.getD ((i+j) / 2) rw0) x
   ·first|with_reducible refine ks [] @kM_ ?_|refine kp @kM_ ?_
    refine Again.mk ⟨i,(i+j) / 2⟩ (by show(i+j) / 2 - i<j - i;omega) ⟨by show i≤ (i+j) / 2;omega,by show(i+j) / 2≤Y.length;omega,h3, .inr hc⟩ rfl rfl
   ·first|with_reducible refine ks [] @kM_ ?_|refine kp @kM_ ?_
    refine Again.mk ⟨(i+j) / 2+1,j⟩ (by show j - ((i+j) / 2+1)<j - i;omega) ⟨by show(i+j) / 2+1≤j;omega,h2, .inr hc,h4⟩ rfl rfl
  ·obtain rfl:i=j:=by omega
   first|with_reducible refine ks [] @kM_ ?_|refine kp @kM_ ?_
   refine Cw.loopG (G:=Nat) [55,56,57,58,61,62,63,64,65,66,67,68,69,70,71,72,73,74,75,76,59,60,13] (fun g=> [(13,vi (a+g:Nat))]) (fun g=> [(rb,zA_ rest (z9_ A Y x B g))]) (fun g=>g≤i) (fun g=>i - g) 0 rfl rfl ?_ ?_
   ·exact Nat.zero_le _
   ·intro k jk hk
    refine kv ?_
    by_cases hk1:k<i
    ·first|with_reducible refine ks [] @kM_ ?_|refine kp @kM_ ?_
     have hl:=jv_ A Y x B k
     have g1: (z9_ A Y x B k).getD (a+k) rw0=x:=xp_ (by omega) (by omega)
     have g2: (z9_ A Y x B k).getD (a+k+1) rw0=Y.getD k rw0:=ahl_ (by omega) (by omega)
     refine Cw.regionS [rb] [0,1,2,3,4,5,6,7,8,10,11,12,9,13,14,15,16,17] [15,17] (by kernel_rfl) (by kernel_rfl) (by kernel_rfl) ?_
     simp only[zh_, ↓zd_, ↓zb_, ↓zl_, ↓zm_,za_]
     refine kq (And.intro @kM_ (And.intro @g1 (@g2))) ?_
     refine Ow.store rfl rfl rfl (ke (And.intro @kM_ (And.intro @g1 (@g2)))) ?_
     refine ko (And.intro @kM_ (And.intro @g1 (@g2))) ?_
     rw[adp_ (z:=rw0) (by omega) (by omega)]
     exact Again.mk (k+1) (by omega) (by omega) rfl rfl
    ·obtain rfl:k=i:=by omega
     first|with_reducible refine ks [] @kM_ ?_|refine kp @kM_ ?_
     have hz:=Za_ (z:=rw0) hY h2 h3 h4
     refine⟨_,_,_,(ke @kM_),rfl,trivial, ?_⟩
     exact⟨rfl,_,by rw[xa_],by simp only[List.length_append,List.length_cons,List.length_nil,List.length_take,List.length_drop];omega,hz.1,hz.2⟩
end Go.Proofs
end
section
open Go Go.Proofs Go.Sx Go.StP
namespace Go.Proofs
set_option maxRecDepth 10000
set_option maxHeartbeats 4000000
set_option linter.unusedSimpArgs false
set_option linter.defProp false
def zV_:=And.intro (And.intro (@xE_) (And.intro (@j4_) (@xk_))) (And.intro (And.intro (@q1_) (@qB_)) (And.intro (@wC_) (@Ze_)))
theorem Xq_ (rb n c:Nat) (A X:List RwL) (y:RwL) (B:List RwL) (rest:List Value) (a m b:Nat) (w:World) (ha:A.length=a) (hm:m=a+X.length) (hX2:X.length≠1) (hb:b=m+1) (hn:n=b+B.length) (hs:n<1000000) (hX:zE_ X)
  (ho:w.heap[rb]? =some (zA_ rest (A++ (X++ ([y]++B))))):
  Rets Tryz.prog 184 #[vsl rb 0 n c,vi a,vi m,vi b,qS_] w (ZB_ rb A X [y] B rest):=by
 subst hm
 refine Rets.enterM Tryz.func184 rfl (rs:= []) Tryz.results184 Tryz.ntmps184 ho ?_
 refine kf ?_
 first|with_reducible refine ks [] @zV_ ?_|refine kp @zV_ ?_
 have e0:A++ (X++y::B)=z9_ A X y B X.length:=by rw[Zf_ _ _ _ _ (Nat.le_refl _)];simp only[List.append_assoc,List.cons_append,List.nil_append]
 rw[e0]
 refine Cw.loopG (G:=BsG) [83,84,85,86,87,88,89,90,91,16,92,93,94,95,96,97,98,99,100,101,102,103,104,105,14,106,15] (fun g=> [(14,vi (a+g.i:Nat)),(15,vi (a+g.j:Nat))]) (fun g=> [(rb,zA_ rest (z9_ A X y B X.length))]) (fun g=>g.i≤g.j∧g.j≤X.length∧(g.i=0∨jb_ y (X.getD (g.i - 1) rw0)=false)∧(X.length≤g.j∨jb_ y (X.getD g.j rw0)=true)) (fun g=>g.j - g.i) ⟨0,X.length⟩ rfl rfl ?_ ?_
 ·exact⟨Nat.zero_le _,Nat.le_refl _, .inl rfl, .inl (Nat.le_refl _)⟩
 ·intro g j hg
  refine kv ?_
  obtain⟨i,j⟩:=g
  obtain⟨h1,h2,h3,h4⟩:=hg
  dsimp only at h1 h2 h3 h4 ⊢
  by_cases hij:i<j
  ·have e1: (a+i+ (a+j)) / 2=a+ (i+j) / 2:=by omega
   have hl:=jv_ A X y B X.length
   first|with_reducible refine ks [] (And.intro @zV_ @e1) ?_|refine kp (And.intro @zV_ @e1) ?_
   have g1: (z9_ A X y B X.length).getD (a+ (i+j) / 2) rw0=X.getD ((i+j) / 2) rw0:=ac5_ (by omega) (by omega) (by omega)
   have g2: (z9_ A X y B X.length).getD (a+X.length) rw0=y:=xp_ (Nat.le_refl _) (by omega)
   refine Cw.regionS [rb] [0,1,2,3,5,6,7,4,8,9,10,11] [] (by kernel_rfl) (by kernel_rfl) (by kernel_rfl) ?_
   simp only[zh_, ↓zd_, ↓zb_, ↓zl_, ↓zm_,za_]
   refine kq (And.intro @zV_ (And.intro @g1 (@g2))) ?_
   refine Ow.callFn2 (v:=vi (kY_ y (X.getD ((i+j) / 2) rw0))) rfl rfl rfl rfl Tryz.call121 (fun w' hw'=>xG_ _ _ w') ?_
   refine kq @zV_ ?_
   cases hc:jb_ y (X.getD ((i+j) / 2) rw0)
   ·first|with_reducible refine ks [] @zV_ ?_|refine kp @zV_ ?_
    refine Again.mk ⟨(i+j) / 2+1,j⟩ (by show j - ((i+j) / 2+1)<j - i;omega) ⟨by show(i+j) / 2+1≤j;omega,h2, .inr hc,h4⟩ rfl rfl
   ·first|with_reducible refine ks [] @zV_ ?_|refine kp @zV_ ?_
    refine Again.mk ⟨i,(i+j) / 2⟩ (by show(i+j) / 2 - i<j - i;omega) ⟨by show i≤ (i+j) / 2;omega,by show(i+j) / 2≤X.length;omega,h3, .inr hc⟩ rfl rfl
  ·obtain rfl:i=j:=by omega
   first|with_reducible refine ks [] @zV_ ?_|refine kp @zV_ ?_
   refine Cw.loopG (G:=Nat) [108,109,110,113,114,115,116,117,118,119,120,121,122,123,124,125,126,127,128,111,112,17] (fun g=> [(17,vi (a+g:Nat))]) (fun g=> [(rb,zA_ rest (z9_ A X y B g))]) (fun g=>i≤g∧g≤X.length) (fun g=>g) X.length rfl rfl ?_ ?_
   ·exact⟨h2,Nat.le_refl _⟩
   ·intro k jk hk
    refine kv ?_
    obtain⟨hk1,hk2⟩:=hk
    by_cases hk:i<k
    ·obtain⟨k,rfl⟩: ∃q,k=q+1:=⟨k - 1,by omega⟩
     first|with_reducible refine ks [] @zV_ ?_|refine kp @zV_ ?_
     have hl:=jv_ A X y B (k+1)
     have g1: (z9_ A X y B (k+1)).getD (a+ (k+1)) rw0=y:=xp_ (by omega) (by omega)
     have g2: (z9_ A X y B (k+1)).getD (a+k) rw0=X.getD k rw0:=Z0_ (by omega) (by omega)
     have e3:a+ (k+1) - 1=a+k:=by omega
     refine Cw.regionS [rb] [0,1,2,3,4,5,6,7,8,10,11,12,9,13,14,15,16,17] [15,17] (by kernel_rfl) (by kernel_rfl) (by kernel_rfl) ?_
     simp only[zh_, ↓zd_, ↓zb_, ↓zl_, ↓zm_,za_]
     refine kq (And.intro @zV_ (And.intro @e3 (And.intro @g1 (@g2)))) ?_
     refine Ow.store rfl rfl rfl (ke (And.intro @zV_ (And.intro @e3 (And.intro @g1 (@g2))))) ?_
     refine ko (And.intro @zV_ (And.intro @e3 (And.intro @g1 (@g2)))) ?_
     rw[w8_ (by omega),←Nat.add_assoc,v3_ (z:=rw0) (by omega) (by omega)]
     refine Again.mk k (by omega) ⟨by omega,by omega⟩ rfl ?_
     rw[show(((a+k+1:Nat):Int)) - 1=((a+k:Nat):Int) by omega]
     rfl
    ·obtain rfl:k=i:=by omega
     first|with_reducible refine ks [] @zV_ ?_|refine kp @zV_ ?_
     have hz:=jB_ (z:=rw0) hX h2 h3 h4
     refine⟨_,_,_,(ke @zV_),rfl,trivial, ?_⟩
     exact⟨rfl,_,by rw[xa_],by simp only[List.length_append,List.length_cons,List.length_nil,List.length_take,List.length_drop];omega,hz.1,hz.2⟩
theorem afI_ {A X C:List RwL} {h i:Nat} (hh:h<X.length) (e:i=A.length+h): (A++ (X++C)).getD i rw0=X.getD h rw0:=by
 subst e
 rw[qH_ (by omega),Nat.add_sub_cancel_left,qQ_ hh]
theorem agM_ {A X Y C:List RwL} {h i:Nat} (hh:h<Y.length) (e:i=A.length+X.length+h): (A++ (X++ (Y++C))).getD i rw0=Y.getD h rw0:=by
 subst e
 rw[qH_ (by omega),qH_ (by omega),qQ_ (by omega)]
 congr 1;omega
theorem ky_ (q:Nat): ∀ (rb n c:Nat) (A X Y B:List RwL) (rest:List Value) (a m b:Nat) (w:World) (_ha:A.length=a) (_hm:m=a+X.length) (_hb:b=m+Y.length) (_hn:n=b+B.length) (_hs:n<1000000) (_hX:zE_ X) (_hY:zE_ Y) (_hx0:0<X.length) (_hy0:0<Y.length) (_hq:X.length+Y.length≤q)
  (_ho:w.heap[rb]? =some (zA_ rest (A++ (X++ (Y++B))))),
  Rets Tryz.prog 184 #[vsl rb 0 n c,vi a,vi m,vi b,qS_] w (ZB_ rb A X Y B rest):=by
 induction q with
 |zero=>intros;omega
 |succ q ih=>
  intro rb n c A X Y B rest a m b w ha hm hb hn hs hX hY hx0 hy0 hq ho
  by_cases hX1:X.length=1
  ·obtain⟨x,rfl⟩:=List.length_eq_one_iff.1 hX1
   exact KE_ rb n c A x Y B rest a m b w ha hm hb hn hs hY ho
  by_cases hY1:Y.length=1
  ·obtain⟨y,rfl⟩:=List.length_eq_one_iff.1 hY1
   exact Xq_ rb n c A X y B rest a m b w ha hm hX1 hb hn hs hX ho
  have e1: (m:Int) - a=(X.length:Nat):=by omega
  have e2: (b:Int) - m=(Y.length:Nat):=by omega
  refine Rets.enterM Tryz.func184 rfl (rs:= []) Tryz.results184 Tryz.ntmps184 ho ?_
  refine kf ?_
  obtain⟨mid,hmd⟩: ∃q,q=(a+b) / 2:=⟨_,rfl⟩
  obtain⟨nn,hnn⟩: ∃q,q=mid+m:=⟨_,rfl⟩
  have e3: (mid:Int)+ (m:Int)=(nn:Nat):=by omega
  have e5: (nn:Int) - 1=((nn - 1:Nat):Int):=by omega
  have hl: (A++ (X++ (Y++B))).length=n:=by simp only[List.length_append];omega
  ((try with_reducible refine Cw.go [1000027] ?_);(try simp(disch:=(first|assumption|omega| (simp only[kd_,kc_,UInt64.reduceToNat];try omega))) only[↓Sx.S0,Sx.S1,Tryz.fx,zV_,Nat.reduceAdd,Nat.reducePow,Int.reducePow,Nat.reduceBEq, ↓reduceIte,UInt8.reduceToNat,UInt16.reduceToNat,UInt32.reduceToNat,UInt64.reduceToNat,Int.reduceToNat,e1,e2,←hmd,e3,e5]))
  refine Cw.cut (G:=BsG) 220 (fun g=> [(0,vsl rb 0 n c),(1,vi a),(2,vi m),(3,vi b),(4,qS_),(18,vi mid),(19,vi nn),(20,vi g.i),(21,vi g.j)]) (fun g=> [(rb,zA_ rest (A++ (X++ (Y++B))))]) (fun g=>g.i≤g.j∧g.j≤m∧nn≤b+g.i∧m+g.j≤nn∧a≤g.i∧(g.i=a∨nn=b+g.i)∧(g.j=m∨m+g.j=nn)) ?_ ?_
  ·by_cases hmid:mid<m
   ·have e4: (nn:Int) - (b:Int)=((nn - b:Nat):Int):=by omega
    first|with_reducible refine ks [] (And.intro @zV_ @e4) ?_|refine kp (And.intro @zV_ @e4) ?_
    exact CutM.mk ⟨nn - b,mid⟩ ⟨by show nn - b≤mid;omega,by show mid≤m;omega,by show nn≤b+ (nn - b);omega,by show m+mid≤nn;omega,by show a≤nn - b;omega, .inr (by show nn=b+ (nn - b);omega), .inr (by show m+mid=nn;omega)⟩ rfl rfl
   ·first|with_reducible refine ks [] @zV_ ?_|refine kp @zV_ ?_
    exact CutM.mk ⟨a,m⟩ ⟨by show a≤m;omega,by show m≤m;omega,by show nn≤b+a;omega,by show m+m≤nn;omega,by show a≤a;omega, .inl rfl, .inl rfl⟩ rfl rfl
  ·intro g j hg
   simp only[X5_,Kj_,pin,Z7_,Qc_,Nat.reduceAdd]
   obtain⟨s0,r0⟩:=g
   obtain⟨f1,f2,f3,f4,f5,f6,f7⟩:=hg
   dsimp only at f1 f2 f3 f4 f5 f6 f7 ⊢
   first|with_reducible refine ks [1000039,1000041] (And.intro @zV_ @e5) ?_|refine kp (And.intro @zV_ @e5) ?_
   refine Cw.loopG (G:=BsG) [149,150,151,152,153,154,155,156,157,23,158,159,160,161,162,163,164,165,166,167,168,169,170,171,172,173,20,174,21] (fun g=> [(20,vi g.i),(21,vi g.j)]) (fun g=> [(rb,zA_ rest (A++ (X++ (Y++B))))]) (fun g=>s0≤g.i∧g.i≤g.j∧g.j≤r0∧(g.i=s0∨jb_ ((A++ (X++ (Y++B))).getD (nn - g.i) rw0) ((A++ (X++ (Y++B))).getD (g.i - 1) rw0)=false)∧(g.j=r0∨jb_ ((A++ (X++ (Y++B))).getD (nn - 1 - g.j) rw0) ((A++ (X++ (Y++B))).getD g.j rw0)=true)) (fun g=>g.j - g.i) ⟨s0,r0⟩ rfl rfl ?_ ?_
   ·exact⟨Nat.le_refl _,f1,Nat.le_refl _, .inl rfl, .inl rfl⟩
   ·intro g j hg
    refine kv ?_
    obtain⟨i,j⟩:=g
    obtain⟨h1,h2,h3,h4,h5⟩:=hg
    dsimp only at h1 h2 h3 h4 h5 ⊢
    by_cases hij:i<j
    ·obtain⟨h,hh⟩: ∃q,q=(i+j) / 2:=⟨_,rfl⟩
     have e6: ((nn - 1:Nat):Int) - (h:Int)=((nn - 1 - h:Nat):Int):=by omega
     ((try with_reducible refine Cw.go [] ?_);(try simp(disch:=(first|assumption|omega| (simp only[kd_,kc_,UInt64.reduceToNat];try omega))) only[↓Sx.S0,Sx.S1,Tryz.fx,zV_,Nat.reduceAdd,Nat.reducePow,Int.reducePow,Nat.reduceBEq, ↓reduceIte,UInt8.reduceToNat,UInt16.reduceToNat,UInt32.reduceToNat,UInt64.reduceToNat,Int.reduceToNat,←hh]))
     refine Cw.regionS [rb] [0,1,2,3,4,5,7,8,9,6,10,11,12,13] [] (by kernel_rfl) (by kernel_rfl) (by kernel_rfl) ?_
     simp only[zh_, ↓zd_, ↓zb_, ↓zl_, ↓zm_,za_]
     refine kq (And.intro @zV_ @e6) ?_
     refine Ow.callFn2 (v:=vi (kY_ ((A++ (X++ (Y++B))).getD (nn - 1 - h) rw0) ((A++ (X++ (Y++B))).getD h rw0))) rfl rfl rfl rfl Tryz.call121 (fun w' hw'=>xG_ _ _ w') ?_
     refine kq @zV_ ?_
     cases hc:jb_ ((A++ (X++ (Y++B))).getD (nn - 1 - h) rw0) ((A++ (X++ (Y++B))).getD h rw0)
     ·first|with_reducible refine ks [] @zV_ ?_|refine kp @zV_ ?_
      refine Again.mk ⟨h+1,j⟩ (by show j - (h+1)<j - i;omega) ⟨by show s0≤h+1;omega,by show h+1≤j;omega,h3, .inr ?_,h5⟩ rfl rfl
      show jb_ ((A++ (X++ (Y++B))).getD (nn - (h+1)) rw0) ((A++ (X++ (Y++B))).getD (h+1 - 1) rw0)=false
      rw[show nn - (h+1)=nn - 1 - h by omega,Nat.add_sub_cancel];exact hc
     ·first|with_reducible refine ks [] @zV_ ?_|refine kp @zV_ ?_
      refine Again.mk ⟨i,h⟩ (by show h - i<j - i;omega) ⟨h1,by show i≤h;omega,by show h≤r0;omega,h4, .inr hc⟩ rfl rfl
    ·obtain rfl:i=j:=by omega
     obtain⟨ix,hix⟩: ∃q,q=i - a:=⟨_,rfl⟩
     obtain⟨jy,hjy⟩: ∃q,q=nn - i - m:=⟨_,rfl⟩
     have q1:jy=0∨X.length≤ix∨jb_ (Y.getD (jy - 1) rw0) (X.getD ix rw0)=true:=by
      by_cases c1:jy=0
      ·exact .inl c1
      by_cases c2:X.length≤ix
      ·exact .inr (.inl c2)
      rcases h5 with h5|h5
      ·omega
      ·rw[agM_ (h:=jy - 1) (by omega) (by omega),afI_ (h:=ix) (by omega) (by omega)] at h5
       exact .inr (.inr h5)
     have q2:ix=0∨Y.length≤jy∨jb_ (Y.getD jy rw0) (X.getD (ix - 1) rw0)=false:=by
      by_cases c1:ix=0
      ·exact .inl c1
      by_cases c2:Y.length≤jy
      ·exact .inr (.inl c2)
      rcases h4 with h4|h4
      ·omega
      ·rw[agM_ (h:=jy) (by omega) (by omega),afI_ (h:=ix - 1) (by omega) (by omega)] at h4
       exact .inr (.inr h4)
     have hmc:=fun x1 x2=>Wl_ (z:=rw0) (x1:=x1) (x2:=x2) hX hY (show ix≤X.length by omega) (show jy≤Y.length by omega) q1 q2
     have sX1:zE_ (X.take ix):=StP.Sorted.left (b:=X.drop ix) (by rw[List.take_append_drop];exact hX)
     have sX2:zE_ (X.drop ix):=StP.Sorted.right (a:=X.take ix) (by rw[List.take_append_drop];exact hX)
     have sY1:zE_ (Y.take jy):=StP.Sorted.left (b:=Y.drop jy) (by rw[List.take_append_drop];exact hY)
     have sY2:zE_ (Y.drop jy):=StP.Sorted.right (a:=Y.take jy) (by rw[List.take_append_drop];exact hY)
     have hrow:A++ (X++ (Y++B))=A++ (X.take ix++ (X.drop ix++ (Y.take jy++ (Y.drop jy++B)))):=by
      rw[←List.append_assoc (X.take ix),List.take_append_drop,←List.append_assoc (Y.take jy),List.take_append_drop]
     have lX1: (X.take ix).length=ix:=by rw[List.length_take];omega
     have lX2: (X.drop ix).length=m - i:=by rw[List.length_drop];omega
     have lY1: (Y.take jy).length=jy:=by rw[List.length_take];omega
     have lY2: (Y.drop jy).length=b - m - jy:=by rw[List.length_drop];omega
     have e7: (nn:Int) - (i:Int)=((m+jy:Nat):Int):=by omega
     first|with_reducible refine ks [] (And.intro @zV_ @e7) ?_|refine kp (And.intro @zV_ @e7) ?_
     rw[hrow]
     generalize X.take ix=X1 at*
     generalize X.drop ix=X2 at*
     generalize Y.take jy=Y1 at*
     generalize Y.drop jy=Y2 at*
     have em:mid=i+jy:=by omega
     refine Cw.cut (G:=Unit) 220 (fun g=> [(0,vsl rb 0 n c),(1,vi a),(2,vi m),(3,vi b),(4,qS_),(18,vi mid),(20,vi i),(24,vi (m+jy:Nat))]) (fun g=> [(rb,zA_ rest (A++ (X1++ (Y1++ (X2++ (Y2++B))))))]) (fun g=>True) ?_ ?_
     ·by_cases c1:i<m
      ·have d1:decide ((i:Int)< (m:Int))=true:=decide_eq_true (by omega)
       by_cases c2:0<jy
       ·have d2:decide ((m:Int)< ((m+jy:Nat):Int))=true:=decide_eq_true (by omega)
        first|with_reducible refine ks [] (And.intro @zV_ (And.intro @d1 (@d2))) ?_|refine kp (And.intro @zV_ (And.intro @d1 (@d2))) ?_
        refine Ow.callM rfl rfl Tryz.call213 (by simp[keys]) (fun w' hw'=>Q2_ rb n c (A++X1) X2 Y1 (Y2++B) rest qS_ i m (m+jy) w' (by omega) (by omega) (by rw[List.length_append];omega) (by omega) (by omega) (by rw[List.length_append];omega) hs (by rw[List.append_assoc];exact hw'.has _ _ List.mem_cons_self)) ?_
        refine ko @zV_ ?_
        exact CutM.mk () trivial (by simp only[List.append_assoc]) rfl
       ·have d2:decide ((m:Int)< ((m+jy:Nat):Int))=false:=decide_eq_false (by omega)
        first|with_reducible refine ks [] (And.intro @zV_ (And.intro @d1 (@d2))) ?_|refine kp (And.intro @zV_ (And.intro @d1 (@d2))) ?_
        obtain rfl:Y1= []:=List.eq_nil_of_length_eq_zero (by omega)
        exact CutM.mk () trivial (by simp only[List.nil_append]) rfl
      ·have d1:decide ((i:Int)< (m:Int))=false:=decide_eq_false (by omega)
       first|with_reducible refine ks [] (And.intro @zV_ @d1) ?_|refine kp (And.intro @zV_ @d1) ?_
       obtain rfl:X2= []:=List.eq_nil_of_length_eq_zero (by omega)
       exact CutM.mk () trivial (by simp only[List.nil_append]) rfl
     ·intro u ju hu
      simp only[X5_,Kj_,pin,Z7_,Qc_,Nat.reduceAdd]
      first|with_reducible refine ks [1000041,1000043] @zV_ ?_|refine kp @zV_ ?_
      refine Cw.cut (G:=(List RwL)) 220 (fun g=> [(0,vsl rb 0 n c),(3,vi b),(4,qS_),(18,vi mid),(24,vi (m+jy:Nat))]) (fun g=> [(rb,zA_ rest (A++ (g++ (X2++ (Y2++B)))))]) (fun g=>g.length=ix+jy∧zE_ g∧jy_ (X1++Y1) g) ?_ ?_
      ·by_cases c1:a<i
       ·have d1:decide ((a:Int)< (i:Int))=true:=decide_eq_true (by omega)
        by_cases c2:0<jy
        ·have d2:decide ((i:Int)< (mid:Int))=true:=decide_eq_true (by omega)
         first|with_reducible refine ks [] (And.intro @zV_ (And.intro @d1 (@d2))) ?_|refine kp (And.intro @zV_ (And.intro @d1 (@d2))) ?_
         refine Ow.callE rfl rfl Tryz.call184 (by simp[keys]) (fun w' hw'=>ih rb n c A X1 Y1 (X2++ (Y2++B)) rest a i mid w' ha (by omega) (by omega) (by simp only[List.length_append];omega) hs sX1 sY1 (by omega) (by omega) (by omega) (hw'.has _ _ List.mem_cons_self)) (fun v1 o1 hS1=> ?_)
         obtain⟨rfl,Z1,rfl,z1,z2,z3⟩:=hS1
         refine ko @zV_ ?_
         exact CutM.mk Z1 ⟨by omega,z2,z3⟩ rfl rfl
        ·have d2:decide ((i:Int)< (mid:Int))=false:=decide_eq_false (by omega)
         first|with_reducible refine ks [] (And.intro @zV_ (And.intro @d1 (@d2))) ?_|refine kp (And.intro @zV_ (And.intro @d1 (@d2))) ?_
         obtain rfl:Y1= []:=List.eq_nil_of_length_eq_zero (by omega)
         exact CutM.mk X1 ⟨by omega,sX1,by rw[List.append_nil];exact StP.St.refl _ _⟩ rfl rfl
       ·have d1:decide ((a:Int)< (i:Int))=false:=decide_eq_false (by omega)
        first|with_reducible refine ks [] (And.intro @zV_ @d1) ?_|refine kp (And.intro @zV_ @d1) ?_
        obtain rfl:X1= []:=List.eq_nil_of_length_eq_zero (by omega)
        exact CutM.mk Y1 ⟨by omega,sY1,StP.St.refl _ _⟩ (by simp only[List.nil_append]) rfl
      ·intro Z1 jZ1 hZ1
       simp only[X5_,Kj_,pin,Z7_,Qc_,Nat.reduceAdd]
       obtain⟨z1,z2,z3⟩:=hZ1
       by_cases c1:i<m
       ·have d1:decide ((mid:Int)< ((m+jy:Nat):Int))=true:=decide_eq_true (by omega)
        by_cases c2:m+jy<b
        ·have d2:decide (((m+jy:Nat):Int)< (b:Int))=true:=decide_eq_true (by omega)
         first|with_reducible refine ks [] (And.intro @zV_ (And.intro @d1 (@d2))) ?_|refine kp (And.intro @zV_ (And.intro @d1 (@d2))) ?_
         refine Ow.callE rfl rfl Tryz.call184 (by simp[keys]) (fun w' hw'=>ih rb n c (A++Z1) X2 Y2 B rest mid (m+jy) b w' (by rw[List.length_append];omega) (by omega) (by omega) hn hs sX2 sY2 (by omega) (by omega) (by omega) (by rw[List.append_assoc];exact hw'.has _ _ List.mem_cons_self)) (fun v2 o2 hS2=> ?_)
         obtain⟨rfl,Z2,rfl,y1,y2,y3⟩:=hS2
         obtain⟨r1,r2⟩:=hmc Z1 Z2 z2 z3 y2 y3
         refine ko @zV_ ?_
         refine⟨_,_,_,(ke @zV_),rfl,trivial, ?_⟩
         exact⟨rfl,Z1++Z2,by simp only[List.append_assoc],by rw[List.length_append];omega,r1,r2⟩
        ·have d2:decide (((m+jy:Nat):Int)< (b:Int))=false:=decide_eq_false (by omega)
         first|with_reducible refine ks [] (And.intro @zV_ (And.intro @d1 (@d2))) ?_|refine kp (And.intro @zV_ (And.intro @d1 (@d2))) ?_
         obtain rfl:Y2= []:=List.eq_nil_of_length_eq_zero (by omega)
         obtain⟨r1,r2⟩:=hmc Z1 X2 z2 z3 sX2 (by rw[List.append_nil];exact StP.St.refl _ _)
         refine⟨_,_,_,(ke @zV_),rfl,trivial, ?_⟩
         exact⟨rfl,Z1++X2,by simp only[List.append_assoc,List.nil_append],by rw[List.length_append];omega,r1,r2⟩
       ·have d1:decide ((mid:Int)< ((m+jy:Nat):Int))=false:=decide_eq_false (by omega)
        first|with_reducible refine ks [] (And.intro @zV_ @d1) ?_|refine kp (And.intro @zV_ @d1) ?_
        obtain rfl:X2= []:=List.eq_nil_of_length_eq_zero (by omega)
        obtain⟨r1,r2⟩:=hmc Z1 Y2 z2 z3 sY2 (StP.St.refl _ _)
        refine⟨_,_,_,(ke @zV_),rfl,trivial, ?_⟩
        exact⟨rfl,Z1++Y2,by simp only[List.append_assoc,List.nil_append],by rw[List.length_append];omega,r1,r2⟩
end Go.Proofs
end
