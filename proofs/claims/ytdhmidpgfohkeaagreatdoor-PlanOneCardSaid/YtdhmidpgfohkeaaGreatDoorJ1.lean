/-
  Part 1 of the walk: contracts of the functions that the law reaches, and the calculus they stand on.
  No conditions.
-/
import Derived.Test.YtdhmidpgfohkeaaGreatDoorJ0
import Derived.Test.YtdhmidpgfohkeaaGreatDoorProg
import Derived.RangeFuncLeaves
import Derived.RangeFuncIn
import Derived.RangeFuncSeq
import Derived.RangeFuncRecord
import Derived.TacticsIn
set_option linter.unusedVariables false
namespace Go.Sx
open Go
theorem wr_ {α:Type}: (∀ (a:α) (l:List α),(a::l).length=l.length+1)∧([]:List α).length=0∧(∀ (l:List α) (i:Nat) (a:α),(l.set i a).length=l.length)∧(∀ (l m:List α),(l++m).length=l.length+m.length)∧
  (∀ (n:Nat) (a:α),(List.replicate n a).length=n)∧(∀ (n:Nat) (l:List α),(l.take n).length=min n l.length)∧(∀ (n:Nat) (l:List α),(l.drop n).length=l.length - n)∧ ∀ {β:Type} (f:α→β) (l:List α),(l.map f).length=l.length:=
 ⟨fun _ _=>List.length_cons,List.length_nil,fun _ _ _=>List.length_set,fun _ _=>List.length_append,fun _ _=>List.length_replicate,fun _ _=>List.length_take,fun _ _=>List.length_drop,fun _ _=>List.length_map ..⟩
theorem we_: (∀n:Nat,((n:Int)).toNat=n)∧(∀l:List UInt8,(a8 l).size=l.length)∧(∀l:List UInt32,(a32 l).size=l.length)∧(∀p:Prop,(p∧p)=p)∧(∀p:Prop,(p∧True)=p)∧ ∀p:Prop,(True∧p)=p:=
 ⟨Int.toNat_natCast,x5_,wQ_,fun _=>and_self _,fun _=>and_true _,fun _=>true_and _⟩
inductive Tag {α:Type} (x:α):Type
 |mk:Tag x
def seqN (F:Fr→zb_→xp_→Prop) (K:xp_) (f:Fr) (L:zb_):Prop:=F f L K
def cdC (v:Value) (A B S:Prop) (_:Tag (A,B,S)):Prop:=
 match v with
 | .bool true=>A
 | .bool false=>B
 |_=>S
abbrev CwS (P:Program) (w0:World) (c:Code) (f:Fr) (L:zb_) (K:xp_) (_:Tag (c,K)):Prop:=Cw P w0 c f L K
abbrev OwS (P:Program) (w0:World) (ops:Array Oper) (md:Md) (l:List Oper) (f:Fr) (L:zb_) (N:Fr→zb_→Prop) (_:Tag (ops,l,N)):Prop:=Ow P w0 ops md l f L N
def bsK (K:xp_) (e:Exit) (f:Fr) (L:zb_):Dep K:=K e f L
def bsN (N:Fr→zb_→Prop) (f:Fr) (L:zb_):Dep N:=N f L
abbrev bsR (K:xp_) (e:Exit) (f:Fr) (L:zb_) (_:Tag K):Prop:=K e f L
abbrev bsM (N:Fr→zb_→Prop) (f:Fr) (L:zb_) (_:Tag N):Prop:=N f L
def owk (P:Program) (w0:World) (ops:Array Oper) (N:Fr→zb_→Prop) (md:Md) (l:List Oper) (f:Fr) (L:zb_):Dep (ops,N):=
 match l with
 | []=>N f L
 |o::r=>Ow P w0 ops md (o::r) f L N
def fid:Code→Nat
 | .seq a _=>fid a
 | .region i _ _=>i
 | .block _ c=>fid c
 | .loop c=>fid c
 | .scope c=>fid c
 |_=>500000
def abQ_ (z:List Nat) (c:Code):Bool:=match z with
 | []=>false
 |k::r=>(k==1000000+fid c) ||abQ_ r c
def vcC (P:Program) (w0:World) (z:List Nat):Code→Fr→zb_→xp_→Prop
 | .seq x y,f,L,K=>ib (abQ_ z (.seq x y)) (CwS P w0 (.seq x y) f L K .mk) (vcC P w0 z x f L (k2_ (seqN (fun f L K=>ib (z.contains 999999) (CwS P w0 y f L K .mk) (vcC P w0 z y f L K)) K) K))
 | .skip,f,L,K=>K .normal f L
 | .exit i,f,L,K=>K (.exit i) f L
 | .goto i,f,L,K=>K (.goto i) f L
 | .ret,f,L,K=>K .ret f L
 | .label l,f,L,K=>ib (z.contains 999999) (Cw P w0 (.label l) f L K) (K .normal f L)
 | .block id c,f,L,K=>vcC P w0 z c f L (xX_ id K)
 | .cond c x y,f,L,K=> ∃b,ev f c= .bool b∧(b=true→vcC P w0 z x f L K)∧(b=false→vcC P w0 z y f L K)
 | .region id ops false,f,L,K=>ib (z.contains id) (Cw P w0 (.region id ops false) f L K) (vcL P w0 ops true .seq ops.toList f L (owk P w0 ops (K .normal)))
 |c,f,L,K=>Cw P w0 c f L K
section
variable {P:Program} {w0:World} {f:Fr} {L:zb_} {K:xp_} {N:Fr→zb_→Prop} {ops:Array Oper} {md:Md} {l:List Oper}
theorem amK_ (h:owk P w0 ops N md l f L):Ow P w0 ops md l f L N:=by
 cases l with
 |nil=>exact Ow.nil h
 |cons o r=>exact h
theorem Ow.go (he:md.eff=true) (h:vcL P w0 ops true md l f L (owk P w0 ops (bsN N))):Ow P w0 ops md l f L N:=
 x8_ _ (fun _ _ _ _ h=>amK_ h) true l md f L (fun _=>he) h
theorem Ow.goQ (h:vcL P w0 ops false md l f L (owk P w0 ops (bsN N))):Ow P w0 ops md l f L N:=
 x8_ _ (fun _ _ _ _ h=>amK_ h) false l md f L (fun e=>by cases e) h
theorem kk_ {z:List Nat}: ∀ (c:Code) {f:Fr} {L:zb_} {K:xp_},vcC P w0 z c f L K→Cw P w0 c f L K
 | .seq x y,f,L,K,h=>by
   unfold vcC at h
   cases hs:abQ_ z (.seq x y) with
   |true=>rw[hs] at h;exact h
   |false=>
    rw[hs] at h
    refine Cw.seq ((kk_ x h).mono fun e f L k=> ?_)
    cases e with
    |normal=>
     have k':ib (z.contains 999999) (CwS P w0 y f L K .mk) (vcC P w0 z y f L K):=k
     cases hz:z.contains 999999 with
     |true=>rw[hz] at k';exact k'
     |false=>rw[hz] at k';exact kk_ y k'
    |_=>exact k
 | .skip,_,_,_,h=>Cw.skip h
 | .exit _,_,_,_,h=>Cw.exit h
 | .goto _,_,_,_,h=>Cw.goto h
 | .ret,_,_,_,h=>Cw.ret h
 | .label l,_,_,_,h=>by
   unfold vcC at h
   cases hz:z.contains 999999 with
   |true=>rw[hz] at h;exact h
   |false=>rw[hz] at h;exact Cw.label h
 | .block id c,_,_,_,h=>Cw.block (kk_ c h)
 | .cond c x y,_,_,_,⟨b,hb,h1,h2⟩=>Cw.cond hb (fun e=>kk_ x (h1 e)) (fun e=>kk_ y (h2 e))
 | .region id ops false,f,L,K,h=>by
   obtain⟨l⟩:=ops
   unfold vcC at h
   cases hz:z.contains id with
   |true=>rw[hz] at h;exact h
   |false=>rw[hz] at h;exact Cw.region (Ow.go rfl h)
 | .region _ _ true,_,_,_,h=>h
 | .loop _,_,_,_,h=>h
 | .rangeFunc _ _ _ _,_,_,_,h=>h
 | .scope _,_,_,_,h=>h
 | .refuse _,_,_,_,h=>h
end
class Steps (c:Code):Prop
instance {x y:Code}:Steps (.seq x y):=⟨⟩
instance:Steps .skip:=⟨⟩
instance {i:Nat}:Steps (.exit i):=⟨⟩
instance {i:Nat}:Steps (.goto i):=⟨⟩
instance:Steps .ret:=⟨⟩
instance {i:Nat} {c:Code}:Steps (.block i c):=⟨⟩
instance {c:Operand} {x y:Code}:Steps (.cond c x y):=⟨⟩
instance {i:Nat} {ops:Array Oper}:Steps (.region i ops false):=⟨⟩
theorem Cw.go {P:Program} {w0:World} {c:Code} {f:Fr} {L:zb_} {K:xp_} (z:List Nat) [Steps c] (h:vcC P w0 z c f L (bsK K)):Cw P w0 c f L K:=kk_ c h
@[congr] theorem ap6_ {v v':Value} {A B S:Prop} {t:Tag (A,B,S)} (h:v=v'):cdC v A B S t=cdC v' A B S t:=by rw[h]
section
variable (P:Program) (w0:World) (z:List Nat) (f:Fr) (L:zb_) (K:xp_) (N:Fr→zb_→Prop) (ops:Array Oper) (md:Md)
theorem alS_ (x y:Code):vcC P w0 [] (.seq x y) f L K=vcC P w0 [] x f L (k2_ (seqN (fun f L K=>vcC P w0 [] y f L K) K) K):=(rfl)
theorem alR_ (k:Nat) (z:List Nat) (x y:Code):vcC P w0 (k::z) (.seq x y) f L K=ib (abQ_ (k::z) (.seq x y)) (CwS P w0 (.seq x y) f L K .mk) (vcC P w0 (k::z) x f L (k2_ (seqN (fun f L K=>ib ((k::z).contains 999999) (CwS P w0 y f L K .mk) (vcC P w0 (k::z) y f L K)) K) K)):=(rfl)
theorem akQ_:vcC P w0 z .skip f L K=K .normal f L:=(rfl)
theorem ak8_ (i:Nat):vcC P w0 z (.exit i) f L K=K (.exit i) f L:=(rfl)
theorem akB_ (i:Nat):vcC P w0 z (.goto i) f L K=K (.goto i) f L:=(rfl)
theorem aoE_:vcC P w0 z .ret f L K=K .ret f L:=(rfl)
theorem aiX_ (i:Nat):vcC P w0 z (.label i) f L K=ib (z.contains 999999) (CwS P w0 (.label i) f L K .mk) (K .normal f L):=(rfl)
theorem ake_ (i:Nat) (c:Code):vcC P w0 z (.block i c) f L K=vcC P w0 z c f L (xX_ i K):=(rfl)
theorem alb_ (c:Operand) (x y:Code):vcC P w0 z (.cond c x y) f L K=cdC (ev f c) (vcC P w0 z x f L K) (vcC P w0 z y f L K) (vcC P w0 z (.cond c x y) f L K) .mk:=by
 unfold cdC
 split
 ·rename_i h;simp[vcC,h]
 ·rename_i h;simp[vcC,h]
 ·rfl
theorem agc_ (i:Nat) (l:List Oper):vcC P w0 z (.region i l.toArray false) f L K=ib (z.contains i) (CwS P w0 (.region i l.toArray false) f L K .mk) (vcL P w0 l.toArray true .seq l f L (owk P w0 l.toArray (K .normal))):=(rfl)
theorem aiB_ (i:Nat) (ops:Array Oper):vcC P w0 z (.region i ops true) f L K=CwS P w0 (.region i ops true) f L K .mk:=(rfl)
theorem al0_ (c:Code):vcC P w0 z (.loop c) f L K=CwS P w0 (.loop c) f L K .mk:=(rfl)
theorem ajc_ (c:Code):vcC P w0 z (.scope c) f L K=CwS P w0 (.scope c) f L K .mk:=(rfl)
theorem ag4_ (x:Operand) (p:Array Tmp) (a c:Code):vcC P w0 z (.rangeFunc x p a c) f L K=CwS P w0 (.rangeFunc x p a c) f L K .mk:=(rfl)
theorem anM_ (F:Fr→zb_→xp_→Prop):bsN (seqN F K) f L=F f L K:=(rfl)
theorem aru_ (e:Exit):bsN (K e) f L=bsK K e f L:=(rfl)
theorem ap8_ (c:Code):bsN (fun f L=>Cw P w0 c f L K) f L=CwS P w0 c f L K .mk:=(rfl)
theorem anA_:k2_ N K .normal f L=bsN N f L:=(rfl)
theorem aob_ (i:Nat):k2_ N K (.exit i) f L=K (.exit i) f L:=(rfl)
theorem anS_ (i:Nat):k2_ N K (.goto i) f L=K (.goto i) f L:=(rfl)
theorem aoe_:k2_ N K .ret f L=K .ret f L:=(rfl)
theorem amE_ (i:Nat):xX_ i K .normal f L=K .normal f L:=(rfl)
theorem alx_ (i j:Nat):xX_ i K (.goto j) f L=K (.goto j) f L:=(rfl)
theorem ama_ (i:Nat):xX_ i K .ret f L=K .ret f L:=(rfl)
theorem akH_ (i j:Nat):xX_ i K (.exit j) f L=ib (j==i) (K .normal f L) (K (.exit j) f L):=by
 by_cases h:j=i
 ·have e: (j==i)=true:=beq_iff_eq.2 h
  rw[e]
  simp[xX_,ib,h]
 ·have e: (j==i)=false:=beq_eq_false_iff_ne.2 h
  rw[e]
  simp[xX_,ib,h]
theorem akz_ (A:Nat→Fr→zb_→Prop):kN_ A K .normal f L=K .normal f L:=(rfl)
theorem amF_ (A:Nat→Fr→zb_→Prop) (i:Nat):kN_ A K (.exit i) f L=K (.exit i) f L:=(rfl)
theorem akJ_ (A:Nat→Fr→zb_→Prop) (i:Nat):kN_ A K (.goto i) f L=bsN (A i) f L:=(rfl)
theorem akr_ (A:Nat→Fr→zb_→Prop):kN_ A K .ret f L=K .ret f L:=(rfl)
theorem anD_:owk P w0 ops N md [] f L=bsN N f L:=(rfl)
theorem an0_ (e:Exit):bsK K e f L=bsR K e f L .mk:=(rfl)
theorem an5_:bsN N f L=bsM N f L .mk:=(rfl)
theorem apP_:bsN (bsN N) f L=bsN N f L:=(rfl)
theorem api_ (e:Exit):bsK (bsK K) e f L=bsK K e f L:=(rfl)
theorem alE_ (e:Exit):bsK (k2_ N K) e f L=k2_ N (bsK K) e f L:=by cases e<;>rfl
theorem agU_ (i:Nat) (e:Exit):bsK (xX_ i K) e f L=xX_ i (bsK K) e f L:=by cases e<;>rfl
theorem agY_ (A:Nat→Fr→zb_→Prop) (e:Exit):bsK (kN_ A K) e f L=kN_ A (bsK K) e f L:=by cases e<;>rfl
theorem aky_ (o:Oper) (r:List Oper):owk P w0 ops N md (o::r) f L=OwS P w0 ops md (o::r) f L N .mk:=(rfl)
end
section
variable (A B S:Prop) (t:Tag (A,B,S))
theorem aqW_:cdC (.bool true) A B S t=A:=(rfl)
theorem aqQ_:cdC (.bool false) A B S t=B:=(rfl)
theorem alM_ (b:Bool) (h:b=true):cdC (.bool b) A B S t=A:=by rw[h];rfl
theorem amc_ (b:Bool) (h:b=false):cdC (.bool b) A B S t=B:=by rw[h];rfl
theorem apN_ (p:Prop) [Decidable p] (h:p):cdC (.bool (decide p)) A B S t=A:=alM_ A B S t _ (decide_eq_true h)
theorem aqc_ (p:Prop) [Decidable p] (h: ¬p):cdC (.bool (decide p)) A B S t=B:=amc_ A B S t _ (decide_eq_false h)
theorem apW_ (a b:Int) (h:a=b):cdC (.bool (a==b)) A B S t=A:=alM_ A B S t _ (beq_iff_eq.2 h)
theorem apz_ (a b:Int) (h: ¬a=b):cdC (.bool (a==b)) A B S t=B:=amc_ A B S t _ (beq_eq_false_iff_ne.2 h)
theorem aq1_ (a b:Int) (h: ¬a=b):cdC (.bool (a !=b)) A B S t=A:=alM_ A B S t _ (bne_iff_ne.2 h)
theorem aqN_ (a b:Int) (h:a=b):cdC (.bool (a !=b)) A B S t=B:=amc_ A B S t _ (by rw[h];simp)
end
theorem anw_ (w0:World) (L:zb_) (v:Value):Xm_ w0 L .no v=none:=(rfl)
theorem aoW_ (w0:World) (L:zb_) (e:TypeId) (v:Value):Xm_ w0 L (.strBytes e) v=none:=(rfl)
theorem apl_ (v:Value):wt_ .no v=none:=by unfold wt_;split<;>first|rfl| (rename_i h;cases h)
theorem aiv_ (c:Code):abQ_ [] c=false:=(rfl)
theorem afe_ (k:Nat) (r:List Nat) (c:Code):abQ_ (k::r) c=((k==1000000+fid c) ||abQ_ r c):=(rfl)
theorem am6_ (a b:Code):fid (.seq a b)=fid a:=(rfl)
theorem agx_ (i:Nat) (o:Array Oper) (d:Bool):fid (.region i o d)=i:=(rfl)
theorem ajQ_ (i:Nat) (c:Code):fid (.block i c)=fid c:=(rfl)
theorem amo_ (c:Operand) (x y:Code):fid (.cond c x y)=500000:=(rfl)
theorem akq_ (c:Code):fid (.loop c)=fid c:=(rfl)
theorem ain_ (c:Code):fid (.scope c)=fid c:=(rfl)
theorem air_ (i:Nat):fid (.label i)=500000:=(rfl)
theorem al3_ (i:Nat):fid (.goto i)=500000:=(rfl)
theorem amg_ (i:Nat):fid (.exit i)=500000:=(rfl)
theorem amb_:fid .skip=500000:=(rfl)
theorem aoZ_:fid .ret=500000:=(rfl)
theorem aif_ (x:Operand) (p:Array Tmp) (a c:Code):fid (.rangeFunc x p a c)=500000:=(rfl)
def allF (j:Nat→Value):Nat→Nat→Fr
 |_,0=> []
 |k,n+1=>j k::allF j (k+1) n
theorem apI_ (j:Nat→Value) (k:Nat):allF j k 0= []:=(rfl)
theorem apR_ (j:Nat→Value) (k n:Nat):allF j k (n+1)=j k::allF j (k+1) n:=(rfl)
def CutM {G:Type} (n:Nat) (S:G→List (Nat×Value)) (H:G→zb_) (J:G→Prop) (f':Fr) (L':zb_):Prop:=
 ∃g,J g∧L'=H g∧f'=pin (allF (vW_ f') 0 n) (S g)
theorem CutM.mk {G:Type} {n:Nat} {S:G→List (Nat×Value)} {H:G→zb_} {J:G→Prop} {f':Fr} {L':zb_} (g:G) (hJ:J g) (hL:L'=H g) (hf:f'=pin (allF (vW_ f') 0 n) (S g)):CutM n S H J f' L':=⟨g,hJ,hL,hf⟩
theorem Cw.cut {P:Program} {w0:World} {x y:Code} {f:Fr} {L:zb_} {K:xp_} {G:Type} (n:Nat) (S:G→List (Nat×Value)) (H:G→zb_) (J:G→Prop) (h1:Cw P w0 x f L (k2_ (CutM n S H J) K))
  (h2: ∀ (g:G) (j:Nat→Value),J g→Cw P w0 y (pin (allF j 0 n) (S g)) (H g) K):Cw P w0 (.seq x y) f L K:=by
 refine Cw.seq (h1.mono fun e f L k=> ?_)
 cases e with
 |normal=>
  obtain⟨g,hJ,rfl,hf⟩:=k
  have:=h2 g (vW_ f) hJ
  rw[←hf] at this
  exact this
 |_=>exact k
theorem cdC.splitp {p:Prop} [Decidable p] {A B S:Prop} {t:Tag (A,B,S)} (ht:p→A) (he: ¬p→B):cdC (.bool (decide p)) A B S t:=by
 by_cases h:p
 ·rw[apN_ A B S t p h];exact ht h
 ·rw[aqc_ A B S t p h];exact he h
theorem cdC.split {b:Bool} {A B S:Prop} {t:Tag (A,B,S)} (ht:b=true→A) (he:b=false→B):cdC (.bool b) A B S t:=by
 cases b with
 |true=>exact ht rfl
 |false=>exact he rfl
end Go.Sx
section
namespace Go.Sx
open Go
set_option maxRecDepth 100000
set_option linter.defProp false
def S0:=And.intro (And.intro (And.intro (And.intro (And.intro (And.intro (@alq_) (And.intro (@amh_) (@anx_))) (And.intro (@alB_) (And.intro (@agH_) (@alj_)))) (And.intro (And.intro (@ajJ_) (And.intro (@ak6_) (@adv_))) (And.intro (And.intro (@Wn_) (@VV_)) (And.intro (@aj3_) (@Vz_))))) (And.intro (And.intro (And.intro (@ahc_) (And.intro (@al5_) (@adB_))) (And.intro (And.intro (@ajH_) (@Wu_)) (And.intro (@ang_) (@aoI_)))) (And.intro (And.intro (@ahs_) (And.intro (@acw_) (@agV_))) (And.intro (And.intro (@aog_) (@aii_)) (And.intro (@Xp_) (@VA_)))))) (And.intro (And.intro (And.intro (And.intro (@akv_) (And.intro (@agz_) (@alm_))) (And.intro (@afw_) (And.intro (@ajX_) (@anR_)))) (And.intro (And.intro (@aou_) (And.intro (@Z0_) (@wa_))) (And.intro (And.intro (@abZ_) (@af0_)) (And.intro (@Vg_) (@ajD_))))) (And.intro (And.intro (And.intro (@alT_) (And.intro (@afq_) (@Zu_))) (And.intro (And.intro (@aaX_) (@XG_)) (And.intro (@ai5_) (@alf_)))) (And.intro (And.intro (@aoq_) (And.intro (@alh_) (@zD_))) (And.intro (And.intro (@Vj_) (@ahq_)) (And.intro (@aoj_) (@zH_))))))) (And.intro (And.intro (And.intro (And.intro (And.intro (@zG_) (And.intro (@amQ_) (@amM_))) (And.intro (@adq_) (And.intro (@Xo_) (@alS_)))) (And.intro (And.intro (@alR_) (And.intro (@aiv_) (@afe_))) (And.intro (And.intro (@am6_) (@agx_)) (And.intro (@ajQ_) (@amo_))))) (And.intro (And.intro (And.intro (@akq_) (And.intro (@ain_) (@air_))) (And.intro (And.intro (@al3_) (@amg_)) (And.intro (@amb_) (@aoZ_)))) (And.intro (And.intro (@aif_) (And.intro (@akQ_) (@ak8_))) (And.intro (And.intro (@akB_) (@aoE_)) (And.intro (@aiX_) (@ake_)))))) (And.intro (And.intro (And.intro (And.intro (@alb_) (And.intro (@agc_) (@aiB_))) (And.intro (And.intro (@al0_) (@ajc_)) (And.intro (@ag4_) (@anM_)))) (And.intro (And.intro (@anA_) (And.intro (@aob_) (@anS_))) (And.intro (And.intro (@aoe_) (@amE_)) (And.intro (@alx_) (@ama_))))) (And.intro (And.intro (And.intro (@akH_) (And.intro (@akz_) (@amF_))) (And.intro (And.intro (@akJ_) (@akr_)) (And.intro (@anD_) (@aky_)))) (And.intro (And.intro (@aru_) (And.intro (@ap8_) (@apP_))) (And.intro (And.intro (@api_) (@alE_)) (And.intro (@agU_) (@agY_)))))))
def S1:=And.intro (And.intro (And.intro (And.intro (And.intro (And.intro (And.intro (And.intro (@aln_) (@aoO_)) (And.intro (@aoA_) (And.intro (@apS_) (@ano_)))) (And.intro (And.intro (@apU_) (@ji_)) (And.intro (@jk_) (And.intro (@zW_) (@ai8_))))) (And.intro (And.intro (And.intro (@afX_) (@acz_)) (And.intro (@alU_) (And.intro (@aag_) (@amw_)))) (And.intro (And.intro (@alw_) (@beq_true)) (And.intro (@beq_false) (And.intro (@Bool.not_true) (@Bool.not_false)))))) (And.intro (And.intro (And.intro (And.intro (@Md.next_seq) (@Md.next_any)) (And.intro (@Md.next_qui) (And.intro (@Md.next_sof) (@abL_)))) (And.intro (And.intro (@ab5_) (@abD_)) (And.intro (@XD_) (And.intro (@Xq_) (@XH_))))) (And.intro (And.intro (And.intro (@apv_) (@anU_)) (And.intro (@amq_) (And.intro (@akt_) (@akV_)))) (And.intro (And.intro (@aqj_) (And.intro (@anJ_) (@aow_))) (And.intro (@and_) (And.intro (@aoG_) (@aoB_))))))) (And.intro (And.intro (And.intro (And.intro (And.intro (@ae7_) (@agA_)) (And.intro (@afU_) (And.intro (@KC_) (@ahQ_)))) (And.intro (And.intro (@agv_) (@agh_)) (And.intro (@Kz_) (And.intro (@afP_) (@afQ_))))) (And.intro (And.intro (And.intro (@agJ_) (@afV_)) (And.intro (@agw_) (And.intro (@afc_) (@ajg_)))) (And.intro (And.intro (@abx_) (And.intro (@QV_) (@agd_))) (And.intro (@VH_) (And.intro (@VK_) (@ZI_)))))) (And.intro (And.intro (And.intro (And.intro (@ZH_) (@VE_)) (And.intro (@VL_) (And.intro (@afW_) (@XC_)))) (And.intro (And.intro (@XJ_) (@abr_)) (And.intro (@Xy_) (And.intro (@Xi_) (@acU_))))) (And.intro (And.intro (And.intro (@Xd_) (@Xn_)) (And.intro (@acA_) (And.intro (@ab0_) (@acg_)))) (And.intro (And.intro (@adw_) (And.intro (@abG_) (@agK_))) (And.intro (@acE_) (And.intro (@ace_) (@adH_)))))))) (And.intro (And.intro (And.intro (And.intro (And.intro (And.intro (@abk_) (@acb_)) (And.intro (@aca_) (And.intro (@adK_) (@abl_)))) (And.intro (And.intro (@adg_) (@agr_)) (And.intro (@WU_) (And.intro (@ZL_) (@add_))))) (And.intro (And.intro (And.intro (@Xc_) (@J8_)) (And.intro (@wu_) (And.intro (@wx_) (@Xb_)))) (And.intro (And.intro (@XK_) (And.intro (@acN_) (@Q8_))) (And.intro (@JE_) (And.intro (@aa2_) (@Qq_)))))) (And.intro (And.intro (And.intro (And.intro (@QQ_) (@WG_)) (And.intro (@Q6_) (And.intro (@QY_) (@W2_)))) (And.intro (And.intro (@abI_) (@ade_)) (And.intro (@abs_) (And.intro (@adN_) (@agu_))))) (And.intro (And.intro (And.intro (@ac8_) (@ac7_)) (And.intro (@ach_) (And.intro (@acD_) (@abT_)))) (And.intro (And.intro (@abw_) (And.intro (@aby_) (@abv_))) (And.intro (@adO_) (And.intro (@afR_) (@Wb_))))))) (And.intro (And.intro (And.intro (And.intro (And.intro (@ZR_) (@adP_)) (And.intro (@Xu_) (And.intro (@Xw_) (@wv_)))) (And.intro (And.intro (@wH_) (@XL_)) (And.intro (@XF_) (And.intro (@adD_) (@QB_))))) (And.intro (And.intro (And.intro (@Jc_) (@Wv_)) (And.intro (@JN_) (And.intro (@JO_) (@Wh_)))) (And.intro (And.intro (@JT_) (And.intro (@Jv_) (@Wo_))) (And.intro (@aci_) (And.intro (@abu_) (@ac0_)))))) (And.intro (And.intro (And.intro (And.intro (@acn_) (@agg_)) (And.intro (@ac5_) (And.intro (@adi_) (@ack_)))) (And.intro (And.intro (@acC_) (@acr_)) (And.intro (@acO_) (And.intro (@act_) (@acX_))))) (And.intro (And.intro (And.intro (@adr_) (@afk_)) (And.intro (@aaf_) (And.intro (@ZF_) (@adL_)))) (And.intro (And.intro (@Xj_) (And.intro (@Xt_) (@wD_))) (And.intro (@wU_) (And.intro (@XA_) (@Xa_))))))))) (And.intro (And.intro (And.intro (And.intro (And.intro (And.intro (And.intro (@adh_) (@Jh_)) (And.intro (@Jj_) (And.intro (@WA_) (@J2_)))) (And.intro (And.intro (@QZ_) (@aak_)) (And.intro (@JZ_) (And.intro (@QG_) (@Wx_))))) (And.intro (And.intro (And.intro (@ahf_) (@aik_)) (And.intro (@WC_) (And.intro (@ahP_) (@ajS_)))) (And.intro (And.intro (@aji_) (And.intro (@ajB_) (@aic_))) (And.intro (@ahC_) (And.intro (@aiG_) (@ah8_)))))) (And.intro (And.intro (And.intro (And.intro (@alr_) (@apo_)) (And.intro (@aax_) (And.intro (@ajW_) (@aiT_)))) (And.intro (And.intro (@aiS_) (@ahy_)) (And.intro (@akl_) (And.intro (@aj4_) (@aiZ_))))) (And.intro (And.intro (And.intro (@anW_) (@akb_)) (And.intro (@aoy_) (And.intro (@abb_) (@V6_)))) (And.intro (And.intro (@v1_) (And.intro (@apr_) (@apG_))) (And.intro (@alD_) (And.intro (@afI_) (@acJ_))))))) (And.intro (And.intro (And.intro (And.intro (And.intro (@ab1_) (@adJ_)) (And.intro (@agk_) (And.intro (@aom_) (@aov_)))) (And.intro (And.intro (@aki_) (@abq_)) (And.intro (@aaq_) (And.intro (@aav_) (@aai_))))) (And.intro (And.intro (And.intro (@adM_) (@aop_)) (And.intro (@aoD_) (And.intro (@aj2_) (@acR_)))) (And.intro (And.intro (@WQ_) (And.intro (@aac_) (@WH_))) (And.intro (@adA_) (And.intro (@anz_) (@aoF_)))))) (And.intro (And.intro (And.intro (And.intro (@ajF_) (@abj_)) (And.intro (@aaa_) (And.intro (@W6_) (@WV_)))) (And.intro (And.intro (@ac6_) (@apn_)) (And.intro (@apO_) (And.intro (@ak5_) (@afL_))))) (And.intro (And.intro (And.intro (@abO_) (@acj_)) (And.intro (@acI_) (And.intro (@afB_) (@aml_)))) (And.intro (And.intro (@alc_) (And.intro (@Vo_) (@ans_))) (And.intro (@adm_) (And.intro (@KZ_) (@qz_)))))))) (And.intro (And.intro (And.intro (And.intro (And.intro (And.intro (@aqY_) (@aoa_)) (And.intro (@apu_) (And.intro (@apw_) (@KT_)))) (And.intro (And.intro (@XE_) (@zP_)) (And.intro (@qx_) (And.intro (@jc_) (@q2_))))) (And.intro (And.intro (And.intro (@zr_) (@zm_)) (And.intro (@zY_) (And.intro (@ja_) (@agW_)))) (And.intro (And.intro (@ale_) (And.intro (@w8_) (@afx_))) (And.intro (@vn_) (And.intro (@agD_) (@acl_)))))) (And.intro (And.intro (And.intro (And.intro (@akG_) (@ahN_)) (And.intro (@w3_) (And.intro (@akL_) (@ajT_)))) (And.intro (And.intro (@ai3_) (@ape_)) (And.intro (@apf_) (And.intro (@Option.map_some.{0,0}) (@Option.map_none.{0,0}))))) (And.intro (And.intro (And.intro (@K9_) (@KO_)) (And.intro (@Zi_) (And.intro (@ae6_) (@Vs_)))) (And.intro (And.intro (@VT_) (And.intro (@KQ_) (@alY_))) (And.intro (@alO_) (And.intro (@or_i) (@ari_))))))) (And.intro (And.intro (And.intro (And.intro (And.intro (@KM_) (@Vt_)) (And.intro (@Xl_) (And.intro (@za_) (@List.cons_append.{0})))) (And.intro (And.intro (@List.nil_append.{0}) (@List.contains_cons.{0})) (And.intro (@List.contains_nil.{0}) (And.intro (@Bool.or_false) (@Bool.false_or))))) (And.intro (And.intro (And.intro (@Bool.or_true) (@Bool.true_or)) (And.intro (@Bool.false_eq_true) (And.intro (@Wd_) (@XZ_)))) (And.intro (And.intro (@X9_) (And.intro (@aeH_) (@aiA_))) (And.intro (@Nat.add_sub_cancel_left) (And.intro (@List.set_set.{0}) (@Int.toNat_natCast)))))) (And.intro (And.intro (And.intro (And.intro (@Nat.mul_one) (@Nat.zero_add)) (And.intro (@Nat.add_zero) (And.intro (@ge_iff_le.{0}) (@gt_iff_lt.{0})))) (And.intro (And.intro (@beq_self_eq_true.{0}) (@aqW_)) (And.intro (@aqQ_) (And.intro (@alM_) (@amc_))))) (And.intro (And.intro (And.intro (@apN_) (@aqc_)) (And.intro (@apW_) (And.intro (@apz_) (@aq1_)))) (And.intro (And.intro (@aqN_) (And.intro (@anw_) (@aoW_))) (And.intro (@apl_) (And.intro (@an0_) (@an5_)))))))))
end Go.Sx
end
section
open Go Go.Proofs Go.Sx
namespace Go.Proofs
theorem Tryz.ix22:ixT Tryz.prog 22= .sl (true,2):=id (by kernel_rfl)
theorem Tryz.ix31:ixT Tryz.prog 31= .sl (false,1):=id (by kernel_rfl)
theorem Tryz.ix9:ixT Tryz.prog 9= .str:=id (by kernel_rfl)
theorem Tryz.ix47:ixT Tryz.prog 47= .sl (true,34):=id (by kernel_rfl)
theorem Tryz.ix43:ixT Tryz.prog 43= .sl (true,3):=id (by kernel_rfl)
theorem Tryz.ix81:ixT Tryz.prog 81= .sl (false,1):=id (by kernel_rfl)
theorem Tryz.ix41:ixT Tryz.prog 41= .arr 32 (false,1):=id (by kernel_rfl)
theorem Tryz.ix101:ixT Tryz.prog 101= .sl (true,4):=id (by kernel_rfl)
theorem Tryz.ix68:ixT Tryz.prog 68= .sl (true,32):=id (by kernel_rfl)
theorem Tryz.ix72:ixT Tryz.prog 72= .sl (true,34):=id (by kernel_rfl)
theorem Tryz.ix127:ixT Tryz.prog 127= .arr 8 (false,1):=id (by kernel_rfl)
theorem Tryz.ix137:ixT Tryz.prog 137= .arr 4 (false,1):=id (by kernel_rfl)
theorem Tryz.ix104:ixT Tryz.prog 104= .arr 4 (false,1):=id (by kernel_rfl)
theorem Tryz.ix163:ixT Tryz.prog 163= .arr 8 (false,1):=id (by kernel_rfl)
theorem Tryz.ix164:ixT Tryz.prog 164= .arr 64 (false,1):=id (by kernel_rfl)
theorem Tryz.ix85:ixT Tryz.prog 85= .sl (false,1):=id (by kernel_rfl)
theorem Tryz.ix189:ixT Tryz.prog 189= .arr 4 (false,1):=id (by kernel_rfl)
theorem Tryz.ix173:ixT Tryz.prog 173= .sl (true,2):=id (by kernel_rfl)
theorem Tryz.ix138:ixT Tryz.prog 138= .arr 64 (false,1):=id (by kernel_rfl)
theorem Tryz.ix216:ixT Tryz.prog 216= .sl (false,1):=id (by kernel_rfl)
theorem Tryz.ix219:ixT Tryz.prog 219= .arr 16 (false,1):=id (by kernel_rfl)
theorem Tryz.ix103:ixT Tryz.prog 103= .arr 4 (false,1):=id (by kernel_rfl)
theorem Tryz.ag26:qc_ Tryz.prog 26=some (true,2):=id (by kernel_rfl)
theorem Tryz.ag3:qc_ Tryz.prog 3=some (false,1):=id (by kernel_rfl)
theorem Tryz.ag9:qc_ Tryz.prog 9=some (false,1):=id (by kernel_rfl)
theorem Tryz.ag41:qc_ Tryz.prog 41=some (true,32):=id (by kernel_rfl)
theorem Tryz.ag51:qc_ Tryz.prog 51=some (true,34):=id (by kernel_rfl)
theorem Tryz.ag64:qc_ Tryz.prog 64=some (true,3):=id (by kernel_rfl)
theorem Tryz.ag43:qc_ Tryz.prog 43=some (false,1):=id (by kernel_rfl)
theorem Tryz.ag31:qc_ Tryz.prog 31=some (false,1):=id (by kernel_rfl)
theorem Tryz.ag70:qc_ Tryz.prog 70=some (true,4):=id (by kernel_rfl)
theorem Tryz.ag61:qc_ Tryz.prog 61=some (false,1):=id (by kernel_rfl)
theorem Tryz.ag76:qc_ Tryz.prog 76=some (true,34):=id (by kernel_rfl)
theorem Tryz.ag89:qc_ Tryz.prog 89=some (true,2):=id (by kernel_rfl)
theorem Tryz.ag93:qc_ Tryz.prog 93=some (true,3):=id (by kernel_rfl)
theorem Tryz.ag4:qc_ Tryz.prog 4=some (false,1):=id (by kernel_rfl)
theorem Tryz.ag53:qc_ Tryz.prog 53=some (false,1):=id (by kernel_rfl)
theorem Tryz.ag108:qc_ Tryz.prog 108=some (true,3):=id (by kernel_rfl)
theorem Tryz.ag68:qc_ Tryz.prog 68=some (false,1):=id (by kernel_rfl)
theorem Tryz.ag22:qc_ Tryz.prog 22=some (false,1):=id (by kernel_rfl)
theorem Tryz.ag118:qc_ Tryz.prog 118=some (true,3):=id (by kernel_rfl)
theorem Tryz.ag120:qc_ Tryz.prog 120=some (true,34):=id (by kernel_rfl)
theorem Tryz.ag127:qc_ Tryz.prog 127=some (true,8):=id (by kernel_rfl)
theorem Tryz.ag126:qc_ Tryz.prog 126=some (false,1):=id (by kernel_rfl)
theorem Tryz.ag5:qc_ Tryz.prog 5=some (false,1):=id (by kernel_rfl)
theorem Tryz.ag137:qc_ Tryz.prog 137=some (true,4):=id (by kernel_rfl)
theorem Tryz.ag141:qc_ Tryz.prog 141=some (true,75):=id (by kernel_rfl)
theorem Tryz.ag104:qc_ Tryz.prog 104=some (true,4):=id (by kernel_rfl)
theorem Tryz.ag102:qc_ Tryz.prog 102=some (false,1):=id (by kernel_rfl)
theorem Tryz.ag27:qc_ Tryz.prog 27=some (false,1):=id (by kernel_rfl)
theorem Tryz.ag154:qc_ Tryz.prog 154=some (false,1):=id (by kernel_rfl)
theorem Tryz.ag163:qc_ Tryz.prog 163=some (true,8):=id (by kernel_rfl)
theorem Tryz.ag164:qc_ Tryz.prog 164=some (true,64):=id (by kernel_rfl)
theorem Tryz.ag85:qc_ Tryz.prog 85=some (false,1):=id (by kernel_rfl)
theorem Tryz.ag139:qc_ Tryz.prog 139=some (false,1):=id (by kernel_rfl)
theorem Tryz.ag179:qc_ Tryz.prog 179=some (false,1):=id (by kernel_rfl)
theorem Tryz.ag189:qc_ Tryz.prog 189=some (true,4):=id (by kernel_rfl)
theorem Tryz.ag191:qc_ Tryz.prog 191=some (true,36):=id (by kernel_rfl)
theorem Tryz.ag188:qc_ Tryz.prog 188=some (false,1):=id (by kernel_rfl)
theorem Tryz.ag194:qc_ Tryz.prog 194=some (true,2):=id (by kernel_rfl)
theorem Tryz.ag84:qc_ Tryz.prog 84=some (false,1):=id (by kernel_rfl)
theorem Tryz.ag72:qc_ Tryz.prog 72=some (false,1):=id (by kernel_rfl)
theorem Tryz.ag215:qc_ Tryz.prog 215=some (true,2):=id (by kernel_rfl)
theorem Tryz.ag213:qc_ Tryz.prog 213=some (false,1):=id (by kernel_rfl)
theorem Tryz.ag219:qc_ Tryz.prog 219=some (true,16):=id (by kernel_rfl)
theorem Tryz.ag103:qc_ Tryz.prog 103=some (true,4):=id (by kernel_rfl)
theorem Tryz.zr41:zI_ Tryz.prog 41=some (.agg (a8 (List.replicate 32 0))):=id (by kernel_rfl)
theorem Tryz.zr9:zI_ Tryz.prog 9=some (vs []):=id (by kernel_rfl)
theorem Tryz.zr89:zI_ Tryz.prog 89=some (.agg #[(.pointer none),(.slice none 0 0)]):=id (by kernel_rfl)
theorem Tryz.zr127:zI_ Tryz.prog 127=some (.agg (a32 (List.replicate 8 0))):=id (by kernel_rfl)
theorem Tryz.zr137:zI_ Tryz.prog 137=some (.agg (a8 (List.replicate 4 0))):=id (by kernel_rfl)
theorem Tryz.zr163:zI_ Tryz.prog 163=some (.agg (a8 (List.replicate 8 0))):=id (by kernel_rfl)
theorem Tryz.zr164:zI_ Tryz.prog 164=some (.agg (a32 (List.replicate 64 0))):=id (by kernel_rfl)
theorem Tryz.zr5:zI_ Tryz.prog 5=some (v8 0):=id (by kernel_rfl)
theorem Tryz.fl26_0:xv_ Tryz.prog 26 0=some (0,(false,1)):=id (by kernel_rfl)
theorem Tryz.fl26_1:xv_ Tryz.prog 26 1=some (1,(false,1)):=id (by kernel_rfl)
theorem Tryz.fl51_0:xv_ Tryz.prog 51 0=some (0,(true,2)):=id (by kernel_rfl)
theorem Tryz.fl64_1:xv_ Tryz.prog 64 1=some (1,(false,1)):=id (by kernel_rfl)
theorem Tryz.fl64_2:xv_ Tryz.prog 64 2=some (2,(false,1)):=id (by kernel_rfl)
theorem Tryz.fl64_0:xv_ Tryz.prog 64 0=some (0,(false,1)):=id (by kernel_rfl)
theorem Tryz.fl70_0:xv_ Tryz.prog 70 0=some (0,(false,1)):=id (by kernel_rfl)
theorem Tryz.fl93_0:xv_ Tryz.prog 93 0=some (0,(false,1)):=id (by kernel_rfl)
theorem Tryz.fl93_1:xv_ Tryz.prog 93 1=some (1,(false,1)):=id (by kernel_rfl)
theorem Tryz.fl93_2:xv_ Tryz.prog 93 2=some (2,(false,1)):=id (by kernel_rfl)
theorem Tryz.fl51_1:xv_ Tryz.prog 51 1=some (2,(true,32)):=id (by kernel_rfl)
theorem Tryz.fl108_1:xv_ Tryz.prog 108 1=some (1,(false,1)):=id (by kernel_rfl)
theorem Tryz.fl108_0:xv_ Tryz.prog 108 0=some (0,(false,1)):=id (by kernel_rfl)
theorem Tryz.fl70_2:xv_ Tryz.prog 70 2=some (2,(false,1)):=id (by kernel_rfl)
theorem Tryz.fl70_3:xv_ Tryz.prog 70 3=some (3,(false,1)):=id (by kernel_rfl)
theorem Tryz.fl118_2:xv_ Tryz.prog 118 2=some (2,(false,1)):=id (by kernel_rfl)
theorem Tryz.fl118_1:xv_ Tryz.prog 118 1=some (1,(false,1)):=id (by kernel_rfl)
theorem Tryz.fl120_1:xv_ Tryz.prog 120 1=some (1,(false,1)):=id (by kernel_rfl)
theorem Tryz.fl120_0:xv_ Tryz.prog 120 0=some (0,(false,1)):=id (by kernel_rfl)
theorem Tryz.fl120_2:xv_ Tryz.prog 120 2=some (2,(true,32)):=id (by kernel_rfl)
theorem Tryz.fl76_0:xv_ Tryz.prog 76 0=some (0,(true,32)):=id (by kernel_rfl)
theorem Tryz.fl76_1:xv_ Tryz.prog 76 1=some (32,(false,1)):=id (by kernel_rfl)
theorem Tryz.fl76_2:xv_ Tryz.prog 76 2=some (33,(false,1)):=id (by kernel_rfl)
theorem Tryz.fl89_0:xv_ Tryz.prog 89 0=some (0,(true,2)):=id (by kernel_rfl)
theorem Tryz.fl108_2:xv_ Tryz.prog 108 2=some (2,(false,1)):=id (by kernel_rfl)
theorem Tryz.fl118_0:xv_ Tryz.prog 118 0=some (0,(false,1)):=id (by kernel_rfl)
theorem Tryz.fl87_1:xv_ Tryz.prog 87 1=some (1,(false,1)):=id (by kernel_rfl)
theorem Tryz.fl141_4:xv_ Tryz.prog 141 4=some (74,(false,1)):=id (by kernel_rfl)
theorem Tryz.fl141_3:xv_ Tryz.prog 141 3=some (73,(false,1)):=id (by kernel_rfl)
theorem Tryz.fl141_1:xv_ Tryz.prog 141 1=some (1,(true,8)):=id (by kernel_rfl)
theorem Tryz.fl194_1:xv_ Tryz.prog 194 1=some (1,(false,1)):=id (by kernel_rfl)
theorem Tryz.fl87_0:xv_ Tryz.prog 87 0=some (0,(false,1)):=id (by kernel_rfl)
theorem Tryz.fl141_0:xv_ Tryz.prog 141 0=some (0,(false,1)):=id (by kernel_rfl)
theorem Tryz.fl141_2:xv_ Tryz.prog 141 2=some (9,(true,64)):=id (by kernel_rfl)
theorem Tryz.fl191_0:xv_ Tryz.prog 191 0=some (0,(false,1)):=id (by kernel_rfl)
theorem Tryz.fl191_1:xv_ Tryz.prog 191 1=some (1,(false,1)):=id (by kernel_rfl)
theorem Tryz.fl191_2:xv_ Tryz.prog 191 2=some (2,(true,34)):=id (by kernel_rfl)
theorem Tryz.fl194_0:xv_ Tryz.prog 194 0=some (0,(false,1)):=id (by kernel_rfl)
theorem Tryz.fl215_1:xv_ Tryz.prog 215 1=some (1,(false,1)):=id (by kernel_rfl)
theorem Tryz.fl215_0:xv_ Tryz.prog 215 0=some (0,(false,1)):=id (by kernel_rfl)
theorem Tryz.cv5_3:cvT Tryz.prog 5 3= .int .i64:=id (by kernel_rfl)
theorem Tryz.cv3_99:cvT Tryz.prog 3 99= .int .u64:=id (by kernel_rfl)
theorem Tryz.cv126_5:cvT Tryz.prog 126 5= .int .u8:=id (by kernel_rfl)
theorem Tryz.cv3_5:cvT Tryz.prog 3 5= .int .u8:=id (by kernel_rfl)
theorem Tryz.cv85_9:cvT Tryz.prog 85 9= .bytesStr:=id (by kernel_rfl)
theorem Tryz.cv99_126:cvT Tryz.prog 99 126= .int .u32:=id (by kernel_rfl)
theorem Tryz.cv3_139:cvT Tryz.prog 3 139= .int .u64:=id (by kernel_rfl)
theorem Tryz.cv139_5:cvT Tryz.prog 139 5= .int .u8:=id (by kernel_rfl)
theorem Tryz.cv5_126:cvT Tryz.prog 5 126= .int .u32:=id (by kernel_rfl)
theorem Tryz.cv3_179:cvT Tryz.prog 3 179= .int .u64:=id (by kernel_rfl)
theorem Tryz.cv99_3:cvT Tryz.prog 99 3= .int .i64:=id (by kernel_rfl)
theorem Tryz.cv5_185:cvT Tryz.prog 5 185= .no:=id (by kernel_rfl)
theorem Tryz.cv3_185:cvT Tryz.prog 3 185= .no:=id (by kernel_rfl)
theorem Tryz.cv84_201:cvT Tryz.prog 84 201= .no:=id (by kernel_rfl)
theorem Tryz.cv201_84:cvT Tryz.prog 201 84= .no:=id (by kernel_rfl)
theorem Tryz.cv185_3:cvT Tryz.prog 185 3= .no:=id (by kernel_rfl)
set_option linter.defProp false
def Tryz.fx:=And.intro (And.intro (And.intro (And.intro (And.intro (And.intro (@Tryz.ix22) (And.intro (@Tryz.ix31) (@Tryz.ix9))) (And.intro (And.intro (@Tryz.ix47) (@Tryz.ix43)) (And.intro (@Tryz.ix81) (@Tryz.ix41)))) (And.intro (And.intro (And.intro (@Tryz.ix101) (@Tryz.ix68)) (And.intro (@Tryz.ix72) (@Tryz.ix127))) (And.intro (And.intro (@Tryz.ix137) (@Tryz.ix104)) (And.intro (@Tryz.ix163) (@Tryz.ix164))))) (And.intro (And.intro (And.intro (@Tryz.ix85) (And.intro (@Tryz.ix189) (@Tryz.ix173))) (And.intro (And.intro (@Tryz.ix138) (@Tryz.ix216)) (And.intro (@Tryz.ix219) (@Tryz.ix103)))) (And.intro (And.intro (And.intro (@Tryz.ag26) (@Tryz.ag3)) (And.intro (@Tryz.ag9) (@Tryz.ag41))) (And.intro (And.intro (@Tryz.ag51) (@Tryz.ag64)) (And.intro (@Tryz.ag43) (@Tryz.ag31)))))) (And.intro (And.intro (And.intro (And.intro (@Tryz.ag70) (And.intro (@Tryz.ag61) (@Tryz.ag76))) (And.intro (And.intro (@Tryz.ag89) (@Tryz.ag93)) (And.intro (@Tryz.ag4) (@Tryz.ag53)))) (And.intro (And.intro (And.intro (@Tryz.ag108) (@Tryz.ag68)) (And.intro (@Tryz.ag22) (@Tryz.ag118))) (And.intro (And.intro (@Tryz.ag120) (@Tryz.ag127)) (And.intro (@Tryz.ag126) (@Tryz.ag5))))) (And.intro (And.intro (And.intro (And.intro (@Tryz.ag137) (@Tryz.ag141)) (And.intro (@Tryz.ag104) (@Tryz.ag102))) (And.intro (And.intro (@Tryz.ag27) (@Tryz.ag154)) (And.intro (@Tryz.ag163) (@Tryz.ag164)))) (And.intro (And.intro (And.intro (@Tryz.ag85) (@Tryz.ag139)) (And.intro (@Tryz.ag179) (@Tryz.ag189))) (And.intro (And.intro (@Tryz.ag191) (@Tryz.ag188)) (And.intro (@Tryz.ag194) (@Tryz.ag84))))))) (And.intro (And.intro (And.intro (And.intro (And.intro (@Tryz.ag72) (And.intro (@Tryz.ag215) (@Tryz.ag213))) (And.intro (And.intro (@Tryz.ag219) (@Tryz.ag103)) (And.intro (@Tryz.fl26_0) (@Tryz.fl26_1)))) (And.intro (And.intro (And.intro (@Tryz.fl51_0) (@Tryz.fl64_1)) (And.intro (@Tryz.fl64_2) (@Tryz.fl64_0))) (And.intro (And.intro (@Tryz.fl70_0) (@Tryz.fl93_0)) (And.intro (@Tryz.fl93_1) (@Tryz.fl93_2))))) (And.intro (And.intro (And.intro (@Tryz.fl51_1) (And.intro (@Tryz.fl108_1) (@Tryz.fl108_0))) (And.intro (And.intro (@Tryz.fl70_2) (@Tryz.fl70_3)) (And.intro (@Tryz.fl118_2) (@Tryz.fl118_1)))) (And.intro (And.intro (And.intro (@Tryz.fl120_1) (@Tryz.fl120_0)) (And.intro (@Tryz.fl120_2) (@Tryz.fl76_0))) (And.intro (And.intro (@Tryz.fl76_1) (@Tryz.fl76_2)) (And.intro (@Tryz.fl89_0) (@Tryz.fl108_2)))))) (And.intro (And.intro (And.intro (And.intro (@Tryz.fl118_0) (And.intro (@Tryz.fl87_1) (@Tryz.fl141_4))) (And.intro (And.intro (@Tryz.fl141_3) (@Tryz.fl141_1)) (And.intro (@Tryz.fl194_1) (@Tryz.fl87_0)))) (And.intro (And.intro (And.intro (@Tryz.fl141_0) (@Tryz.fl141_2)) (And.intro (@Tryz.fl191_0) (@Tryz.fl191_1))) (And.intro (And.intro (@Tryz.fl191_2) (@Tryz.fl194_0)) (And.intro (@Tryz.fl215_1) (@Tryz.fl215_0))))) (And.intro (And.intro (And.intro (And.intro (@Tryz.cv5_3) (@Tryz.cv3_99)) (And.intro (@Tryz.cv126_5) (@Tryz.cv3_5))) (And.intro (And.intro (@Tryz.cv85_9) (@Tryz.cv99_126)) (And.intro (@Tryz.cv3_139) (@Tryz.cv139_5)))) (And.intro (And.intro (And.intro (@Tryz.cv5_126) (@Tryz.cv3_179)) (And.intro (@Tryz.cv99_3) (@Tryz.cv5_185))) (And.intro (And.intro (@Tryz.cv3_185) (@Tryz.cv84_201)) (And.intro (@Tryz.cv201_84) (@Tryz.cv185_3)))))))
theorem kp {X A G:Prop} (x:X) (h:G) (e:X→A=G:=by intro x;(try simp(disch:=(first|assumption|omega| (simp only[wr_,we_,UInt64.reduceToNat];try omega))) only[↓Sx.S0,Sx.S1,Tryz.fx,Nat.reduceAdd,Nat.reducePow,Int.reducePow,Nat.reduceBEq, ↓reduceIte,UInt8.reduceToNat,UInt16.reduceToNat,UInt32.reduceToNat,UInt64.reduceToNat,Int.reduceToNat,x]);exact rfl):A:=(e x).mpr h
theorem kw {X A G:Prop} (x:X) (h:G) (e:X→A=G:=by intro x;simp(disch:=(first|assumption|omega| (simp only[wr_,we_,UInt64.reduceToNat];try omega))) only[↓Sx.S0,Sx.S1,Tryz.fx,Nat.reduceAdd,Nat.reducePow,Int.reducePow,Nat.reduceBEq, ↓reduceIte,UInt8.reduceToNat,UInt16.reduceToNat,UInt32.reduceToNat,UInt64.reduceToNat,Int.reduceToNat,x];exact rfl):A:=(e x).mpr h
section
variable {P:Program} {w0:World} {f:Fr} {L:zb_} {K:xp_} {N:Fr→zb_→Prop} {ops:Array Oper} {md:Md} {l:List Oper} {X G:Prop}
theorem ks {c:Code} (z:List Nat) [Sx.Steps c] (x:X) (h:G) (e:X→vcC P w0 z c f L (bsK K)=G:=by intro x;(try simp(disch:=(first|assumption|omega| (simp only[wr_,we_,UInt64.reduceToNat];try omega))) only[↓Sx.S0,Sx.S1,Tryz.fx,Nat.reduceAdd,Nat.reducePow,Int.reducePow,Nat.reduceBEq, ↓reduceIte,UInt8.reduceToNat,UInt16.reduceToNat,UInt32.reduceToNat,UInt64.reduceToNat,Int.reduceToNat,x]);exact rfl):Cw P w0 c f L K:=Cw.go z ((e x).mpr h)
theorem ko (x:X) (h:G) (e:X→vcL P w0 ops true md l f L (owk P w0 ops (bsN N))=G:=by intro x;(try simp(disch:=(first|assumption|omega| (simp only[wr_,we_,UInt64.reduceToNat];try omega))) only[↓Sx.S0,Sx.S1,Tryz.fx,Nat.reduceAdd,Nat.reducePow,Int.reducePow,Nat.reduceBEq, ↓reduceIte,UInt8.reduceToNat,UInt16.reduceToNat,UInt32.reduceToNat,UInt64.reduceToNat,Int.reduceToNat,x]);exact rfl) (he:md.eff=true:=by rfl):Ow P w0 ops md l f L N:=Ow.go he ((e x).mpr h)
theorem kq (x:X) (h:G) (e:X→vcL P w0 ops false md l f L (owk P w0 ops (bsN N))=G:=by intro x;(try simp(disch:=(first|assumption|omega| (simp only[wr_,we_,UInt64.reduceToNat];try omega))) only[↓Sx.S0,Sx.S1,Tryz.fx,Nat.reduceAdd,Nat.reducePow,Int.reducePow,Nat.reduceBEq, ↓reduceIte,UInt8.reduceToNat,UInt16.reduceToNat,UInt32.reduceToNat,UInt64.reduceToNat,Int.reduceToNat,x]);exact rfl):Ow P w0 ops md l f L N:=Ow.goQ ((e x).mpr h)
end
theorem ke {α:Type} {X:Prop} {a b:α} (x:X) (e:X→a=b:=by intro x;(try simp(disch:=(first|assumption|omega| (simp only[wr_,we_,UInt64.reduceToNat];try omega))) only[↓Sx.S0,Sx.S1,Tryz.fx,Nat.reduceAdd,Nat.reducePow,Int.reducePow,Nat.reduceBEq, ↓reduceIte,UInt8.reduceToNat,UInt16.reduceToNat,UInt32.reduceToNat,UInt64.reduceToNat,Int.reduceToNat,x]);exact rfl):a=b:=e x
theorem kya {A G:Prop} (h:G) (e:A=G:=by(try simp only[anT_, ↓ahk_, ↓vD_, ↓amQ_, ↓amM_,vF_]);exact rfl):A:=e.mpr h
theorem kyb {A G:Prop} (h:G) (e:A=G:=by(try simp only[List.set_cons_zero,List.set_cons_succ,zW_,ji_,jk_]);exact rfl):A:=e.mpr h
theorem kyc {A G:Prop} (h:G) (e:A=G:=by(try simp only[List.replicate_succ,List.replicate_zero]);exact rfl):A:=e.mpr h
theorem kn {A G:Prop} (h:G) (e:A=G:=by(try simp(disch:=(first|assumption|omega| (simp only[wr_,we_,UInt64.reduceToNat];try omega))) only[jc_,q2_,List.cons_append,List.nil_append]);exact rfl):A:=e.mpr h
theorem kf {A G:Prop} (h:G) (e:A=G:=by simp only[List.size_toArray,List.length_cons,List.length_nil,Nat.reduceAdd,Nat.reduceSub,List.replicate_succ,List.replicate_zero,List.cons_append,List.nil_append];exact rfl):A:=e.mpr h
theorem kv {A G:Prop} (h:G) (e:A=G:=by simp only[qE_,pin,ji_,jk_,List.contains_cons,List.contains_nil,Nat.reduceBEq,Bool.or_false,Bool.false_or,Bool.or_true,Bool.true_or,Nat.reduceAdd, ↓reduceIte,Bool.false_eq_true];exact rfl):A:=e.mpr h
set_option maxRecDepth 10000
set_option maxHeartbeats 1000000
set_option linter.unusedSimpArgs false
theorem abS_ (p v:Value) (E:TypeId) (n:Nat):zl_ (some (false,n)) (some (.cells #[p,v] E (0,0))) 0=some p:=(rfl)
theorem abK_ (p v:Value) (E:TypeId) (n:Nat):zl_ (some (false,n)) (some (.cells #[p,v] E (0,0))) 1=some v:=(rfl)
theorem alg_ (p v x:Value) (E:TypeId) (hx:Value.oneCell' x=true∧x.cells= #[x]):zn_ (some (false,1)) (some (.cells #[p,v] E (0,0))) 0 x=some (.cells #[x,v] E (0,0)):=by
 simp[zn_,hx,vV_]
theorem aeI_ (p v x:Value) (E:TypeId) (hx:Value.oneCell' x=true∧x.cells= #[x]):zn_ (some (false,1)) (some (.cells #[p,v] E (0,0))) 1 x=some (.cells #[p,x] E (0,0)):=by
 simp[zn_,hx,vV_]
theorem agZ_ (p v:Value) (b o:Nat) (E:TypeId):zn_ (some (false,1)) (some (.cells #[p,v] E (0,0))) 0 (vp b o)=some (.cells #[vp b o,v] E (0,0)):=alg_ _ _ _ _ ⟨rfl,rfl⟩
theorem nilB (b o:Nat):qL_ Tryz.prog .eql 84 (vp b o) (.pointer none)=some (.bool false):=by
 simp[qL_,eqX,qZ_,qF_,Tryz.underlying84,vp]
theorem are_:qL_ Tryz.prog .eql 84 (.pointer none) (.pointer none)=some (.bool true):=by
 simp[qL_,eqX,qZ_,qF_,Tryz.underlying84]
set_option linter.defProp false
def qp_:=And.intro (And.intro (@abS_) (@abK_)) (And.intro (@agZ_) (And.intro (@nilB) (@are_)))
theorem aq0_:liesAt Tryz.prog Tryz.prog.depth 89 ((#[Value.pointer none,Value.pointer none]:Array Value).size / Tryz.prog.cellsOf 89) 0 87 1=true:=id (by kernel_rfl)
theorem aggB:qc_ Tryz.prog 87=some (true,2):=id (by kernel_rfl)
theorem amy_ (x:Value) (w:World): (callFunc 123 #[x]).run Tryz.prog w= .ok (.value x) w:=by kernel_rfl
theorem vZ_ (b:Nat) (p v:Value) (w:World) (hp:p= .pointer none∨p=vp b 0) (ho:w.heap[b]? =some (.cells #[p,v] 89 (0,0))):
  Rets Tryz.prog 104 #[vp b 0] w (fun v' D=> ∃o,D= [(b,o)]∧v'= .tuple #[]∧o= .cells #[vp b 0,v] 89 (0,0)):=by
 refine Rets.enterM Tryz.func104 rfl (rs:= []) Tryz.results104 Tryz.ntmps104 ho ?_
 refine kf ?_
 rcases hp with rfl|rfl
 ·first|with_reducible refine ks [] @qp_ ?_|refine kp @qp_ ?_
  refine Ow.toUnsafe rfl rfl (by kernel_rfl) rfl (zt_ (zP_ _ _ _)) (by simp) aggB (by decide) Tryz.underlying84 Tryz.underlying201 ?_
  refine Ow.callExt (v:=vp b 0) rfl rfl (fun w=>amy_ _ w) ?_
  refine Ow.ofUnsafe rfl rfl (by kernel_rfl) rfl (zt_ (zP_ _ _ _)) aggB aq0_ Tryz.underlying201 Tryz.underlying84 ?_
  refine ko @qp_ ?_
  first|with_reducible refine ks [] @qp_ ?_|refine kp @qp_ ?_
  refine⟨_,_,_,(ke @qp_),rfl,trivial, ?_⟩
  exact⟨rfl,rfl⟩
 ·first|with_reducible refine ks [2] @qp_ ?_|refine kp @qp_ ?_
  refine Cw.region ?_
  refine Ow.value rfl rfl rfl ?_
  refine Ow.value (v:=vp b 0) rfl rfl (by simp(disch:=(first|assumption|omega| (simp only[wr_,we_,UInt64.reduceToNat];try omega))) only[↓Sx.S0,Sx.S1,Tryz.fx,qp_,Nat.reduceAdd,Nat.reducePow,Int.reducePow,Nat.reduceBEq, ↓reduceIte,UInt8.reduceToNat,UInt16.reduceToNat,UInt32.reduceToNat,UInt64.reduceToNat,Int.reduceToNat,jg_]) ?_
  refine Ow.value (v:=vp b 0) rfl rfl (by simp(disch:=(first|assumption|omega| (simp only[wr_,we_,UInt64.reduceToNat];try omega))) only[↓Sx.S0,Sx.S1,Tryz.fx,qp_,Nat.reduceAdd,Nat.reducePow,Int.reducePow,Nat.reduceBEq, ↓reduceIte,UInt8.reduceToNat,UInt16.reduceToNat,UInt32.reduceToNat,UInt64.reduceToNat,Int.reduceToNat,jg_]) ?_
  refine Ow.value (v:=vp b 0) rfl rfl (by simp(disch:=(first|assumption|omega| (simp only[wr_,we_,UInt64.reduceToNat];try omega))) only[↓Sx.S0,Sx.S1,Tryz.fx,qp_,Nat.reduceAdd,Nat.reducePow,Int.reducePow,Nat.reduceBEq, ↓reduceIte,UInt8.reduceToNat,UInt16.reduceToNat,UInt32.reduceToNat,UInt64.reduceToNat,Int.reduceToNat,jg_]) ?_
  refine Ow.value rfl rfl rfl ?_
  refine Ow.neqSame rfl Tryz.underlying84 aggB rfl rfl ?_
  refine ko @qp_ ?_
  first|with_reducible refine ks [] @qp_ ?_|refine kp @qp_ ?_
  refine⟨_,_,_,(ke @qp_),rfl,trivial, ?_⟩
  exact⟨rfl,rfl⟩
end Go.Proofs
end
section
open Go Go.Proofs Go.Sx
namespace Go.Proofs
set_option maxRecDepth 10000
set_option maxHeartbeats 1000000
set_option linter.unusedSimpArgs false
set_option linter.defProp false
def BldAt (b:Nat) (l:List UInt8) (X:zb_):Prop:=
 ∃p v,Sx.look X b=some (.cells #[p,v] 89 (0,0))∧(p= .pointer none∨p=vp b 0)∧Buf X 5 1 v l.length (l.map v8)∧slB v≠some b
theorem v0_ (b:Nat) (X:zb_) (l:List UInt8) (c:UInt8) (w:World) (hB:BldAt b l X) (hX: ∀p,p∈X→w.heap[p.1]? =some p.2) (hn: (keys X).Nodup) (hl:l.length<34359738368):
  Rets Tryz.prog 70 #[vp b 0,v8 c] w (XS w X (fun v D=>v= .nilIface∧BldAt b (l++ [c]) D)):=by
 obtain⟨p,v,hlk,hp,hb,hsl⟩:=hB
 refine Rets.enterX Tryz.func70 rfl (rs:= [.tmp 4]) Tryz.results70 Tryz.ntmps70 hX hn ?_
 refine kf ?_
 first|with_reducible refine ks [] @qp_ ?_|refine kp @qp_ ?_
 refine Ow.callM rfl rfl Tryz.call104 (zo_ hlk) (fun w' hw'=>vZ_ b p v w' hp (hw'.has _ _ (zw_ hlk))) ?_
 have lk1:=xG_ (x:= .cells #[vp b 0,v] 89 (0,0)) hlk
 have rd1:=zt_ (w0:=w) lk1
 have hb1:Buf (setB X b (.cells #[vp b 0,v] 89 (0,0))) 5 1 v l.length (l.map v8):=hb.setO hsl
 have kx:Ext w X (setB X b (.cells #[vp b 0,v] 89 (0,0))):=(Ext.refl w X).setB
 generalize setB X b (.cells #[vp b 0,v] 89 (0,0))=X1 at*
 refine ko @qp_ ?_
 first|with_reducible refine ks [] (And.intro @qp_ @rd1) ?_|refine kp (And.intro @qp_ @rd1) ?_
 refine Ow.buildSlice (e:=5) #[v8 c] rfl rfl (by kernel_rfl) fun b3 hb3 hw3=> ?_
 have lk3:Sx.look (X1++ [(b3, .cells #[v8 c] 5 (0,0))]) b3=some (.cells #[v8 c] 5 (0,0)):=adV_ hb3
 have hb2:Buf (X1++ [(b3, .cells #[v8 c] 5 (0,0))]) 5 1 v l.length (l.map v8):=hb1.app
 refine ko @qp_ ?_
 refine Ow.append (e:=5) _ rfl rfl rfl Tryz.underlying85 Tryz.ag5 (by kernel_rfl) Tryz.zr5 (by kernel_rfl) Tryz.underlying85 (by intro k h;cases h) hb2 (fun w' hw'=>AppX.block (k:=1) (new:= [v8 c]) (zt_ lk3) (by simp) (by simp) rfl hw') (by omega) (fun v2 L2 hB2 hG2 hS2=> ?_)
 have lk2:Sx.look L2 b=some (.cells #[vp b 0,v] 89 (0,0)):=hG2.look b _ hsl (qD_ lk1)
 have st2:zn_ (some (false,1)) (some (.cells #[vp b 0,v] 89 (0,0))) 1 v2=some (.cells #[vp b 0,v2] 89 (0,0)):=aeI_ _ _ _ _ hB2.cell
 refine ko (And.intro @qp_ (And.intro @lk2 (And.intro @st2 (@akm_)))) ?_
 first|with_reducible refine ks [] @qp_ ?_|refine kp @qp_ ?_
 refine⟨_,(ke @qp_), ?_⟩
 have ex:=(kx.app (o:= .cells #[v8 c] 5 (0,0)) hw3).grew hG2
 have hs2:slB v2≠some b:=by
  rcases hS2 with h| ⟨c',h,ha⟩
  ·rw[h];exact hsl
  ·rw[h]
   intro e
   cases e
   exact Nat.lt_irrefl _ (zh_ ha (zo_ (qD_ lk1)))
 refine⟨ex.setB,rfl,vp b 0,v2,xG_ lk2, .inr rfl, ?_,hs2⟩
 rw[List.length_append,List.map_append]
 exact hB2.setO hs2
end Go.Proofs
end
section
open Go Go.Proofs Go.Sx
namespace Go.Proofs
set_option maxRecDepth 10000
set_option maxHeartbeats 1000000
set_option linter.unusedSimpArgs false
set_option linter.defProp false
theorem ZZ_ (b:Nat) (X:zb_) (l s:List UInt8) (w:World) (hB:BldAt b l X) (hX: ∀p,p∈X→w.heap[p.1]? =some p.2) (hn: (keys X).Nodup) (hl:l.length+s.length<34359738368):
  Rets Tryz.prog 69 #[vp b 0,vs s] w (XS w X (fun v D=>v= .tuple #[vi s.length, .nilIface]∧BldAt b (l++s) D)):=by
 obtain⟨p,v,hlk,hp,hb,hsl⟩:=hB
 refine Rets.enterX Tryz.func69 rfl (rs:= [.tmp 4, .tmp 5]) Tryz.results69 Tryz.ntmps69 hX hn ?_
 refine kf ?_
 first|with_reducible refine ks [] @qp_ ?_|refine kp @qp_ ?_
 refine Ow.callM rfl rfl Tryz.call104 (zo_ hlk) (fun w' hw'=>vZ_ b p v w' hp (hw'.has _ _ (zw_ hlk))) ?_
 have lk1:=xG_ (x:= .cells #[vp b 0,v] 89 (0,0)) hlk
 have rd1:=zt_ (w0:=w) lk1
 have hb1:Buf (setB X b (.cells #[vp b 0,v] 89 (0,0))) 5 1 v l.length (l.map v8):=hb.setO hsl
 have kx:Ext w X (setB X b (.cells #[vp b 0,v] 89 (0,0))):=(Ext.refl w X).setB
 generalize setB X b (.cells #[vp b 0,v] 89 (0,0))=X1 at*
 refine ko @qp_ ?_
 first|with_reducible refine ks [] (And.intro @qp_ @rd1) ?_|refine kp (And.intro @qp_ @rd1) ?_
 refine Ow.append (e:=5) _ rfl rfl rfl Tryz.underlying85 Tryz.ag5 (by kernel_rfl) Tryz.zr5 (by kernel_rfl) Tryz.underlying9 (by intro k h;cases h) hb1 (fun w' hw'=>AppX.text _ w' s) (by omega) (fun v2 L2 hB2 hG2 hS2=> ?_)
 have lk2:Sx.look L2 b=some (.cells #[vp b 0,v] 89 (0,0)):=hG2.look b _ hsl lk1
 have st2:zn_ (some (false,1)) (some (.cells #[vp b 0,v] 89 (0,0))) 1 v2=some (.cells #[vp b 0,v2] 89 (0,0)):=aeI_ _ _ _ _ hB2.cell
 refine ko (And.intro @qp_ (And.intro @lk2 (And.intro @st2 (@akm_)))) ?_
 first|with_reducible refine ks [] @qp_ ?_|refine kp @qp_ ?_
 refine⟨_,(ke @qp_), ?_⟩
 have ex:=kx.grew hG2
 have hs2:slB v2≠some b:=by
  rcases hS2 with h| ⟨c',h,ha⟩
  ·rw[h];exact hsl
  ·rw[h]
   intro e
   cases e
   exact Nat.lt_irrefl _ (zh_ ha (zo_ lk1))
 refine⟨ex.setB,rfl,vp b 0,v2,xG_ lk2, .inr rfl, ?_,hs2⟩
 rw[List.length_append,List.map_append]
 exact hB2.setO hs2
theorem W8_ (b:Nat) (X:zb_) (l:List UInt8) (w:World) (hB:BldAt b l X) (hX: ∀p,p∈X→w.heap[p.1]? =some p.2) (hn: (keys X).Nodup) (hl:l.length<34359738368):
  Rets Tryz.prog 72 #[vp b 0] w (XS w X (fun v _D=>v=vs l)):=by
 obtain⟨p,v,hlk,hp,hb,hsl⟩:=hB
 have rd1:=zt_ (w0:=w) hlk
 refine Rets.enterX Tryz.func72 rfl (rs:= [.tmp 2]) Tryz.results72 Tryz.ntmps72 hX hn ?_
 refine kf ?_
 first|with_reducible refine ks [] @qp_ ?_|refine kp @qp_ ?_
 refine Cw.regionS [b] [0,1,2,5,6,7,3,8,9,4,10,11] [] (by kernel_rfl) (by kernel_rfl) (by kernel_rfl) ?_
 refine kya ?_
 refine kq (And.intro @qp_ (And.intro @rd1 (hb.len))) ?_
 refine Ow.softA ?_
 rcases hb.inv with⟨rfl,h0,-⟩ | ⟨b2,c,rest,rfl,hl2,h1,h3,h4,-⟩
 ·obtain rfl:l= []:=List.eq_nil_of_length_eq_zero h0
  refine Ow.sliceData (v:= .pointer none) rfl rfl (.inl ⟨0,0,rfl,rfl⟩) ?_
  with_reducible refine Ow.nilD ?_
  refine Ow.softA ?_
  refine Ow.unsafeStringNil rfl rfl rfl rfl ?_
  with_reducible refine Ow.nilD ?_
  refine kq @qp_ ?_
  try with_reducible refine Ow.nil ?_
  first|with_reducible refine ks [] @qp_ ?_|refine kp @qp_ ?_
  refine⟨_,(ke @qp_), ?_⟩
  exact⟨Ext.refl _ _,rfl⟩
 ·refine Ow.sliceData (v:=vp b2 0) rfl rfl (.inr ⟨b2,_,c,rfl,by omega,rfl⟩) ?_
  with_reducible refine Ow.nilD ?_
  by_cases h0:l.length=0
  ·obtain rfl:l= []:=List.eq_nil_of_length_eq_zero h0
   refine Ow.softA ?_
   refine Ow.unsafeStringNil rfl rfl rfl rfl ?_
   with_reducible refine Ow.nilD ?_
   refine kq @qp_ ?_
   try with_reducible refine Ow.nil ?_
   first|with_reducible refine ks [] @qp_ ?_|refine kp @qp_ ?_
   refine⟨_,(ke @qp_), ?_⟩
   exact⟨Ext.refl _ _,rfl⟩
  ·refine Ow.softA ?_
   refine Ow.unsafeString rfl rfl rfl rfl hl2 (by omega) (by omega) Tryz.underlying176 (by kernel_rfl) (of_decide_eq_true (by kernel_rfl)) ?_
   with_reducible refine Ow.nil ?_
   refine⟨by intro b hb;simp only[List.mem_cons,List.not_mem_nil,or_false] at hb;(try subst hb);exact kZ_ (fun e=>hsl (by rw[←e];rfl)), ?_⟩
   refine kq @qp_ ?_
   try with_reducible refine Ow.nil ?_
   first|with_reducible refine ks [] @qp_ ?_|refine kp @qp_ ?_
   refine⟨_,(ke @qp_), ?_⟩
   exact⟨(Ext.refl _ _).setB,rfl⟩
end Go.Proofs
end
section
open Go Go.Proofs Go.Sx
namespace Go.Proofs
set_option maxRecDepth 10000
set_option maxHeartbeats 1000000
set_option linter.unusedSimpArgs false
theorem nilW (b o:Nat):qL_ Tryz.prog .eql 130 (vp b o) (.pointer none)=some (.bool false):=by
 simp[qL_,eqX,qZ_,qF_,Tryz.underlying130,vp]
set_option linter.defProp false
def jR_:=And.intro (@abS_) (And.intro (@abK_) (@nilW))
structure WG where
 g:Nat
 D:zb_
theorem XI_ (l:List (List UInt8)) (g:Nat) (h:g<l.length): (l.take (g+1)).flatten=(l.take g).flatten++l.getD g []:=by
 rw[List.take_add_one,List.getElem?_eq_getElem h,List.flatten_append,List.getD_eq_getElem?_getD,List.getElem?_eq_getElem h]
 simp
theorem V2_ (l:List (List UInt8)) (g:Nat): (l.take g).flatten.length≤l.flatten.length:=by
 conv=>rhs;rw[←List.take_append_drop g l,List.flatten_append,List.length_append]
 omega
theorem vu_ (b:Nat) (X:zb_) (l:List UInt8) (x:Value) (b2 off:Nat) (ls:List (List UInt8)) (arr:Array Value) (E:TypeId) (fz:Nat×Nat) (w:World) (hB:BldAt b l X) (hX: ∀p,p∈X→w.heap[p.1]? =some p.2) (hn: (keys X).Nodup)
  (hS:StrS w x ls b2 off arr E fz) (hne:0<ls.length→b2∉keys X) (hl:l.length+ls.flatten.length<34359738368) (hls:ls.length<34359738368):
  Rets Tryz.prog 36 #[vp b 0,x] w (XS w X (fun v D=>v= .tuple #[]∧BldAt b (l++ls.flatten) D)):=by
 refine Rets.enterX Tryz.func36 rfl (rs:= []) Tryz.results36 Tryz.ntmps36 hX hn ?_
 refine kf ?_
 first|with_reducible refine ks [] (And.intro @jR_ hS.len) ?_|refine kp (And.intro @jR_ hS.len) ?_
 refine Cw.loopG (G:=WG) [11,12,13,5,14,15,16,17,18,19,10] (fun g=> [(10,vi g.g)]) (fun g=>g.D) (fun g=>g.g≤ls.length∧Ext w X g.D∧BldAt b (l++ (ls.take g.g).flatten) g.D) (fun g=>ls.length - g.g) ⟨0,X⟩ rfl rfl ?_ ?_
 ·exact⟨by simp,Ext.refl _ _,by simpa using hB⟩
 intro g j hg
 refine kv ?_
 obtain⟨g,D⟩:=g
 simp only at hg ⊢
 obtain⟨hgL,hE,hBD⟩:=hg
 by_cases hlt:g<ls.length
 ·have hlg:=hS.get g hlt
  have hrd:=hE.old (hS.has (by omega)) (hne (by omega))
  first|with_reducible refine ks [] (And.intro @jR_ (And.intro @Sx.loadV_one (And.intro @hrd (And.intro @hlg (hS.idx))))) ?_|refine kp (And.intro @jR_ (And.intro @Sx.loadV_one (And.intro @hrd (And.intro @hlg (hS.idx))))) ?_
  have hfl:=XI_ ls g hlt
  have hfle:=V2_ ls (g+1)
  have hfl2:=congrArg List.length hfl
  rw[List.length_append] at hfl2
  refine Ow.callX (Y:= []) (by simp) rfl rfl Tryz.call69 (fun w' hw' hX hn=>ZZ_ b D _ (ls.getD g []) w' hBD hX hn (by rw[List.length_append];omega)) (fun v2 D2 hC hS2=> ?_)
  rw[List.append_nil]
  obtain⟨rfl,hB2⟩:=hS2
  refine ko @jR_ ?_
  first|with_reducible refine ks [] @jR_ ?_|refine kp @jR_ ?_
  refine Again.mk (WG.mk (g+1) D2) (by show ls.length - (g+1)<ls.length - g;omega) ⟨by show g+1≤ls.length;omega,hE.came0 hC, ?_⟩ rfl rfl
  show BldAt b (l++ (ls.take (g+1)).flatten) D2
  rw[hfl,←List.append_assoc]
  exact hB2
 ·obtain rfl:g=ls.length:=by omega
  first|with_reducible refine ks [] @jR_ ?_|refine kp @jR_ ?_
  refine⟨_,(ke @jR_), ?_⟩
  rw[List.take_length] at hBD
  exact⟨hE,rfl,hBD⟩
def maxN:Int:=1099511627775
def jb_ (n:Nat):List UInt8:=if h:n<128 then [UInt8.ofNat n] else UInt8.ofNat (n%128+128)::jb_ (n / 128)
termination_by n
decreasing_by omega
def zx_ (n:Int):Nat:=(if(if maxN<n then maxN else n)>0 then(if maxN<n then maxN else n) else 0).toNat
def kB_ (l:List Int):List UInt8:=(l.map fun n=>jb_ (zx_ n)).flatten
theorem qw_ {n:Nat} (h:n<128):jb_ n= [UInt8.ofNat n]:=by rw[jb_];simp[h]
theorem kA_ {n:Nat} (h: ¬n<128):jb_ n=UInt8.ofNat (n%128+128)::jb_ (n / 128):=by rw[jb_];simp[h]
theorem j6_: ∀ (k n:Nat),n<128^k→0<k→(jb_ n).length≤k
 |0,n,h,h0=>absurd h0 (by omega)
 |k+1,n,h,_=>by
  by_cases hn:n<128
  ·rw[qw_ hn];simp
  ·rw[kA_ hn]
   have hk:0<k:=by
    rcases Nat.eq_zero_or_pos k with rfl|hk
    ·simp at h;omega
    ·exact hk
   have:=j6_ k (n / 128) (by rw[Nat.pow_succ] at h;omega) hk
   simp only[List.length_cons];omega
theorem aaP_ (n:Int):zx_ n<1099511627776:=by unfold zx_ maxN;split<;>split at* <;>omega
theorem zp_ (n:Int): (jb_ (zx_ n)).length≤6:=j6_ 6 _ (by have:=aaP_ n;omega) (by omega)
theorem app_: ∀b:BitVec 8,b.toNat<128→(b|||128#8)=b+128#8:=by decide
theorem vL_ (m:Nat):UInt8.ofInt (m:Int)=UInt8.ofNat m:=by
 apply UInt8.toBitVec_inj.1
 apply BitVec.eq_of_toNat_eq
 simp[UInt8.ofInt,UInt8.ofNat]
 omega
theorem anN_ (m:Nat):UInt8.ofInt ((m:Int)%128) |||128=UInt8.ofNat (m%128+128):=by
 rw[show((m:Int)%128)=((m%128:Nat):Int) by omega,vL_]
 apply UInt8.toBitVec_inj.1
 have h:=app_ (BitVec.ofNat 8 (m%128)) (by simp[BitVec.toNat_ofNat];omega)
 have h1: (UInt8.ofNat (m%128) |||128).toBitVec=BitVec.ofNat 8 (m%128) |||128#8:=rfl
 rw[h1,h]
 apply BitVec.eq_of_toNat_eq
 simp[UInt8.ofNat]
structure NG where
 m:Nat
 pre:List UInt8
 D:zb_
theorem jH_ (b:Nat) (X:zb_) (l:List UInt8) (x:Value) (b2 off:Nat) (ls:List Int) (arr:Array Value) (E:TypeId) (fz:Nat×Nat) (w:World) (hB:BldAt b l X) (hX: ∀p,p∈X→w.heap[p.1]? =some p.2) (hn: (keys X).Nodup)
  (hS:OneS vi 0 w x ls b2 off arr E fz) (hne:0<ls.length→b2∉keys X) (hl:l.length+ls.length*6<34359738368):
  Rets Tryz.prog 37 #[vp b 0,x] w (XS w X (fun v D=>v= .tuple #[]∧BldAt b (l++kB_ ls) D)):=by
 refine Rets.enterX Tryz.func37 rfl (rs:= []) Tryz.results37 Tryz.ntmps37 hX hn ?_
 refine kf ?_
 first|with_reducible refine ks [] (And.intro @jR_ hS.len) ?_|refine kp (And.intro @jR_ hS.len) ?_
 refine Cw.loopG (G:=WG) [11,12,13,5,14,15,16,17,18,21,22,23,24,25,26,27,28,19,20,29,30,31,32,33,34,35,10] (fun g=> [(10,vi g.g)]) (fun g=>g.D) (fun g=>g.g≤ls.length∧Ext w X g.D∧BldAt b (l++kB_ (ls.take g.g)) g.D) (fun g=>ls.length - g.g) ⟨0,X⟩ rfl rfl ?_ ?_
 ·exact⟨by simp,Ext.refl _ _,by simpa [kB_] using hB⟩
 intro g j hg
 refine kv ?_
 obtain⟨g,D⟩:=g
 simp only at hg ⊢
 obtain⟨hgL,hE,hBD⟩:=hg
 by_cases hlt:g<ls.length
 ·have hlg:=hS.get g hlt
  have hrd:=hE.old (hS.has (by omega)) (hne (by omega))
  first|with_reducible refine ks [] (And.intro @jR_ (And.intro @Sx.loadV_one (And.intro @hrd (And.intro @hlg (hS.idx))))) ?_|refine kp (And.intro @jR_ (And.intro @Sx.loadV_one (And.intro @hrd (And.intro @hlg (hS.idx))))) ?_
  refine Ow.minI rfl rfl rfl ?_
  refine Ow.maxI rfl rfl rfl ?_
  have hcl: (if(if maxN<ls.getD g 0 then maxN else ls.getD g 0)>0 then(if maxN<ls.getD g 0 then maxN else ls.getD g 0) else 0)=(zx_ (ls.getD g 0):Int):=by
   unfold zx_;omega
  have hcl': (if(if 1099511627775<ls.getD g 0 then 1099511627775 else ls.getD g 0)>0 then(if 1099511627775<ls.getD g 0 then 1099511627775 else ls.getD g 0) else 0)=(zx_ (ls.getD g 0):Int):=hcl
  rw[hcl']
  have hcb:=aaP_ (ls.getD g 0)
  have hpl: (kB_ (ls.take g)).length≤g*6:=by
   unfold kB_
   rw[List.length_flatten,List.map_map]
   have: ∀ (q:List Int),(q.map (List.length∘fun n=>jb_ (zx_ n))).sum≤q.length*6:=by
    intro q
    induction q with
    |nil=>simp
    |cons y r ih=>have:=zp_ y;simp only[List.map_cons,List.sum_cons,List.length_cons,Function.comp];omega
   have h2:=this (ls.take g)
   rw[List.length_take] at h2
   have:min g ls.length*6≤g*6:=Nat.mul_le_mul_right _ (Nat.min_le_left _ _)
   omega
  have hnl:=zp_ (ls.getD g 0)
  have hsucc:kB_ (ls.take (g+1))=kB_ (ls.take g)++jb_ (zx_ (ls.getD g 0)):=by
   unfold kB_
   rw[List.take_succ_eq_append_getElem hlt,List.map_append,List.flatten_append,List.getD_eq_getElem?_getD,List.getElem?_eq_getElem hlt]
   simp only[List.map_cons,List.map_nil,List.flatten_cons,List.flatten_nil,List.append_nil,Option.getD_some]
  generalize zx_ (ls.getD g 0)=m0 at*
  refine ko @jR_ ?_
  first|with_reducible refine ks [] @jR_ ?_|refine kp @jR_ ?_
  refine Cw.loopG (G:=NG) [17,18,21,22,23,24,25,26,27,28,19,20,5] (fun q=> [(5,vi q.m)]) (fun q=>q.D) (fun q=>q.m≤m0∧Ext w X q.D∧jb_ m0=q.pre++jb_ q.m∧BldAt b (l++kB_ (ls.take g)++q.pre) q.D) (fun q=>q.m) ⟨m0,[],D⟩ rfl rfl ?_ ?_
  ·exact⟨Nat.le_refl _,hE,rfl,by rwa [List.append_nil]⟩
  intro q jq hq
  refine kv ?_
  obtain⟨m,pre,D1⟩:=q
  simp only at hq ⊢
  obtain⟨hqm,hE1,hpre,hB1⟩:=hq
  have hpl2:=congrArg List.length hpre
  rw[List.length_append] at hpl2
  by_cases hm:m<128
  ·first|with_reducible refine ks [] @jR_ ?_|refine kp @jR_ ?_
   rw[qw_ hm] at hpre hpl2
   have hlen: (l++kB_ (ls.take g)++pre).length+1<34359738368:=by
    rw[List.length_append,List.length_append]
    simp only[List.length_cons,List.length_nil] at hpl2
    omega
   refine Ow.callX (Y:= []) (by simp) rfl rfl Tryz.call70 (fun w' hw' hX hn=>v0_ b D1 _ _ w' hB1 hX hn (by omega)) (fun v2 D2 hC hS2=> ?_)
   rw[List.append_nil]
   obtain⟨rfl,hB2⟩:=hS2
   rw[vL_] at hB2
   refine ko @jR_ ?_
   first|with_reducible refine ks [] @jR_ ?_|refine kp @jR_ ?_
   refine Again.mk (WG.mk (g+1) D2) (by show ls.length - (g+1)<ls.length - g;omega) ⟨by show g+1≤ls.length;omega,hE1.came0 hC, ?_⟩ rfl rfl
   show BldAt b (l++kB_ (ls.take (g+1))) D2
   rw[hsucc,hpre,←List.append_assoc,←List.append_assoc]
   exact hB2
  ·first|with_reducible refine ks [] @jR_ ?_|refine kp @jR_ ?_
   rw[kA_ hm] at hpre hpl2
   have hlen: (l++kB_ (ls.take g)++pre).length+1<34359738368:=by
    rw[List.length_append,List.length_append]
    simp only[List.length_cons] at hpl2
    omega
   refine Ow.callX (Y:= []) (by simp) rfl rfl Tryz.call70 (fun w' hw' hX hn=>v0_ b D1 _ _ w' hB1 hX hn (by omega)) (fun v2 D2 hC hS2=> ?_)
   rw[List.append_nil]
   obtain⟨rfl,hB2⟩:=hS2
   rw[anN_] at hB2
   refine ko @jR_ ?_
   first|with_reducible refine ks [] @jR_ ?_|refine kp @jR_ ?_
   refine Again.mk (NG.mk (m / 128) (pre++ [UInt8.ofNat (m%128+128)]) D2) (by show m / 128<m;omega) ⟨by show m / 128≤m0;omega,hE1.came0 hC, ?_, ?_⟩ rfl rfl
   ·show jb_ m0=pre++ [UInt8.ofNat (m%128+128)]++jb_ (m / 128)
    rw[hpre];simp
   ·show BldAt b (l++kB_ (ls.take g)++ (pre++ [UInt8.ofNat (m%128+128)])) D2
    rw[←List.append_assoc]
    exact hB2
 ·obtain rfl:g=ls.length:=by omega
  first|with_reducible refine ks [] @jR_ ?_|refine kp @jR_ ?_
  refine⟨_,(ke @jR_), ?_⟩
  rw[List.take_length] at hBD
  exact⟨hE,rfl,hBD⟩
end Go.Proofs
end
section
open Go Go.Proofs Go.Sx
namespace Go.Proofs
set_option maxRecDepth 10000
set_option maxHeartbeats 1000000
set_option linter.unusedSimpArgs false
set_option linter.defProp false
def x0_:=And.intro (And.intro (@abS_) (@abK_)) (And.intro (@nilW) (And.intro (@agW_) (@w8_)))
theorem BldAt.app {b:Nat} {l:List UInt8} {X Y:zb_} (h:BldAt b l X):BldAt b l (X++Y):=by
 obtain⟨p,v,h1,h2,h3,h4⟩:=h
 exact⟨p,v,qD_ h1,h2,h3.app,h4⟩
def jN_ (s:List UInt8):List UInt8:=jb_ (zx_ s.length)++s
def xA_ (ls:List (List UInt8)):List UInt8:=(ls.map jN_).flatten
theorem JI_ (n:Int):kB_ [n]=jb_ (zx_ n):=by simp[kB_]
theorem adk_ (ls:List (List UInt8)) (g:Nat) (h:g<ls.length):xA_ (ls.take (g+1))=xA_ (ls.take g)++jN_ (ls.getD g []):=by
 unfold xA_
 rw[List.take_succ_eq_append_getElem h,List.map_append,List.flatten_append,List.getD_eq_getElem?_getD,List.getElem?_eq_getElem h]
 simp only[List.map_cons,List.map_nil,List.flatten_cons,List.flatten_nil,List.append_nil,Option.getD_some]
theorem Xe_ (ls:List (List UInt8)) (g:Nat): (xA_ (ls.take g)).length≤ (xA_ ls).length:=by
 conv=>rhs;rw[←List.take_append_drop g ls]
 unfold xA_
 rw[List.map_append,List.flatten_append,List.length_append];omega
theorem X5_ (b:Nat) (X:zb_) (l:List UInt8) (x:Value) (b2 off:Nat) (ls:List (List UInt8)) (arr:Array Value) (E:TypeId) (fz:Nat×Nat) (w:World) (hB:BldAt b l X) (hX: ∀p,p∈X→w.heap[p.1]? =some p.2) (hn: (keys X).Nodup)
  (hS:StrS w x ls b2 off arr E fz) (hne:0<ls.length→b2∉keys X) (hl:l.length+ (xA_ ls).length<17179869184) (hls:ls.length<17179869184):
  Rets Tryz.prog 38 #[vp b 0,x] w (XS w X (fun v D=>v= .tuple #[]∧BldAt b (l++xA_ ls) D)):=by
 refine Rets.enterX Tryz.func38 rfl (rs:= []) Tryz.results38 Tryz.ntmps38 hX hn ?_
 refine kf ?_
 first|with_reducible refine ks [] (And.intro @x0_ hS.len) ?_|refine kp (And.intro @x0_ hS.len) ?_
 refine Cw.loopG (G:=WG) [9,10,11,5,12,13,14,15,16,17,18,19,20,21,8] (fun g=> [(8,vi g.g)]) (fun g=>g.D) (fun g=>g.g≤ls.length∧Ext w X g.D∧BldAt b (l++xA_ (ls.take g.g)) g.D) (fun g=>ls.length - g.g) ⟨0,X⟩ rfl rfl ?_ ?_
 ·exact⟨by simp,Ext.refl _ _,by simpa [xA_] using hB⟩
 intro g j hg
 refine kv ?_
 obtain⟨g,D⟩:=g
 simp only at hg ⊢
 obtain⟨hgL,hE,hBD⟩:=hg
 by_cases hlt:g<ls.length
 ·have hlg:=hS.get g hlt
  have hrd:=hE.old (hS.has (by omega)) (hne (by omega))
  have hsu:=adk_ ls g hlt
  have hle:=Xe_ ls (g+1)
  have hsl:=congrArg List.length hsu
  rw[List.length_append] at hsl
  have htl: (jN_ (ls.getD g [])).length=(jb_ (zx_ (ls.getD g []).length)).length+ (ls.getD g []).length:=by unfold jN_;rw[List.length_append]
  first|with_reducible refine ks [] (And.intro @x0_ (And.intro @Sx.loadV_one (And.intro @hrd (And.intro @hlg (hS.idx))))) ?_|refine kp (And.intro @x0_ (And.intro @Sx.loadV_one (And.intro @hrd (And.intro @hlg (hS.idx))))) ?_
  refine Ow.buildSlice (e:=3) #[vi (ls.getD g []).length] rfl rfl (by kernel_rfl) fun b3 hb3 hw3=> ?_
  refine ko @x0_ ?_
  refine Ow.callX (Y:= [(b3, .cells #[vi (ls.getD g []).length] 3 (0,0))]) (by simp) rfl rfl Tryz.call37 (fun w' hw' hX hn=>jH_ b D _ _ b3 0 [((ls.getD g []).length:Int)] _ _ _ w' hBD hX hn (OneS.lit [((ls.getD g []).length:Int)] rfl rfl (hw'.has _ _ (List.mem_append_right _ List.mem_cons_self))) (fun _ hm=>Nat.lt_irrefl _ (zh_ hb3 hm)) (by rw[List.length_append];simp only[List.length_cons,List.length_nil];omega)) (fun v2 D2 hC hS2=> ?_)
  obtain⟨rfl,hB2⟩:=hS2
  have hE2:=(hE.app (o:= .cells #[vi (ls.getD g []).length] 3 (0,0)) hw3).came hC
  rw[JI_] at hB2
  have hB3:=BldAt.app (Y:= [(b3, .cells #[vi (ls.getD g []).length] 3 (0,0))]) hB2
  generalize D2++ [(b3,Obj.cells #[vi (ls.getD g []).length] 3 (0,0))]=D3 at*
  refine ko @x0_ ?_
  first|with_reducible refine ks [] @x0_ ?_|refine kp @x0_ ?_
  refine Ow.buildSlice (e:=9) #[vs (ls.getD g [])] rfl rfl (by kernel_rfl) fun b4 hb4 hw4=> ?_
  refine ko @x0_ ?_
  refine Ow.callX (Y:= [(b4, .cells #[vs (ls.getD g [])] 9 (0,0))]) (by simp) rfl rfl Tryz.call36 (fun w' hw' hX hn=>vu_ b D3 _ _ b4 0 [ls.getD g []] _ _ _ w' hB3 hX hn (StrS.lit [ls.getD g []] rfl rfl (hw'.has _ _ (List.mem_append_right _ List.mem_cons_self))) (fun _ hm=>Nat.lt_irrefl _ (zh_ hb4 hm)) (by rw[List.length_append,List.length_append];simp only[List.flatten_cons,List.flatten_nil,List.append_nil];omega) (by simp)) (fun v4 D4 hC4 hS4=> ?_)
  obtain⟨rfl,hB4⟩:=hS4
  have hE4:=(hE2.app (o:= .cells #[vs (ls.getD g [])] 9 (0,0)) hw4).came hC4
  have hB5:=BldAt.app (Y:= [(b4, .cells #[vs (ls.getD g [])] 9 (0,0))]) hB4
  generalize D4++ [(b4,Obj.cells #[vs (ls.getD g [])] 9 (0,0))]=D5 at*
  refine ko @x0_ ?_
  first|with_reducible refine ks [] @x0_ ?_|refine kp @x0_ ?_
  refine Again.mk (WG.mk (g+1) D5) (by show ls.length - (g+1)<ls.length - g;omega) ⟨by show g+1≤ls.length;omega,hE4, ?_⟩ rfl rfl
  show BldAt b (l++xA_ (ls.take (g+1))) D5
  rw[hsu]
  simpa [jN_] using hB5
 ·obtain rfl:g=ls.length:=by omega
  first|with_reducible refine ks [] @x0_ ?_|refine kp @x0_ ?_
  refine⟨_,(ke @x0_), ?_⟩
  rw[List.take_length] at hBD
  exact⟨hE,rfl,hBD⟩
structure IdL where
 l:List UInt8
 h:l.length=32
def kq_ (x:IdL):List Value:=x.l.map v8
def id0:IdL:=⟨List.replicate 32 0,by simp⟩
theorem qT_ (x:IdL): (kq_ x).length=32:=by simp[kq_,x.h]
theorem KI_ (x:IdL): (kq_ x).toArray=a8 x.l:=rfl
theorem xY_ (b:Nat) (X:zb_) (l:List UInt8) (w:World) (hB:BldAt b l X) (hX: ∀p,p∈X→w.heap[p.1]? =some p.2) (hn: (keys X).Nodup) (hl:l.length<34359738368):
  Rets Tryz.prog 40 #[vp b 0] w (XS w X (fun v _=>v=vs l)):=by
 refine Rets.enterX Tryz.func40 rfl (rs:= [.tmp 2]) Tryz.results40 Tryz.ntmps40 hX hn ?_
 refine kf ?_
 first|with_reducible refine ks [] @x0_ ?_|refine kp @x0_ ?_
 refine Ow.callX (Y:= []) (by simp) rfl rfl Tryz.call72 (fun w' hw' hX hn=>W8_ b X l w' hB hX hn hl) (fun v2 D2 hC hS2=> ?_)
 subst hS2
 rw[List.append_nil]
 refine ko @x0_ ?_
 first|with_reducible refine ks [] @x0_ ?_|refine kp @x0_ ?_
 refine⟨_,(ke @x0_), ?_⟩
 exact⟨(Ext.refl _ _).came0 hC,rfl⟩
end Go.Proofs
end
section
open Go Go.Proofs Go.Sx
namespace Go.Proofs
set_option maxRecDepth 10000
set_option maxHeartbeats 1000000
set_option linter.unusedSimpArgs false
theorem vC_ (s:List UInt8) (a e:Int) (E:TypeId) (n:Nat):zl_ (some (false,n)) (some (.cells #[vs s,vi a,vi e] E (0,0))) 0=some (vs s):=(rfl)
theorem vK_ (s:List UInt8) (a e:Int) (E:TypeId) (n:Nat):zl_ (some (false,n)) (some (.cells #[vs s,vi a,vi e] E (0,0))) 1=some (vi a):=(rfl)
theorem vR_ (s:List UInt8) (a e:Int) (E:TypeId) (n:Nat):zl_ (some (false,n)) (some (.cells #[vs s,vi a,vi e] E (0,0))) 2=some (vi e):=(rfl)
theorem kf_ (s:List UInt8) (a e x:Int) (E:TypeId):zn_ (some (false,1)) (some (.cells #[vs s,vi a,vi e] E (0,0))) 1 (vi x)=some (.cells #[vs s,vi x,vi e] E (0,0)):=by
 simp[zn_,vV_,vi,Value.cells,Value.oneCell']
theorem kj_ (s:List UInt8) (a e x:Int) (E:TypeId):zn_ (some (false,1)) (some (.cells #[vs s,vi a,vi e] E (0,0))) 2 (vi x)=some (.cells #[vs s,vi a,vi x] E (0,0)):=by
 simp[zn_,vV_,vi,Value.cells,Value.oneCell']
theorem nilR (b o:Nat):qL_ Tryz.prog .eql 61 (vp b o) (.pointer none)=some (.bool false):=by
 simp[qL_,eqX,qZ_,qF_,Tryz.underlying61,vp]
theorem art_:qL_ Tryz.prog .eql 61 (.pointer none) (.pointer none)=some (.bool true):=by
 simp[qL_,eqX,qZ_,qF_,Tryz.underlying61]
theorem aqJ_ (b o:Nat):qL_ Tryz.prog .neq 61 (vp b o) (.pointer none)=some (.bool true):=by
 simp[qL_,eqX,qZ_,qF_,Tryz.underlying61,vp]
theorem aqf_:qL_ Tryz.prog .neq 61 (.pointer none) (.pointer none)=some (.bool false):=by
 simp[qL_,eqX,qZ_,qF_,Tryz.underlying61]
set_option linter.defProp false
def zd_:=And.intro (And.intro (And.intro (@vC_) (@vK_)) (And.intro (@vR_) (@kf_))) (And.intro (And.intro (@kj_) (@nilR)) (And.intro (@art_) (And.intro (@aqJ_) (@aqf_))))
theorem xc_ (b:Nat) (s:List UInt8) (a e:Int) (w:World) (ho:w.heap[b]? =some (.cells #[vs s,vi a,vi e] 108 (0,0))):
  Rets Tryz.prog 50 #[vp b 0] w (fun v D=>v=vi e∧D= []):=by
 refine Rets.enterV Tryz.func50 rfl (rs:= [.tmp 2]) Tryz.results50 Tryz.ntmps50 ?_
 refine kf ?_
 first|with_reducible refine ks [] (And.intro @zd_ @ho) ?_|refine kp (And.intro @zd_ @ho) ?_
 refine⟨_,(ke @zd_),trivial, ?_⟩
 rfl
theorem adS_ (b:Nat) (s:List UInt8) (a e:Int) (w:World) (ho:w.heap[b]? =some (.cells #[vs s,vi a,vi e] 108 (0,0))):
  Rets Tryz.prog 51 #[vp b 0] w (fun v D=>v=vi a∧D= []):=by
 refine Rets.enterV Tryz.func51 rfl (rs:= [.tmp 2]) Tryz.results51 Tryz.ntmps51 ?_
 refine kf ?_
 first|with_reducible refine ks [] (And.intro @zd_ @ho) ?_|refine kp (And.intro @zd_ @ho) ?_
 refine⟨_,(ke @zd_),trivial, ?_⟩
 rfl
theorem Qp_ (b:Nat) (s:List UInt8) (a e:Int) (w:World) (ho:w.heap[b]? =some (.cells #[vs s,vi a,vi e] 108 (0,0))):
  Rets Tryz.prog 28 #[vp b 0] w (fun v D=>v=vi (if e≠0 then e else if a<s.length then 5 else 0)∧D= []):=by
 refine Rets.enterV Tryz.func28 rfl (rs:= [.tmp 2]) Tryz.results28 Tryz.ntmps28 ?_
 refine kf ?_
 first|with_reducible refine ks [] @zd_ ?_|refine kp @zd_ ?_
 refine Ow.callFV rfl Tryz.call50 (fun w' hw'=>xc_ b s a e w' (by rw[hw'.old b (Array.getElem?_eq_some_iff.1 ho).1 (by simp[keys])];exact ho)) ?_
 refine ko @zd_ ?_
 first|with_reducible refine ks [] @zd_ ?_|refine kp @zd_ ?_
 by_cases he:e=0
 ·first|with_reducible refine ks [] @zd_ ?_|refine kp @zd_ ?_
  refine Cw.regionS [b] [0,1,2,4,5,6,3,7,8,9] [] (by kernel_rfl) (by kernel_rfl) (by kernel_rfl) ?_
  refine kya ?_
  refine kq (And.intro @zd_ @ho) ?_
  try with_reducible refine Ow.nil ?_
  first|with_reducible refine ks [] @zd_ ?_|refine kp @zd_ ?_
  refine cdC.splitp (fun hc=> ?_) (fun hc=> ?_)
  ·first|with_reducible refine ks [] @zd_ ?_|refine kp @zd_ ?_
   refine⟨_,(ke @zd_),trivial, ?_⟩
   simp[hc,he,kT_]
  ·first|with_reducible refine ks [] @zd_ ?_|refine kp @zd_ ?_
   refine⟨_,(ke @zd_),trivial, ?_⟩
   simp[hc,he,kT_]
 ·first|with_reducible refine ks [] @zd_ ?_|refine kp @zd_ ?_
  refine⟨_,(ke @zd_),trivial, ?_⟩
  simp[he,kT_]
theorem j5_ (b:Nat) (s:List UInt8) (a e x y:Int) (w:World) (ho:w.heap[b]? =some (.cells #[vs s,vi a,vi e] 108 (0,0))):
  Rets Tryz.prog 88 #[vp b 0,vi x,vi y] w (fun v D=> ∃o,D= [(b,o)]∧v= .tuple #[]∧o= .cells #[vs s,vi (if e=0 then y else a),vi (if e=0 then x else e)] 108 (0,0)):=by
 refine Rets.enterM Tryz.func88 rfl (rs:= []) Tryz.results88 Tryz.ntmps88 ho ?_
 refine kf ?_
 first|with_reducible refine ks [] @zd_ ?_|refine kp @zd_ ?_
 by_cases he:e=0
 ·first|with_reducible refine ks [] @zd_ ?_|refine kp @zd_ ?_
  refine⟨_,_,_,(ke @zd_),rfl,trivial, ?_⟩
  simp[he,kT_]
 ·first|with_reducible refine ks [] @zd_ ?_|refine kp @zd_ ?_
  refine⟨_,_,_,(ke @zd_),rfl,trivial, ?_⟩
  simp[he,kT_]
def jp_ (s:List UInt8) (a:Nat) (e n:Int):List UInt8×Nat×Int:=
 if e≠0 then([],a,e) else if n<0 then([],a,2) else if(s.length:Int) - a<n then([],a,3) else((s.drop a).take n.toNat,a+n.toNat,0)
theorem vo_ (b:Nat) (s:List UInt8) (a:Nat) (e n:Int) (w:World) (ha:a≤s.length) (hs:s.length<9223372036854775808) (ho:w.heap[b]? =some (.cells #[vs s,vi a,vi e] 108 (0,0))):
  Rets Tryz.prog 48 #[vp b 0,vi n] w (fun v D=> ∃o,D= [(b,o)]∧v=vs (jp_ s a e n).1∧o= .cells #[vs s,vi (jp_ s a e n).2.1,vi (jp_ s a e n).2.2] 108 (0,0)):=by
 refine Rets.enterM Tryz.func48 rfl (rs:= [.tmp 4]) Tryz.results48 Tryz.ntmps48 ho ?_
 refine kf ?_
 first|with_reducible refine ks [] @zd_ ?_|refine kp @zd_ ?_
 refine Ow.callFV rfl Tryz.call50 (fun w' hw'=>xc_ b s a e w' (hw'.has _ _ List.mem_cons_self)) ?_
 refine ko @zd_ ?_
 first|with_reducible refine ks [] @zd_ ?_|refine kp @zd_ ?_
 unfold jp_
 by_cases he:e=0
 ·subst he
  rw[if_neg (fun h=>h rfl)]
  first|with_reducible refine ks [] @zd_ ?_|refine kp @zd_ ?_
  by_cases hn:n<0
  ·rw[if_pos hn]
   first|with_reducible refine ks [] @zd_ ?_|refine kp @zd_ ?_
   refine Ow.callM rfl rfl Tryz.call88 (by simp[keys]) (fun w' hw'=>j5_ b s a 0 2 a w' (hw'.has _ _ List.mem_cons_self)) ?_
   refine ko @zd_ ?_
   first|with_reducible refine ks [] @zd_ ?_|refine kp @zd_ ?_
   refine⟨_,_,_,(ke @zd_),rfl,trivial, ?_⟩
   exact⟨rfl,rfl⟩
  ·rw[if_neg hn]
   first|with_reducible refine ks [] @zd_ ?_|refine kp @zd_ ?_
   refine Cw.regionS [b] [0,1,2,3,6,7,8,4,5,9,10,11,12] [] (by kernel_rfl) (by kernel_rfl) (by kernel_rfl) ?_
   refine kya ?_
   refine kq @zd_ ?_
   try with_reducible refine Ow.nil ?_
   first|with_reducible refine ks [] @zd_ ?_|refine kp @zd_ ?_
   by_cases hl: (s.length:Int) - a<n
   ·rw[if_pos hl]
    first|with_reducible refine ks [] @zd_ ?_|refine kp @zd_ ?_
    refine Ow.callM rfl rfl Tryz.call88 (by simp[keys]) (fun w' hw'=>j5_ b s a 0 3 a w' (hw'.has _ _ List.mem_cons_self)) ?_
    refine ko @zd_ ?_
    first|with_reducible refine ks [] @zd_ ?_|refine kp @zd_ ?_
    refine⟨_,_,_,(ke @zd_),rfl,trivial, ?_⟩
    exact⟨rfl,rfl⟩
   ·rw[if_neg hl]
    obtain⟨m,rfl⟩: ∃m:Nat,n=(m:Int):=⟨n.toNat,by omega⟩
    first|with_reducible refine ks [] @zd_ ?_|refine kp @zd_ ?_
    refine Cw.regionS [b] [0,1,2,4,5,6,8,9,10,12,3,7,11,13,14,15] [] (by kernel_rfl) (by kernel_rfl) (by kernel_rfl) ?_
    refine kya ?_
    refine kq @zd_ ?_
    try with_reducible refine Ow.nil ?_
    first|with_reducible refine ks [] @zd_ ?_|refine kp @zd_ ?_
    refine⟨_,_,_,(ke @zd_),rfl,trivial, ?_⟩
    refine⟨?_, ?_⟩
    ·simp only[kT_,Int.toNat_natCast]
     rw[List.drop_take,Nat.add_sub_cancel_left]
    ·rw[Int.toNat_natCast,Int.natCast_add]
 ·rw[if_pos he]
  first|with_reducible refine ks [] @zd_ ?_|refine kp @zd_ ?_
  refine⟨_,_,_,(ke @zd_),rfl,trivial, ?_⟩
  exact⟨rfl,rfl⟩
end Go.Proofs
end
section
open Go Go.Proofs Go.Sx
namespace Go.Proofs
set_option maxRecDepth 10000
set_option maxHeartbeats 8000000
set_option linter.unusedSimpArgs false
set_option linter.defProp false
def z5_ (most:Int):List UInt8→Nat→Nat→Except Nat (Nat×Nat)
 | [],_,_=> .error 3
 |c::r,k,n=>
  if 128≤c.toNat then(if k+1=6 then .error 4 else z5_ most r (k+1) (n+c.toNat%128*128^k))
  else if c.toNat=0∧0<k then .error 2
  else if n+c.toNat%128*128^k≤1099511627775∧((n+c.toNat%128*128^k:Nat):Int)≤most then .ok (n+c.toNat%128*128^k,k+1)
  else .error 4
def zs_ (s:List UInt8) (a:Nat) (e most:Int):Int×Nat×Int:=
 if e≠0 then(0,a,e) else match z5_ most (s.drop a) 0 0 with
  | .ok (n,k)=>(n,a+k,0)
  | .error x=>(0,a,x)
theorem Jx_ {s:List UInt8} {a:Nat} {e most:Int} {n k:Nat} (he:e=0) (h:z5_ most (s.drop a) 0 0= .ok (n,k)):zs_ s a e most=((n:Int),a+k,0):=by
 unfold zs_;rw[if_neg (by simp[he]),h]
theorem jA_ {s:List UInt8} {a:Nat} {e most:Int} {x:Nat} (he:e=0) (h:z5_ most (s.drop a) 0 0= .error x):zs_ s a e most=(0,a,(x:Int)):=by
 unfold zs_;rw[if_neg (by simp[he]),h]
structure NumS where
 more:Bool
 k:Nat
 n:Nat
 x:Nat
theorem qP_ (b:Nat) (s:List UInt8) (a:Nat) (e most:Int) (w:World) (ha:a≤s.length) (hs:s.length<9223372036854775808) (ho:w.heap[b]? =some (.cells #[vs s,vi a,vi e] 108 (0,0))):
  Rets Tryz.prog 49 #[vp b 0,vi most] w (fun v D=> ∃o,D= [(b,o)]∧v=vi (zs_ s a e most).1∧o= .cells #[vs s,vi (zs_ s a e most).2.1,vi (zs_ s a e most).2.2] 108 (0,0)):=by
 refine Rets.enterM Tryz.func49 rfl (rs:= [.tmp 4]) Tryz.results49 Tryz.ntmps49 ho ?_
 refine kf ?_
 first|with_reducible refine ks [] @zd_ ?_|refine kp @zd_ ?_
 by_cases he:e=0
 ·subst he
  refine Cw.scopeL (G:=NumS) (fun g=>(if g.more then 1 else 0)) [10,11,12,4,5,6,7,13,14,15,16,8,9,17,18,19,20,21,22,23,24,25,26,27,28,29,30,31,32,33,34,35,36,37,38,39,40,41,42,43,44,45,46,47,48,49,50,51,52,53,54,55,56,57,58,59,60,61,62,63,64,65,66,67,68,69,70,71,72,73] (fun g=>(if g.more then [(5,vi g.n),(6,vi (7*g.k:Nat)),(8,vi 3),(9,vi a)] else [(8,vi g.x),(9,vi a)])) (fun g=> [(b, .cells #[vs s,vi (a+g.k:Nat),vi 0] 108 (0,0))]) (fun g=>a+g.k≤s.length∧(if g.more then z5_ most (s.drop a) 0 0=z5_ most (s.drop (a+g.k)) g.k g.n∧g.n<128^g.k∧g.k<6 else z5_ most (s.drop a) 0 0= .error g.x)) (fun g=>(if g.more then 7 - g.k else 0)) ?_ ?_ ?_
  ·intro g
   obtain⟨m,k,n,x⟩:=g
   cases m<;>rfl
  ·intro g j hg
   obtain⟨m,k,n,x⟩:=g
   obtain⟨hk,hg⟩:=hg
   simp only at hk
   cases m with
   |false=>
    simp only[Bool.false_eq_true, ↓reduceIte] at hg ⊢
    simp only[xD_,ZS_,Bool.or_false,Bool.false_or,Bool.or_true,Bool.true_or,Nat.reduceBEq,beq_self_eq_true, ↓reduceIte,Bool.false_eq_true]
    refine kv ?_
    try with_reducible refine qr_ ?_
    first|with_reducible refine ks [] @zd_ ?_|refine kp @zd_ ?_
    refine Ow.callM rfl rfl Tryz.call88 (by simp[keys]) (fun w' hw'=>j5_ b s _ 0 x a w' (hw'.has _ _ List.mem_cons_self)) ?_
    refine ko @zd_ ?_
    first|with_reducible refine ks [] @zd_ ?_|refine kp @zd_ ?_
    rw[jA_ rfl hg]
    refine⟨_,_,_,(ke @zd_),rfl,trivial, ?_⟩
    simp[kT_]
   |true=>
    simp only[↓reduceIte] at hg ⊢
    obtain⟨hgo,hn,hk6⟩:=hg
    simp only[xD_,ZS_,Bool.or_false,Bool.false_or,Bool.or_true,Bool.true_or,Nat.reduceBEq,beq_self_eq_true, ↓reduceIte,Bool.false_eq_true]
    refine kv ?_
    try with_reducible refine qr_ ?_
    first|with_reducible refine ks [] @zd_ ?_|refine kp @zd_ ?_
    refine Cw.regionS [b] [0,1,2,4,5,6,3,7,8,9] [] (by kernel_rfl) (by kernel_rfl) (by kernel_rfl) ?_
    refine kya ?_
    refine kq @zd_ ?_
    try with_reducible refine Ow.nil ?_
    by_cases hend:a+k=s.length
    ·first|with_reducible refine ks [] @zd_ ?_|refine kp @zd_ ?_
     refine Jump.mk (NumS.mk false k n 3) rfl (by show 0<7 - k;omega) ⟨hk, ?_⟩ rfl rfl
     show z5_ most (s.drop a) 0 0= .error 3
     rw[hgo,hend,List.drop_length];rfl
    ·first|with_reducible refine ks [] @zd_ ?_|refine kp @zd_ ?_
     have hak:a+k<s.length:=by omega
     have hdrop:s.drop (a+k)=s.getD (a+k) 0::s.drop (a+k+1):=by
      rw[List.drop_eq_getElem_cons hak,List.getD_eq_getElem?_getD,List.getElem?_eq_getElem hak];rfl
     rw[hdrop] at hgo
     refine Cw.regionS [b] [0,1,2,4,5,6,3,7,8,9] [] (by kernel_rfl) (by kernel_rfl) (by kernel_rfl) ?_
     refine kya ?_
     refine kq @zd_ ?_
     try with_reducible refine Ow.nil ?_
     generalize s.getD (a+k) 0=c at*
     have hp:128^k≤34359738368:=Nat.pow_le_pow_right (by omega) (show k≤5 by omega)
     have hp0:0<128^k:=Nat.pow_pos (by omega)
     have hd: (c%128).toNat=c.toNat%128:=by simp
     have hcl:=c.toNat_lt
     have hdm:c.toNat%128*128^k≤127*128^k:=Nat.mul_le_mul_right _ (by omega)
     have hshl:zj_ .shl (vi ((c.toNat%128:Nat):Int)) (vi ((7*k:Nat):Int))=some (vi ((c.toNat%128*128^k:Nat):Int)):=by
      have h2: (2:Int)^ (7*k)=((128^k:Nat):Int):=by
       rw[Int.pow_mul];push_cast;rfl
      have:=ahx_ ((c.toNat%128:Nat):Int) .i64 (7*k) (by rw[h2];refine⟨by omega,by omega, ?_⟩;rw[←Int.natCast_mul];omega)
      rw[h2,←Int.natCast_mul] at this
      exact this
     have hor:zj_ .or (vi (n:Int)) (vi ((c.toNat%128*128^k:Nat):Int))=some (vi ((n+c.toNat%128*128^k:Nat):Int)):=by
      have:=or_i (n:Int) ((c.toNat%128*128^k:Nat):Int) ⟨by omega,by omega,by omega,by omega⟩
      rw[this]
      congr 3
      rw[Int.toNat_natCast,Int.toNat_natCast,show 128^k=2^ (7*k) by rw[Nat.pow_mul],Nat.mul_comm,Nat.or_comm,←Nat.two_pow_add_eq_or_of_lt (by rw[Nat.pow_mul];exact hn),Nat.add_comm]
     have hlt:n+c.toNat%128*128^k<128^ (k+1):=by rw[Nat.pow_succ];omega
     have hrem:zj_ .rem (v8 c) (v8 128)=some (v8 (c%128)):=Kz_ _ _ (by decide)
     first|with_reducible refine ks [] (And.intro @zd_ (And.intro @hrem (And.intro @hd (And.intro @hshl (@hor))))) ?_|refine kp (And.intro @zd_ (And.intro @hrem (And.intro @hd (And.intro @hshl (@hor))))) ?_
     have hle:decide ((128:UInt8)≤c)=decide (128≤c.toNat):=by simp[UInt8.le_iff_toNat_le]
     cases h128:decide ((128:UInt8)≤c)
     ·rw[h128] at hle
      have hc128: ¬128≤c.toNat:=of_decide_eq_false hle.symm
      cases hz: (c==0)
      ·have hc0: ¬ (c.toNat=0∧0<k):=by
        rintro⟨h0,-⟩
        have:c=0:=UInt8.toNat_inj.1 h0
        rw[this] at hz
        exact absurd hz (by decide)
       first|with_reducible refine ks [] (And.intro @zd_ @hz) ?_|refine kp (And.intro @zd_ @hz) ?_
       by_cases hm:n+c.toNat%128*128^k≤1099511627775
       ·have e1:decide (((n+c.toNat%128*128^k:Nat):Int)≤1099511627775)=true:=decide_eq_true (by omega)
        first|with_reducible refine ks [] (And.intro @zd_ @e1) ?_|refine kp (And.intro @zd_ @e1) ?_
        by_cases hmo: ((n+c.toNat%128*128^k:Nat):Int)≤most
        ·first|with_reducible refine ks [] @zd_ ?_|refine kp @zd_ ?_
         rw[Jx_ rfl (by rw[hgo,z5_,if_neg hc128,if_neg hc0,if_pos ⟨hm,hmo⟩])]
         refine⟨_,_,_,(ke @zd_),rfl,trivial, ?_⟩
         exact⟨rfl,rfl⟩
        ·first|with_reducible refine ks [] @zd_ ?_|refine kp @zd_ ?_
         refine Ow.callM rfl rfl Tryz.call88 (by simp[keys]) (fun w' hw'=>j5_ b s _ 0 4 a w' (hw'.has _ _ List.mem_cons_self)) ?_
         refine ko @zd_ ?_
         first|with_reducible refine ks [] @zd_ ?_|refine kp @zd_ ?_
         rw[jA_ (x:=4) rfl (by rw[hgo,z5_,if_neg hc128,if_neg hc0,if_neg (fun h=>hmo h.2)])]
         refine⟨_,_,_,(ke @zd_),rfl,trivial, ?_⟩
         exact⟨rfl,rfl⟩
       ·have e1:decide (((n+c.toNat%128*128^k:Nat):Int)≤1099511627775)=false:=decide_eq_false (by omega)
        first|with_reducible refine ks [] (And.intro @zd_ @e1) ?_|refine kp (And.intro @zd_ @e1) ?_
        refine Ow.callM rfl rfl Tryz.call88 (by simp[keys]) (fun w' hw'=>j5_ b s _ 0 4 a w' (hw'.has _ _ List.mem_cons_self)) ?_
        refine ko @zd_ ?_
        first|with_reducible refine ks [] @zd_ ?_|refine kp @zd_ ?_
        rw[jA_ (x:=4) rfl (by rw[hgo,z5_,if_neg hc128,if_neg hc0,if_neg (fun h=>hm h.1)])]
        refine⟨_,_,_,(ke @zd_),rfl,trivial, ?_⟩
        exact⟨rfl,rfl⟩
      ·have hcz:c=0:=eq_of_beq hz
       have hct:c.toNat=0:=by rw[hcz];rfl
       first|with_reducible refine ks [] (And.intro @zd_ @hz) ?_|refine kp (And.intro @zd_ @hz) ?_
       by_cases hk0:0<k
       ·first|with_reducible refine ks [] @zd_ ?_|refine kp @zd_ ?_
        refine Jump.mk (NumS.mk false (k+1) n 2) rfl (by show 0<7 - k;omega) ⟨by show a+ (k+1)≤s.length;omega, ?_⟩ rfl rfl
        show z5_ most (s.drop a) 0 0= .error 2
        rw[hgo,z5_,if_neg hc128,if_pos ⟨hct,hk0⟩]
       ·have hc0: ¬ (c.toNat=0∧0<k):=fun h=>hk0 h.2
        first|with_reducible refine ks [] @zd_ ?_|refine kp @zd_ ?_
        by_cases hm:n+c.toNat%128*128^k≤1099511627775
        ·have e1:decide (((n+c.toNat%128*128^k:Nat):Int)≤1099511627775)=true:=decide_eq_true (by omega)
         first|with_reducible refine ks [] (And.intro @zd_ @e1) ?_|refine kp (And.intro @zd_ @e1) ?_
         by_cases hmo: ((n+c.toNat%128*128^k:Nat):Int)≤most
         ·first|with_reducible refine ks [] @zd_ ?_|refine kp @zd_ ?_
          rw[Jx_ rfl (by rw[hgo,z5_,if_neg hc128,if_neg hc0,if_pos ⟨hm,hmo⟩])]
          refine⟨_,_,_,(ke @zd_),rfl,trivial, ?_⟩
          exact⟨rfl,rfl⟩
         ·first|with_reducible refine ks [] @zd_ ?_|refine kp @zd_ ?_
          refine Ow.callM rfl rfl Tryz.call88 (by simp[keys]) (fun w' hw'=>j5_ b s _ 0 4 a w' (hw'.has _ _ List.mem_cons_self)) ?_
          refine ko @zd_ ?_
          first|with_reducible refine ks [] @zd_ ?_|refine kp @zd_ ?_
          rw[jA_ (x:=4) rfl (by rw[hgo,z5_,if_neg hc128,if_neg hc0,if_neg (fun h=>hmo h.2)])]
          refine⟨_,_,_,(ke @zd_),rfl,trivial, ?_⟩
          exact⟨rfl,rfl⟩
        ·have e1:decide (((n+c.toNat%128*128^k:Nat):Int)≤1099511627775)=false:=decide_eq_false (by omega)
         first|with_reducible refine ks [] (And.intro @zd_ @e1) ?_|refine kp (And.intro @zd_ @e1) ?_
         refine Ow.callM rfl rfl Tryz.call88 (by simp[keys]) (fun w' hw'=>j5_ b s _ 0 4 a w' (hw'.has _ _ List.mem_cons_self)) ?_
         refine ko @zd_ ?_
         first|with_reducible refine ks [] @zd_ ?_|refine kp @zd_ ?_
         rw[jA_ (x:=4) rfl (by rw[hgo,z5_,if_neg hc128,if_neg hc0,if_neg (fun h=>hm h.1)])]
         refine⟨_,_,_,(ke @zd_),rfl,trivial, ?_⟩
         exact⟨rfl,rfl⟩
     ·rw[h128] at hle
      have hc128:128≤c.toNat:=of_decide_eq_true hle.symm
      first|with_reducible refine ks [] @zd_ ?_|refine kp @zd_ ?_
      by_cases hk5:k=5
      ·first|with_reducible refine ks [] @zd_ ?_|refine kp @zd_ ?_
       refine Jump.mk (NumS.mk false (k+1) n 4) rfl (by show 0<7 - k;omega) ⟨by show a+ (k+1)≤s.length;omega, ?_⟩ rfl rfl
       show z5_ most (s.drop a) 0 0= .error 4
       rw[hgo,z5_,if_pos hc128,if_pos (by omega)]
      ·first|with_reducible refine ks [] @zd_ ?_|refine kp @zd_ ?_
       refine Jump.mk (NumS.mk true (k+1) (n+c.toNat%128*128^k) 0) rfl (by show 7 - (k+1)<7 - k;omega) ⟨by show a+ (k+1)≤s.length;omega, ?_⟩ rfl rfl
       show z5_ most (s.drop a) 0 0=z5_ most (s.drop (a+ (k+1))) (k+1) (n+c.toNat%128*128^k)∧n+c.toNat%128*128^k<128^ (k+1)∧k+1<6
       refine⟨?_,hlt,by omega⟩
       rw[hgo,z5_,if_pos hc128,if_neg (by omega)]
       rfl
  ·intro key
   have key0:=fun f'=>key (NumS.mk true 0 0 0) f'
   simp only[xD_,ZS_,Bool.or_false,Bool.false_or,Bool.or_true,Bool.true_or,Nat.reduceBEq,beq_self_eq_true, ↓reduceIte,Bool.false_eq_true] at key0
   clear key
   repeat first|with_reducible refine ks [999999] @zd_ ?_|refine kw @zd_ ?_
   refine Ow.callFV rfl Tryz.call50 (fun w' hw'=>xc_ b s a 0 w' (hw'.has _ _ List.mem_cons_self)) ?_
   refine ko @zd_ ?_
   repeat first|with_reducible refine ks [999999] @zd_ ?_|refine kw @zd_ ?_
   repeat first|with_reducible refine ks [999999] @zd_ ?_|refine kw @zd_ ?_
   refine Cw.regionS [b] [0,1,2,4,3,5] [] (by kernel_rfl) (by kernel_rfl) (by kernel_rfl) ?_
   refine kya ?_
   refine kq @zd_ ?_
   try with_reducible refine Ow.nil ?_
   repeat first|with_reducible refine ks [999999] @zd_ ?_|refine kw @zd_ ?_
   refine Cw.label ?_
   refine key0 _ ⟨by omega,rfl,by omega,by omega⟩ ?_
   rfl
 ·refine Cw.scopeS ?_
  first|with_reducible refine ks [] @zd_ ?_|refine kp @zd_ ?_
  refine Ow.callFV rfl Tryz.call50 (fun w' hw'=>xc_ b s a e w' (hw'.has _ _ List.mem_cons_self)) ?_
  refine ko @zd_ ?_
  first|with_reducible refine ks [] @zd_ ?_|refine kp @zd_ ?_
  unfold zs_
  refine⟨_,_,_,(ke @zd_),rfl,trivial, ?_⟩
  simp[he,kT_]
end Go.Proofs
end
namespace Go.Sx
open Go
section
variable {P:Program} {w0:World} {f:Fr} {L:zb_} {N:Fr→zb_→Prop} {ops:Array Oper} {rest:List Oper} {md:Md}
 {d:Option Tmp} {ty:TypeId} {ps:String} {af:Array Edge} {g:Option (Nat×Bool)}
theorem QD_ (l:List UInt8) (k size:Nat) (w:World): (Builtin.firstCells size k (vs l)).run P w= .ok ((l.take k).map v8).toArray w:=by
 simp only[vs,Builtin.firstCells]
 show Result.ok _ w=_
 congr 1
 have: ((ByteArray.mk l.toArray).extract 0 k).data=(l.take k).toArray:=by
  rw[ByteArray.data_extract]
  simp
 rw[this]
 simp
 rfl
theorem zA_ (R:List Nat) (x:UInt8):rdIn R (v8 x)=true:=(rfl)
theorem VS_ (R:List Nat) (x:UInt16):rdIn R (v16 x)=true:=(rfl)
theorem VC_ (R:List Nat) (x:UInt32):rdIn R (v32 x)=true:=(rfl)
theorem K0_ (R:List Nat) (x:UInt64):rdIn R (v64 x)=true:=(rfl)
theorem zz_ (R:List Nat) (x:Int):rdIn R (vi x)=true:=(rfl)
theorem Ow.copyText {td tx e:TypeId} {m:Bool×Nat} {x y:Operand} {b off n c:Nat} {l:List UInt8} {cs:Array Value} {E:TypeId} {md':Md} (he:md.turn=some md')
  (hs:zg_ ops f ⟨d, .call ⟨.builtin .copy, #[x,y], #[td,tx]⟩,ty,ps,af,g⟩=false) (hu:P.underlying td=some (.slice e)) (hm:qc_ P e=some m)
  (hx:ev f x=vsl b off n c) (hy:ev f y=vs l) (hl:look L b=some (.cells cs E (0,0))) (hn:off+n≤cs.size)
  (hO:Ow P w0 ops md' rest (qd_ f d (vi (min l.length n:Nat))) (setB L b (.cells (vV_ cs off ((l.take (min l.length n)).map v8)) E (0,0))) N):
  Ow P w0 ops md (⟨d, .call ⟨.builtin .copy, #[x,y], #[td,tx]⟩,ty,ps,af,g⟩::rest) f L N:=by
 refine Ow.step he rfl hs fun w hw=> ?_
 have hb:=hw.has _ _ (zw_ hl)
 have hlt:=(Array.getElem?_eq_some_iff.1 hb).1
 have hlen: (Builtin.lenOf (vs l)).run P w= .ok l.length w:=by simp only[vs,Builtin.lenOf,k1_];rfl
 have hfc:=QD_ (P:=P) l (min l.length n) m.2 w
 have hst:=jw_ (P:=P) (b:=b) (off:=off) (E:=E) (fz:=(0,0)) ((l.take (min l.length n)).map v8) 0 cs w hb (by
  rw[List.length_map,List.length_take];have:=Nat.min_le_right l.length n;omega) (.inl (Nat.le_refl 0)) (by rw[List.all_map,List.all_eq_true];intro x _;rfl)
 refine .inl ⟨vi (min l.length n:Nat),{w with heap:=w.heap.setIfInBounds b (.cells (vV_ cs off ((l.take (min l.length n)).map v8)) E (0,0))},_, ?_,hw.set (zo_ hl) rfl rfl rfl rfl,hO⟩
 simp only[execOp,resolve,Sem.run_bind,Sem.run_pure,Result.andThen_ok,invoke,builtin,List.map_toArray,List.map_cons,List.map_nil,hx,hy]
 have: (Builtin.copy_ #[td,tx] ty #[vsl b off n c,vs l]).run P w= .ok (vi (min l.length n:Nat)) {w with heap:=w.heap.setIfInBounds b (.cells (vV_ cs off ((l.take (min l.length n)).map v8)) E (0,0))}:=by
  simp only[Builtin.copy_,vsl,List.getElem?_toArray,List.getElem?_cons_zero,List.getElem?_cons_succ,Sem.run_bind,run_underlying hu w,Result.andThen_ok,hlen,zv_ hm w]
  rw[show l.length.min n=min l.length n from rfl,hfc]
  simp only[Result.andThen_ok]
  rw[hst]
  rfl
 rw[this]
 rfl
end
end Go.Sx
section
open Go Go.Proofs Go.Sx
namespace Go.Proofs
set_option maxRecDepth 10000
set_option maxHeartbeats 2000000
set_option linter.unusedSimpArgs false
set_option linter.defProp false
theorem Vk_ (most:Int): ∀ (l:List UInt8) (k n m k':Nat),z5_ most l k n= .ok (m,k')→k<k'∧k'≤k+l.length
 | [],k,n,m,k',h=>by cases h
 |c::r,k,n,m,k',h=>by
  unfold z5_ at h
  split at h
  ·split at h
   ·cases h
   ·have:=Vk_ most r (k+1) _ m k' h
    simp only[List.length_cons];omega
  ·split at h
   ·cases h
   ·split at h
    ·cases h;simp only[List.length_cons];omega
    ·cases h
theorem qh_ {s:List UInt8} {a:Nat} {e most:Int} (ha:a≤s.length):a≤ (zs_ s a e most).2.1∧(zs_ s a e most).2.1≤s.length:=by
 unfold zs_
 split
 ·exact⟨Nat.le_refl _,ha⟩
 ·cases h:z5_ most (s.drop a) 0 0 with
  |error x=>exact⟨Nat.le_refl _,ha⟩
  |ok p=>
   obtain⟨n,k⟩:=p
   have:=Vk_ most _ _ _ _ _ h
   rw[List.length_drop] at this
   exact⟨by show a≤a+k;omega,by show a+k≤s.length;omega⟩
theorem kw_ {s:List UInt8} {a:Nat} {e n:Int} (ha:a≤s.length):a≤ (jp_ s a e n).2.1∧(jp_ s a e n).2.1≤s.length:=by
 unfold jp_
 split
 ·exact⟨Nat.le_refl _,ha⟩
 ·split
  ·exact⟨Nat.le_refl _,ha⟩
  ·split
   ·exact⟨Nat.le_refl _,ha⟩
   ·exact⟨by show a≤a+n.toNat;omega,by show a+n.toNat≤s.length;omega⟩
def zS_ (s:List UInt8) (a:Nat) (e most:Int):List UInt8×Nat×Int:=
 let p:=zs_ s a e most
 let q:=jp_ s p.2.1 p.2.2 p.1
 if q.2.2≠0 then([],a,q.2.2) else q
theorem vy_ (b:Nat) (s:List UInt8) (a:Nat) (e most:Int) (w:World) (ha:a≤s.length) (hs:s.length<9223372036854775808) (ho:w.heap[b]? =some (.cells #[vs s,vi a,vi e] 108 (0,0))):
  Rets Tryz.prog 52 #[vp b 0,vi most] w (fun v D=> ∃o,D= [(b,o)]∧v=vs (zS_ s a e most).1∧o= .cells #[vs s,vi (zS_ s a e most).2.1,vi (zS_ s a e most).2.2] 108 (0,0)):=by
 refine Rets.enterM Tryz.func52 rfl (rs:= [.tmp 4]) Tryz.results52 Tryz.ntmps52 ho ?_
 refine kf ?_
 first|with_reducible refine ks [] @zd_ ?_|refine kp @zd_ ?_
 refine Ow.callFV rfl Tryz.call51 (fun w' hw'=>adS_ b s a e w' (hw'.has _ _ List.mem_cons_self)) ?_
 refine ko @zd_ ?_
 first|with_reducible refine ks [] @zd_ ?_|refine kp @zd_ ?_
 have hp:=qh_ (e:=e) (most:=most) ha
 unfold zS_
 refine Ow.callM rfl rfl Tryz.call49 (by simp[keys]) (fun w' hw'=>qP_ b s a e most w' ha hs (hw'.has _ _ List.mem_cons_self)) ?_
 generalize zs_ s a e most=p at*
 obtain⟨n,a1,e1⟩:=p
 simp only at hp ⊢
 refine ko @zd_ ?_
 refine Ow.callM rfl rfl Tryz.call48 (by simp[keys]) (fun w' hw'=>vo_ b s a1 e1 n w' hp.2 hs (hw'.has _ _ List.mem_cons_self)) ?_
 have hq:=kw_ (e:=e1) (n:=n) hp.2
 generalize jp_ s a1 e1 n=q at*
 obtain⟨t,a2,e2⟩:=q
 simp only at hq ⊢
 refine ko @zd_ ?_
 first|with_reducible refine ks [] @zd_ ?_|refine kp @zd_ ?_
 by_cases he:e2=0
 ·first|with_reducible refine ks [] @zd_ ?_|refine kp @zd_ ?_
  refine⟨_,_,_,(ke @zd_),rfl,trivial, ?_⟩
  simp[he,kT_]
 ·first|with_reducible refine ks [] @zd_ ?_|refine kp @zd_ ?_
  refine Ow.minI rfl rfl rfl ?_
  have hmin: (if(a:Int)< (a2:Int) then(a:Int) else(a2:Int))=a:=by split<;>omega
  rw[hmin]
  refine ko @zd_ ?_
  first|with_reducible refine ks [] @zd_ ?_|refine kp @zd_ ?_
  refine⟨_,_,_,(ke @zd_),rfl,trivial, ?_⟩
  simp[he,kT_]
def z32:List UInt8:=List.replicate 32 0
def idR (s:List UInt8) (a:Nat) (e:Int):List UInt8×Nat×Int:=
 let q:=jp_ s a e 32
 (if q.1.length=32 then q.1 else z32,q.2)
theorem aeD_ {s:List UInt8} {a:Nat} {e:Int} (_ha:a≤s.length): (jp_ s a e 32).1= []∨(jp_ s a e 32).1.length=32:=by
 unfold jp_
 split
 ·exact .inl rfl
 ·split
  ·exact .inl rfl
  ·split
   ·exact .inl rfl
   ·right
    show((s.drop a).take 32).length=32
    rw[List.length_take,List.length_drop];omega
theorem any_ {t:List UInt8} (h:t= []∨t.length=32):vV_ (a8 (List.replicate 32 0)) 0 ((t.take (min t.length 32)).map v8)=a8 (if t.length=32 then t else z32):=by
 rcases h with rfl|h
 ·rfl
 ·rw[if_pos h,h,Nat.min_self,List.take_of_length_le (by omega)]
  have:=VU_ (t.map v8) [] ((List.replicate 32 (0:UInt8)).map v8) (by simp[h])
  simp only[List.nil_append,List.length_nil] at this
  show vV_ ((List.replicate 32 (0:UInt8)).map v8).toArray 0 (t.map v8)=(t.map v8).toArray
  rw[this]
  rw[List.drop_eq_nil_of_le (by simp[h]),List.append_nil]
theorem K3_ (b:Nat) (s:List UInt8) (a:Nat) (e:Int) (w:World) (ha:a≤s.length) (hs:s.length<9223372036854775808) (ho:w.heap[b]? =some (.cells #[vs s,vi a,vi e] 108 (0,0))):
  Rets Tryz.prog 134 #[vp b 0] w (fun v D=> ∃o,D= [(b,o)]∧v= .agg (a8 (idR s a e).1)∧o= .cells #[vs s,vi (idR s a e).2.1,vi (idR s a e).2.2] 108 (0,0)):=by
 have hbl:=(Array.getElem?_eq_some_iff.1 ho).1
 have hq:=aeD_ (e:=e) ha
 unfold idR
 refine Rets.enterM Tryz.func134 rfl (rs:= [.cell 2 41]) Tryz.results134 Tryz.ntmps134 ho ?_
 refine kf ?_
 first|with_reducible refine ks [] @zd_ ?_|refine kp @zd_ ?_
 refine Ow.alloc rfl rfl Tryz.zr41 fun b2 hb2 hw2=> ?_
 refine ko @zd_ ?_
 first|with_reducible refine ks [] @zd_ ?_|refine kp @zd_ ?_
 refine Ow.alloc rfl rfl Tryz.zr41 fun b3 hb3 hw3=> ?_
 obtain⟨h13,h23,-⟩:=hb3
 obtain⟨h12,-⟩:=hb2
 refine ko @zd_ ?_
 first|with_reducible refine ks [] @zd_ ?_|refine kp @zd_ ?_
 refine Cw.regionS [] [0,1,2,3] [] (by kernel_rfl) (by kernel_rfl) (by kernel_rfl) ?_
 refine kya ?_
 refine kq @zd_ ?_
 refine Ow.softA ?_
 refine Ow.callM rfl rfl Tryz.call48 (by simp[keys]) (fun w' hw'=>vo_ b s a e 32 w' ha hs (hw'.has _ _ List.mem_cons_self)) ?_
 generalize jp_ s a e 32=q at*
 obtain⟨t,a2,e2⟩:=q
 simp only at hq ⊢
 try with_reducible refine Ow.nil ?_
 refine⟨fun b hb=>absurd hb (by simp), ?_⟩
 simp(disch:=omega) only[jc_]
 refine Ow.softA ?_
 refine Ow.copyText (cs:=a8 (List.replicate 32 0)) (E:=41) (e:=5) rfl rfl Tryz.underlying85 Tryz.ag5 rfl rfl (by simp(disch:=omega) only[qx_,zP_]) (by rw[x5_];simp) ?_
 rw[any_ hq]
 have hil: (if t.length=32 then t else z32).length=32:=by
  split
  ·assumption
  ·simp[z32]
 generalize (if t.length=32 then t else z32)=id at*
 try with_reducible refine Ow.nil ?_
 refine⟨fun b hb=>absurd hb (by simp), ?_⟩
 simp(disch:=omega) only[jc_,q2_]
 refine kq @zd_ ?_
 try with_reducible refine Ow.nil ?_
 first|with_reducible refine ks [] @zd_ ?_|refine kp @zd_ ?_
 refine⟨_,_,_,(ke @zd_),rfl,⟨hw2,hw3,trivial⟩, ?_⟩
 exact⟨rfl,rfl⟩
theorem wy_ (s:List UInt8) (w:World):
  Rets Tryz.prog 25 #[vs s] w (fun v D=> ∃b,w.heap.size≤b∧v=vp b 0∧D= [(b, .cells #[vs s,vi 0,vi 0] 108 (0,0))]):=by
 refine Rets.enter Tryz.func25 rfl (rs:= [.tmp 2]) Tryz.results25 Tryz.ntmps25 ?_
 refine kf ?_
 first|with_reducible refine ks [] @zd_ ?_|refine kp @zd_ ?_
 refine Ow.build (.agg #[vs s,vi 0,vi 0]) rfl (by kernel_rfl) ?_
 refine ko @zd_ ?_
 refine Ow.box rfl rfl fun b1 hb1 hw1=> ?_
 refine ko @zd_ ?_
 first|with_reducible refine ks [] @zd_ ?_|refine kp @zd_ ?_
 refine⟨_,(by simp only[XZ_,Wd_,aeH_,zH_,zG_,X9_];rfl),b1,hw1,rfl, ?_⟩
 rfl
end Go.Proofs
end
section
open Go Go.Proofs Go.Sx
namespace Go.Proofs
set_option maxRecDepth 10000
set_option maxHeartbeats 4000000
set_option linter.unusedSimpArgs false
set_option linter.defProp false
def zi_:=And.intro (And.intro (And.intro (@zA_) (@VS_)) (And.intro (@VC_) (And.intro (@K0_) (@zz_)))) (And.intro (And.intro (@vC_) (@vK_)) (And.intro (@vR_) (And.intro (@kf_) (@kj_))))
theorem QR_ (b:Nat) (s:List UInt8) (a:Nat) (e n:Int) (w:World) (ha:a≤s.length) (hs:s.length<1099511627776) (ho:w.heap[b]? =some (.cells #[vs s,vi a,vi e] 118 (0,0))):
  Rets Tryz.prog 94 #[vp b 0,vi n] w (fun v D=> ∃o,D= [(b,o)]∧v=vs (jp_ s a e n).1∧o= .cells #[vs s,vi (jp_ s a e n).2.1,vi (jp_ s a e n).2.2] 118 (0,0)):=by
 refine Rets.enterM Tryz.func94 rfl (rs:= [.tmp 4]) Tryz.results94 Tryz.ntmps94 ho ?_
 refine kf ?_
 first|with_reducible refine ks [] @zi_ ?_|refine kp @zi_ ?_
 unfold jp_
 by_cases he:e=0
 ·subst he
  rw[if_neg (fun h=>h rfl)]
  first|with_reducible refine ks [] @zi_ ?_|refine kp @zi_ ?_
  by_cases hn:n<0
  ·rw[if_pos hn]
   first|with_reducible refine ks [] @zi_ ?_|refine kp @zi_ ?_
   refine⟨_,_,_,(ke @zi_),rfl,trivial, ?_⟩
   exact⟨rfl,rfl⟩
  ·rw[if_neg hn]
   first|with_reducible refine ks [] @zi_ ?_|refine kp @zi_ ?_
   refine Cw.regionS [b] [0,1,2,5,6,7,10,3,4,8,9,11] [] (by kernel_rfl) (by kernel_rfl) (by kernel_rfl) ?_
   refine kya ?_
   refine kq @zi_ ?_
   try with_reducible refine Ow.nil ?_
   first|with_reducible refine ks [] @zi_ ?_|refine kp @zi_ ?_
   by_cases hl: (s.length:Int) - a<n
   ·rw[if_pos hl]
    first|with_reducible refine ks [] @zi_ ?_|refine kp @zi_ ?_
    refine⟨_,_,_,(ke @zi_),rfl,trivial, ?_⟩
    exact⟨rfl,rfl⟩
   ·rw[if_neg hl]
    obtain⟨m,rfl⟩: ∃m:Nat,n=(m:Int):=⟨n.toNat,by omega⟩
    first|with_reducible refine ks [] @zi_ ?_|refine kp @zi_ ?_
    refine Cw.regionS [b] [0,1,2,4,5,6,8,9,10,12,3,7,11,13,14,15] [] (by kernel_rfl) (by kernel_rfl) (by kernel_rfl) ?_
    refine kya ?_
    refine kq @zi_ ?_
    try with_reducible refine Ow.nil ?_
    first|with_reducible refine ks [] @zi_ ?_|refine kp @zi_ ?_
    refine⟨_,_,_,(ke @zi_),rfl,trivial, ?_⟩
    refine⟨?_, ?_⟩
    ·simp only[kT_,Int.toNat_natCast]
     rw[List.drop_take,Nat.add_sub_cancel_left]
    ·rw[Int.toNat_natCast,Int.natCast_add]
 ·rw[if_pos he]
  first|with_reducible refine ks [] @zi_ ?_|refine kp @zi_ ?_
  refine⟨_,_,_,(ke @zi_),rfl,trivial, ?_⟩
  exact⟨rfl,rfl⟩
theorem wh_ (b:Nat) (s:List UInt8) (a e:Int) (w:World) (ho:w.heap[b]? =some (.cells #[vs s,vi a,vi e] 118 (0,0))):
  Rets Tryz.prog 59 #[vp b 0] w (fun v D=>v=vi (if e≠0 then e else if a<s.length then 5 else 0)∧D= []):=by
 refine Rets.enterV Tryz.func59 rfl (rs:= [.tmp 2]) Tryz.results59 Tryz.ntmps59 ?_
 refine kf ?_
 first|with_reducible refine ks [] (And.intro @zi_ @ho) ?_|refine kp (And.intro @zi_ @ho) ?_
 by_cases he:e=0
 ·first|with_reducible refine ks [] @zi_ ?_|refine kp @zi_ ?_
  refine Cw.regionS [b] [0,1,2,4,5,6,3,7,8,9] [] (by kernel_rfl) (by kernel_rfl) (by kernel_rfl) ?_
  refine kya ?_
  refine kq (And.intro @zi_ @ho) ?_
  try with_reducible refine Ow.nil ?_
  first|with_reducible refine ks [] @zi_ ?_|refine kp @zi_ ?_
  refine cdC.splitp (fun hc=> ?_) (fun hc=> ?_)
  ·first|with_reducible refine ks [] @zi_ ?_|refine kp @zi_ ?_
   refine⟨_,(ke @zi_),trivial, ?_⟩
   simp[hc,he,kT_]
  ·first|with_reducible refine ks [] @zi_ ?_|refine kp @zi_ ?_
   refine⟨_,(ke @zi_),trivial, ?_⟩
   simp[hc,he,kT_]
 ·first|with_reducible refine ks [] (And.intro @zi_ @ho) ?_|refine kp (And.intro @zi_ @ho) ?_
  refine⟨_,(ke @zi_),trivial, ?_⟩
  simp[he,kT_]
structure KN where
 k:Nat
 n:Nat
theorem x3_ (b:Nat) (s:List UInt8) (a:Nat) (e most:Int) (w:World) (ha:a≤s.length) (hs:s.length<1099511627776) (ho:w.heap[b]? =some (.cells #[vs s,vi a,vi e] 118 (0,0))):
  Rets Tryz.prog 56 #[vp b 0,vi most] w (fun v D=> ∃o,D= [(b,o)]∧v=vi (zs_ s a e most).1∧o= .cells #[vs s,vi (zs_ s a e most).2.1,vi (zs_ s a e most).2.2] 118 (0,0)):=by
 refine Rets.enterM Tryz.func56 rfl (rs:= [.tmp 4]) Tryz.results56 Tryz.ntmps56 ho ?_
 refine kf ?_
 first|with_reducible refine ks [] @zi_ ?_|refine kp @zi_ ?_
 by_cases he:e=0
 ·subst he
  first|with_reducible refine ks [] @zi_ ?_|refine kp @zi_ ?_
  refine Cw.loopG (G:=KN) [14,15,18,19,20,21,22,23,24,25,26,27,28,29,30,31,32,4,33,34,35,36,37,38,39,40,41,42,43,44,8,45,46,47,48,49,50,5,51,52,6,53,54,55,56,57,58,59,60,61,62,63,64,65,66,67,68,69,70,71,72,73,74,75,76,77,78,79,80,81,82,83,84,16,17,7] (fun g=> [(5,vi g.n),(6,vi (128^g.k:Nat)),(7,vi g.k)]) (fun g=> [(b, .cells #[vs s,vi a,vi 0] 118 (0,0))]) (fun g=>g.k≤6∧(g.k<6→z5_ most (s.drop a) 0 0=z5_ most (s.drop (a+g.k)) g.k g.n∧a+g.k≤s.length∧g.n<128^g.k)∧(g.k=6→z5_ most (s.drop a) 0 0= .error 4)) (fun g=>6 - g.k) ⟨0,0⟩ rfl rfl ?_ ?_
  ·exact⟨by simp,fun _=>⟨rfl,by simpa using ha,by simp⟩,fun h=>by cases h⟩
  intro g j hg
  refine kv ?_
  obtain⟨k,n⟩:=g
  simp only at hg ⊢
  obtain⟨hk6,hg1,hg2⟩:=hg
  by_cases hk:k<6
  ·obtain⟨hgo,hak,hn⟩:=hg1 hk
   first|with_reducible refine ks [] @zi_ ?_|refine kp @zi_ ?_
   refine Cw.regionS [b] [0,1,2,4,6,7,8,3,5,9,10,11] [] (by kernel_rfl) (by kernel_rfl) (by kernel_rfl) ?_
   refine kya ?_
   refine kq @zi_ ?_
   try with_reducible refine Ow.nil ?_
   first|with_reducible refine ks [] @zi_ ?_|refine kp @zi_ ?_
   by_cases hend:a+k=s.length
   ·first|with_reducible refine ks [] @zi_ ?_|refine kp @zi_ ?_
    rw[jA_ (x:=3) rfl (by rw[hgo,hend,List.drop_length];rfl)]
    refine⟨_,_,_,(ke @zi_),rfl,trivial, ?_⟩
    exact⟨rfl,rfl⟩
   ·have hak':a+k<s.length:=by omega
    have hdrop:s.drop (a+k)=s.getD (a+k) 0::s.drop (a+k+1):=by
     rw[List.drop_eq_getElem_cons hak',List.getD_eq_getElem?_getD,List.getElem?_eq_getElem hak'];rfl
    rw[hdrop] at hgo
    first|with_reducible refine ks [] @zi_ ?_|refine kp @zi_ ?_
    refine Cw.regionS [b] [0,1,2,4,5,6,8,3,7,9,10,11,12] [] (by kernel_rfl) (by kernel_rfl) (by kernel_rfl) ?_
    refine kya ?_
    have hcast: ((a:Int)+ (k:Int))=((a+k:Nat):Int):=by omega
    refine kq (And.intro @zi_ @hcast) ?_
    try with_reducible refine Ow.nil ?_
    generalize s.getD (a+k) 0=c at*
    have hp:128^k≤34359738368:=Nat.pow_le_pow_right (by omega) (show k≤5 by omega)
    have hp0:0<128^k:=Nat.pow_pos (by omega)
    have hcl:=c.toNat_lt
    have hdm:c.toNat%128*128^k≤127*128^k:=Nat.mul_le_mul_right _ (by omega)
    have hcm: ((c.toNat:Int)%128)=((c.toNat%128:Nat):Int):=by omega
    have hmul:zj_ .mul (vi ((c.toNat%128:Nat):Int)) (vi ((128^k:Nat):Int))=some (vi ((c.toNat%128*128^k:Nat):Int)):=by
     rw[WC_ _ _ (by rw[←Int.natCast_mul];omega),←Int.natCast_mul]
    have hpow: (((128^k:Nat):Int)*128)=((128^ (k+1):Nat):Int):=by rw[Nat.pow_succ,Int.natCast_mul];rfl
    have hlt:n+c.toNat%128*128^k<128^ (k+1):=by rw[Nat.pow_succ];omega
    first|with_reducible refine ks [] (And.intro @zi_ (And.intro @hcm (And.intro @hmul (@hpow)))) ?_|refine kp (And.intro @zi_ (And.intro @hcm (And.intro @hmul (@hpow)))) ?_
    rw[show((n:Int)+ ((c.toNat%128*128^k:Nat):Int))=((n+c.toNat%128*128^k:Nat):Int) from(Int.natCast_add _ _).symm]
    by_cases hc128:128≤c.toNat
    ·first|with_reducible refine ks [] @zi_ ?_|refine kp @zi_ ?_
     refine Again.mk (KN.mk (k+1) (n+c.toNat%128*128^k)) (by show 6 - (k+1)<6 - k;omega) ⟨by show k+1≤6;omega,fun h=>⟨?_,by show a+ (k+1)≤s.length;omega,hlt⟩,fun h=> ?_⟩ rfl rfl
     ·show z5_ most (s.drop a) 0 0=z5_ most (s.drop (a+ (k+1))) (k+1) (n+c.toNat%128*128^k)
      have h':k+1<6:=h
      rw[hgo,z5_,if_pos hc128,if_neg (by omega)]
      rfl
     ·have h':k+1=6:=h
      rw[hgo,z5_,if_pos hc128,if_pos h']
    ·by_cases hz:c.toNat=0
     ·have e0: ((c.toNat:Int)==0)=true:=by simp[hz]
      first|with_reducible refine ks [] (And.intro @zi_ @e0) ?_|refine kp (And.intro @zi_ @e0) ?_
      by_cases hk0:0<k
      ·first|with_reducible refine ks [] @zi_ ?_|refine kp @zi_ ?_
       rw[jA_ (x:=2) rfl (by rw[hgo,z5_,if_neg hc128,if_pos ⟨hz,hk0⟩])]
       refine⟨_,_,_,(ke @zi_),rfl,trivial, ?_⟩
       exact⟨rfl,rfl⟩
      ·have hc0: ¬ (c.toNat=0∧0<k):=fun h=>hk0 h.2
       first|with_reducible refine ks [] @zi_ ?_|refine kp @zi_ ?_
       by_cases hm:n+c.toNat%128*128^k≤1099511627775
       ·have e1:decide ((1099511627775:Int)< ((n+c.toNat%128*128^k:Nat):Int))=false:=decide_eq_false (by omega)
        first|with_reducible refine ks [] (And.intro @zi_ @e1) ?_|refine kp (And.intro @zi_ @e1) ?_
        by_cases hmo: ((n+c.toNat%128*128^k:Nat):Int)≤most
        ·first|with_reducible refine ks [] @zi_ ?_|refine kp @zi_ ?_
         rw[Jx_ rfl (by rw[hgo,z5_,if_neg hc128,if_neg hc0,if_pos ⟨hm,hmo⟩])]
         refine⟨_,_,_,(ke @zi_),rfl,trivial, ?_⟩
         exact⟨rfl,rfl⟩
        ·first|with_reducible refine ks [] @zi_ ?_|refine kp @zi_ ?_
         rw[jA_ (x:=4) rfl (by rw[hgo,z5_,if_neg hc128,if_neg hc0,if_neg (fun h=>hmo h.2)])]
         refine⟨_,_,_,(ke @zi_),rfl,trivial, ?_⟩
         exact⟨rfl,rfl⟩
       ·have e1:decide ((1099511627775:Int)< ((n+c.toNat%128*128^k:Nat):Int))=true:=decide_eq_true (by omega)
        first|with_reducible refine ks [] (And.intro @zi_ @e1) ?_|refine kp (And.intro @zi_ @e1) ?_
        rw[jA_ (x:=4) rfl (by rw[hgo,z5_,if_neg hc128,if_neg hc0,if_neg (fun h=>hm h.1)])]
        refine⟨_,_,_,(ke @zi_),rfl,trivial, ?_⟩
        exact⟨rfl,rfl⟩
     ·have e0: ((c.toNat:Int)==0)=false:=by simp;omega
      have hc0: ¬ (c.toNat=0∧0<k):=fun h=>hz h.1
      first|with_reducible refine ks [] (And.intro @zi_ @e0) ?_|refine kp (And.intro @zi_ @e0) ?_
      by_cases hm:n+c.toNat%128*128^k≤1099511627775
      ·have e1:decide ((1099511627775:Int)< ((n+c.toNat%128*128^k:Nat):Int))=false:=decide_eq_false (by omega)
       first|with_reducible refine ks [] (And.intro @zi_ @e1) ?_|refine kp (And.intro @zi_ @e1) ?_
       by_cases hmo: ((n+c.toNat%128*128^k:Nat):Int)≤most
       ·first|with_reducible refine ks [] @zi_ ?_|refine kp @zi_ ?_
        rw[Jx_ rfl (by rw[hgo,z5_,if_neg hc128,if_neg hc0,if_pos ⟨hm,hmo⟩])]
        refine⟨_,_,_,(ke @zi_),rfl,trivial, ?_⟩
        exact⟨rfl,rfl⟩
       ·first|with_reducible refine ks [] @zi_ ?_|refine kp @zi_ ?_
        rw[jA_ (x:=4) rfl (by rw[hgo,z5_,if_neg hc128,if_neg hc0,if_neg (fun h=>hmo h.2)])]
        refine⟨_,_,_,(ke @zi_),rfl,trivial, ?_⟩
        exact⟨rfl,rfl⟩
      ·have e1:decide ((1099511627775:Int)< ((n+c.toNat%128*128^k:Nat):Int))=true:=decide_eq_true (by omega)
       first|with_reducible refine ks [] (And.intro @zi_ @e1) ?_|refine kp (And.intro @zi_ @e1) ?_
       rw[jA_ (x:=4) rfl (by rw[hgo,z5_,if_neg hc128,if_neg hc0,if_neg (fun h=>hm h.1)])]
       refine⟨_,_,_,(ke @zi_),rfl,trivial, ?_⟩
       exact⟨rfl,rfl⟩
  ·have hke:k=6:=by omega
   first|with_reducible refine ks [] @zi_ ?_|refine kp @zi_ ?_
   rw[jA_ (x:=4) rfl (hg2 hke)]
   refine⟨_,_,_,(ke @zi_),rfl,trivial, ?_⟩
   exact⟨rfl,rfl⟩
 ·first|with_reducible refine ks [] @zi_ ?_|refine kp @zi_ ?_
  unfold zs_
  refine⟨_,_,_,(ke @zi_),rfl,trivial, ?_⟩
  simp[he,kT_]
end Go.Proofs
end
section
open Go Go.Proofs Go.Sx
namespace Go.Proofs
set_option maxRecDepth 10000
set_option maxHeartbeats 4000000
set_option linter.unusedSimpArgs false
set_option linter.defProp false
theorem ZQ_ (b:Nat) (s:List UInt8) (a:Nat) (e most:Int) (w:World) (ha:a≤s.length) (hs:s.length<1099511627776) (ho:w.heap[b]? =some (.cells #[vs s,vi a,vi e] 118 (0,0))):
  Rets Tryz.prog 57 #[vp b 0,vi most] w (fun v D=> ∃o,D= [(b,o)]∧v=vs (zS_ s a e most).1∧o= .cells #[vs s,vi (zS_ s a e most).2.1,vi (zS_ s a e most).2.2] 118 (0,0)):=by
 refine Rets.enterM Tryz.func57 rfl (rs:= [.tmp 4]) Tryz.results57 Tryz.ntmps57 ho ?_
 refine kf ?_
 first|with_reducible refine ks [] @zi_ ?_|refine kp @zi_ ?_
 by_cases he:e=0
 ·first|with_reducible refine ks [] @zi_ ?_|refine kp @zi_ ?_
  have hp:=qh_ (e:=e) (most:=most) ha
  unfold zS_
  refine Ow.callM rfl rfl Tryz.call56 (by simp[keys]) (fun w' hw'=>x3_ b s a e most w' ha hs (hw'.has _ _ List.mem_cons_self)) ?_
  generalize zs_ s a e most=p at*
  obtain⟨n,a1,e1⟩:=p
  simp only at hp ⊢
  refine ko @zi_ ?_
  first|with_reducible refine ks [] @zi_ ?_|refine kp @zi_ ?_
  refine Ow.callM rfl rfl Tryz.call94 (by simp[keys]) (fun w' hw'=>QR_ b s a1 e1 n w' hp.2 hs (hw'.has _ _ List.mem_cons_self)) ?_
  generalize jp_ s a1 e1 n=q at*
  obtain⟨t,a2,e2⟩:=q
  simp only
  refine ko @zi_ ?_
  first|with_reducible refine ks [] @zi_ ?_|refine kp @zi_ ?_
  by_cases he2:e2=0
  ·first|with_reducible refine ks [] @zi_ ?_|refine kp @zi_ ?_
   refine⟨_,_,_,(ke @zi_),rfl,trivial, ?_⟩
   simp[he2,kT_]
  ·first|with_reducible refine ks [] @zi_ ?_|refine kp @zi_ ?_
   refine⟨_,_,_,(ke @zi_),rfl,trivial, ?_⟩
   simp[he2,kT_]
 ·first|with_reducible refine ks [] @zi_ ?_|refine kp @zi_ ?_
  have:zS_ s a e most=([],a,e):=by
   unfold zS_ zs_ jp_
   simp[he]
  rw[this]
  refine⟨_,_,_,(ke @zi_),rfl,trivial, ?_⟩
  exact⟨rfl,rfl⟩
def Vb_ (t:List UInt8) (g:Nat):List UInt8:=t.take g++List.replicate (32 - g) 0
theorem ajI_ (t:List UInt8) (g:Nat) (h:g≤t.length) (h2:t.length≤32): (Vb_ t g).length=32:=by
 unfold Vb_;rw[List.length_append,List.length_take,List.length_replicate];omega
theorem agi_ (t:List UInt8) (g:Nat) (h:g<t.length) (h2:t.length≤32): (Vb_ t g).set g (t.getD g 0)=Vb_ t (g+1):=by
 unfold Vb_
 have hl: (t.take g).length=g:=by rw[List.length_take];omega
 obtain⟨m,hm⟩: ∃m,32 - g=m+1:=⟨31 - g,by omega⟩
 rw[hm,List.replicate_succ,List.set_append_right _ _ (by omega),hl,Nat.sub_self,List.set_cons_zero,List.take_succ_eq_append_getElem h,List.getD_eq_getElem?_getD,List.getElem?_eq_getElem h,show 32 - (g+1)=m by omega,List.append_assoc]
 rfl
theorem ahd_ (t:List UInt8) (h:t= []∨t.length=32):Vb_ t t.length=(if t.length=32 then t else z32):=by
 unfold Vb_
 rcases h with rfl|h
 ·rfl
 ·rw[if_pos h,h,List.take_of_length_le (by omega)];simp
theorem Zw_ (b:Nat) (s:List UInt8) (a:Nat) (e:Int) (w:World) (ha:a≤s.length) (hs:s.length<1099511627776) (ho:w.heap[b]? =some (.cells #[vs s,vi a,vi e] 118 (0,0))):
  Rets Tryz.prog 58 #[vp b 0] w (fun v D=> ∃o,D= [(b,o)]∧v= .agg (a8 (idR s a e).1)∧o= .cells #[vs s,vi (idR s a e).2.1,vi (idR s a e).2.2] 118 (0,0)):=by
 have hbl:=(Array.getElem?_eq_some_iff.1 ho).1
 have hq:=aeD_ (e:=e) ha
 unfold idR
 refine Rets.enterM Tryz.func58 rfl (rs:= [.cell 2 41]) Tryz.results58 Tryz.ntmps58 ho ?_
 refine kf ?_
 first|with_reducible refine ks [] @zi_ ?_|refine kp @zi_ ?_
 refine Ow.alloc rfl rfl Tryz.zr41 fun b2 hb2 hw2=> ?_
 obtain⟨h12,-⟩:=hb2
 refine ko @zi_ ?_
 first|with_reducible refine ks [] @zi_ ?_|refine kp @zi_ ?_
 refine Ow.callM rfl rfl Tryz.call94 (by simp[keys]) (fun w' hw'=>QR_ b s a e 32 w' ha hs (hw'.has _ _ List.mem_cons_self)) ?_
 generalize jp_ s a e 32=q at*
 obtain⟨t,a2,e2⟩:=q
 simp only at hq ⊢
 have ht32:t.length≤32:=by rcases hq with rfl|h<;>simp_all
 refine ko @zi_ ?_
 first|with_reducible refine ks [] @zi_ ?_|refine kp @zi_ ?_
 refine Ow.alloc rfl rfl Tryz.zr41 fun b3 hb3 hw3=> ?_
 refine ko @zi_ ?_
 obtain⟨h13,h23,-⟩:=hb3
 rw[show a8 (List.replicate 32 0)=a8 (Vb_ t 0) from rfl]
 first|with_reducible refine ks [] @zi_ ?_|refine kp @zi_ ?_
 refine Cw.loopG (G:=Nat) [8,9,10,11,14,15,16,17,18,12,13,5] (fun g=> [(5,vi g)]) (fun g=> [(b, .cells #[vs s,vi a2,vi e2] 118 (0,0)),(b2, .cells (a8 z32) 41 (0,0)),(b3, .cells (a8 (Vb_ t g)) 41 (0,0))]) (fun g=>g≤t.length) (fun g=>t.length - g) 0 rfl rfl ?_ ?_
 ·omega
 intro g j hg
 refine kv ?_
 by_cases hlt:g<t.length
 ·have hil:=ajI_ t g hg ht32
  first|with_reducible refine ks [] @zi_ ?_|refine kp @zi_ ?_
  refine Again.mk (g+1) (by omega) (by omega) ?_ rfl
  rw[agi_ t g hlt ht32]
 ·obtain rfl:g=t.length:=by omega
  rw[ahd_ t hq]
  have hil: (if t.length=32 then t else z32).length=32:=by
   split
   ·assumption
   ·simp[z32]
  have hz32:z32.length=32:=by simp[z32]
  generalize (if t.length=32 then t else z32)=id at*
  first|with_reducible refine ks [] @zi_ ?_|refine kp @zi_ ?_
  refine⟨_,_,_,(ke @zi_),rfl,⟨hw2,hw3,trivial⟩, ?_⟩
  exact⟨rfl,rfl⟩
end Go.Proofs
end
namespace Go.Sx
open Go
section
variable {P:Program} {w0:World} {f:Fr} {L:zb_} {N:Fr→zb_→Prop} {ops:Array Oper} {rest:List Oper} {md:Md}
 {d:Option Tmp} {ty:TypeId} {ps:String} {af:Array Edge} {g:Option (Nat×Bool)}
def XW_ (n:Int):Value:= .int .i32 n
theorem alu_ (op:BinOp) (t:TypeId) (a b:Int):qL_ P op t (XW_ a) (XW_ b)=zj_ op (XW_ a) (XW_ b):=(rfl)
theorem acd_ (a b:Int):zj_ .lss (XW_ a) (XW_ b)=some (.bool (decide (a<b))):=by simp[zj_,XW_,jn_,wW_]
theorem acW_ (a b:Int):zj_ .gtr (XW_ a) (XW_ b)=some (.bool (decide (b<a))):=by simp[zj_,XW_,jn_,wW_]
theorem abW_ (a b:Int):zj_ .eql (XW_ a) (XW_ b)=some (.bool (a==b)):=by simp[zj_,XW_,jn_,wW_]
theorem anP_ (n:Int):Value.int .i32 n=XW_ n:=(rfl)
theorem Ow.callFn1 {x y:Operand} {ts:Array TypeId} {k:FuncId} {v a:Value} (hs:zg_ ops f ⟨d, .call ⟨.value x, #[y],ts⟩,ty,ps,af,g⟩=false) (hx:ev f x= .func (.func k) #[] #[]) (hy:ev f y=a)
  (hk: ∀a w,(callFunc k a).run P w= .ok (.enter k a) w) (hc: ∀w,Hp w0 L w→Rets P k #[a] w (fun v' D=>v'=v∧D= [])) (hn:Ow P w0 ops md.next rest (qd_ f d v) L N):
  Ow P w0 ops md (⟨d, .call ⟨.value x, #[y],ts⟩,ty,ps,af,g⟩::rest) f L N:=
 Ow.callV hs hx hk (fun w hw=>by simpa [hy] using hc w hw) hn
theorem Ow.rangeText {t:TypeId} {x:Operand} {l:List UInt8} {md':Md} (he:md.turn=some md') (hs:zg_ ops f ⟨d, .range t x,ty,ps,af,g⟩=false) (hu:P.underlying t=some .string) (hx:ev f x=vs l)
  (hn: ∀b,jM_ L b→w0.heap.size≤b→Ow P w0 ops md' rest (qd_ f d (vp b 0)) (L++ [(b, .stringIter ⟨l.toArray⟩ 0)]) N):
  Ow P w0 ops md (⟨d, .range t x,ty,ps,af,g⟩::rest) f L N:=by
 refine Ow.step he rfl hs fun w hw=> .inl ⟨vp w.heap.size 0,w.alloc (.stringIter ⟨l.toArray⟩ 0),_, ?_,hw.alloc _,hn _ (z2_ fun b hb=>hw.lt hb) hw.size⟩
 simp only[execOp,Instr.range,Sem.run_bind,run_underlying hu w,Result.andThen_ok,hx,vs]
 rfl
theorem Ow.nextText {x:Operand} {b:Nat} {l:List UInt8} {pos:Nat} {md':Md} (he:md.turn=some md') (hs:zg_ ops f ⟨d, .next x true,ty,ps,af,g⟩=false) (hx:ev f x=vp b 0) (hl:look L b=some (.stringIter ⟨l.toArray⟩ pos)) (hp:pos<l.length)
  (hn:Ow P w0 ops md' rest (qd_ f d (.tuple #[.bool true,vi pos,XW_ (Utf8.decode ⟨l.toArray⟩ pos).1])) (setB L b (.stringIter ⟨l.toArray⟩ (pos+ (Utf8.decode ⟨l.toArray⟩ pos).2))) N):
  Ow P w0 ops md (⟨d, .next x true,ty,ps,af,g⟩::rest) f L N:=by
 refine Ow.step he rfl hs fun w hw=> ?_
 have hb:=hw.has _ _ (zw_ hl)
 refine .inl ⟨_,{w with heap:=w.heap.setIfInBounds b (.stringIter ⟨l.toArray⟩ (pos+ (Utf8.decode ⟨l.toArray⟩ pos).2))},_, ?_,hw.set (zo_ hl) rfl rfl rfl rfl,hn⟩
 have hg: (getObj b).run P w= .ok (.stringIter ⟨l.toArray⟩ pos) w:=by
  simp only[getObj,Sem.run,hb]
 have hst: ∀o,(setObj b o).run P w= .ok () {w with heap:=w.heap.setIfInBounds b o}:=by
  intro o;simp only[setObj,Sem.run,hb]
 have hsz:pos< (ByteArray.mk l.toArray).size:=by rw[k1_];exact hp
 have: (Instr.next (vp b 0) true ty).run P w= .ok (.tuple #[.bool true,vi pos,XW_ (Utf8.decode ⟨l.toArray⟩ pos).1]) {w with heap:=w.heap.setIfInBounds b (.stringIter ⟨l.toArray⟩ (pos+ (Utf8.decode ⟨l.toArray⟩ pos).2))}:=by
  simp only[Instr.next,vp,Sem.run_bind,hg,Result.andThen_ok,hsz, ↓reduceIte,hst]
  rfl
 simp only[execOp,Sem.run_bind,hx]
 rw[this]
 rfl
theorem Ow.nextOver {x:Operand} {b:Nat} {l:List UInt8} {pos:Nat} {md':Md} (he:md.turn=some md') (hs:zg_ ops f ⟨d, .next x true,ty,ps,af,g⟩=false) (hx:ev f x=vp b 0) (hl:look L b=some (.stringIter ⟨l.toArray⟩ pos)) (hp: ¬pos<l.length)
  (hn:Ow P w0 ops md' rest (qd_ f d (.tuple #[.bool false])) L N):
  Ow P w0 ops md (⟨d, .next x true,ty,ps,af,g⟩::rest) f L N:=by
 refine Ow.step he rfl hs fun w hw=> ?_
 have hb:=hw.has _ _ (zw_ hl)
 refine .inl ⟨.tuple #[.bool false],w,_, ?_,hw,hn⟩
 have hg: (getObj b).run P w= .ok (.stringIter ⟨l.toArray⟩ pos) w:=by
  simp only[getObj,Sem.run,hb]
 have hsz: ¬pos< (ByteArray.mk l.toArray).size:=by rw[k1_];exact hp
 have: (Instr.next (vp b 0) true ty).run P w= .ok (.tuple #[.bool false]) w:=by
  simp only[Instr.next,vp,Sem.run_bind,hg,Result.andThen_ok,hsz, ↓reduceIte]
  rfl
 simp only[execOp,Sem.run_bind,hx]
 rw[this]
 rfl
end
theorem abN_ (l:List UInt8) (i:Nat) (h:i<l.length):0< (Utf8.decode ⟨l.toArray⟩ i).2∧
  ((l.getD i 0).toNat<128→Utf8.decode ⟨l.toArray⟩ i=((l.getD i 0).toNat,1))∧(128≤ (l.getD i 0).toNat→128≤ (Utf8.decode ⟨l.toArray⟩ i).1):=by
 have hb: ((ByteArray.mk l.toArray).get! (i+0))=l.getD i 0:=by
  simp[ByteArray.get!,h]
 unfold Utf8.decode
 simp only[hb]
 generalize (l.getD i 0).toNat=b0
 refine⟨?_,fun h1=> ?_,fun h1=> ?_⟩
 ·(repeat' split)<;>simp
 ·rw[if_pos h1]
 ·rw[if_neg (by omega)]
  (repeat' split)<;>first
   | (simp only[Utf8.runeError];omega)
   | (rename_i hc;simp only[Bool.and_eq_true,decide_eq_true_eq,ge_iff_le] at hc;omega)
   | (rename_i hc;simp only[ge_iff_le] at hc;omega)
end Go.Sx
namespace Go.Sx
open Go
abbrev j1_:=List (List UInt8×List UInt8)
def fnd (k:List UInt8):j1_→Nat→Option (Nat×List UInt8)
 | [],_=>none
 |p::r,i=>if k==p.1 then some (i,p.2) else fnd k r (i+1)
def updV (k v:List UInt8):j1_→j1_
 | []=> [(k,v)]
 |p::r=>if k==p.1 then(p.1,v)::r else p::updV k v r
def delV (k:List UInt8):j1_→j1_
 | []=> []
 |p::r=>if k==p.1 then r else p::delV k r
def vX_ (p:List UInt8×List UInt8):Value×Value:=(vs p.1, .agg (a8 p.2))
def MapR (o:Obj) (m:j1_):Prop:= ∃es clock,o= .map es clock∧es.toList.map (fun e=>(e.key,e.val))=m.map vX_∧(es.toList.map (·.born)++ [clock]).Pairwise (· < ·)
theorem abf_ {es:List MapEntry} {c:Nat} {e:MapEntry} (h: (es.map (·.born)++ [c]).Pairwise (· < ·)) (he:e.born=c): ((es++ [e]).map (·.born)++ [c+1]).Pairwise (· < ·):=by
 rw[List.map_append,List.map_cons,List.map_nil,he]
 refine List.pairwise_append.2 ⟨h,List.pairwise_singleton _ _, ?_⟩
 intro a ha b hb
 rw[List.mem_singleton] at hb
 subst hb
 rcases List.mem_append.1 ha with hm|hm
 ·have:=(List.pairwise_append.1 h).2.2 a hm c (List.mem_singleton.2 rfl)
  omega
 ·rw[List.mem_singleton] at hm
  omega
theorem Qn_ {es:List MapEntry} {j:Nat} {g:MapEntry→MapEntry} (hg: ∀e,(g e).born=e.born): (es.modify j g).map (·.born)=es.map (·.born):=by
 apply List.ext_getElem?
 intro i
 rw[List.getElem?_map,List.getElem?_map,List.getElem?_modify]
 cases es[i]? with
 |none=>rfl
 |some e=>
  by_cases h:j=i
  ·simp[h,hg]
  ·simp[h]
theorem aaD_ (a b:List UInt8): ((ByteArray.mk a.toArray)==(ByteArray.mk b.toArray))=(a==b):=by
 show(a.toArray==b.toArray)=(a==b)
 simp
theorem Kk_ (k:List UInt8): ∀ (es:List MapEntry) (m:j1_) (i:Nat),es.map (fun e=>(e.key,e.val))=m.map vX_→
  Instr.findNow .string (vs k) es i=some ((fnd k m i).map fun p=>(p.1, .agg (a8 p.2)))
 | [],[],i,_=>rfl
 | [],_::_,_,h=>by cases h
 |_::_,[],_,h=>by cases h
 |e::es,p::m,i,h=>by
  simp only[List.map_cons,List.cons.injEq,vX_,Prod.mk.injEq] at h
  obtain⟨⟨h1,h2⟩,h3⟩:=h
  unfold Instr.findNow
  have hs:Instr.sameNow .string (vs k) e.key=some (k==p.1):=by
   rw[h1]
   simp only[vs,Instr.sameNow,aaD_]
  rw[hs]
  unfold fnd
  cases hk: (k==p.1)
  ·simp only[Bool.false_eq_true, ↓reduceIte]
   exact Kk_ k es m (i+1) h3
  ·simp[h2]
theorem VN_ (k:List UInt8): ∀ (m:j1_) (i j:Nat) (v:List UInt8),fnd k m i=some (j,v)→i≤j∧ ∃a,m[j - i]? =some (k,a)∧a=v
 | [],_,_,_,h=>by cases h
 |p::r,i,j,v,h=>by
  unfold fnd at h
  split at h
  ·rename_i hk
   cases h
   refine⟨Nat.le_refl _,p.2, ?_,rfl⟩
   rw[Nat.sub_self,List.getElem?_cons_zero,eq_of_beq hk]
  ·obtain⟨h1,a,h2,h3⟩:=VN_ k r (i+1) j v h
   refine⟨by omega,a, ?_,h3⟩
   rw[show j - i=(j - (i+1))+1 by omega,List.getElem?_cons_succ];exact h2
theorem W1_ (k v:List UInt8): ∀ (es:List MapEntry) (m:j1_) (i j:Nat) (a:List UInt8),es.map (fun e=>(e.key,e.val))=m.map vX_→fnd k m i=some (j,a)→
  (es.modify (j - i) fun e=>{e with key:=vs k,val:= .agg (a8 v)}).map (fun e=>(e.key,e.val))=(updV k v m).map vX_
 | [],[],_,_,_,_,h=>by cases h
 | [],_::_,_,_,_,h,_=>by cases h
 |_::_,[],_,_,_,h,_=>by cases h
 |e::es,p::m,i,j,a,h,hf=>by
  simp only[List.map_cons,List.cons.injEq,vX_,Prod.mk.injEq] at h
  obtain⟨⟨h1,h2⟩,h3⟩:=h
  unfold fnd at hf
  unfold updV
  split at hf
  ·rename_i hk
   cases hf
   rw[if_pos hk,Nat.sub_self]
   simp only[List.modify_zero_cons,List.map_cons,vX_,eq_of_beq hk]
   rw[h3]
  ·rename_i hk
   have hle:=(VN_ k m (i+1) j a hf).1
   rw[if_neg hk,show j - i=(j - (i+1))+1 by omega]
   simp only[List.modify_succ_cons,List.map_cons,vX_]
   rw[W1_ k v es m (i+1) j a h3 hf,h1,h2]
theorem aaO_ (k v:List UInt8): ∀ (m:j1_) (i:Nat),fnd k m i=none→updV k v m=m++ [(k,v)]
 | [],_,_=>rfl
 |p::r,i,h=>by
  unfold fnd at h
  split at h
  ·cases h
  ·rename_i hk
   unfold updV
   rw[if_neg hk,aaO_ k v r (i+1) h];rfl
section
variable {P:Program} {w0:World} {f:Fr} {L:zb_} {N:Fr→zb_→Prop} {ops:Array Oper} {rest:List Oper} {md:Md}
 {d:Option Tmp} {ty:TypeId} {ps:String} {af:Array Edge} {g:Option (Nat×Bool)}
theorem adG_ {w:World} {t:TypeId} (hu:P.underlying t=some .string) (k:List UInt8) (es:List MapEntry) (m:j1_) (h:es.map (fun e=>(e.key,e.val))=m.map vX_):
  (Instr.findKey t (vs k) es).run P w= .ok ((fnd k m 0).map fun p=>(p.1, .agg (a8 p.2))) w:=by
 simp only[Instr.findKey,Sem.run_bind,run_underlying hu w,Result.andThen_ok,Kk_ k es m 0 h]
 rfl
theorem ZJ_ {w:World} {t:TypeId} (hu:P.underlying t=some .string) (e:Bool) (k:List UInt8): (Instr.checkKey e 10000 t (vs k)).run P w= .ok () w:=by
 unfold Instr.checkKey
 simp only[Sem.run_bind,run_underlying hu w,Result.andThen_ok,vs]
 rfl
theorem q3_ {w:World} {b:Nat} {es:Array MapEntry} {c:Nat} (hb:w.heap[b]? =some (.map es c)): (getObj b).run P w= .ok (.map es c) w:=by
 simp only[getObj,Sem.run,hb]
theorem xs_ {w:World} {b:Nat} {es:Array MapEntry} {c:Nat} (hb:w.heap[b]? =some (.map es c)) (o:Obj): (setObj b o).run P w= .ok () {w with heap:=w.heap.setIfInBounds b o}:=by
 simp only[setObj,Sem.run,hb]
def vm (b:Nat):Value:= .map (some b)
theorem Ow.makeMap {t:TypeId} {md':Md} (he:md.turn=some md') (hs:zg_ ops f ⟨d, .makeMap t none,ty,ps,af,g⟩=false)
  (hn: ∀b o,jM_ L b→w0.heap.size≤b→MapR o []→Ow P w0 ops md' rest (qd_ f d (vm b)) (L++ [(b,o)]) N):
  Ow P w0 ops md (⟨d, .makeMap t none,ty,ps,af,g⟩::rest) f L N:=by
 refine Ow.step he rfl hs fun w hw=> .inl ⟨vm w.heap.size,w.alloc (.map #[] 0),_, ?_,hw.alloc _,hn _ _ (z2_ fun b hb=>hw.lt hb) hw.size ⟨#[],0,rfl,rfl,List.pairwise_singleton _ _⟩⟩
 simp only[execOp,Instr.makeMap,Sem.run_bind,Option.map_none]
 rfl
theorem ana_ {k:List UInt8} {m:j1_} {es:List MapEntry} {j:Nat} {a:List UInt8} (h:es.map (fun e=>(e.key,e.val))=m.map vX_) (hf:fnd k m 0=some (j,a)): ∃e,es[j]? =some e∧e.key=vs k:=by
 obtain⟨-,a',h1,rfl⟩:=VN_ k m 0 j a hf
 rw[Nat.sub_zero] at h1
 have:=congrArg (·[j]?) h
 simp only[List.getElem?_map,h1,Option.map_some] at this
 cases he:es[j]? with
 |none=>rw[he] at this;cases this
 |some e=>
  rw[he] at this
  simp only[Option.map_some,Option.some.injEq,vX_,Prod.mk.injEq] at this
  exact⟨e,rfl,this.1⟩
theorem Ow.mapUpdate {t kt vt:TypeId} {x y z:Operand} {b:Nat} {o:Obj} {m:j1_} {k v:List UInt8} {md':Md} (he:md.turn=some md') (hs:zg_ ops f ⟨d, .mapUpdate t x y z,ty,ps,af,g⟩=false) (hu:P.underlying t=some (.map kt vt)) (huk:P.underlying kt=some .string)
  (hx:ev f x=vm b) (hy:ev f y=vs k) (hz:ev f z= .agg (a8 v)) (hl:look L b=some o) (hm:MapR o m)
  (hn: ∀o',MapR o' (updV k v m)→Ow P w0 ops md' rest (qd_ f d undef) (setB L b o') N):
  Ow P w0 ops md (⟨d, .mapUpdate t x y z,ty,ps,af,g⟩::rest) f L N:=by
 obtain⟨es,c,rfl,hes,hbo⟩:=hm
 refine Ow.step he rfl hs fun w hw=> ?_
 have hb:=hw.has _ _ (zw_ hl)
 have hfk:=adG_ (w:=w) huk k es.toList m hes
 cases hf:fnd k m 0 with
 |none=>
  rw[hf] at hfk
  refine .inr (.inl ⟨{w with heap:=w.heap.setIfInBounds b (.map (es.push {key:=vs k,val:= .agg (a8 v),born:=c}) (c+1))},_, ?_,hw.set (zo_ hl) rfl rfl rfl rfl,hn _ ⟨_,_,rfl, ?_,by rw[Array.toList_push];exact abf_ hbo rfl⟩⟩)
  ·have: (Instr.mapUpdate t (vm b) (vs k) (.agg (a8 v))).run P w= .ok () {w with heap:=w.heap.setIfInBounds b (.map (es.push {key:=vs k,val:= .agg (a8 v),born:=c}) (c+1))}:=by
    simp only[Instr.mapUpdate,vm,Sem.run_bind,run_underlying hu w,Result.andThen_ok,q3_ hb,ZJ_ huk,hfk,Option.map_none,xs_ hb]
   simp only[execOp,Sem.run_bind,hx,hy,hz]
   rw[this];rfl
  ·rw[aaO_ k v m 0 hf,Array.toList_push,List.map_append,hes,List.map_append];rfl
 |some p=>
  obtain⟨j,a⟩:=p
  rw[hf] at hfk
  obtain⟨e,hej,hek⟩:=ana_ hes hf
  have hej':es[j]? =some e:=by simpa using hej
  have hkt: (Instr.keyThatStays (((es[j]?).map (·.key)).getD (vs k)) (vs k)).run P w= .ok (vs k) w:=by
   rw[hej',Option.map_some,Option.getD_some,hek]
   unfold Instr.keyThatStays
   have:Instr.sameBits 10000 (vs k) (vs k)=true:=by simp[vs,Instr.sameBits,aaD_]
   rw[if_pos this];rfl
  refine .inr (.inl ⟨{w with heap:=w.heap.setIfInBounds b (.map (es.modify j fun e=>{e with key:=vs k,val:= .agg (a8 v)}) c)},_, ?_,hw.set (zo_ hl) rfl rfl rfl rfl,hn _ ⟨_,_,rfl, ?_,by rw[Array.toList_modify,Qn_ (g:=fun e=>{e with key:=vs k,val:= .agg (a8 v)}) fun _=>rfl];exact hbo⟩⟩)
  ·have: (Instr.mapUpdate t (vm b) (vs k) (.agg (a8 v))).run P w= .ok () {w with heap:=w.heap.setIfInBounds b (.map (es.modify j fun e=>{e with key:=vs k,val:= .agg (a8 v)}) c)}:=by
    simp only[Instr.mapUpdate,vm,Sem.run_bind,run_underlying hu w,Result.andThen_ok,q3_ hb,ZJ_ huk,hfk,Option.map_some,hkt,xs_ hb]
   simp only[execOp,Sem.run_bind,hx,hy,hz]
   rw[this];rfl
  ·rw[Array.toList_modify]
   have:=W1_ k v es.toList m 0 j a hes hf
   rw[Nat.sub_zero] at this
   exact this
end
end Go.Sx
namespace Go.Sx
open Go
section
variable {P:Program} {w0:World} {f:Fr} {L:zb_} {N:Fr→zb_→Prop} {ops:Array Oper} {rest:List Oper} {md:Md}
 {d:Option Tmp} {ty:TypeId} {ps:String} {af:Array Edge} {g:Option (Nat×Bool)}
end
end Go.Sx
namespace Go.Sx
open Go
theorem New.mono {n m:Nat} (h:n≤m): ∀ {L:zb_},New m L→New n L
 | [],_=>trivial
 | (_,_)::_,hL=>⟨Nat.le_trans h hL.1,New.mono h hL.2⟩
theorem New.app {n:Nat} {M:zb_}: ∀ {L:zb_},New n L→New n M→New n (L++M)
 | [],_,hM=>hM
 | (_,_)::_,hL,hM=>⟨hL.1,New.app hL.2 hM⟩
section
variable {P:Program} {w0:World} {f:Fr} {L:zb_} {N:Fr→zb_→Prop} {ops:Array Oper} {rest:List Oper} {md:Md}
 {d:Option Tmp} {ty:TypeId} {ps:String} {af:Array Edge} {g:Option (Nat×Bool)}
theorem Ow.callN {l:List Operand} {ts:Array TypeId} {k:FuncId} {S:Nat→Value→zb_→Prop} {md':Md} (he:md.turn=some md')
  (hs:zg_ ops f ⟨d, .call ⟨.value (.func k),l.toArray,ts⟩,ty,ps,af,g⟩=false)
  (hk: ∀a w,(callFunc k a).run P w= .ok (.enter k a) w)
  (hc: ∀w,Hp w0 L w→Rets P k (l.map (ev f)).toArray w (fun v D=>S w.heap.size v D))
  (hnew: ∀B v D,S B v D→New B D)
  (hn: ∀B v D,jM_ L B→w0.heap.size≤B→S B v D→Ow P w0 ops md' rest (qd_ f d v) (L++D) N):
  Ow P w0 ops md (⟨d, .call ⟨.value (.func k),l.toArray,ts⟩,ty,ps,af,g⟩::rest) f L N:=by
 refine Ow.callF he hs hk (S:=S) hc ?_
 intro B v D ha hB hS
 exact⟨_,Mrg.fresh (hnew B v D hS).le,hn B v D ha hB hS⟩
theorem Cw.forgetN {c:Code} {K:xp_} (M:zb_) (hnew:New w0.heap.size L) (hM: ∀p,p∈M→p∈L) (hn: (keys M).Nodup) (h:Cw P w0 c f M K):Cw P w0 c f L K:=
 Cw.forget M hM hn (fun p hp _=>hnew.le _ (List.mem_map.2 ⟨p,hp,rfl⟩)) h
end
end Go.Sx
section
namespace Go.Sx
open Go
set_option linter.unusedSimpArgs false
section
variable {P:Program} {w0:World} {L:zb_}
theorem vj_ {w:World} {ts tx ty e:TypeId} {m:Bool×Nat} {z x:Value} {b k:Nat} {new:List Value} (hw:Hp w0 L w)
  (hu:P.underlying ts=some (.slice e)) (hm:qc_ P e=some m) (hi:xe_ P e=true) (hz:zI_ P e=some z) (hzs:z.cells.size=m.2) {d:TypeDesc} (hux:P.underlying tx=some d) (hnx: ∀k,d≠ .int k)
  (hXa: ∀w,Hp w0 L w→AppX P w m.2 x k new) (hbig:2* (0+k)+768≤2^38):
  (k=0∧(Builtin.append_ #[ts,tx] ty #[vsl b 0 0 0,x]).run P w= .ok (vsl b 0 0 0) w)∨
  (0<k∧ ∃v' w' L',(Builtin.append_ #[ts,tx] ty #[vsl b 0 0 0,x]).run P w= .ok v' w'∧Hp w0 L' w'∧Buf L' e m.2 v' (0+k) ([]++new)∧Grew w0 (.slice none 0 0) L L'∧ ∃c,slB v'=some c∧jM_ L c):=by
 obtain⟨i,hi,hb0,hbig⟩:=xU_ hi hbig
 have hti: ∀w,(typeInfo e).run P w= .ok i w:=by
  intro w
  simp only[typeInfo,program,Sem.run_bind]
  show Result.andThen (Result.ok P w) _=_
  simp only[Result.andThen_ok,hi]
  rfl
 have hmd: (match d with| .int _=>true|_=>false)=false:=by
  cases d<;>first|rfl|exact absurd rfl (hnx _)
 have e1: ∀ {α β:Type} (a:α) (f:α→World→Result β),(Sem.run P (pure a) w).andThen f=f a w:=fun _ _=>rfl
 have hX:=hXa w hw
 have hxl:=hX.len
 have hxc:=hX.cells
 have hzv:=jf_ (P:=P) hz
 have room: ∀ (b:Nat) (w:World),(askRoom b).run P w= .ok () w:=by
  intro b w
  unfold askRoom
  split<;>rfl
 have zc: ∀j,(Builtin.zeroCells z.cells j).toList.length=j*m.2:=by
  intro j;simp[Builtin.zeroCells,hzs]
 have hbg: ∀c,c<0+k→ ¬ (Builtin.nextslicecap (0+k) c*i.bytes>2^48):=by
  intro c hc
  have:=xB_ hc
  have h2:=Nat.mul_le_mul_right i.bytes this
  omega
 by_cases hk:k=0
 ·subst hk
  have hnew:new= []:=List.eq_nil_of_length_eq_zero (by have:=hX.size;omega)
  subst hnew
  refine .inl ⟨rfl, ?_⟩
  simp only[Builtin.append_,vsl,List.getElem?_toArray,List.getElem?_cons_zero,List.getElem?_cons_succ,Sem.run_bind,run_underlying hu w,Result.andThen_ok,zv_ hm w,run_underlying hux w,hmd,e1,Bool.false_eq_true, ↓reduceIte,hxl,Bool.not_false,Nat.add_zero,Nat.le_refl,hxc]
  rfl
 ·have hpos: ¬0+k≤0:=by omega
  have hbg':=hbg 0 (by omega)
  simp only[Builtin.append_,List.getElem?_toArray,List.getElem?_cons_zero,List.getElem?_cons_succ,Sem.run_bind,run_underlying hu w,Result.andThen_ok,zv_ hm w,run_underlying hux w,hmd,e1,Bool.false_eq_true, ↓reduceIte,hxl,Bool.not_false,hpos,vsl,hti,hb0,or_false,and_false,hbg']
  have hch: (choose (Question.appendCap (0+k) 0 e)).run P w= .ok ((0+k)+w.tape w.drawn (.appendCap (0+k) 0 e)% (2^63 - (0+k))) w.drew:=rfl
  rw[hch]
  generalize hcc: (0+k)+w.tape w.drawn (.appendCap (0+k) 0 e)% (2^63 - (0+k))=c
  have hw1:=hw.drew
  have hX1:=hXa _ hw1
  have hold: (Builtin.firstCells m.2 0 (Value.slice (some ⟨b,0,none⟩) 0 0)).run P w.drew= .ok #[] w.drew:=by
   simp only[Builtin.firstCells,Nat.zero_mul];rfl
  simp only[Result.andThen_ok,room,hold,hX1.cells,hzv]
  refine .inr ⟨by omega,_,_,L++ [(w.drew.heap.size, .cells ([]++new++ (Builtin.zeroCells z.cells (c - (0+k))).toList).toArray e (0,0))],rfl, ?_, .at_ (b:=w.drew.heap.size) (rest:=(Builtin.zeroCells z.cells (c - (0+k))).toList) ?_ ?_ ?_ (by omega) (by omega), ?_,⟨_,rfl,z2_ fun b hb=>hw1.lt hb⟩⟩
  ·have ea: ([]++new++ (Builtin.zeroCells z.cells (c - (0+k))).toList).toArray= #[]++new.toArray++Builtin.zeroCells z.cells (c - (0+k)):=by apply Array.ext';simp
   rw[ea]
   exact hw1.alloc _
  ·rw[z9_ (fun hm=>Nat.lt_irrefl _ (hw1.lt hm))]
   simp[look]
  ·rw[List.nil_append,hX.size,Nat.zero_add]
  ·exact zc _
  ·refine⟨fun c hc=>by rw[ze_];exact List.mem_append_left _ hc,fun c hc=> ?_,fun c o hne ho=>qD_ ho⟩
   rw[ze_] at hc
   rcases List.mem_append.1 hc with hc|hc
   ·exact .inl hc
   ·right
    simp only[keys,List.map_cons,List.map_nil,List.mem_singleton] at hc
    subst hc
    exact⟨z2_ fun b hb=>hw1.lt hb,hw1.size⟩
end
section
variable {P:Program} {w0:World} {f:Fr} {L:zb_} {N:Fr→zb_→Prop} {ops:Array Oper} {rest:List Oper} {md:Md}
 {d:Option Tmp} {ty:TypeId} {ps:String} {af:Array Edge} {g:Option (Nat×Bool)}
theorem Ow.appendEm {ts tx e:TypeId} {m:Bool×Nat} {z:Value} {s x:Operand} {b k:Nat} {new:List Value} {dx:TypeDesc} {md':Md} (hsv:ev f s=vsl b 0 0 0) (he:md.turn=some md')
  (hs:zg_ ops f ⟨d, .call ⟨.builtin .append, #[s,x], #[ts,tx]⟩,ty,ps,af,g⟩=false)
  (hu:P.underlying ts=some (.slice e)) (hm:qc_ P e=some m) (hi:xe_ P e=true) (hz:zI_ P e=some z) (hzs:z.cells.size=m.2) (hux:P.underlying tx=some dx) (hnx: ∀k,dx≠ .int k)
  (hX: ∀w,Hp w0 L w→AppX P w m.2 (ev f x) k new) (hbig:2* (0+k)+768≤2^38)
  (hn0:k=0→Ow P w0 ops md' rest (qd_ f d (vsl b 0 0 0)) L N)
  (hn: ∀v' L',0<k→Buf L' e m.2 v' (0+k) ([]++new)→Grew w0 (.slice none 0 0) L L'→(∃c,slB v'=some c∧jM_ L c)→Ow P w0 ops md' rest (qd_ f d v') L' N):
  Ow P w0 ops md (⟨d, .call ⟨.builtin .append, #[s,x], #[ts,tx]⟩,ty,ps,af,g⟩::rest) f L N:=by
 refine Ow.step he rfl hs fun w hw=> ?_
 rcases vj_ (ty:=ty) (b:=b) hw hu hm hi hz hzs hux hnx hX hbig with⟨hk,hr⟩ | ⟨hk,v',w',L',hr,hp,hb,hg,hsl⟩
 ·refine .inl ⟨_,w,L, ?_,hw,hn0 hk⟩
  simp only[execOp,resolve,Sem.run_bind,Sem.run_pure,Result.andThen_ok,invoke,builtin,List.map_toArray,List.map_cons,List.map_nil,hsv]
  rw[hr]
  rfl
 ·refine .inl ⟨v',w',L', ?_,hp,hn v' L' hk hb hg hsl⟩
  simp only[execOp,resolve,Sem.run_bind,Sem.run_pure,Result.andThen_ok,invoke,builtin,List.map_toArray,List.map_cons,List.map_nil,hsv]
  rw[hr]
  rfl
end
end Go.Sx
end
namespace Go.Sx
open Go
section
variable {P:Program} {w0:World} {f:Fr} {L:zb_} {N:Fr→zb_→Prop} {K:xp_} {l:List Oper} {listed:List Bool} {n:Nat} {R ts:List Nat} {a d:Nat} {z:Obj}
theorem Md.next_sofnil (R ts:List Nat): (Md.sof R [] ts).next= .sof R [] ts:=(rfl)
theorem V5_ {Q:Exit→Act→World→Prop} {o:Oper} {x:Act} {d:Option Tmp} {v:Value} {K:Act→World→Prop} (hd: ∀t,d=some t→o.dst≠some t)
  (hQ: ∀c a w,Q (.panic c) a w→Q (.panic c) (a.put d v) w) (r:Result Next) (h:o.upon P x (fun a' w'=>K (a'.put d v) w') Q r):
  o.upon P (x.put d v) K Q r:=by
 have comm: ∀u,(x.put o.dst u).put d v=(x.put d v).put o.dst u:=fun u=>(Act.put_comm x v u hd).symm
 match r,h with
 | .ok (.value u) _,h=>show K _ _;rw[←comm];exact h
 | .ok .skip _,h=>show K _ _;rw[←comm];exact h
 | .ok (.defer e) w',h=>
  have h':K ((({x with defers:=e::x.defers}:Act).put o.dst undef).put d v) w':=h
  rw[←Act.put_comm _ v undef hd,←Act.put_defers] at h'
  exact h'
 | .ok (.enter f args) _,h=>
  refine Calls.mono h fun e w'' he=> ?_
  match e,he with
  | .returned u,he=>show K _ _;rw[←comm];exact he
  | .panicked c,he=>exact hQ _ _ _ he
  | .outgrown,he=>exact he
 | .ok (.row row args) _,h=>exact Rows.mono h fun u w'' he=>by rw[←comm];exact he
 | .halt (.panic u) _,h=>exact hQ _ _ _ h
theorem V7_ {ops:Array Oper} {Q:Exit→Act→World→Prop} {j:Nat} {oj:Oper} {d:Option Tmp} {v:Value} (hj:ops[j]? =some oj) (h1: ∀t,d=some t→t∉oj.looksAt ops) (h2: ∀t,d=some t→oj.dst≠some t) (hsj: ∀cs b,oj.op≠ .select cs b)
  (hQ: ∀c a w,Q (.panic c) a w→Q (.panic c) (a.put d v) w) {K:Act→World→Prop} {x:Act} {w:World}
  (h:wpOp P ops Q j (fun a' w'=>K (a'.put d v) w') x w):wpOp P ops Q j K (x.put d v) w:=by
 unfold wpOp at h ⊢
 simp only[hj] at h ⊢
 rw[wanted_put oj x d v h1]
 cases hw:Region.wanted oj (yielded ops x.tmps) with
 |true=>
  rw[hw] at h
  simp only[if_true] at h ⊢
  rcases h with h| ⟨hasks,hl⟩
  ·left
   unfold Oper.wp at h ⊢
   rw[execOp_put oj hsj x d v h1]
   exact V5_ h2 hQ _ h
  ·right
   exact⟨by unfold Oper.asks at*;rwa [execOp_put oj hsj x d v h1],hl⟩
 |false=>
  rw[hw] at h
  simp only[Bool.false_eq_true,if_false] at h ⊢
  rw[Act.put_comm x v undef h2]
  exact h
structure Drift (P:Program) (l:List Oper) (ts:List Nat) (a d:Nat) (z:Obj):Prop where
 here: ∃oa t zv,l.toArray[a]? =some oa∧oa.op= .alloc t∧oa.dst=some d∧oa.guard=none∧zI_ P t=some zv∧z= .cells zv.cells t
 ts:a∉ts
 sel:Region.noSelect l.toArray=true
def OwD (P:Program) (w0:World) (l:List Oper) (R ts:List Nat) (a d:Nat) (z:Obj) (n:Nat) (listed:List Bool) (f:Fr) (L:zb_) (N:Fr→zb_→Prop):Prop:=
 (∀w,Hp w0 L w→xk_ P l.toArray (jz_ w0 N) ts (SR w0 R L) (n+1) listed.toArray (act f) w)∧
 (∀b w,w0.heap.size≤b→b∉keys L→Hp w0 (L++ [(b,z)]) w→xk_ P l.toArray (jz_ w0 N) ts (SR w0 R L) n (listed.set a true).toArray (act (K6_ f d (vp b 0))) w)
theorem SR.ofE {w:World} {b:Nat} (hb:w0.heap.size≤b) (h:Hp w0 (L++ [(b,z)]) w):SR w0 R L w:=by
 intro r _ o ho
 unfold zk_ at ho
 split at ho
 ·rename_i o' hl
  cases ho
  exact h.has _ _ (List.mem_append_left _ (zw_ hl))
 ·rename_i hl
  have hlt:=(Array.getElem?_eq_some_iff.1 ho).1
  rw[h.old r hlt ?_];exact ho
  intro hm
  simp only[keys,List.map_append,List.map_cons,List.map_nil,List.mem_append,List.mem_singleton] at hm
  rcases hm with hm|hm
  ·exact w1_ hl hm
  ·omega
theorem ahX_ {c:List PanicEntry} {x x':Act} {w:World} (h:jz_ w0 N (.panic c) x w):jz_ w0 N (.panic c) x' w:=zU_ h
theorem Hp.perm {w:World} {M:zb_} (h:Hp w0 L w) (hp:M.Perm L):Hp w0 M w:=
 h.same (fun _=>hp.mem_iff) ((List.Perm.nodup_iff (hp.map Prod.fst)).2 h.nodup)
def chkD (P:Program) (l:List Oper) (ts:List Nat) (a:Nat):List Nat→List Bool→Option (List Bool)
 | [],listed=>some listed
 |k::is,listed=>
  match ki_ l k,ki_ l a with
  |some o,some oa=>if k !=a&& !ts.contains k&& (ts.all fun t=> !listed.toArray.getD t true&& !(listed.set a true).toArray.getD t true)&& (Region.ready .any l.toArray listed.toArray).contains k&&Region.free .any l.toArray listed.toArray k&&
    (Region.ready .any l.toArray (listed.set a true).toArray).contains k&&Region.free .any l.toArray (listed.set a true).toArray k&&o.apart l.toArray oa&&
    (jO_ P o.op|| (Jm_ o.op&&Qu_ l.toArray ts listed.toArray k&&Qu_ l.toArray ts (listed.set a true).toArray k)) then chkD P l ts a is (listed.set k true) else none
  |_,_=>none
theorem OwD.step {k:Nat} {o:Oper} {v:Value} (hD:Drift P l ts a d z) (hk:ki_ l k=some o) {rest:List Bool} (hc:chkD P l ts a [k] listed=some rest)
  (hY:YieldsC P l.toArray (SR w0 R L) (jO_ P o.op=true) o v (act f)) (h:OwD P w0 l R ts a d z n rest (qd_ f o.dst v) L N):OwD P w0 l R ts a d z (n+1) listed f L N:=by
 obtain⟨⟨oa,t,zv,ha,hop,hdst,hg,hz,rfl⟩,hats,hns⟩:=hD
 have hoi:l.toArray[k]? =some o:=by rw[j3_] at hk;simpa using hk
 have ha':ki_ l a=some oa:=by rw[j3_];simpa using ha
 unfold chkD at hc
 rw[hk,ha'] at hc
 simp only at hc
 split at hc
 ·rename_i hcc
  simp only[chkD,Option.some.injEq] at hc
  subst hc
  simp only[Bool.and_eq_true,Bool.or_eq_true,Bool.not_eq_true',List.all_eq_true,List.contains_eq_mem,decide_eq_true_eq,decide_eq_false_iff_not,bne_iff_ne,ne_eq] at hcc
  obtain⟨⟨⟨⟨⟨⟨⟨⟨c1,c2⟩,c3⟩,c4⟩,c5⟩,c6⟩,c7⟩,c8⟩,c9⟩:=hcc
  obtain⟨q1,q2,q3⟩:=Oper.apart_spec c8
  have hsel:=Region.noSelect_spec hns
  have hset: (listed.set k true).set a true=(listed.set a true).set k true:=List.set_comm _ _ c1
  refine⟨fun w hw=> ?_,fun b w hb hbL hw=> ?_⟩
  ·refine kI_ hoi c2 hsel (fun c a w h=>zU_ h) _ _ _ _ (xm_ (P:=P) hoi c4 c5 (c9.imp id fun h=>⟨h.1.1,h.1.2,fun t ht=>(c3 t ht).1⟩)) (.inr fun t ht=>(c3 t ht).1) hY ?_
   rw[z1_,qm_]
   exact h.1 w hw
  ·have hY2:YieldsC P l.toArray (SR w0 R L) (jO_ P o.op=true) o v (act (K6_ f d (vp b 0))):=by
    refine hY.left (hsel k o · · hoi) (oj:=oa) q3 ⟨vp b 0,[], ?_⟩
    rw[hdst]
    exact(z1_ f (some d) (vp b 0)).symm
   refine kI_ hoi c2 hsel (fun c a w h=>zU_ h) _ _ _ _ (xm_ (P:=P) hoi c6 c7 (c9.imp id fun h=>⟨h.1.1,h.2,fun t ht=>(c3 t ht).2⟩)) (.inr fun t ht=>(c3 t ht).2) hY2 ?_
   have e: (act (K6_ f d (vp b 0))).put o.dst v=act (K6_ (qd_ f o.dst v) d (vp b 0)):=by
    have e1:act (K6_ f d (vp b 0))=(act f).put (some d) (vp b 0):=(z1_ f (some d) (vp b 0)).symm
    rw[e1,Act.put_comm (act f) (x:=some d) (y:=o.dst) (vp b 0) v (fun t ht hod=>by cases ht;exact q2 _ hod hdst),z1_,z1_];rfl
   rw[e,qm_,←hset]
   exact h.2 b w hb hbL hw
 ·cases hc
theorem aje_ {k:Nat} {is:List Nat} {listed listed':List Bool} (h:chkD P l ts a (k::is) listed=some listed'):chkD P l ts a [k] listed=some (listed.set k true)∧chkD P l ts a is (listed.set k true)=some listed':=by
 rw[chkD] at h
 cases ho:ki_ l k with
 |none=>rw[ho] at h;cases h
 |some o=>
  cases hoa:ki_ l a with
  |none=>rw[ho,hoa] at h;cases h
  |some oa=>
   rw[ho,hoa] at h
   simp only at h
   split at h
   ·rename_i hcc
    refine⟨?_,h⟩
    rw[chkD,ho,hoa]
    simp only
    rw[if_pos hcc];rfl
   ·cases h
theorem OwD.runs {k:Md→List Oper→Fr→zb_→Prop} (hD:Drift P l ts a d z): ∀ (is:List Nat) {listed listed':List Bool} {f:Fr} {L:zb_},chkD P l ts a is listed=some listed'→
  (∀md r f' L',k md r f' L'→r= []∧OwD P w0 l R ts a d z n listed' f' L' N)→vcL P w0 l.toArray false (.sof R [] []) (xf_ l is) f L k→OwD P w0 l R ts a d z (is.length+n) listed f L N
 | [],listed,listed',f,L,hc,hk,h=>by
  cases hc
  rw[List.length_nil,Nat.zero_add]
  exact(hk _ _ _ _ h).2
 |i::is,listed,listed',f,L,hc,hk,h=>by
  obtain⟨hc1,hc2⟩:=aje_ hc
  rw[vD_] at h
  cases ho:ki_ l i with
  |none=>unfold chkD at hc1;rw[ho] at hc1;cases hc1
  |some o=>
   rw[ho,vF_] at h
   unfold vcL at h
   rw[List.length_cons,show is.length+1+n=(is.length+n)+1 by omega]
   cases hs:zg_ l.toArray f o with
   |true=>
    rw[hs] at h
    have hw0:Region.wanted o (yielded l.toArray (act f).tmps)=false:=by rw[qg_,hs];rfl
    exact OwD.step hD ho hc1 (v:=undef) (.inr ⟨hw0,rfl⟩) (OwD.runs hD is hc2 hk h)
   |false=>
    rw[hs] at h
    have hw0:Region.wanted o (yielded l.toArray (act f).tmps)=true:=by rw[qg_,hs];rfl
    simp only[ib,vcB] at h
    split at h
    ·cases hrd:Vy_ (.sof R [] []) f o.op with
     |false=>rw[hrd] at h;exact absurd (hk _ _ _ _ h).1 (by simp)
     |true=>
      rw[hrd] at h
      simp only at h
      cases hv:jg_ P w0 L f o.op with
      |none=>rw[hv] at h;exact absurd (hk _ _ _ _ h).1 (by simp)
      |some v=>
       rw[hv] at h
       refine OwD.step hD ho hc1 (v:=v) (.inl ⟨hw0,fun w hw=> ?_⟩) (OwD.runs hD is hc2 hk h)
       rw[q0_]
       rcases hw with hp|hw
       ·exact qI_ (Hp.refl w) (xx_ hp hv w)
       ·exact qI_ (Hp.refl w) (wf_ hrd hv hw)
    ·exact absurd (hk _ _ _ _ h).1 (by simp)
    ·exact absurd (hk _ _ _ _ h).1 (by simp)
theorem OwD.run (is:List Nat) (listed':List Bool) (n:Nat) {m:Nat} (hm:m=is.length+n) (hD:Drift P l ts a d z) (hc:chkD P l ts a is listed=some listed')
  (h: ∀k:Md→List Oper→Fr→zb_→Prop,(∀md f L,OwD P w0 l R ts a d z n listed' f L N→k md [] f L)→nl (xf_ l is) fun l'=>vcL P w0 l.toArray false (.sof R [] []) l' f L k):OwD P w0 l R ts a d z m listed f L N:=by
 subst hm
 refine OwD.runs (k:=fun _ r f' L'=>r= []∧OwD P w0 l R ts a d z n listed' f' L' N) hD is hc (fun _ _ _ _ h=>h) ?_
 exact h _ fun _ _ _ h=>⟨rfl,h⟩
theorem KH_ {t:TypeId} {zv:Value} {oa:Oper} {Q:Exit→Act→World→Prop} {X:Act→World→Prop} {w:World} (ha:l.toArray[a]? =some oa) (hop:oa.op= .alloc t) (hdst:oa.dst=some d) (hg:oa.guard=none) (hz:zI_ P t=some zv)
  (h:X (act (K6_ f d (vp w.heap.size 0))) (w.alloc (.cells zv.cells t))):wpOp P l.toArray Q a X (act f) w:=by
 obtain⟨dst,op,ty,pos,after,guard⟩:=oa
 simp only at hop hdst hg
 subst hop;subst hdst;subst hg
 unfold wpOp
 simp only[ha]
 have hw:Region.wanted ⟨some d, .alloc t,ty,pos,after,none⟩ (yielded l.toArray (act f).tmps)=true:=by rw[qg_];rfl
 rw[hw]
 simp only[↓reduceIte]
 left
 unfold Oper.wp
 have hr: (execOp (act f).eval ⟨some d, .alloc t,ty,pos,after,none⟩).run P w= .ok (.value (vp w.heap.size 0)) (w.alloc (.cells zv.cells t)):=by
  simp only[execOp,Instr.alloc,Sem.run_bind,jf_ hz w,Result.andThen_ok]
  rfl
 rw[hr]
 show X ((act f).put (some d) (vp w.heap.size 0)) _
 rw[z1_]
 exact h
theorem vO_ {L':zb_} (hS: ∀b,b∈R→zk_ w0 L' b=zk_ w0 L b):SR w0 R L=SR w0 R L':=by
 funext v
 unfold SR
 apply propext
 constructor
 ·intro hh b hb o ho;exact hh b hb o (by rw[←hS b hb];exact ho)
 ·intro hh b hb o ho;exact hh b hb o (by rw[hS b hb];exact ho)
def aeP_ (l:List Oper) (ts:List Nat) (a:Nat) (ks:List Nat) (listed:List Bool):Bool:=
 ((Region.ready .any l.toArray listed.toArray).all fun i=>i==a||ks.contains i)&& (Region.ready .any l.toArray listed.toArray != [])&& ((Region.ready .any l.toArray (listed.set a true).toArray).all fun i=>ks.contains i)&& (Region.ready .any l.toArray (listed.set a true).toArray != [])&&ks.all fun k=>
  match ki_ l k,ki_ l a with
  |some o,some oa=>k !=a&& !ts.contains k&&o.apart l.toArray oa
  |_,_=>false
theorem OwD.softs (ks:List Nat) (hD:Drift P l ts a d z) (hs:aeP_ l ts a ks listed=true)
  (h: ∀k,k∈ks→ ∀o,ki_ l k=some o→ ∀E,(E= []∨ ∃b,E= [(b,z)]∧w0.heap.size≤b∧b∉keys L)→Ow P w0 l.toArray .seq [o] f (L++E) (fun f' L''=> ∃L',(L'++E).Perm L''∧(∀r,r∈R→zk_ w0 L' r=zk_ w0 L r)∧OwD P w0 l R ts a d z n (listed.set k true) f' L' N)):
  OwD P w0 l R ts a d z (n+1) listed f L N:=by
 obtain⟨⟨oa,t,zv,ha,hop,hdst,hg,hz,rfl⟩,hats,hns⟩:=hD
 have ha':ki_ l a=some oa:=by rw[j3_];simpa using ha
 unfold aeP_ at hs
 simp only[Bool.and_eq_true,List.all_eq_true,Bool.or_eq_true,beq_iff_eq,bne_iff_ne,ne_eq,List.contains_eq_mem,decide_eq_true_eq] at hs
 obtain⟨⟨⟨⟨c3,c4⟩,c5⟩,c5'⟩,c6⟩:=hs
 have hsel:=Region.noSelect_spec hns
 have hkk: ∀k,k∈ks→ ∃o,ki_ l k=some o∧k≠a∧k∉ts∧o.apart l.toArray oa=true:=by
  intro k hk
  have:=c6 k hk
  rw[ha'] at this
  cases ho:ki_ l k with
  |none=>rw[ho] at this;cases this
  |some o=>
   rw[ho] at this
   simp only[Bool.and_eq_true,Bool.not_eq_true',bne_iff_ne,ne_eq,decide_eq_false_iff_not] at this
   exact⟨o,rfl,this.1.1,this.1.2,this.2⟩
 have t2: ∀b w,w0.heap.size≤b→b∉keys L→Hp w0 (L++ [(b, .cells zv.cells t)]) w→xk_ P l.toArray (jz_ w0 N) ts (SR w0 R L) (n+1) (listed.set a true).toArray (act (K6_ f d (vp b 0))) w:=by
  intro b w hb hbL hw
  refine⟨fun _=>SR.ofE hb hw,(fun h=>absurd h c5'), ?_⟩
  intro k hi
  have hkm:=c5 k hi
  obtain⟨o,hk,c1,c2,c7⟩:=hkk k hkm
  have hoi:l.toArray[k]? =some o:=by rw[j3_] at hk;simpa using hk
  obtain⟨q1,q2,q3⟩:=Oper.apart_spec c7
  have hset: (listed.set k true).set a true=(listed.set a true).set k true:=List.set_comm _ _ c1
  have e1:act (K6_ f d (vp b 0))=(act f).put (some d) (vp b 0):=(z1_ f (some d) (vp b 0)).symm
  rw[e1]
  refine V7_ hoi (fun t ht=>by cases ht;exact q3 d hdst) (fun t ht=>by cases ht;exact fun hod=>q2 d hod hdst) (hsel _ o · · hoi) (fun c a w h=>ahX_ h) ?_
  refine wi_ hoi (X:=fun a' w'=>xk_ P l.toArray (jz_ w0 N) ts (SR w0 R L) n ((listed.set a true).toArray.setIfInBounds k true) (a'.put (some d) (vp b 0)) w') ?_ hw
  intro w' hw'
  refine xT_ ?_ (h k hkm o hk [(b, .cells zv.cells t)] (.inr ⟨b,rfl,hb,hbL⟩) w' hw')
  rintro f' L'' ⟨L',hpm,hR,hO⟩ w'' hw''
  have hw3:=hw''.perm hpm
  rw[z1_,qm_,←hset,vO_ hR]
  refine hO.2 b w'' hb (fun hm=> ?_) hw3
  have hnd:=hw3.nodup
  rw[ze_,List.nodup_append] at hnd
  exact hnd.2.2 b hm b (by simp[keys]) rfl
 refine⟨fun w hw=>⟨fun _=>SR.of hw,fun h=>absurd h c4,fun k hi=> ?_⟩,t2⟩
 rcases c3 k hi with rfl|hkm
 ·refine KH_ ha hop hdst hg hz ?_
  rw[qm_]
  refine t2 _ _ hw.size (fun hm=>Nat.lt_irrefl _ (hw.lt hm)) (hw.alloc _)
 ·obtain⟨o,hk,c1,c2,c7⟩:=hkk k hkm
  have hoi:l.toArray[k]? =some o:=by rw[j3_] at hk;simpa using hk
  refine wi_ hoi (X:=xk_ P l.toArray (jz_ w0 N) ts (SR w0 R L) (n+1) (listed.toArray.setIfInBounds k true)) ?_ hw
  intro w' hw'
  have h1:=h k hkm o hk [] (.inl rfl)
  rw[List.append_nil] at h1
  refine xT_ ?_ (h1 w' hw')
  rintro f' L'' ⟨L',hpm,hR,hO⟩ w'' hw''
  rw[List.append_nil] at hpm
  rw[qm_,vO_ hR]
  exact hO.1 w'' (hw''.perm hpm)
theorem OwD.soft (k:Nat) (o:Oper) (hD:Drift P l ts a d z) (hk:ki_ l k=some o) (hs:aeP_ l ts a [k] listed=true)
  (h: ∀E,(E= []∨ ∃b,E= [(b,z)]∧w0.heap.size≤b∧b∉keys L)→Ow P w0 l.toArray .seq [o] f (L++E) (fun f' L''=> ∃L',(L'++E).Perm L''∧(∀r,r∈R→zk_ w0 L' r=zk_ w0 L r)∧OwD P w0 l R ts a d z n (listed.set k true) f' L' N)):
  OwD P w0 l R ts a d z (n+1) listed f L N:=OwD.softs [k] hD hs fun k' hk' o' ho'=>by
 rw[List.mem_singleton] at hk'
 subst hk'
 rw[hk] at ho'
 cases ho'
 exact h
theorem OwD.two (k k2:Nat) (o o2:Oper) (hD:Drift P l ts a d z) (hk:ki_ l k=some o) (hk2:ki_ l k2=some o2) (hs:aeP_ l ts a [k,k2] listed=true)
  (h: ∀E,(E= []∨ ∃b,E= [(b,z)]∧w0.heap.size≤b∧b∉keys L)→Ow P w0 l.toArray .seq [o] f (L++E) (fun f' L''=> ∃L',(L'++E).Perm L''∧(∀r,r∈R→zk_ w0 L' r=zk_ w0 L r)∧OwD P w0 l R ts a d z n (listed.set k true) f' L' N))
  (h2: ∀E,(E= []∨ ∃b,E= [(b,z)]∧w0.heap.size≤b∧b∉keys L)→Ow P w0 l.toArray .seq [o2] f (L++E) (fun f' L''=> ∃L',(L'++E).Perm L''∧(∀r,r∈R→zk_ w0 L' r=zk_ w0 L r)∧OwD P w0 l R ts a d z n (listed.set k2 true) f' L' N)):
  OwD P w0 l R ts a d z (n+1) listed f L N:=OwD.softs [k,k2] hD hs fun k' hk' o' ho'=>by
 simp only[List.mem_cons,List.not_mem_nil,or_false] at hk'
 rcases hk' with rfl|rfl
 ·rw[hk] at ho';cases ho';exact h
 ·rw[hk2] at ho';cases ho';exact h2
theorem OwD.real (is:List Nat) {m:Nat} (hm:m=is.length) (hD:Drift P l ts a d z) (hr:Region.ready .any l.toArray listed.toArray= [a]) (hB:ZM_ P l.toArray ts is (listed.set a true).toArray=true) (hts: (ts.all fun t=> !(listed.set a true).toArray.getD t true)=true)
  (hl:is.map (fun i:Nat=>l[i]?)=(xf_ l is).map some) (hR: ∀r,r∈R→r∈keys L∨r<w0.heap.size)
  (h:nl (xf_ l is) fun l'=> ∀b,w0.heap.size≤b→b∉keys L→Ow P w0 l.toArray (.sof R is ts) l' (K6_ f d (vp b 0)) (L++ [(b,z)]) N):OwD P w0 l R ts a d z m listed f L N:=by
 subst hm
 obtain⟨⟨oa,t,zv,ha,hop,hdst,hg,hz,rfl⟩,hats,hns⟩:=hD
 simp only[List.all_eq_true,Bool.not_eq_true'] at hts
 revert hl h
 generalize xf_ l is=l'
 intro hl h
 have hlen:is.length=l'.length:=by have:=congrArg List.length hl;simpa using this
 have hF:Fits P l.toArray ts is l' (listed.set a true).toArray:=⟨hlen,fun j=>by
  have:=congrArg (·[j]?) hl
  simp only[List.getElem?_map] at this
  cases hj:is[j]? with
  |none=>
   rw[hj] at this
   simp only[Option.map_none] at this
   cases hj':l'[j]? with
   |none=>rfl
   |some x=>rw[hj'] at this;cases this
  |some i=>
   rw[hj] at this
   simp only[Option.map_some] at this
   cases hj':l'[j]? with
   |none=>rw[hj'] at this;cases this
   |some x=>
    rw[hj'] at this
    simp only[Option.map_some,Option.some.injEq] at this
    simp[this],hns,hB⟩
 have hRb: ∀b,w0.heap.size≤b→b∉keys L→ ∀r,r∈R→zk_ w0 (L++ [(b,Obj.cells zv.cells t)]) r=zk_ w0 L r:=by
  intro b hb hbL r hr
  unfold zk_
  cases hlk:look L r with
  |some o=>rw[qD_ hlk]
  |none=>
   have hrn:r∉keys L:=w1_ hlk
   have hne:b≠r:=by
    rcases hR r hr with h|h
    ·exact absurd h hrn
    ·omega
   rw[z9_ hrn]
   unfold look
   rw[if_neg hne];rfl
 have t2: ∀b w,w0.heap.size≤b→b∉keys L→Hp w0 (L++ [(b, .cells zv.cells t)]) w→xk_ P l.toArray (jz_ w0 N) ts (SR w0 R L) is.length (listed.set a true).toArray (act (K6_ f d (vp b 0))) w:=by
  intro b w hb hbL hw
  rw[hlen,vO_ (hRb b hb hbL)]
  exact h b hb hbL _ hF (fun t ht=>hts t ht) w hw
 refine⟨fun w hw=>⟨fun _=>SR.of hw,(fun h=>by rw[hr] at h;cases h),fun i hi=> ?_⟩,t2⟩
 rw[hr,List.mem_singleton] at hi
 subst hi
 refine KH_ ha hop hdst hg hz ?_
 rw[qm_]
 exact t2 _ _ hw.size (fun hm=>Nat.lt_irrefl _ (hw.lt hm)) (hw.alloc _)
theorem Cw.regionD {id:Nat} (R ts:List Nat) (a d t m:Nat) (zv:Value) (hl:l.length=m+1) (hm:P.follows .mixedOrders=true) (hop: ((ki_ l a).map fun o=>(o.op,o.dst,o.guard))=some (.alloc t,some d,none)) (hts:ts.contains a=false) (hns:Region.noSelect l.toArray=true) (hz:zI_ P t=some zv)
  (h:Drift P l ts a d (.cells zv.cells t)→OwD P w0 l R ts a d (.cells zv.cells t) m (List.replicate (m+1) false) f L (K .normal)):Cw P w0 (.region id l.toArray true) f L K:=by
 intro w hw
 refine wp_mono (wp_region_any hm ?_) fun _ _ _ h=>j8_ h
 have hD:Drift P l ts a d (.cells zv.cells t):=by
  cases hn:ki_ l a with
  |none=>rw[hn] at hop;cases hop
  |some oa=>
   rw[hn] at hop
   simp only[Option.map_some,Option.some.injEq,Prod.mk.injEq] at hop
   exact⟨⟨oa,t,zv,by rw[j3_] at hn;simpa using hn,hop.1,hop.2.1,hop.2.2,hz,rfl⟩,by simpa using hts,hns⟩
 have h1:=(h hD).1 w.drew hw.drew
 have:=kh_ _ _ _ _ h1
 simpa [hl] using this
end
end Go.Sx
namespace Go.Sx
open Go
def Gr (L:zb_) (E:TypeId) (m:Nat) (v:Value) (n:Nat) (cs:List Value):Prop:=
 Buf L E m v n cs∨(n=0∧cs= []∧ ∃b,v=vsl b 0 0 0∧look L b=some (.cells #[] E (0,0)))
theorem Gr.nl {L:zb_} {E:TypeId} {m:Nat}:Gr L E m (.slice none 0 0) 0 []:= .inl .nl
theorem Grew.any {w0:World} {v v':Value} {L L':zb_} (h:Grew w0 v L L') (hv:slB v=none):Grew w0 v' L L':=
 ⟨h.keys,h.new,fun c o _ hl=>h.look c o (by rw[hv];simp) hl⟩
theorem Gr.keep {L L':zb_} {E:TypeId} {m n:Nat} {v:Value} {cs:List Value} (h:Gr L E m v n cs) (hk: ∀b o,slB v=some b→look L b=some o→look L' b=some o):Gr L' E m v n cs:=by
 rcases h with h| ⟨h1,h2,b,rfl,h3⟩
 ·exact .inl (h.keep hk)
 ·exact .inr ⟨h1,h2,b,rfl,hk b _ rfl h3⟩
theorem Gr.app {L M:zb_} {E:TypeId} {m n:Nat} {v:Value} {cs:List Value} (h:Gr L E m v n cs):Gr (L++M) E m v n cs:=h.keep fun _ _ _ hl=>qD_ hl
theorem Gr.len {L:zb_} {E:TypeId} {m n:Nat} {v:Value} {cs:List Value} (h:Gr L E m v n cs) (x:Bool×Nat):wt_ (.sl x) v=some (vi n):=by
 rcases h with h| ⟨rfl,rfl,b,rfl,-⟩
 ·exact h.len x
 ·rfl
theorem Gr.cell {L:zb_} {E:TypeId} {m n:Nat} {v:Value} {cs:List Value} (h:Gr L E m v n cs):Value.oneCell' v=true∧v.cells= #[v]:=by
 rcases h with h| ⟨rfl,rfl,b,rfl,-⟩
 ·exact h.cell
 ·exact⟨rfl,rfl⟩
theorem Gr.key {L:zb_} {E:TypeId} {m n:Nat} {v:Value} {cs:List Value} (h:Gr L E m v n cs) {b:Nat} (hb:slB v=some b):b∈keys L:=by
 rcases h with h| ⟨rfl,rfl,c,rfl,hl⟩
 ·rcases h.inv with⟨rfl,-,-⟩ | ⟨c,cc,rest,rfl,hl,-⟩
  ·cases hb
  ·cases hb;exact zo_ hl
 ·cases hb;exact zo_ hl
section
variable {α:Type} {m:Nat} {enc:α→List Value} {z:α} {w:World} {v:Value} {l:List α}
theorem Gr.slM {L:zb_} {E:TypeId} {n:Nat} {cs:List Value} (h:Gr L E m v n cs) (hw: ∀b o,(b,o)∈L→w.heap[b]? =some o) (hl:l.length=n) (hcs:cs=(l.map enc).flatten) (hm: ∀x,(enc x).length=m):SlV m enc z w v l:=by
 rcases h with h| ⟨rfl,rfl,b,rfl,hlk⟩
 ·exact h.slM hw hl hcs hm
 ·obtain rfl:l= []:=List.eq_nil_of_length_eq_zero hl
  exact SlV.sl (l:=([]:List α)) (off:=0) (c:=0) (hw _ _ (zw_ hlk)) (fun k hk=>by simp at hk) (Nat.le_refl 0) (by simp)
theorem Gr.slV {L:zb_} {E:TypeId} {n:Nat} {cs:List Value} {w0:World} (h:Gr L E m v n cs) (hw:Hp w0 L w) (hl:l.length=n) (hcs:cs=(l.map enc).flatten) (hm: ∀x,(enc x).length=m):SlV m enc z w v l:=h.slM hw.has hl hcs hm
theorem ZO_ (hm: ∀x,(enc x).length=m) (arr:Array Value): ∀ (ls:List α) (off:Nat),off+ls.length*m≤arr.size→(∀k j,k<ls.length→j<m→arr[off+k*m+j]? =(enc (ls.getD k z))[j]?)→
  (arr.extract off (off+ls.length*m)).toList=(ls.map enc).flatten
 | [],off,_,_=>by simp
 |r::ls,off,hs,h=>by
  have hlm: (r::ls).length*m=m+ls.length*m:=by rw[List.length_cons,Nat.add_mul,Nat.one_mul,Nat.add_comm]
  rw[hlm] at hs ⊢
  have ih:=ZO_ hm arr ls (off+m) (by omega) (fun k j hk hj=>by
   have:=h (k+1) j (by simpa using hk) hj
   rw[List.getD_cons_succ] at this
   rw[←this];congr 1;rw[Nat.add_mul,Nat.one_mul];omega)
  have h0: (arr.extract off (off+m)).toList=enc r:=by
   apply List.ext_getElem?
   intro j
   rw[Array.getElem?_toList,Array.getElem?_extract]
   by_cases hj:j<m
   ·rw[if_pos (by omega)]
    have:=h 0 j (by simp) hj
    simpa using this
   ·rw[if_neg (by omega),List.getElem?_eq_none (by rw[hm];omega)]
  rw[List.map_cons,List.flatten_cons,←ih,←h0,←Array.toList_append]
  congr 1
  rw[Array.extract_append_extract]
  congr 1<;>omega
theorem kv_ (hm: ∀x,(enc x).length=m) (l:List α): (l.map enc).flatten.length=l.length*m:=by
 induction l with
 |nil=>simp
 |cons x r ih=>rw[List.map_cons,List.flatten_cons,List.length_append,ih,hm,List.length_cons,Nat.add_mul,Nat.one_mul,Nat.add_comm]
theorem AppX.one1 {P:Program} {b:Nat} {E:TypeId} {fz:Nat×Nat} {cs:List Value} (hb:w.heap[b]? =some (.cells cs.toArray E fz)) (hm:cs.length=m) (h1:cs.all Value.oneCell'=true):AppX P w m (vsl b 0 1 1) 1 cs:=by
 refine AppX.block (w0:=w) (L:= []) (by rw[w9_];exact hb) (by simp;omega) ?_ h1 (Hp.refl w)
 rw[List.extract_toArray,List.extract_eq_take_drop,List.drop_zero,List.take_of_length_le (by omega)]
theorem SlV.appX {P:Program} (h:SlV m enc z w v l) (hm: ∀x,(enc x).length=m) (h1: ∀x,(enc x).all Value.oneCell'=true):AppX P w m v l.length (l.map enc).flatten:=by
 obtain⟨b,off,c,arr,E,fz,hr,hc,hv⟩:=h
 rcases hv with⟨rfl,rfl,rfl⟩ | ⟨rfl,hhas,hsz⟩
 ·exact AppX.nil P w m
 ·refine AppX.block (w0:=w) (L:= []) (by rw[w9_];exact hhas) hsz (ZO_ (z:=z) hm arr l off hsz (fun k j hk hj=>hr.get k hk j hj)) ?_ (Hp.refl w)
  rw[List.all_flatten,List.all_map,List.all_eq_true]
  exact fun r _=>h1 r
end
section
variable {P:Program} {w0:World} {f:Fr} {L:zb_} {N:Fr→zb_→Prop} {ops:Array Oper} {rest:List Oper} {md:Md}
 {d:Option Tmp} {ty:TypeId} {ps:String} {af:Array Edge} {g:Option (Nat×Bool)}
theorem Ow.appendG {ts tx e:TypeId} {m:Bool×Nat} {z:Value} {s x:Operand} {n k:Nat} {cs new:List Value} {dx:TypeDesc} {md':Md} (sv:Value) (hsv:ev f s=sv) (he:md.turn=some md')
  (hs:zg_ ops f ⟨d, .call ⟨.builtin .append, #[s,x], #[ts,tx]⟩,ty,ps,af,g⟩=false)
  (hu:P.underlying ts=some (.slice e)) (hm:qc_ P e=some m) (hi:xe_ P e=true) (hz:zI_ P e=some z) (hzs:z.cells.size=m.2) (hux:P.underlying tx=some dx) (hnx: ∀k,dx≠ .int k)
  (hB:Gr L e m.2 sv n cs) (hX: ∀w,Hp w0 L w→AppX P w m.2 (ev f x) k new) (hlen:new.length=k*m.2) (hbig:2* (n+k)+768≤2^38)
  (hn: ∀v' L',Gr L' e m.2 v' (n+k) (cs++new)→(0<k→Buf L' e m.2 v' (n+k) (cs++new))→Grew w0 sv L L'→(slB v'=slB sv∨ ∃c,slB v'=some c∧jM_ L c)→Ow P w0 ops md' rest (qd_ f d v') L' N):
  Ow P w0 ops md (⟨d, .call ⟨.builtin .append, #[s,x], #[ts,tx]⟩,ty,ps,af,g⟩::rest) f L N:=by
 rcases hB with hB| ⟨rfl,rfl,b,rfl,hlk⟩
 ·exact Ow.append sv hsv he hs hu hm hi hz hzs hux hnx hB hX hbig fun v' L' h1 h2 h3=>hn v' L' (.inl h1) (fun _=>h1) h2 h3
 ·refine Ow.appendEm hsv he hs hu hm hi hz hzs hux hnx hX hbig (fun h0=> ?_) (fun v' L' hk h1 h2 h3=> ?_)
  ·subst h0
   obtain rfl:new= []:=List.eq_nil_of_length_eq_zero (by rw[hlen,Nat.zero_mul])
   exact hn _ L (.inr ⟨rfl,rfl,b,rfl,hlk⟩) (fun h=>absurd h (Nat.lt_irrefl 0)) (Grew.refl _ _ _) (.inl rfl)
  ·exact hn v' L' (.inl h1) (fun _=>h1) (h2.any rfl) (.inr h3)
end
end Go.Sx
namespace Go.Sx
open Go
theorem ahi_ {w0:World} {L M:zb_} {r:Nat} (h:r∈keys L):zk_ w0 (L++M) r=zk_ w0 L r:=by
 obtain⟨o,ho⟩:=VF_ h
 rw[zt_ ho,zt_ (qD_ ho)]
theorem qk_ {w0:World} {L M:zb_} {R:List Nat} (h: ∀r,r∈R→r∈keys L): ∀r,r∈R→zk_ w0 (L++M) r=zk_ w0 L r:=fun r hr=>ahi_ (h r hr)
theorem New.of_le {n:Nat}: ∀ {D:zb_},(∀c,c∈keys D→n≤c)→New n D
 | [],_=>trivial
 | (b,o)::r,h=>⟨h b (by simp[keys]),New.of_le fun c hc=>h c (by simp only[keys,List.map_cons,List.mem_cons] at hc ⊢;exact .inr hc)⟩
theorem vH_ {w0:World} {L M:zb_} {r:Nat} (h:r∉keys M):zk_ w0 (M++L) r=zk_ w0 L r:=by
 unfold zk_;rw[z9_ h]
theorem Ext.new0 {w:World} {D:zb_} (h:Ext w [] D):New w.heap.size D:=by
 have hn:=h.new
 have key: ∀ (D:zb_),(∀c,c∈Sx.keys D→w.heap.size≤c)→New w.heap.size D:=by
  intro D
  induction D with
  |nil=>intro _;trivial
  |cons p r ih=>
   obtain⟨b,o⟩:=p
   intro hh
   exact⟨hh b (by simp[Sx.keys]),ih fun c hc=>hh c (by simp only[Sx.keys,List.map_cons,List.mem_cons] at hc ⊢;exact .inr hc)⟩
 refine key D fun c hc=> ?_
 rcases hn c hc with h1|h1
 ·cases h1
 ·exact h1
theorem Ext.of_new {w:World} {D:zb_} (h:New w.heap.size D):Ext w [] D:=⟨fun c hc=> .inr (h.le c hc),fun c hc=>by cases hc⟩
section
variable {P:Program} {w0:World} {f:Fr} {L:zb_} {N:Fr→zb_→Prop} {K:xp_} {ops:Array Oper} {rest:List Oper} {md:Md}
 {d:Option Tmp} {ty:TypeId} {ps:String} {af:Array Edge} {g:Option (Nat×Bool)}
theorem zF_ {b:Nat} {o:Obj}: ∀ {B:zb_},(keys B).Nodup→(b,o)∈B→look B b=some o
 | [],_,h=>by cases h
 | (c,x)::q,hn,h=>by
  simp only[keys,List.map_cons,List.nodup_cons] at hn
  unfold look
  rcases List.mem_cons.1 h with h|h
  ·cases h;rw[if_pos rfl]
  ·have:c≠b:=fun e=>hn.1 (e▸List.mem_map.2 ⟨_,h,rfl⟩)
   rw[if_neg this]
   exact zF_ hn.2 h
theorem SR.perm {R:List Nat} {M:zb_} (h:M.Perm L) (hn: (keys L).Nodup):SR w0 R M=SR w0 R L:=by
 refine vO_ fun r _=> ?_
 have hk: ∀ (A B:zb_),A.Perm B→(keys B).Nodup→ ∀o,look A r=some o→look B r=some o:=fun A B hp hB o ho=>zF_ hB (hp.mem_iff.1 (zw_ ho))
 have hnM: (keys M).Nodup:=(List.Perm.nodup_iff (h.map Prod.fst)).2 hn
 unfold zk_
 cases hl:look L r with
 |some o=>rw[hk L M h.symm hnM o hl]
 |none=>
  cases hm:look M r with
  |none=>rfl
  |some o=>rw[hk M L h hn o hm] at hl;cases hl
theorem OwD.permL {l:List Oper} {listed:List Bool} {n:Nat} {R ts:List Nat} {a d:Nat} {z:Obj} {M:zb_} (hp:M.Perm L) (h:OwD P w0 l R ts a d z n listed f M N):OwD P w0 l R ts a d z n listed f L N:=by
 refine⟨fun w hw=> ?_,fun b w hb hbL hw=> ?_⟩
 ·have:=h.1 w (hw.perm hp)
  rw[SR.perm hp hw.nodup] at this
  exact this
 ·have hnd: (keys L).Nodup:=by
   have:=hw.nodup
   rw[ze_,List.nodup_append] at this
   exact this.1
  have:=h.2 b w hb (fun hm=>hbL (by have:=(hp.map Prod.fst).mem_iff.1 hm;exact this)) (hw.perm (hp.append_right _))
  rw[SR.perm hp hnd] at this
  exact this
theorem Cw.permL {c:Code} {M:zb_} (hp:M.Perm L) (h:Cw P w0 c f M K):Cw P w0 c f L K:=fun w hw=>h w (hw.perm hp)
theorem Ow.permL {M:zb_} {l:List Oper} (hp:M.Perm L) (h:Ow P w0 ops .seq l f M N):Ow P w0 ops .seq l f L N:=fun w hw=>h w (hw.perm hp)
theorem Ow.callC {l:List Operand} {ts:Array TypeId} {k:FuncId} {S:Value→zb_→Prop} {md':Md} (he:md.turn=some md')
  (hs:zg_ ops f ⟨d, .call ⟨.value (.func k),l.toArray,ts⟩,ty,ps,af,g⟩=false)
  (hk: ∀a w,(callFunc k a).run P w= .ok (.enter k a) w)
  (hc: ∀w,Hp w0 L w→Rets P k (l.map (ev f)).toArray w (XS w [] S))
  (hn: ∀B v D,jM_ L B→w0.heap.size≤B→New B D→S v D→Ow P w0 ops md' rest (qd_ f d v) (L++D) N):
  Ow P w0 ops md (⟨d, .call ⟨.value (.func k),l.toArray,ts⟩,ty,ps,af,g⟩::rest) f L N:=
 Ow.callN he hs hk (S:=fun B v D=>New B D∧S v D) (fun w hw=>(hc w hw).mono fun _v _D h=>⟨h.1.new0,h.2⟩) (fun _ _ _ h=>h.1) (fun B v D hA hB hS=>hn B v D hA hB hS.1 hS.2)
theorem Hp.part {w:World} {X Y:zb_} (h:Hp w0 (X++Y) w):Hp w X w:=
 ⟨fun b o hm=>h.has b o (List.mem_append_left _ hm),by have:=h.nodup;rw[ze_,List.nodup_append] at this;exact this.1,fun _ _ _=>rfl,Nat.le_refl _,rfl,rfl,rfl⟩
theorem Hp.join {w w':World} {X Y D:zb_} (h:Hp w0 (X++Y) w) (k:Hp w D w') (h1: ∀c,c∈keys X→c∈keys D) (h2: ∀c,c∈keys D→c∈keys X∨w.heap.size≤c):Hp w0 (D++Y) w':=by
 have hnd:=h.nodup
 rw[ze_,List.nodup_append] at hnd
 have hY: ∀c,c∈keys Y→c∉keys D:=by
  intro c hc hd
  rcases h2 c hd with hx|hx
  ·exact hnd.2.2 c hx c hc rfl
  ·have:=h.lt (b:=c) (by rw[ze_];exact List.mem_append_right _ hc)
   omega
 have ht:=h.trans k
 have e: (X++Y).filter (fun p=> !(keys D).contains p.1)=Y:=by
  rw[List.filter_append,je_ hY]
  have:X.filter (fun p=> !(keys D).contains p.1)= []:=by
   rw[List.filter_eq_nil_iff]
   intro p hp
   have:=h1 p.1 (List.mem_map.2 ⟨p,hp,rfl⟩)
   simp[this]
  rw[this,List.nil_append]
 rw[e] at ht
 exact ht.perm List.perm_append_comm
theorem Ow.appendX {ts tx e:TypeId} {m:Bool×Nat} {z:Value} {s x:Operand} {n k:Nat} {cs new:List Value} {dx:TypeDesc} {md':Md} {X Y:zb_} (sv:Value) (hL:L=X++Y) (hsv:ev f s=sv) (he:md.turn=some md')
  (hs:zg_ ops f ⟨d, .call ⟨.builtin .append, #[s,x], #[ts,tx]⟩,ty,ps,af,g⟩=false)
  (hu:P.underlying ts=some (.slice e)) (hm:qc_ P e=some m) (hi:xe_ P e=true) (hz:zI_ P e=some z) (hzs:z.cells.size=m.2) (hux:P.underlying tx=some dx) (hnx: ∀k,dx≠ .int k)
  (hB:Gr X e m.2 sv n cs) (hX: ∀w,Hp w0 L w→AppX P w m.2 (ev f x) k new) (hk:0<k) (hbig:2* (n+k)+768≤2^38)
  (hn: ∀B v' D,jM_ L B→w0.heap.size≤B→Buf D e m.2 v' (n+k) (cs++new)→(∀c,c∈keys X→c∈keys D)→(∀c,c∈keys D→c∈keys X∨B≤c)→(∀c o,slB sv≠some c→look X c=some o→look D c=some o)→Ow P w0 ops md' rest (qd_ f d v') (D++Y) N):
  Ow P w0 ops md (⟨d, .call ⟨.builtin .append, #[s,x], #[ts,tx]⟩,ty,ps,af,g⟩::rest) f L N:=by
 subst hL
 refine Ow.step he rfl hs fun w hw=> ?_
 have hp:=hw.part
 have hA:jM_ (X++Y) w.heap.size:=z2_ fun b hb=>hw.lt hb
 have fin: ∀v' w' D,(Builtin.append_ #[ts,tx] ty #[sv,ev f x]).run P w= .ok v' w'→Hp w D w'→Buf D e m.2 v' (n+k) (cs++new)→(∀c,c∈keys X→c∈keys D)→(∀c,c∈keys D→c∈keys X∨w.heap.size≤c)→(∀c o,slB sv≠some c→look X c=some o→look D c=some o)→
   (∃v w' L',(execOp (ev f) ⟨d, .call ⟨.builtin .append, #[s,x], #[ts,tx]⟩,ty,ps,af,g⟩).run P w= .ok (.value v) w'∧Hp w0 L' w'∧Ow P w0 ops md' rest (qd_ f d v) L' N):=by
  intro v' w' D hr hD hb h1 h2 h3
  refine⟨v',w',D++Y, ?_,hw.join hD h1 h2,hn w.heap.size v' D hA hw.size hb h1 h2 h3⟩
  simp only[execOp,resolve,Sem.run_bind,Sem.run_pure,Result.andThen_ok,invoke,builtin,List.map_toArray,List.map_cons,List.map_nil,hsv]
  rw[hr]
  rfl
 have hX': ∀w',Hp w [] w'→True:=fun _ _=>trivial
 rcases hB with hB| ⟨rfl,rfl,b,rfl,hlk⟩
 ·obtain⟨v',w',D,hr,hD,hb,hg,-⟩:=Zm_ (w0:=w) (L:=X) (ty:=ty) (x:=ev f x) hp hu hm hi hz hzs hux hnx hB (fun w2 hw2=>hX w2 (by
   refine hw.join hw2 (fun c hc=>hc) (fun c hc=> .inl hc))) hbig
  exact .inl (fin v' w' D hr hD hb hg.keys (fun c hc=>(hg.new c hc).imp id And.right) hg.look)
 ·rcases vj_ (w0:=w) (L:=X) (ty:=ty) (b:=b) (x:=ev f x) hp hu hm hi hz hzs hux hnx (fun w2 hw2=>hX w2 (by
   refine hw.join hw2 (fun c hc=>hc) (fun c hc=> .inl hc))) hbig with⟨h0,-⟩ | ⟨-,v',w',D,hr,hD,hb,hg,-⟩
  ·omega
  ·exact .inl (fin v' w' D hr hD hb hg.keys (fun c hc=>(hg.new c hc).imp id And.right) (fun c o _ hl=>hg.look c o (by simp[slB]) hl))
end
def GrI (D:zb_) (E:TypeId) (m:Nat) (v:Value) (n:Nat) (cs:List Value):Prop:= ∃X,(∀p,p∈X→p∈D)∧Gr X E m v n cs
theorem Gr.i {X D:zb_} {E:TypeId} {m n:Nat} {v:Value} {cs:List Value} (h:Gr X E m v n cs) (hX: ∀p,p∈X→p∈D):GrI D E m v n cs:=⟨X,hX,h⟩
theorem GrI.mono {D D':zb_} {E:TypeId} {m n:Nat} {v:Value} {cs:List Value} (h:GrI D E m v n cs) (hX: ∀p,p∈D→p∈D'):GrI D' E m v n cs:=by
 obtain⟨X,h1,h2⟩:=h;exact⟨X,fun p hp=>hX p (h1 p hp),h2⟩
theorem GrI.slV {α:Type} {m:Nat} {enc:α→List Value} {z:α} {w0 w:World} {v:Value} {l:List α} {D:zb_} {E:TypeId} {n:Nat} {cs:List Value} (h:GrI D E m v n cs) (hw:Hp w0 D w) (hl:l.length=n) (hcs:cs=(l.map enc).flatten) (hm: ∀x,(enc x).length=m):SlV m enc z w v l:=by
 obtain⟨X,h1,h2⟩:=h
 exact h2.slM (fun b o hm=>hw.has b o (h1 _ hm)) hl hcs hm
section
variable {P:Program} {w0:World} {f:Fr} {L:zb_} {N:Fr→zb_→Prop}
theorem acs_ {L _M:zb_} {b:Nat} {o:Obj} (h:b∉keys L):look (L++ [(b,o)]) b=some o:=by
 rw[z9_ h];exact zP_ _ _ _
theorem Kp_ {b:Nat} {o x:Obj}: ∀ {L:zb_},b∉keys L→setB (L++ [(b,o)]) b x=L++ [(b,x)]
 | [],_=>by rw[List.nil_append,jc_];rfl
 | (c,y)::r,h=>by
  simp only[keys,List.map_cons,List.mem_cons,not_or] at h
  rw[List.cons_append,q2_ _ _ _ _ _ (Ne.symm h.1),Kp_ (by simpa [keys] using h.2)];rfl
end
end Go.Sx
namespace Go.Sx
open Go
theorem qn_ {P:Program} {t e:TypeId} {m:Nat} {zc:Array Value} {cs:List Value} (hu:P.underlying t=some (.slice e)) (ha:qc_ P e=some (true,m)) (hz:zI_ P e=some (.agg zc)) (hm:0<m∧m≤16777216) (hc:cs.length=m):
  xh_ P t 1 [(0, .agg cs.toArray)]=some (e,cs.toArray):=by
 have h2:Value.cells (.agg cs.toArray)=cs.toArray:=za_ _
 have hg: ¬ (1*m>2^24):=by simp;omega
 have h0: ¬ (1*m=0):=by omega
 simp only[xh_,hu,ha,hz,Option.map_some]
 rw[if_neg hg,if_neg h0]
 simp only
 generalize hI: (Array.range (1*m)).map (fun x=>(Value.cells (.agg zc))[x% (Value.cells (.agg zc)).size]!)=I
 have hIs:I.size=m:=by rw[←hI];simp
 have hfl:Instr.fill (fun i=>some (i*m,m)) I [(0,Value.agg cs.toArray)]=some cs.toArray:=by
  unfold Instr.fill
  have s3:cs.toArray.size=m:=by simp[hc]
  simp only[h2,s3,hIs,Nat.zero_mul,ne_eq,not_true_eq_false,decide_false,Bool.false_or,Nat.zero_add,Nat.lt_irrefl,gt_iff_lt,Bool.false_eq_true, ↓reduceIte]
  unfold Instr.fill
  congr 1
  have hz:=Zv_ cs 0 0 I
  rw[Nat.add_zero,aeu_ I cs (by rw[hc,hIs])] at hz
  simp only[Nat.zero_add] at hz
  rw[←Array.foldl_toList,Array.toList_zipIdx]
  exact hz
 rw[hfl]
 rfl
end Go.Sx
namespace Go.Sx
open Go
abbrev ltB (a b:List UInt8):Bool:=Op.bytesLess a b
theorem QS_: ∀ (x y:List UInt8),ltB x y=decide (x<y)
 | [],[]=>by simp[ltB,Op.bytesLess]
 |_::_,[]=>by simp[ltB,Op.bytesLess]
 | [],_::_=>by simp[ltB,Op.bytesLess]
 |a::x,b::y=>by
  have ih:=QS_ x y
  simp only[ltB] at ih ⊢
  rw[Op.bytesLess,ih]
  simp only[List.cons_lt_cons_iff]
  by_cases h1:a<b<;>by_cases h2:a=b<;>by_cases h3:x<y<;>simp[h1,h2,h3]
theorem xz_ (a:List UInt8):ltB a a=false:=by
 rw[QS_];simp
theorem k3_ {a b c:List UInt8} (h:ltB a b=true) (k:ltB b c=true):ltB a c=true:=by
 rw[QS_,decide_eq_true_eq] at*
 exact List.lt_trans h k
theorem WY_ {a b:List UInt8} (h:ltB a b=true):ltB b a=false:=by
 cases hb:ltB b a
 ·rfl
 ·have:=k3_ h hb
  rw[xz_] at this;cases this
theorem apd_ {a b:List UInt8} (h:ltB a b=true):a≠b:=by
 rintro rfl
 rw[xz_] at h;cases h
theorem vc_ {a b:List UInt8} (h:ltB a b=false) (hne:a≠b):ltB b a=true:=by
 rw[QS_,decide_eq_false_iff_not] at h
 rw[QS_,decide_eq_true_eq]
 rcases Std.Trichotomous.rel_or_eq_or_rel_swap (r:=(· < · :List UInt8→List UInt8→Prop)) (a:=a) (b:=b) with h1|h1|h1
 ·exact absurd h1 h
 ·exact absurd h1 hne
 ·exact h1
end Go.Sx
namespace Go.StP
open Go Go.Sx
variable {α:Type} (key:α→List UInt8)
def lt (a b:α):Bool:=ltB (key a) (key b)
def Sorted (l:List α):Prop:=l.Pairwise fun a b=>lt key b a=false
def of (k:List UInt8) (l:List α):List α:=l.filter fun a=>key a==k
def St (l l':List α):Prop:= ∀k,of key k l'=of key k l
theorem St.refl (l:List α):St key l l:=fun _=>rfl
variable {key}
theorem St.trans {a b c:List α} (h:St key a b) (h':St key b c):St key a c:=fun k=>(h' k).trans (h k)
theorem St.symm {a b:List α} (h:St key a b):St key b a:=fun k=>(h k).symm
theorem aeQ_ (k:List UInt8) (a b:List α):of key k (a++b)=of key k a++of key k b:=List.filter_append ..
theorem St.app {a a' b b':List α} (h:St key a a') (h':St key b b'):St key (a++b) (a'++b'):=fun k=>by rw[aeQ_,aeQ_,h,h']
theorem am1_ {k:List UInt8} {l:List α} {x:α}:x∈of key k l↔x∈l∧key x=k:=by
 unfold of;rw[List.mem_filter];simp
theorem St.mem {a b:List α} (h:St key a b) (x:α):x∈b↔x∈a:=by
 have e:=h (key x)
 have h1:x∈b↔x∈of key (key x) b:=by rw[am1_];simp
 have h2:x∈a↔x∈of key (key x) a:=by rw[am1_];simp
 rw[h1,h2,e]
theorem aj5_ {k:List UInt8} {l:List α} (h: ∀x,x∈l→key x≠k):of key k l= []:=by
 unfold of
 rw[List.filter_eq_nil_iff]
 intro x hx
 simpa using h x hx
theorem St.swap {a b:List α} (h: ∀x,x∈a→ ∀y,y∈b→key x≠key y):St key (a++b) (b++a):=by
 intro k
 rw[aeQ_,aeQ_]
 by_cases ha: ∃x,x∈a∧key x=k
 ·obtain⟨x,hx,rfl⟩:=ha
  have:of key (key x) b= []:=aj5_ fun y hy e=>h x hx y hy e.symm
  rw[this,List.append_nil,List.nil_append]
 ·have:of key k a= []:=aj5_ fun x hx e=>ha ⟨x,hx,e⟩
  rw[this,List.append_nil,List.nil_append]
theorem lt_trans {a b c:α} (h:lt key a b=true) (k:lt key b c=true):lt key a c=true:=k3_ h k
theorem lt_irrefl (a:α):lt key a a=false:=xz_ _
theorem arf_ {a b:α} (h:lt key a b=false) (k:lt key b a=false):key a=key b:=by
 cases hk:decide (key a=key b)
 ·have hne:key a≠key b:=of_decide_eq_false hk
  have:=vc_ h hne
  unfold lt at k
  rw[this] at k;cases k
 ·exact of_decide_eq_true hk
theorem St.head {a b:α} {l l':List α} (hs:Sorted key (a::l)) (hs':Sorted key (b::l')) (h:St key (a::l) (b::l')):a=b∧St key l l':=by
 have h1:lt key b a=false:=by
  have hb:b∈a::l:=(h.mem b).1 List.mem_cons_self
  rcases List.mem_cons.1 hb with rfl|hb
  ·exact lt_irrefl _
  ·exact(List.pairwise_cons.1 hs).1 b hb
 have h2:lt key a b=false:=by
  have ha:a∈b::l':=(h.mem a).2 List.mem_cons_self
  rcases List.mem_cons.1 ha with rfl|ha
  ·exact lt_irrefl _
  ·exact(List.pairwise_cons.1 hs').1 a ha
 have hk:key a=key b:=arf_ h2 h1
 have he:=h (key a)
 unfold of at he
 rw[List.filter_cons,List.filter_cons,if_pos (by simp[hk]),if_pos (by simp)] at he
 have hab:b=a:=(List.cons.inj he).1
 refine⟨hab.symm,fun k=> ?_⟩
 have hk':=h k
 subst hab
 unfold of at hk' ⊢
 rw[List.filter_cons,List.filter_cons] at hk'
 split at hk'
 ·exact(List.cons.inj hk').2
 ·exact hk'
theorem St.eq: ∀ {l l':List α},Sorted key l→Sorted key l'→St key l l'→l=l'
 | [],[],_,_,_=>rfl
 | [],b::l',_,_,h=>by
  have:b∈ ([]:List α):=(h.mem b).1 List.mem_cons_self
  cases this
 |a::l,[],_,_,h=>by
  have:a∈ ([]:List α):=(h.mem a).2 List.mem_cons_self
  cases this
 |a::l,b::l',hs,hs',h=>by
  obtain⟨rfl,h'⟩:=St.head hs hs' h
  rw[St.eq (List.pairwise_cons.1 hs).2 (List.pairwise_cons.1 hs').2 h']
theorem Sorted.app {a b:List α} (ha:Sorted key a) (hb:Sorted key b) (h: ∀x,x∈a→ ∀y,y∈b→lt key y x=false):Sorted key (a++b):=
 List.pairwise_append.2 ⟨ha,hb,h⟩
theorem Sorted.left {a b:List α} (h:Sorted key (a++b)):Sorted key a:=(List.pairwise_append.1 h).1
theorem Sorted.right {a b:List α} (h:Sorted key (a++b)):Sorted key b:=(List.pairwise_append.1 h).2.1
end Go.StP
namespace Go.Sx
open Go
section
variable {α:Type} (enc:α→List Value)
def J7_ (E:TypeId) (rest:List Value) (d:List α):Obj:= .cells ((d.map enc).flatten++rest).toArray E (0,0)
variable {enc} {m:Nat} {E:TypeId} {rest:List Value} {d:List α} {z:α}
theorem Wj_ (hm: ∀x,(enc x).length=m) {k:Nat} (hk:k<d.length): ∃A C,(d.map enc).flatten++rest=A++ (enc (d.getD k z)++C)∧A.length=k*m∧ ∀x,((d.set k x).map enc).flatten++rest=A++ (enc x++C):=by
 refine⟨((d.take k).map enc).flatten,((d.drop (k+1)).map enc).flatten++rest, ?_, ?_,fun x=> ?_⟩
 ·have e:d=d.take k++d.getD k z::d.drop (k+1):=by
   rw[List.getD_eq_getElem?_getD,List.getElem?_eq_getElem hk,Option.getD_some,List.getElem_cons_drop,List.take_append_drop]
  have e2:=congrArg (fun l=>(l.map enc).flatten++rest) e
  simp only[List.map_append,List.map_cons,List.flatten_append,List.flatten_cons,List.append_assoc] at e2
  exact e2
 ·rw[kv_ hm,List.length_take,Nat.min_eq_left (Nat.le_of_lt hk)]
 ·have e:d.set k x=d.take k++x::d.drop (k+1):=List.set_eq_take_append_cons_drop.trans (by rw[if_pos hk])
  rw[e]
  simp only[List.map_append,List.map_cons,List.flatten_append,List.flatten_cons,List.append_assoc]
theorem Qj_ (hm: ∀x,(enc x).length=m) (k:Nat) (hk:k<d.length):zl_ (some (true,m)) (some (J7_ enc E rest d)) (k*m)=some (.agg (enc (d.getD k z)).toArray):=by
 obtain⟨A,C,e,hA,-⟩:=Wj_ (z:=z) (rest:=rest) hm hk
 unfold J7_
 rw[e]
 exact kL_ A _ C E (0,0) hA (hm _)
theorem ahu_ (hm: ∀x,(enc x).length=m) (h1: ∀x,(enc x).all Value.oneCell'=true) (k:Nat) (x:α) (a:Bool) (hk:k<d.length):
  zn_ (some (a,m)) (some (J7_ enc E rest d)) (k*m) (.agg (enc x).toArray)=some (J7_ enc E rest (d.set k x)):=by
 obtain⟨A,C,e,hA,e2⟩:=Wj_ (z:=x) (rest:=rest) hm hk
 unfold J7_
 rw[e,e2 x]
 exact qt_ A _ _ C a _ E hA (hm _) (za_ _) (hm _) (h1 _)
end
section
variable {P:Program} {w0:World} {f:Fr} {L:zb_} {N:Fr→zb_→Prop} {ops:Array Oper} {rest:List Oper} {md:Md} {d:Option Tmp} {ty:TypeId} {ps:String} {af:Array Edge} {g:Option (Nat×Bool)}
end
end Go.Sx
namespace Go.StP
open Go Go.Sx
variable {α:Type} {key:α→List UInt8} {z:α}
theorem kl_ {a b:List α} {k:Nat} (h:k<a.length): (a++b).getD k z=a.getD k z:=by
 rw[List.getD_eq_getElem?_getD,List.getD_eq_getElem?_getD,List.getElem?_append_left h]
theorem kg_ {a b:List α} {k:Nat} (h:a.length≤k): (a++b).getD k z=b.getD (k - a.length) z:=by
 rw[List.getD_eq_getElem?_getD,List.getD_eq_getElem?_getD,List.getElem?_append_right h]
theorem Ql_ {l:List α} {k:Nat} (h:k<l.length):l.getD k z∈l:=by
 rw[List.getD_eq_getElem?_getD,List.getElem?_eq_getElem h];exact List.getElem_mem h
theorem aiQ_ {l:List α} {k n:Nat} (h:k<n): (l.take n).getD k z=l.getD k z:=by
 rw[List.getD_eq_getElem?_getD,List.getD_eq_getElem?_getD,List.getElem?_take,if_pos h]
theorem wT_ {l:List α} {k n:Nat}: (l.drop n).getD k z=l.getD (n+k) z:=by
 rw[List.getD_eq_getElem?_getD,List.getD_eq_getElem?_getD,List.getElem?_drop]
theorem aie_ {l:List α} {k:Nat} (h:k<l.length):l.drop k=l.getD k z::l.drop (k+1):=by
 rw[List.getD_eq_getElem?_getD,List.getElem?_eq_getElem h]
 exact List.drop_eq_getElem_cons h
theorem take_snoc {l:List α} {k:Nat} (h:k<l.length):l.take (k+1)=l.take k++ [l.getD k z]:=by
 rw[List.getD_eq_getElem?_getD,List.getElem?_eq_getElem h]
 exact List.take_succ_eq_append_getElem h
theorem Sorted.at_ {l:List α} (h:Sorted key l) {i j:Nat} (hij:i≤j) (hj:j<l.length):lt key (l.getD j z) (l.getD i z)=false:=by
 rcases Nat.lt_or_eq_of_le hij with h1|rfl
 ·have:=List.pairwise_iff_getElem.1 h i j (by omega) hj h1
  rw[List.getD_eq_getElem?_getD,List.getD_eq_getElem?_getD,List.getElem?_eq_getElem hj,List.getElem?_eq_getElem (show i<l.length by omega)]
  exact this
 ·exact lt_irrefl _
end Go.StP
section
open Go Go.Proofs Go.Sx Go.StP
namespace Go.Proofs
set_option maxRecDepth 10000
set_option maxHeartbeats 4000000
set_option linter.unusedSimpArgs false
structure EntL where
 name:List UInt8
 kind:Int
 id:IdL
def q5_ (r:EntL):List Value:= [vs r.name]++ ([vi r.kind]++ (r.id.l.map v8))
def ju_:EntL:=⟨[],0,id0⟩
theorem q6_ (r:EntL): (q5_ r).length=34:=by simp[q5_,r.id.h]
theorem vp_ (r:EntL):Value.cells (.agg (q5_ r).toArray)=(q5_ r).toArray:=za_ _
theorem Vd_ (r:EntL): (q5_ r).all Value.oneCell'=true:=by
 unfold q5_
 simp only[List.all_append,List.all_cons,List.all_nil,XP_,Bool.and_true,Bool.true_and]
 rfl
theorem Va_:zI_ Tryz.prog 120=some (.agg (q5_ ju_).toArray):=id (by kernel_rfl)
theorem K5_ (r:EntL):q5_ r=([]:List Value)++ (([vs r.name])++ ([vi r.kind]++ (r.id.l.map v8))):=by
 unfold q5_;simp only[List.append_assoc,List.nil_append,List.append_nil]
theorem ahL_ (r:EntL) (n:Nat) (E:TypeId) (fz:Nat×Nat):zl_ (some (false,n)) (some (.cells (q5_ r).toArray E fz)) 0=some (vs r.name):=by
 rw[K5_];exact kE_ _ _ _ n E fz (by simp)
theorem wM_ {w:World} {v:Value} {l:List EntL} {b off:Nat} {arr:Array Value} {E:TypeId} {fz:Nat×Nat} (h:RowS 34 q5_ ju_ w v l b off arr E fz) {k:Nat} (hk:k<l.length) (n:Nat):zl_ (some (false,n)) (some (.cells arr E fz)) (off+k*34+0)=some (vs (l.getD k ju_).name):=by
 rw[RowS.cell h hk (by omega)];generalize l.getD k ju_=r;rw[K5_];exact aem_ _ _ _ (by simp)
theorem X1_ (r:EntL) (x:List UInt8) (a:Bool) (E:TypeId):zn_ (some (a,1)) (some (.cells (q5_ r).toArray E (0,0))) 0 (vs x)=some (.cells (q5_ {r with name:=x}).toArray E (0,0)):=by
 rw[K5_ r,K5_ {r with name:=x}];exact qt_ _ _ _ _ a _ E (by simp) rfl (rfl) rfl (rfl)
theorem Ve_ (r:EntL):q5_ r=(([vs r.name]))++ (([vi r.kind])++ (r.id.l.map v8)):=by
 unfold q5_;simp only[List.append_assoc,List.nil_append,List.append_nil]
theorem aj1_ (r:EntL) (n:Nat) (E:TypeId) (fz:Nat×Nat):zl_ (some (false,n)) (some (.cells (q5_ r).toArray E fz)) 1=some (vi r.kind):=by
 rw[Ve_];exact kE_ _ _ _ n E fz (by simp)
theorem ae4_ {w:World} {v:Value} {l:List EntL} {b off:Nat} {arr:Array Value} {E:TypeId} {fz:Nat×Nat} (h:RowS 34 q5_ ju_ w v l b off arr E fz) {k:Nat} (hk:k<l.length) (n:Nat):zl_ (some (false,n)) (some (.cells arr E fz)) (off+k*34+1)=some (vi (l.getD k ju_).kind):=by
 rw[RowS.cell h hk (by omega)];generalize l.getD k ju_=r;rw[Ve_];exact aem_ _ _ _ (by simp)
theorem XO_ (r:EntL) (x:Int) (a:Bool) (E:TypeId):zn_ (some (a,1)) (some (.cells (q5_ r).toArray E (0,0))) 1 (vi x)=some (.cells (q5_ {r with kind:=x}).toArray E (0,0)):=by
 rw[Ve_ r,Ve_ {r with kind:=x}];exact qt_ _ _ _ _ a _ E (by simp) rfl (rfl) rfl (rfl)
theorem Vl_ (r:EntL):q5_ r=(([vs r.name])++ ([vi r.kind]))++ ((r.id.l.map v8)++ (([]:List Value))):=by
 unfold q5_;simp only[List.append_assoc,List.nil_append,List.append_nil]
theorem ah4_ (r:EntL) (E:TypeId) (fz:Nat×Nat):zl_ (some (true,32)) (some (.cells (q5_ r).toArray E fz)) 2=some (Value.agg (a8 r.id.l)):=by
 rw[Vl_,kL_ _ _ _ E fz (by simp) (by simp[r.id.h])];rfl
theorem aps_ (r:EntL): (q5_ r).toArray.extract 2 34=a8 r.id.l:=by
 rw[Vl_];exact ahG_ (o:=2) (n:=32) _ _ _ (by simp) (by simp[r.id.h])
theorem akT_ {w:World} {v:Value} {l:List EntL} {b off:Nat} {arr:Array Value} {E:TypeId} {fz:Nat×Nat} (h:RowS 34 q5_ ju_ w v l b off arr E fz) {k:Nat} (hk:k<l.length):zl_ (some (true,32)) (some (.cells arr E fz)) (off+k*34+2)=some (Value.agg (a8 (l.getD k ju_).id.l)):=by
 rw[RowS.part h q6_ hk (by omega) (by omega),aps_]
theorem Kq_ (r:EntL) (x:IdL) (a:Bool) (E:TypeId):zn_ (some (a,32)) (some (.cells (q5_ r).toArray E (0,0))) 2 (Value.agg (a8 x.l))=some (.cells (q5_ {r with id:=x}).toArray E (0,0)):=by
 rw[Vl_ r,Vl_ {r with id:=x}];exact qt_ _ _ _ _ a _ E (by simp) (by simp[r.id.h]) (za_ _) (by simp[x.h]) (XP_ _)
theorem Vi_ (r:EntL) (E:TypeId) (fz:Nat×Nat):zl_ (some (true,34)) (some (.cells (q5_ r).toArray E fz)) 0=some (.agg (q5_ r).toArray):=xn_ _ E fz 34 (by rw[List.size_toArray,q6_])
theorem aho_ (old:Array Value) (r:EntL) (a:Bool) (E:TypeId) (h:old.size=34):zn_ (some (a,34)) (some (.cells old E (0,0))) 0 (.agg (q5_ r).toArray)=some (.cells (q5_ r).toArray E (0,0)):=j2_ _ a old E (q6_ r) (Vd_ r) h
theorem vP_ (r r':EntL) (a:Bool) (E:TypeId):zn_ (some (a,34)) (some (.cells (q5_ r').toArray E (0,0))) 0 (.agg (q5_ r).toArray)=some (.cells (q5_ r).toArray E (0,0)):=aho_ _ r a E (by rw[List.size_toArray,q6_])
theorem aoX_ {w:World} {v:Value} {l:List EntL} {b off:Nat} {arr:Array Value} {E:TypeId} {fz:Nat×Nat} (h:RowS 34 q5_ ju_ w v l b off arr E fz) {k:Nat} (hk:k<l.length):zl_ (some (true,34)) (some (.cells arr E fz)) (off+k*34)=some (.agg (q5_ (l.getD k ju_)).toArray):=RowS.load h q6_ (by omega) hk
theorem aoJ_ (a b:List UInt8): (!(Op.bytesLess a b||a==b))=ltB b a:=by
 cases h:ltB a b
 ·have h':Op.bytesLess a b=false:=h
  rw[h',Bool.false_or]
  by_cases e:a=b
  ·subst e;rw[h];simp
  ·rw[vc_ h e];simp[e]
 ·have h':Op.bytesLess a b=true:=h
  rw[h',WY_ h];rfl
set_option linter.defProp false
end Go.Proofs
end
section
open Go Go.Proofs Go.Sx Go.StP
namespace Go.Proofs
set_option maxRecDepth 10000
set_option maxHeartbeats 4000000
set_option linter.unusedSimpArgs false
section
variable {α:Type} {a x m y c:List α} {i k:Nat} {z:α}
end
set_option linter.defProp false
end Go.Proofs
end
section
open Go Go.Proofs Go.Sx Go.StP
namespace Go.Proofs
set_option maxRecDepth 10000
set_option maxHeartbeats 4000000
set_option linter.unusedSimpArgs false
abbrev acc_ (l:List EntL):Prop:=StP.Sorted EntL.name l
abbrev StE (l l':List EntL):Prop:=StP.St EntL.name l l'
set_option linter.defProp false
end Go.Proofs
end
section
open Go Go.Proofs Go.Sx Go.StP
namespace Go.Proofs
set_option maxRecDepth 10000
set_option maxHeartbeats 4000000
set_option linter.unusedSimpArgs false
set_option linter.defProp false
end Go.Proofs
end
section
open Go Go.Proofs Go.Sx Go.StP
namespace Go.Proofs
set_option maxRecDepth 10000
set_option maxHeartbeats 4000000
set_option linter.unusedSimpArgs false
set_option linter.defProp false
end Go.Proofs
end
section
open Go Go.Proofs Go.Sx Go.StP
namespace Go.Proofs
set_option maxRecDepth 10000
set_option maxHeartbeats 4000000
set_option linter.unusedSimpArgs false
def Blks (k:Nat) (ls:List (List EntL)):Prop:= ∀x,x∈ls→x.length=k∧acc_ x
theorem Blks.snoc {k:Nat} {ls:List (List EntL)} {x:List EntL} (h:Blks k ls) (hx:x.length=k) (hs:acc_ x):Blks k (ls++ [x]):=by
 intro y hy
 rcases List.mem_append.1 hy with hy|hy
 ·exact h y hy
 ·rw[List.mem_singleton] at hy;subst hy;exact⟨hx,hs⟩
end Go.Proofs
end
namespace Go.Sx
open Go
def Xx_ (r:Option Nat):Fence:={Fence.wide with round:=r}
def JJ_:Op→Bool
 | .defer _=>false
 |_=>true
section
variable {P:Program} {w0:World} {f:Fr} {L:zb_} {K:xp_} {N:Fr→zb_→Prop} {ops:Array Oper} {rest:List Oper} {r:Option Nat} {n:Nat}
theorem abt_ {k:FuncId} {args:Array Value} {w:World} {R:Ending→World→Prop} (h:Calls P k args w R):CallsIn (Xx_ r) n P k args w R:=
 (callsIn_wide.2 h:CallsIn Fence.wide n P k args w R)
theorem afb_ {row:String} {args:Array Value} {w:World} {R:Value→World→Prop} (h:Rows P row args w R):RowsIn (Xx_ r) n P row args w R:=
 (fun c cs _=>let ⟨v,w',hr,s⟩:=h c cs;⟨v,w',hr,stepsIn_wide.2 s⟩:RowsIn Fence.wide n P row args w R)
theorem ant_ {o:Oper} {a:Act} {w:World} {next:Act→World→Prop} {Q:Exit→Act→World→Prop} (hd:JJ_ o.op=true) (h:o.wp P a w next Q):o.wpIn (Xx_ r) n P a w next Q:=by
 refine⟨fun _ _=>trivial, ?_⟩
 rw[Oper.semAt_eq _ _ _ (fun c e=>by rw[e] at hd;cases hd)]
 unfold Oper.wp at h
 generalize (execOp a.eval o).run P w=x at h
 match x,h with
 | .ok (.value v) _,h=>exact h
 | .ok .skip _,h=>exact h
 | .ok (.defer e) _,h=>exact h
 | .ok (.enter k args) w',h=>
  have h':Calls P k args w' _:=h
  exact⟨fun(e:false=true)=>(by cases e),abt_ h'⟩
 | .ok (.row row args) w',h=>
  have h':Rows P row args w' _:=h
  exact⟨fun(e:false=true)=>(by cases e),afb_ h'⟩
 | .halt (.panic u) _,h=>exact h
theorem abV_ {Q:Exit→Act→World→Prop} {l2:List Oper}: ∀ (l1:List Oper) (a:Act) (w:World),(l1.all fun o=>JJ_ o.op)=true→
  wpList P ops (fun e a w=>e= .normal∧wpListIn (Xx_ r) n P ops Q l2 a w) l1 a w→wpListIn (Xx_ r) n P ops Q (l1++l2) a w
 | [],_,_,_,h=>h.2
 |o::l1,a,w,hd,h=>by
  rw[List.cons_append]
  unfold wpList at h
  unfold wpListIn
  rw[List.all_cons,Bool.and_eq_true] at hd
  split at h
  ·rename_i hw
   rw[if_pos hw]
   rcases h with h| ⟨-,hl⟩
   ·exact ant_ hd.1 (vf_ (fun a w hx=>abV_ l1 a w hd.2 hx) (fun e a w hne hq=>hne hq.1) h)
   ·obtain⟨_,_,he,-⟩:=hl
    cases he
  ·rename_i hw
   rw[if_neg hw]
   exact⟨fun _ _=>trivial,abV_ l1 _ _ hd.2 h⟩
def OwI (r:Option Nat) (P:Program) (w0:World) (ops:Array Oper) (l:List Oper) (f:Fr) (L:zb_) (N:Fr→zb_→Prop):Prop:=
 ∀w,Hp w0 L w→wpListIn (Xx_ r) 0 P ops (jz_ w0 N) l (act f) w
theorem OwI.nil (h:N f L):OwI r P w0 ops [] f L N:=fun _ hw=>⟨rfl,rfl,L,hw,by simpa [act] using h⟩
theorem OwI.pre {l1 l2:List Oper} (hd: (l1.all fun o=>JJ_ o.op)=true) (h:Ow P w0 ops .seq l1 f L (fun f' L'=>OwI r P w0 ops l2 f' L' N)):OwI r P w0 ops (l1++l2) f L N:=by
 intro w hw
 refine abV_ l1 _ _ hd ?_
 have h1:=h w hw
 have mono: ∀ (l:List Oper) (a:Act) (w:World),wpList P ops (jz_ w0 (fun f' L'=>OwI r P w0 ops l2 f' L' N)) l a w→wpList P ops (fun e a w=>e= .normal∧wpListIn (Xx_ r) 0 P ops (jz_ w0 N) l2 a w) l a w:=by
  intro l
  induction l with
  |nil=>
   rintro a w ⟨-,hd',L',hp,hO⟩
   refine⟨rfl, ?_⟩
   have:=hO w hp
   rwa [←QL_ hd'] at this
  |cons o l ih=>
   intro a w h
   unfold wpList at h ⊢
   split at h
   ·rename_i hw
    rw[if_pos hw]
    rcases h with h| ⟨-,hl⟩
    ·exact .inl (vf_ ih (fun e a w hne hq=>hne hq.1) h)
    ·obtain⟨_,_,he,-⟩:=hl
     cases he
   ·rename_i hw
    rw[if_neg hw]
    exact ih _ _ h
 exact mono l1 _ _ h1
theorem Ow.mono_seq {l:List Oper} {N':Fr→zb_→Prop} (h:Ow P w0 ops .seq l f L N) (hN: ∀f L,N f L→N' f L):Ow P w0 ops .seq l f L N':=by
 intro w hw
 have h1:=h w hw
 clear h
 revert h1
 generalize act f=a
 clear hw
 induction l generalizing a w with
 |nil=>rintro⟨h1,h2,L',h3,h4⟩;exact⟨h1,h2,L',h3,hN _ _ h4⟩
 |cons o l ih=>
  intro h
  unfold wpList at h ⊢
  split at h
  ·rename_i hw
   rw[if_pos hw]
   rcases h with h| ⟨-,hl⟩
   ·exact .inl (vf_ (fun a w hx=>ih w a hx) (fun e a w hne hq=>hne hq.1) h)
   ·obtain⟨_,_,he,-⟩:=hl
    cases he
  ·rename_i hw
   rw[if_neg hw]
   exact ih _ _ h
theorem OwI.all {l:List Oper} (hd: (l.all fun o=>JJ_ o.op)=true) (h:Ow P w0 ops .seq l f L N):OwI r P w0 ops l f L N:=by
 have:=OwI.pre (r:=r) (l2:= []) (N:=N) hd (Ow.mono_seq h (fun f L hN=>OwI.nil hN))
 simpa using this
def CwR (r:Option Nat) (P:Program) (w0:World) (c:Code) (f:Fr) (L:zb_) (K:xp_):Prop:= ∀w,Hp w0 L w→c.wpIn (Xx_ r) 0 P (post w0 K) (act f) w
theorem CwR.region {id:Nat} {l:List Oper} (hd: (l.all fun o=>JJ_ o.op)=true) (h:Ow P w0 l.toArray .seq l f L (K .normal)):CwR r P w0 (.region id l.toArray false) f L K:=
 fun w hw=>wpIn_mono (wpIn_region_lit (OwI.all hd h w hw)) fun _ _ _ h=>j8_ h
theorem CwR.block {id:Nat} {c:Code} (h:CwR r P w0 c f L (xX_ id K)):CwR r P w0 (.block id c) f L K:=by
 intro w hw
 refine wpIn_block (wpIn_mono (h w hw) ?_)
 rintro e a w' ⟨hd,L',hp,k⟩
 cases e with
 |exit i=>
  simp only[Exit.inBlock]
  simp only[xX_] at k
  split
  ·rename_i e;rw[if_pos e] at k;exact⟨hd,L',hp,k⟩
  ·rename_i e;rw[if_neg e] at k;exact⟨hd,L',hp,k⟩
 |_=>exact⟨hd,L',hp,k⟩
theorem Hp.put {w:World} (h:Hp w0 L w) {b:Nat} {o:Obj} (hb:b∈keys L):Hp w0 (setB L b o) (w.putObj b o):=h.set hb rfl rfl rfl rfl
theorem YieldAt.of {l:Nat} {rc:Loop} {X:zb_} {args:Array Value} {w:World} {r0:Option Nat} {S:zb_→Prop} (hX:Hp w X w) (hl:look X l=some (.loop rc)) (hr:rc.state= .ready) (hp:rc.pending=none) (hs:args.size=rc.params.size)
  (h:CwR (some l) P w rc.assign ((rc.params.zip args).foldl (fun tmps (p:Tmp×Value)=>tmps.setIfInBounds p.1 p.2) rc.tmps).toList X (fun e f1 L1=>e= .normal∧look L1 l=some (.loop rc)∧
   CwR (some l) P w rc.body f1 (setB L1 l (.loop {rc with state:= .busy})) (fun e _ L2=>e= .normal∧look L2 l=some (.loop {rc with state:= .busy})∧S (setB L2 l (.loop rc))))):
  YieldAt (Xx_ r0) 0 P l args w (fun e w'=> ∃D,e= .returned (.bool true)∧Hp w D w'∧S D):=by
 obtain⟨st,pe,fn0,tm,pa,asg,bo,de⟩:=rc
 obtain rfl:st= .ready:=hr
 obtain rfl:pe=none:=hp
 have hl0:=hX.has _ _ (zw_ hl)
 refine⟨fn0,_,asg,bo,run_yield hl0 hs,roundIn_of_wpIn (F:=Xx_ r0) (n:=0) trivial ?_⟩
 have h1:=h w hX
 have ea:act ((pa.zip args).foldl (fun tmps (p:Tmp×Value)=>tmps.setIfInBounds p.1 p.2) tm).toList={tmps:=(pa.zip args).foldl (fun tmps (p:Tmp×Value)=>tmps.setIfInBounds p.1 p.2) tm,defers:= []}:=by
  simp[act]
 simp only at h1
 rw[ea] at h1
 refine wpIn_mono h1 ?_
 rintro e a1 w1 ⟨hd1,L1,hp1,rfl,hl1,hbody⟩
 have hb1:=run_beginRound (P:=P) (hp1.has _ _ (zw_ hl1)) rfl
 refine⟨_,hb1, ?_⟩
 have h2:=hbody _ (hp1.put (o:= .loop {state:= .busy,pending:=none,fn:=fn0,tmps:=tm,params:=pa,assign:=asg,body:=bo,defers:=de}) (zo_ hl1))
 rw[←QL_ hd1] at h2
 refine wpIn_mono h2 ?_
 rintro e a2 w2 ⟨hd2,L2,hp2,rfl,hl2,hS⟩
 have he:=run_endRound (P:=P) none (hp2.has _ _ (zw_ hl2))
 exact⟨_,_,he,_,rfl,hp2.put (zo_ hl2),hS⟩
def arh_ (ds:List Deferred) (w0:World) (K:xp_) (e:Exit) (a:Act) (w:World):Prop:=a.defers=ds∧ ∃L,Hp w0 L w∧K e a.tmps.toList L
def CwE (ds:List Deferred) (P:Program) (w0:World) (c:Code) (f:Fr) (L:zb_) (K:xp_):Prop:= ∀w,Hp w0 L w→c.wp P (arh_ ds w0 K) ⟨f.toArray,ds⟩ w
theorem CwE.seq {ds:List Deferred} {x y:Code} (h:CwE ds P w0 x f L (k2_ (fun f L=>CwE ds P w0 y f L K) K)):CwE ds P w0 (.seq x y) f L K:=by
 intro w hw
 refine wp_seq (wp_mono (h w hw) ?_)
 rintro e a w' ⟨hd,L',hp,k⟩
 cases e with
 |normal=>
  have:=k w' hp
  have ea:a=⟨a.tmps.toList.toArray,ds⟩:=by cases a;simp only at hd;subst hd;simp
  rw[ea]
  exact this
 |_=>exact⟨hd,L',hp,k⟩
theorem CwE.ret {ds:List Deferred} (h:K .ret f L):CwE ds P w0 .ret f L K:=fun _ hw=>wp_ret ⟨rfl,L,hw,by simpa using h⟩
def evVs (P:Program) (w0:World) (L:zb_):List Oper→Fr→Option Fr
 | [],f=>some f
 |o::r,f=>match o.guard,jg_ P w0 L f o.op with
  |none,some v=>evVs P w0 L r (qd_ f o.dst v)
  |_,_=>none
theorem X3_ {ds:List Deferred} {Q:Exit→Act→World→Prop} {w:World} (hw:Hp w0 L w): ∀ (l:List Oper) (f f':Fr),evVs P w0 L l f=some f'→Q .normal ⟨f'.toArray,ds⟩ w→wpList P ops Q l ⟨f.toArray,ds⟩ w
 | [],f,f',h,hQ=>by cases h;exact hQ
 |o::l,f,f',h,hQ=>by
  unfold evVs at h
  split at h
  ·rename_i v hg hv
   unfold wpList
   have hwn:Region.wanted o (yielded ops (⟨f.toArray,ds⟩:Act).tmps)=true:=by unfold Region.wanted;rw[hg]
   rw[if_pos hwn]
   refine .inl ?_
   unfold Oper.wp
   have he: (⟨f.toArray,ds⟩:Act).eval=ev f:=by
    have:=q0_ f
    funext x
    exact(congrFun this x)
   rw[he,qI_ hw hv]
   have hp: (⟨f.toArray,ds⟩:Act).put o.dst v=⟨(qd_ f o.dst v).toArray,ds⟩:=by
    have:=z1_ f o.dst v
    cases hd:o.dst with
    |none=>rfl
    |some d=>simp only[Act.put,qd_,ajY_]
   show wpList P ops Q l ((⟨f.toArray,ds⟩:Act).put o.dst v) w
   rw[hp]
   exact X3_ hw l _ f' h hQ
  ·cases h
theorem CwE.region {ds:List Deferred} {id:Nat} {l:List Oper} {f':Fr} (h:evVs P w0 L l f=some f') (hk:K .normal f' L):CwE ds P w0 (.region id l.toArray false) f L K:=
 fun w hw=>wp_region_lit (X3_ hw l f f' h ⟨rfl,L,hw,by simpa using hk⟩)
theorem Gr.at_ {L:zb_} {E:TypeId} {m n:Nat} {v:Value} {cs:List Value} (h:Gr L E m v n cs) {b:Nat} (hb:slB v=some b): ∃a,look L b=some (.cells a E (0,0)):=by
 rcases h with h| ⟨rfl,rfl,c,rfl,hl⟩
 ·rcases h.inv with⟨rfl,-,-⟩ | ⟨c,cc,rest,rfl,hl,-⟩
  ·cases hb
  ·have:c=b:=by simpa [slB,vsl] using hb
   subst this;exact⟨_,hl⟩
 ·have:c=b:=by simpa [slB,vsl] using hb
  subst this;exact⟨_,hl⟩
theorem Gr.ne {L:zb_} {E:TypeId} {m n:Nat} {v:Value} {cs:List Value} (h:Gr L E m v n cs) {b:Nat} {o:Obj} (hl:look L b=some o) (ho: ∀a,o≠ .cells a E (0,0)):slB v≠some b:=fun e=>by
 obtain⟨a,ha⟩:=h.at_ e
 rw[hl] at ha
 exact ho a (Option.some.inj ha)
theorem Gr.setB {L:zb_} {E:TypeId} {m n:Nat} {v:Value} {cs:List Value} (h:Gr L E m v n cs) {b:Nat} (hb:slB v≠some b) (x:Obj):Gr (setB L b x) E m v n cs:=
 h.keep fun c o hc ho=>by rw[xP_ (fun e:b=c=>hb (by rw[e];exact hc))];exact ho
end
end Go.Sx
section
open Go Go.Proofs Go.Sx Go.StP
namespace Go.Proofs
set_option maxRecDepth 10000
set_option maxHeartbeats 4000000
set_option linter.unusedSimpArgs false
abbrev EntS (w:World) (v:Value) (l:List EntL):Prop:=SlV 34 q5_ ju_ w v l
set_option linter.defProp false
end Go.Proofs
end
section
open Go Go.Proofs Go.Sx Go.StP
namespace Go.Proofs
set_option maxRecDepth 10000
set_option maxHeartbeats 4000000
set_option linter.unusedSimpArgs false
set_option linter.defProp false
end Go.Proofs
end
section
open Go Go.Proofs Go.Sx Go.StP
namespace Go.Proofs
set_option maxRecDepth 10000
set_option maxHeartbeats 4000000
set_option linter.unusedSimpArgs false
def SortOf (l Z:List EntL):Prop:=Z.length=l.length∧acc_ Z∧StE l Z
theorem SortOf.eq {l Z Z':List EntL} (h:SortOf l Z) (h':SortOf l Z'):Z=Z':=StP.St.eq h.2.1 h'.2.1 (h.2.2.symm.trans h'.2.2)
end Go.Proofs
end
section
open Go Go.Proofs Go.Sx
namespace Go.Proofs
set_option maxRecDepth 10000
set_option maxHeartbeats 4000000
set_option linter.unusedSimpArgs false
def badR (c:Int):Bool:=decide (c<33) ||decide (126<c) || (c==47)
def Z9_ (b:UInt8):Bool:=decide (b.toNat<33) ||decide (126<b.toNat) || (b.toNat==47)
theorem eqb (a b:Bool):qL_ Tryz.prog .eql 4 (.bool a) (.bool b)=some (.bool (a==b)):=by
 simp[qL_,eqX,qZ_,qF_,Tryz.underlying4]
theorem apq_ (a:Value): (#[a]:Array Value)[0]? =some a:=(rfl)
set_option linter.defProp false
def qa_:=And.intro (And.intro (And.intro (@zA_) (And.intro (@VS_) (@VC_))) (And.intro (And.intro (@K0_) (@zz_)) (And.intro (@alu_) (@acd_)))) (And.intro (And.intro (And.intro (@acW_) (@abW_)) (And.intro (@anP_) (@apq_))) (And.intro (And.intro (@Sx.tup3_0) (@Sx.tup3_1)) (And.intro (@Sx.tup3_2) (@eqb))))
theorem WB_ (c:Int) (w:World):Rets Tryz.prog 152 #[XW_ c] w (fun v D=>v= .bool (badR c)∧D= []):=by
 refine Rets.enterV Tryz.func152 rfl (rs:= [.tmp 2]) Tryz.results152 Tryz.ntmps152 ?_
 refine kf ?_
 unfold badR
 cases h1:decide (c<33)
 ·cases h2:decide (126<c)
  ·first|with_reducible refine ks [] (And.intro @qa_ (And.intro @h1 (@h2))) ?_|refine kp (And.intro @qa_ (And.intro @h1 (@h2))) ?_
   refine⟨_,(ke @qa_),trivial, ?_⟩
   simp[kT_]
  ·first|with_reducible refine ks [] (And.intro @qa_ (And.intro @h1 (@h2))) ?_|refine kp (And.intro @qa_ (And.intro @h1 (@h2))) ?_
   refine⟨_,(ke @qa_),trivial, ?_⟩
   simp[kT_]
 ·first|with_reducible refine ks [] (And.intro @qa_ @h1) ?_|refine kp (And.intro @qa_ @h1) ?_
  refine⟨_,(ke @qa_),trivial, ?_⟩
  simp[kT_]
theorem alK_ (l:List UInt8) (i:Nat) (h:i<l.length):badR ((Utf8.decode ⟨l.toArray⟩ i).1:Nat)=Z9_ (l.getD i 0)∧(Z9_ (l.getD i 0)=false→(Utf8.decode ⟨l.toArray⟩ i).2=1):=by
 obtain⟨h0,h1,h2⟩:=abN_ l i h
 by_cases hc: (l.getD i 0).toNat<128
 ·rw[h1 hc]
  refine⟨?_,fun _=>rfl⟩
  unfold badR Z9_
  congr 1
  ·congr 1
   ·apply decide_eq_decide.2;omega
   ·apply decide_eq_decide.2;omega
  ·rw[Bool.eq_iff_iff,beq_iff_eq,beq_iff_eq];omega
 ·have h2':=h2 (by omega)
  have hb:Z9_ (l.getD i 0)=true:=by
   unfold Z9_
   rw[decide_eq_true (show 126< (l.getD i 0).toNat by omega)];simp
  rw[hb]
  refine⟨?_,fun h=>by cases h⟩
  unfold badR
  rw[decide_eq_true (show(126:Int)< (((Utf8.decode ⟨l.toArray⟩ i).1:Nat):Int) by omega)];simp
theorem XM_ (s:List UInt8) (k:FuncId) (hk: ∀a w,(callFunc k a).run Tryz.prog w= .ok (.enter k a) w) (hc: ∀c w,Rets Tryz.prog k #[XW_ c] w (fun v D=>v= .bool (badR c)∧D= [])) (w:World) (hs:s.length<1099511627776):
  Rets Tryz.prog 154 #[vs s, .func (.func k) #[] #[], .bool true] w (fun v D=> ∃n:Int,v=vi n∧(0≤n↔s.any Z9_=true)∧D= []):=by
 refine Rets.mono (S:=fun v D=>(∃n:Int,v=vi n∧(0≤n↔s.any Z9_=true))∧D= []) ?_ (by rintro v D ⟨⟨n,h1,h2⟩,h3⟩;exact⟨n,h1,h2,h3⟩)
 refine Rets.enterV Tryz.func154 rfl (rs:= [.tmp 6]) Tryz.results154 Tryz.ntmps154 ?_
 refine kf ?_
 first|with_reducible refine ks [] @qa_ ?_|refine kp @qa_ ?_
 refine Ow.rangeText rfl rfl Tryz.underlying9 rfl fun b1 hb1 hw1=> ?_
 refine ko @qa_ ?_
 first|with_reducible refine ks [] @qa_ ?_|refine kp @qa_ ?_
 refine Cw.loopG (G:=Nat) [11,12,13,14,7,8,15,16,17,18,19,20,6] (fun g=> []) (fun g=> [(b1, .stringIter ⟨s.toArray⟩ g)]) (fun g=>g≤s.length∧ ∀i,i<g→Z9_ (s.getD i 0)=false) (fun g=>s.length - g) 0 rfl rfl ?_ ?_
 ·exact⟨by omega,fun i hi=>by omega⟩
 intro g j hg
 refine kv ?_
 obtain⟨hgL,hgood⟩:=hg
 by_cases hlt:g<s.length
 ·have hbr:=alK_ s g hlt
  first|with_reducible refine ks [] @qa_ ?_|refine kp @qa_ ?_
  refine Ow.nextText rfl rfl rfl (zP_ _ _ _) hlt ?_
  rw[jc_]
  generalize hdd:Utf8.decode ⟨s.toArray⟩ g=dd at*
  obtain⟨c,n⟩:=dd
  simp only at hbr ⊢
  refine ko @qa_ ?_
  first|with_reducible refine ks [] @qa_ ?_|refine kp @qa_ ?_
  refine Ow.callFn1 (v:= .bool (badR c)) (k:=k) rfl rfl rfl hk (fun w' hw'=>hc _ w') ?_
  rw[hbr.1]
  refine ko @qa_ ?_
  cases hbb:Z9_ (s.getD g 0)
  ·first|with_reducible refine ks [] @qa_ ?_|refine kp @qa_ ?_
   refine Again.mk (g+1) (by omega) ⟨by omega,fun i hi=> ?_⟩ ?_ rfl
   ·by_cases hig:i=g
    ·rw[hig];exact hbb
    ·exact hgood i (by omega)
   ·rw[hbr.2 hbb]
  ·first|with_reducible refine ks [] @qa_ ?_|refine kp @qa_ ?_
   refine⟨_,(ke @qa_),⟨hw1,trivial⟩, ?_⟩
   refine⟨(g:Int),rfl,⟨fun _=> ?_,fun _=>by omega⟩⟩
   rw[List.any_eq_true]
   refine⟨s.getD g 0, ?_,hbb⟩
   rw[List.getD_eq_getElem?_getD,List.getElem?_eq_getElem hlt]
   exact List.getElem_mem hlt
 ·obtain rfl:g=s.length:=by omega
  first|with_reducible refine ks [] @qa_ ?_|refine kp @qa_ ?_
  refine Ow.nextOver rfl rfl rfl (zP_ _ _ _) hlt ?_
  refine ko @qa_ ?_
  first|with_reducible refine ks [] @qa_ ?_|refine kp @qa_ ?_
  refine⟨_,(ke @qa_),⟨hw1,trivial⟩, ?_⟩
  refine⟨-1,rfl,⟨fun h=>by omega,fun h=> ?_⟩⟩
  rw[List.any_eq_true] at h
  obtain⟨x,hx,hxb⟩:=h
  obtain⟨i,hi,rfl⟩:=List.getElem_of_mem hx
  have:=hgood i hi
  rw[List.getD_eq_getElem?_getD,List.getElem?_eq_getElem hi] at this
  exact absurd hxb (by simpa using this)
theorem XB_ (s:List UInt8) (k:FuncId) (hk: ∀a w,(callFunc k a).run Tryz.prog w= .ok (.enter k a) w) (hc: ∀c w,Rets Tryz.prog k #[XW_ c] w (fun v D=>v= .bool (badR c)∧D= [])) (w:World) (hs:s.length<1099511627776):
  Rets Tryz.prog 153 #[vs s, .func (.func k) #[] #[]] w (fun v D=> ∃n:Int,v=vi n∧(0≤n↔s.any Z9_=true)∧D= []):=by
 refine Rets.mono (S:=fun v D=>(∃n:Int,v=vi n∧(0≤n↔s.any Z9_=true))∧D= []) ?_ (by rintro v D ⟨⟨n,h1,h2⟩,h3⟩;exact⟨n,h1,h2,h3⟩)
 refine Rets.enterV Tryz.func153 rfl (rs:= [.tmp 4]) Tryz.results153 Tryz.ntmps153 ?_
 refine kf ?_
 first|with_reducible refine ks [] @qa_ ?_|refine kp @qa_ ?_
 refine Ow.callF rfl rfl Tryz.call154 (S:=fun _ v D=> ∃n:Int,v=vi n∧(0≤n↔s.any Z9_=true)∧D= []) (fun w' hw'=>XM_ s k hk hc w' hs) ?_
 rintro B v D - - ⟨n,rfl,hn,rfl⟩
 refine⟨_,Mrg.nil, ?_⟩
 refine ko @qa_ ?_
 first|with_reducible refine ks [] @qa_ ?_|refine kp @qa_ ?_
 refine⟨_,(ke @qa_),trivial, ?_⟩
 exact⟨n,rfl,hn⟩
theorem ZD_ (s:List UInt8) (k:FuncId) (hk: ∀a w,(callFunc k a).run Tryz.prog w= .ok (.enter k a) w) (hc: ∀c w,Rets Tryz.prog k #[XW_ c] w (fun v D=>v= .bool (badR c)∧D= [])) (w:World) (hs:s.length<1099511627776):
  Rets Tryz.prog 151 #[vs s, .func (.func k) #[] #[]] w (fun v D=>v= .bool (s.any Z9_)∧D= []):=by
 refine Rets.enterV Tryz.func151 rfl (rs:= [.tmp 4]) Tryz.results151 Tryz.ntmps151 ?_
 refine kf ?_
 first|with_reducible refine ks [] @qa_ ?_|refine kp @qa_ ?_
 refine Ow.callF rfl rfl Tryz.call153 (S:=fun _ v D=> ∃n:Int,v=vi n∧(0≤n↔s.any Z9_=true)∧D= []) (fun w' hw'=>XB_ s k hk hc w' hs) ?_
 rintro B v D - - ⟨n,rfl,hn,rfl⟩
 refine⟨_,Mrg.nil, ?_⟩
 refine ko @qa_ ?_
 first|with_reducible refine ks [] @qa_ ?_|refine kp @qa_ ?_
 refine⟨_,(ke @qa_),trivial, ?_⟩
 exact congrArg Value.bool (by rw[Bool.eq_iff_iff,decide_eq_true_eq];exact hn)
theorem acf_ (s:List UInt8) (w:World) (hs:s.length<1099511627776):
  Rets Tryz.prog 146 #[vs s] w (fun v D=>v= .bool (!(s== [])&&decide (s.length≤32)&& !(s.any Z9_))∧D= []):=by
 refine Rets.enterV Tryz.func146 rfl (rs:= [.tmp 2]) Tryz.results146 Tryz.ntmps146 ?_
 refine kf ?_
 cases h0: (s != [])
 ·have e0: (s== [])=true:=by simpa using h0
  first|with_reducible refine ks [] (And.intro @qa_ @h0) ?_|refine kp (And.intro @qa_ @h0) ?_
  refine⟨_,(ke @qa_),trivial, ?_⟩
  simp[kT_,e0]
 ·have e0: (s== [])=false:=by simpa using h0
  cases h1:decide ((s.length:Int)≤32)
  ·have e1:decide (s.length≤32)=false:=decide_eq_false (by have:=of_decide_eq_false h1;omega)
   first|with_reducible refine ks [] (And.intro @qa_ (And.intro @h0 (@h1))) ?_|refine kp (And.intro @qa_ (And.intro @h0 (@h1))) ?_
   refine⟨_,(ke @qa_),trivial, ?_⟩
   simp only[kT_,e0,e1,Bool.not_false,Bool.true_and,Bool.false_and,Bool.and_false]
  ·have e1:decide (s.length≤32)=true:=decide_eq_true (by have:=of_decide_eq_true h1;omega)
   first|with_reducible refine ks [] (And.intro @qa_ (And.intro @h0 (@h1))) ?_|refine kp (And.intro @qa_ (And.intro @h0 (@h1))) ?_
   refine Ow.callFV rfl Tryz.call151 (fun w' hw'=>ZD_ s 152 Tryz.call152 WB_ w' hs) ?_
   refine ko @qa_ ?_
   first|with_reducible refine ks [] @qa_ ?_|refine kp @qa_ ?_
   refine⟨_,(ke @qa_),trivial, ?_⟩
   simp only[kT_,e0,e1,Bool.not_false,Bool.true_and]
set_option linter.defProp false
def zL_:=And.intro (And.intro (@zA_) (@VS_)) (And.intro (@VC_) (And.intro (@K0_) (@zz_)))
def WP_ (s:List UInt8):Bool:= !(s== [])&&decide (s.length≤32)&& !(s.any Z9_)
theorem aoz_ (c:UInt8):Z9_ c=(decide (c<33) ||decide (126<c) || (c==47)):=by
 unfold Z9_
 congr 1
 rw[Bool.eq_iff_iff,beq_iff_eq,beq_iff_eq,←UInt8.toNat_inj];rfl
theorem WN_ (s:List UInt8) (w:World) (hs:s.length<1099511627776):
  Rets Tryz.prog 95 #[vs s] w (fun v D=>v= .bool (WP_ s)∧D= []):=by
 refine Rets.enterV Tryz.func95 rfl (rs:= [.tmp 2]) Tryz.results95 Tryz.ntmps95 ?_
 refine kf ?_
 first|with_reducible refine ks [] @zL_ ?_|refine kp @zL_ ?_
 refine Cw.loopG (G:=Nat) [4,5,6,7,10,11,12,13,14,15,16,17,18,19,20,21,22,23,24,25,2,8,9,3] (fun g=> [(3,vi g)]) (fun g=> []) (fun g=>g≤s.length∧ ∀i,i<g→Z9_ (s.getD i 0)=false) (fun g=>s.length - g) 0 rfl rfl ?_ ?_
 ·exact⟨by omega,fun i hi=>by omega⟩
 intro g j hg
 refine kv ?_
 obtain⟨hgL,hgood⟩:=hg
 by_cases hlt:g<s.length
 ·have hb:=aoz_ (s.getD g 0)
  have hbad:Z9_ (s.getD g 0)=true→WP_ s=false:=by
   intro h
   have:s.any Z9_=true:=List.any_eq_true.2 ⟨s.getD g 0,by rw[List.getD_eq_getElem?_getD,List.getElem?_eq_getElem hlt];exact List.getElem_mem hlt,h⟩
   unfold WP_
   rw[this];simp
  have hgo:Z9_ (s.getD g 0)=false→ ∀i,i<g+1→Z9_ (s.getD i 0)=false:=fun h i hi=>by
   by_cases hig:i=g
   ·rw[hig];exact h
   ·exact hgood i (by omega)
  generalize hc:s.getD g 0=c at*
  cases h1:decide (c<33)
  ·cases h2:decide (126<c)
   ·cases h3: (c==47)
    ·first|with_reducible refine ks [] (And.intro @zL_ (And.intro @hc (And.intro @h1 (And.intro @h2 (@h3))))) ?_|refine kp (And.intro @zL_ (And.intro @hc (And.intro @h1 (And.intro @h2 (@h3))))) ?_
     refine Again.mk (g+1) (by omega) ⟨by omega,hgo (by rw[hb,h1,h2,h3];rfl)⟩ rfl rfl
    ·first|with_reducible refine ks [] (And.intro @zL_ (And.intro @hc (And.intro @h1 (And.intro @h2 (@h3))))) ?_|refine kp (And.intro @zL_ (And.intro @hc (And.intro @h1 (And.intro @h2 (@h3))))) ?_
     rw[hbad (by rw[hb,h1,h2,h3];rfl)]
     refine⟨_,(ke @zL_),trivial, ?_⟩
     rfl
   ·first|with_reducible refine ks [] (And.intro @zL_ (And.intro @hc (And.intro @h1 (@h2)))) ?_|refine kp (And.intro @zL_ (And.intro @hc (And.intro @h1 (@h2)))) ?_
    rw[hbad (by rw[hb,h1,h2];rfl)]
    refine⟨_,(ke @zL_),trivial, ?_⟩
    rfl
  ·first|with_reducible refine ks [] (And.intro @zL_ (And.intro @hc (@h1))) ?_|refine kp (And.intro @zL_ (And.intro @hc (@h1))) ?_
   rw[hbad (by rw[hb,h1];simp)]
   refine⟨_,(ke @zL_),trivial, ?_⟩
   rfl
 ·obtain rfl:g=s.length:=by omega
  have hany:s.any Z9_=false:=by
   rw[List.any_eq_false]
   intro x hx
   obtain⟨i,hi,rfl⟩:=List.getElem_of_mem hx
   have:=hgood i hi
   rw[List.getD_eq_getElem?_getD,List.getElem?_eq_getElem hi] at this
   simpa using this
  unfold WP_
  rw[hany]
  cases h1:decide (1≤ (s.length:Int))
  ·have e0: (s== [])=true:=by
    have:=of_decide_eq_false h1
    rw[List.eq_nil_of_length_eq_zero (show s.length=0 by omega)];rfl
   first|with_reducible refine ks [] (And.intro @zL_ @h1) ?_|refine kp (And.intro @zL_ @h1) ?_
   refine⟨_,(ke @zL_),trivial, ?_⟩
   simp only[kT_,e0,Bool.not_true,Bool.false_and]
  ·have e0: (s== [])=false:=by
    have:=of_decide_eq_true h1
    cases s with
    |nil=>simp at this
    |cons x r=>rfl
   have e1:decide ((s.length:Int)≤32)=decide (s.length≤32):=decide_eq_decide.2 (by omega)
   first|with_reducible refine ks [] (And.intro @zL_ @h1) ?_|refine kp (And.intro @zL_ @h1) ?_
   refine⟨_,(ke @zL_),trivial, ?_⟩
   simp only[kT_,e0,e1,Bool.not_false,Bool.true_and,Bool.and_true]
end Go.Proofs
end
section
open Go Go.Proofs Go.Sx Go.StP
namespace Go.Proofs
set_option maxRecDepth 10000
set_option maxHeartbeats 4000000
set_option linter.unusedSimpArgs false
def jj_ (l:List EntL) (i:Nat):Bool:=
 WP_ (l.getD i ju_).name&& ((l.getD i ju_).kind==1|| (l.getD i ju_).kind==2)&& (i==0||ltB (l.getD (i - 1) ju_).name (l.getD i ju_).name)
def xF_ (l:List EntL):Bool:=decide (l.length≤32)&& (List.range l.length).all (jj_ l)
theorem xb_ {l:List EntL} {k:Nat} (hk:k<l.length) (h:jj_ l k=false):xF_ l=false:=by
 unfold xF_
 have: (List.range l.length).all (jj_ l)=false:=by
  rw[List.all_eq_false]
  exact⟨k,List.mem_range.2 hk,by simp[h]⟩
 rw[this,Bool.and_false]
theorem Kx_ {l:List EntL} (h: ∀i,i<l.length→jj_ l i=true):xF_ l=decide (l.length≤32):=by
 unfold xF_
 have: (List.range l.length).all (jj_ l)=true:=List.all_eq_true.2 fun i hi=>h i (List.mem_range.1 hi)
 rw[this,Bool.and_true]
set_option linter.defProp false
def zZ_:=And.intro (And.intro (And.intro (@ahL_) (@aj1_)) (And.intro (@ah4_) (@Vi_))) (And.intro (And.intro (@vP_) (@vp_)) (And.intro (@zA_) (@zz_)))
def WR_ (l:List EntL):Prop:= ∀i,i<l.length→(l.getD i ju_).name.length<1099511627776
theorem W7_ (s:List UInt8) (w:World) (hs:s.length<1099511627776):Rets Tryz.prog 146 #[vs s] w (fun v D=>v= .bool (WP_ s)∧D= []):=acf_ s w hs
theorem VQ_ {a b:Int} {c:Bool} (h: (a !=b)=c): (a==b)= !c:=by rw[←h];simp[bne]
theorem Wg_ (v:Value) (l:List EntL) (w:World) (hv:EntS w v l) (hl:l.length<1000000) (hsh:WR_ l):
  Rets Tryz.prog 135 #[v] w (fun v' D=>v'= .bool (xF_ l)∧D= []):=by
 obtain⟨b,off,arr,E,fz,hr⟩:=hv.row
 have ln:=hv.len
 refine Rets.enterV Tryz.func135 rfl (rs:= [.tmp 2]) Tryz.results135 Tryz.ntmps135 ?_
 refine kf ?_
 first|with_reducible refine ks [] (And.intro @zZ_ @ln) ?_|refine kp (And.intro @zZ_ @ln) ?_
 refine Cw.loopG (G:=Nat) [8,9,10,11,4,3,12,13,14,15,16,17,18,19,20,21,22,23,24,25,26,27,28,29,30,31,32,33,34,35,36,37,38,39,40,2,41,7] (fun g=> [(7,vi g)]) (fun g=> []) (fun g=>g≤l.length∧ ∀i,i<g→jj_ l i=true) (fun g=>l.length - g) 0 rfl rfl ?_ ?_
 ·exact⟨Nat.zero_le _,fun i hi=>absurd hi (Nat.not_lt_zero i)⟩
 ·intro k jk hk
  refine kv ?_
  obtain⟨h1,h2⟩:=hk
  by_cases hk:k<l.length
  ·have h0:0<l.length:=by omega
   have hbl:=hr.lt h0
   have r2:=hr.has h0
   have i2:=hr.idx true k hk
   have l2:=aoX_ hr hk
   first|with_reducible refine ks [6] (And.intro @zZ_ (And.intro @r2 (And.intro @i2 (@l2)))) ?_|refine kp (And.intro @zZ_ (And.intro @r2 (And.intro @i2 (@l2)))) ?_
   refine Ow.alloc rfl rfl Va_ fun b4 hb4 hw4=> ?_
   simp only[za_,List.nil_append,List.cons_append]
   have hn4:b4≠b:=by omega
   refine ko @zZ_ ?_
   have hs:=hsh k hk
   refine Cw.regionS [b4,b] [0,1,2,3,4,5,6,7,8,9,10,11,12,13,14,15,16,17,18,19,20,21,22,24,23,25,26,27,28] [] (by kernel_rfl) (by kernel_rfl) (by kernel_rfl) ?_
   refine kya ?_
   refine kq @zZ_ ?_
   refine Ow.callFV rfl Tryz.call146 (fun w' hw'=>W7_ (l.getD k ju_).name w' hs) ?_
   cases hn:WP_ (l.getD k ju_).name
   ·have e0:jj_ l k=false:=by unfold jj_;rw[hn];rfl
    rw[xb_ hk e0]
    refine kq @zZ_ ?_
    refine⟨_,(ke @zZ_),⟨hw4,trivial⟩, ?_⟩
    rfl
   ·cases hk1: ((l.getD k ju_).kind !=1)
    ·have hkk: ((l.getD k ju_).kind==1|| (l.getD k ju_).kind==2)=true:=by rw[VQ_ hk1];rfl
     by_cases h0k:k=0
     ·have d1:decide ((0:Int)< (k:Int))=false:=decide_eq_false (by omega)
      have e1:jj_ l k=true:=by unfold jj_;rw[hn,hkk,h0k];rfl
      refine kq (And.intro @zZ_ (And.intro @hk1 (@d1))) ?_
      refine Cw.forgetN [] (by exact⟨hw4,trivial⟩) (by intro p hp;simp only[List.mem_cons,List.not_mem_nil,or_false] at hp ⊢;all_goals (first| (rcases hp with rfl|hp<;>simp_all) | (subst hp;simp) |simp_all)) (by simp[keys]<;>omega) ?_
      first|with_reducible refine ks [] @zZ_ ?_|refine kp @zZ_ ?_
      exact Again.mk (k+1) (by omega) ⟨by omega,fun i hi=>by
       rcases Nat.lt_succ_iff_lt_or_eq.1 hi with h|rfl
       ·exact h2 i h
       ·exact e1⟩ rfl rfl
     ·have d1:decide ((0:Int)< (k:Int))=true:=decide_eq_true (by omega)
      have i3:z3_ (.sl (true,34)) v (some ((k:Int) - 1))=some (vp b (off+ (k - 1)*34)):=by
       rw[show(k:Int) - 1=((k - 1:Nat):Int) by omega];exact hr.idx true (k - 1) (by omega)
      have l3: ∀n,zl_ (some (false,n)) (some (.cells arr E fz)) (off+ (k - 1)*34)=some (vs (l.getD (k - 1) ju_).name):=fun n=>wM_ hr (show k - 1<l.length by omega) n
      have ek: (k==0)=false:=beq_eq_false_iff_ne.2 h0k
      cases hl3:Op.bytesLess (l.getD (k - 1) ju_).name (l.getD k ju_).name
      ·have e1:jj_ l k=false:=by unfold jj_;rw[hn,hkk,ek];exact hl3
       rw[xb_ hk e1]
       refine kq (And.intro @zZ_ (And.intro @hk1 (And.intro @d1 (And.intro @i3 (And.intro @r2 (And.intro @l3 (@hl3))))))) ?_
       refine⟨_,(ke @zZ_),⟨hw4,trivial⟩, ?_⟩
       rfl
      ·have e1:jj_ l k=true:=by unfold jj_;rw[hn,hkk,ek];exact hl3
       refine kq (And.intro @zZ_ (And.intro @hk1 (And.intro @d1 (And.intro @i3 (And.intro @r2 (And.intro @l3 (@hl3))))))) ?_
       refine Cw.forgetN [] (by exact⟨hw4,trivial⟩) (by intro p hp;simp only[List.mem_cons,List.not_mem_nil,or_false] at hp ⊢;all_goals (first| (rcases hp with rfl|hp<;>simp_all) | (subst hp;simp) |simp_all)) (by simp[keys]<;>omega) ?_
       first|with_reducible refine ks [] @zZ_ ?_|refine kp @zZ_ ?_
       exact Again.mk (k+1) (by omega) ⟨by omega,fun i hi=>by
        rcases Nat.lt_succ_iff_lt_or_eq.1 hi with h|rfl
        ·exact h2 i h
        ·exact e1⟩ rfl rfl
    ·cases hk2: ((l.getD k ju_).kind !=2)
     ·have hkk: ((l.getD k ju_).kind==1|| (l.getD k ju_).kind==2)=true:=by rw[VQ_ hk2];simp
      by_cases h0k:k=0
      ·have d1:decide ((0:Int)< (k:Int))=false:=decide_eq_false (by omega)
       have e1:jj_ l k=true:=by unfold jj_;rw[hn,hkk,h0k];rfl
       refine kq (And.intro @zZ_ (And.intro @hk1 (And.intro @hk2 (@d1)))) ?_
       refine Cw.forgetN [] (by exact⟨hw4,trivial⟩) (by intro p hp;simp only[List.mem_cons,List.not_mem_nil,or_false] at hp ⊢;all_goals (first| (rcases hp with rfl|hp<;>simp_all) | (subst hp;simp) |simp_all)) (by simp[keys]<;>omega) ?_
       first|with_reducible refine ks [] @zZ_ ?_|refine kp @zZ_ ?_
       exact Again.mk (k+1) (by omega) ⟨by omega,fun i hi=>by
        rcases Nat.lt_succ_iff_lt_or_eq.1 hi with h|rfl
        ·exact h2 i h
        ·exact e1⟩ rfl rfl
      ·have d1:decide ((0:Int)< (k:Int))=true:=decide_eq_true (by omega)
       have i3:z3_ (.sl (true,34)) v (some ((k:Int) - 1))=some (vp b (off+ (k - 1)*34)):=by
        rw[show(k:Int) - 1=((k - 1:Nat):Int) by omega];exact hr.idx true (k - 1) (by omega)
       have l3: ∀n,zl_ (some (false,n)) (some (.cells arr E fz)) (off+ (k - 1)*34)=some (vs (l.getD (k - 1) ju_).name):=fun n=>wM_ hr (show k - 1<l.length by omega) n
       have ek: (k==0)=false:=beq_eq_false_iff_ne.2 h0k
       cases hl3:Op.bytesLess (l.getD (k - 1) ju_).name (l.getD k ju_).name
       ·have e1:jj_ l k=false:=by unfold jj_;rw[hn,hkk,ek];exact hl3
        rw[xb_ hk e1]
        refine kq (And.intro @zZ_ (And.intro @hk1 (And.intro @hk2 (And.intro @d1 (And.intro @i3 (And.intro @r2 (And.intro @l3 (@hl3)))))))) ?_
        refine⟨_,(ke @zZ_),⟨hw4,trivial⟩, ?_⟩
        rfl
       ·have e1:jj_ l k=true:=by unfold jj_;rw[hn,hkk,ek];exact hl3
        refine kq (And.intro @zZ_ (And.intro @hk1 (And.intro @hk2 (And.intro @d1 (And.intro @i3 (And.intro @r2 (And.intro @l3 (@hl3)))))))) ?_
        refine Cw.forgetN [] (by exact⟨hw4,trivial⟩) (by intro p hp;simp only[List.mem_cons,List.not_mem_nil,or_false] at hp ⊢;all_goals (first| (rcases hp with rfl|hp<;>simp_all) | (subst hp;simp) |simp_all)) (by simp[keys]<;>omega) ?_
        first|with_reducible refine ks [] @zZ_ ?_|refine kp @zZ_ ?_
        exact Again.mk (k+1) (by omega) ⟨by omega,fun i hi=>by
         rcases Nat.lt_succ_iff_lt_or_eq.1 hi with h|rfl
         ·exact h2 i h
         ·exact e1⟩ rfl rfl
     ·have e0:jj_ l k=false:=by
       unfold jj_
       rw[hn,VQ_ hk1,VQ_ hk2];rfl
      rw[xb_ hk e0]
      refine kq (And.intro @zZ_ (And.intro @hk1 (@hk2))) ?_
      refine⟨_,(ke @zZ_),⟨hw4,trivial⟩, ?_⟩
      rfl
  ·obtain rfl:k=l.length:=by omega
   rw[Kx_ h2]
   first|with_reducible refine ks [] (And.intro @zZ_ @ln) ?_|refine kp (And.intro @zZ_ @ln) ?_
   refine⟨_,(ke @zZ_),trivial, ?_⟩
   exact congrArg Value.bool (decide_eq_decide.2 (by omega))
end Go.Proofs
end
section
open Go Go.Proofs Go.Sx Go.StP
namespace Go.Proofs
set_option maxRecDepth 10000
set_option maxHeartbeats 4000000
set_option linter.unusedSimpArgs false
set_option linter.defProp false
theorem aip_ (a b:List UInt8): (Op.bytesLess a b||a==b)= !ltB b a:=by rw[←aoJ_,Bool.not_not]
theorem Xz_ (v:Value) (l:List EntL) (w:World) (hv:EntS w v l) (hl:l.length<1000000) (hsh:WR_ l):
  Rets Tryz.prog 60 #[v] w (fun v' D=>v'= .bool (xF_ l)∧D= []):=by
 obtain⟨b,off,arr,E,fz,hr⟩:=hv.row
 have ln:=hv.len
 refine Rets.enterV Tryz.func60 rfl (rs:= [.tmp 2]) Tryz.results60 Tryz.ntmps60 ?_
 refine kf ?_
 by_cases h32:32<l.length
 ·first|with_reducible refine ks [] (And.intro @zZ_ @ln) ?_|refine kp (And.intro @zZ_ @ln) ?_
  have:xF_ l=false:=by unfold xF_;rw[decide_eq_false (by omega),Bool.false_and]
  rw[this]
  refine⟨_,(ke @zZ_),trivial, ?_⟩
  rfl
 ·first|with_reducible refine ks [] (And.intro @zZ_ @ln) ?_|refine kp (And.intro @zZ_ @ln) ?_
  refine Cw.loopG (G:=Nat) [7,8,9,10,13,14,15,16,17,18,19,20,21,22,23,24,25,26,27,28,29,30,31,32,33,34,35,2,36,37,38,39,40,41,42,43,44,45,46,47,48,49,50,51,11,12,3] (fun g=> [(3,vi g)]) (fun g=> []) (fun g=>g≤l.length∧ ∀i,i<g→jj_ l i=true) (fun g=>l.length - g) 0 rfl rfl ?_ ?_
  ·exact⟨Nat.zero_le _,fun i hi=>absurd hi (Nat.not_lt_zero i)⟩
  ·intro k jk hk
   refine kv ?_
   obtain⟨h1,h2⟩:=hk
   by_cases hk:k<l.length
   ·have h0:0<l.length:=by omega
    have hbl:=hr.lt h0
    have r2:=hr.has h0
    have i2:=hr.idx true k hk
    have m0: ∀n,zl_ (some (false,n)) (some (.cells arr E fz)) (off+k*34)=some (vs (l.getD k ju_).name):=fun n=>wM_ hr hk n
    have m1: ∀n,zl_ (some (false,n)) (some (.cells arr E fz)) (off+k*34+1)=some (vi (l.getD k ju_).kind):=fun n=>ae4_ hr hk n
    have hs:=hsh k hk
    first|with_reducible refine ks [] (And.intro @zZ_ (And.intro @ln (And.intro @r2 (And.intro @i2 (And.intro @m0 (@m1)))))) ?_|refine kp (And.intro @zZ_ (And.intro @ln (And.intro @r2 (And.intro @i2 (And.intro @m0 (@m1)))))) ?_
    refine Ow.callFV rfl Tryz.call95 (fun w' hw'=>WN_ (l.getD k ju_).name w' hs) ?_
    cases hn:WP_ (l.getD k ju_).name
    ·have e0:jj_ l k=false:=by unfold jj_;rw[hn];rfl
     rw[xb_ hk e0]
     refine ko @zZ_ ?_
     refine⟨_,(ke @zZ_),trivial, ?_⟩
     rfl
    ·cases hk1:decide ((l.getD k ju_).kind<1)
     ·cases hk2:decide (2< (l.getD k ju_).kind)
      ·have hkk: ((l.getD k ju_).kind==1|| (l.getD k ju_).kind==2)=true:=by
        have q1:=of_decide_eq_false hk1
        have q2:=of_decide_eq_false hk2
        rcases(show(l.getD k ju_).kind=1∨(l.getD k ju_).kind=2 by omega) with h|h<;>rw[h]<;>rfl
       refine ko (And.intro @zZ_ (And.intro @r2 (And.intro @i2 (And.intro @m0 (And.intro @m1 (And.intro @hk1 (@hk2))))))) ?_
       by_cases h0k:k=0
       ·have d1:decide ((0:Int)< (k:Int))=false:=decide_eq_false (by omega)
        have e1:jj_ l k=true:=by unfold jj_;rw[hn,hkk,h0k];rfl
        refine Cw.regionS [b] [0,1,2,3,4,5,6,8,9,10,11,12,7,13,14,15] [] (by kernel_rfl) (by kernel_rfl) (by kernel_rfl) ?_
        refine kya ?_
        refine kq (And.intro @zZ_ @d1) ?_
        exact Again.mk (k+1) (by omega) ⟨by omega,fun i hi=>by
         rcases Nat.lt_succ_iff_lt_or_eq.1 hi with h|rfl
         ·exact h2 i h
         ·exact e1⟩ rfl rfl
       ·have d1:decide ((0:Int)< (k:Int))=true:=decide_eq_true (by omega)
        have i3:z3_ (.sl (true,34)) v (some ((k:Int) - 1))=some (vp b (off+ (k - 1)*34)):=by
         rw[show(k:Int) - 1=((k - 1:Nat):Int) by omega];exact hr.idx true (k - 1) (by omega)
        have l3: ∀n,zl_ (some (false,n)) (some (.cells arr E fz)) (off+ (k - 1)*34)=some (vs (l.getD (k - 1) ju_).name):=fun n=>wM_ hr (show k - 1<l.length by omega) n
        have ek: (k==0)=false:=beq_eq_false_iff_ne.2 h0k
        cases hl3:ltB (l.getD (k - 1) ju_).name (l.getD k ju_).name
        ·have e1:jj_ l k=false:=by unfold jj_;rw[hn,hkk,ek];exact hl3
         rw[xb_ hk e1]
         refine Cw.regionS [b] [0,1,2,3,4,5,6,8,9,10,11,12,7,13,14,15] [] (by kernel_rfl) (by kernel_rfl) (by kernel_rfl) ?_
         refine kya ?_
         refine kq (And.intro @zZ_ (And.intro @d1 (And.intro @i2 (And.intro @i3 (And.intro @r2 (And.intro @m0 (And.intro @l3 (And.intro @aip_ (@hl3))))))))) ?_
         refine⟨_,(ke @zZ_),trivial, ?_⟩
         rfl
        ·have e1:jj_ l k=true:=by unfold jj_;rw[hn,hkk,ek];exact hl3
         refine Cw.regionS [b] [0,1,2,3,4,5,6,8,9,10,11,12,7,13,14,15] [] (by kernel_rfl) (by kernel_rfl) (by kernel_rfl) ?_
         refine kya ?_
         refine kq (And.intro @zZ_ (And.intro @d1 (And.intro @i2 (And.intro @i3 (And.intro @r2 (And.intro @m0 (And.intro @l3 (And.intro @aip_ (@hl3))))))))) ?_
         exact Again.mk (k+1) (by omega) ⟨by omega,fun i hi=>by
          rcases Nat.lt_succ_iff_lt_or_eq.1 hi with h|rfl
          ·exact h2 i h
          ·exact e1⟩ rfl rfl
      ·have e0:jj_ l k=false:=by
        have q2:=of_decide_eq_true hk2
        unfold jj_
        rw[hn,show((l.getD k ju_).kind==1)=false from beq_eq_false_iff_ne.2 (by omega),show((l.getD k ju_).kind==2)=false from beq_eq_false_iff_ne.2 (by omega)];rfl
       rw[xb_ hk e0]
       refine ko (And.intro @zZ_ (And.intro @r2 (And.intro @i2 (And.intro @m0 (And.intro @m1 (And.intro @hk1 (@hk2))))))) ?_
       refine⟨_,(ke @zZ_),trivial, ?_⟩
       rfl
     ·have e0:jj_ l k=false:=by
       have q2:=of_decide_eq_true hk1
       unfold jj_
       rw[hn,show((l.getD k ju_).kind==1)=false from beq_eq_false_iff_ne.2 (by omega),show((l.getD k ju_).kind==2)=false from beq_eq_false_iff_ne.2 (by omega)];rfl
      rw[xb_ hk e0]
      refine ko (And.intro @zZ_ (And.intro @r2 (And.intro @i2 (And.intro @m0 (And.intro @m1 (@hk1)))))) ?_
      refine⟨_,(ke @zZ_),trivial, ?_⟩
      rfl
   ·obtain rfl:k=l.length:=by omega
    rw[Kx_ h2,show decide (l.length≤32)=true from decide_eq_true (by omega)]
    first|with_reducible refine ks [] (And.intro @zZ_ @ln) ?_|refine kp (And.intro @zZ_ @ln) ?_
    refine⟨_,(ke @zZ_),trivial, ?_⟩
    rfl
end Go.Proofs
end
section
open Go Go.Proofs Go.Sx Go.StP
namespace Go.Proofs
set_option maxRecDepth 10000
set_option maxHeartbeats 4000000
set_option linter.unusedSimpArgs false
theorem kb_ (x:IdL): (kq_ x).all Value.oneCell'=true:=XP_ _
abbrev IdS (w:World) (v:Value) (l:List IdL):Prop:=SlV 32 kq_ id0 w v l
theorem aay_ {w:World} {v:Value} {l:List IdL} {b off:Nat} {arr:Array Value} {E:TypeId} {fz:Nat×Nat} (h:RowS 32 kq_ id0 w v l b off arr E fz) {k:Nat} (hk:k<l.length):
  zl_ (some (true,32)) (some (.cells arr E fz)) (off+k*32)=some (.agg (a8 (l.getD k id0).l)):=RowS.load h qT_ (by omega) hk
theorem aoR_ (a b:IdL):qL_ Tryz.prog .eql 41 (.agg (a8 a.l)) (.agg (a8 b.l))=some (.bool (a.l==b.l)):=
 anH_ Tryz.underlying41 Tryz.underlying5 Tryz.ag5 (by kernel_rfl) a.l b.l ⟨a.h,b.h⟩
theorem apD_ (a b:IdL):qL_ Tryz.prog .neq 41 (.agg (a8 a.l)) (.agg (a8 b.l))=some (.bool (!(a.l==b.l))):=
 akx_ Tryz.underlying41 Tryz.underlying5 Tryz.ag5 (by kernel_rfl) a.l b.l ⟨a.h,b.h⟩
instance:DecidableEq IdL:=fun a b=>if h:a.l=b.l then .isTrue (by cases a;cases b;simp only at h;subst h;rfl) else .isFalse (fun e=>h (by rw[e]))
theorem IdL.ext' {a b:IdL} (h:a.l=b.l):a=b:=by cases a;cases b;simp only at h;subst h;rfl
def idxG (x:IdL):List IdL→Nat→Int
 | [],_=> -1
 |y::r,i=>if x.l==y.l then(i:Int) else idxG x r (i+1)
theorem aiH_ (x y:IdL) (r:List IdL) (i:Nat):idxG x (y::r) i=if x.l==y.l then(i:Int) else idxG x r (i+1):=rfl
theorem aen_ (x:IdL): ∀ (l:List IdL) (i:Nat),decide (0≤idxG x l i)=l.any fun y=>x.l==y.l
 | [],_=>rfl
 |y::r,i=>by
  unfold idxG
  rw[List.any_cons]
  cases h: (x.l==y.l)
  ·rw[if_neg (by simp),Bool.false_or];exact aen_ x r (i+1)
  ·rw[if_pos rfl,Bool.true_or,decide_eq_true (by omega)]
theorem wL_ (x:IdL) (E:TypeId) (fz:Nat×Nat):zl_ (some (true,32)) (some (.cells (a8 x.l) E fz)) 0=some (.agg (a8 x.l)):=w8_ _ E fz 32 x.h
set_option linter.defProp false
def xK_:=And.intro (And.intro (@aoR_) (@apD_)) (And.intro (@wL_) (And.intro (@zA_) (@zz_)))
theorem We_ (v:Value) (l:List IdL) (x:IdL) (w:World) (hv:IdS w v l) (hl:l.length<1000000):
  Rets Tryz.prog 93 #[v, .agg (a8 x.l)] w (fun v' D=>v'=vi (idxG x l 0)∧D= []):=by
 obtain⟨b,off,arr,E,fz,hr⟩:=hv.row
 have ln:=hv.len
 refine Rets.enterV Tryz.func93 rfl (rs:= [.tmp 4]) Tryz.results93 Tryz.ntmps93 ?_
 refine kf ?_
 first|with_reducible refine ks [] @xK_ ?_|refine kp @xK_ ?_
 refine Ow.box rfl rfl fun b1 hb1 hw1=> ?_
 simp only[zD_,zH_,zG_,za_,List.nil_append,List.cons_append]
 refine Ow.go rfl ?_
 simp(disch:=(first|assumption|omega| (simp only[wr_,we_,UInt64.reduceToNat];try omega))) only[↓Sx.S0,Sx.S1,Tryz.fx,xK_,Nat.reduceAdd,Nat.reducePow,Int.reducePow,Nat.reduceBEq, ↓reduceIte,UInt8.reduceToNat,UInt16.reduceToNat,UInt32.reduceToNat,UInt64.reduceToNat,Int.reduceToNat]
 first|with_reducible refine ks [] (And.intro @xK_ @ln) ?_|refine kp (And.intro @xK_ @ln) ?_
 refine Cw.loopG (G:=Nat) [9,10,5,11,12,13,14,15,16,17,4,18,8] (fun g=> [(8,vi g)]) (fun g=> [(b1, .cells (a8 x.l) 41 (0,0))]) (fun g=>g≤l.length∧idxG x l 0=idxG x (l.drop g) g) (fun g=>l.length - g) 0 rfl rfl ?_ ?_
 ·exact⟨Nat.zero_le _,rfl⟩
 ·intro k jk hk
  refine kv ?_
  obtain⟨h1,h2⟩:=hk
  by_cases hk:k<l.length
  ·have h0:0<l.length:=by omega
   have hbl:=hr.lt h0
   have hn1:b1≠b:=by omega
   have r2:=hr.has h0
   have i2:=hr.idx true k hk
   have l2:=aay_ hr hk
   rw[aie_ (z:=id0) hk,aiH_] at h2
   first|with_reducible refine ks [] @xK_ ?_|refine kp @xK_ ?_
   refine Cw.regionS [b1,b] [1,2,3,0,4,5] [] (by kernel_rfl) (by kernel_rfl) (by kernel_rfl) ?_
   refine kya ?_
   refine kq (And.intro @xK_ (And.intro @i2 (And.intro @r2 (@l2)))) ?_
   cases hq: (x.l==(l.getD k id0).l)
   ·rw[hq,if_neg (by simp)] at h2
    first|with_reducible refine ks [] (And.intro @xK_ @hq) ?_|refine kp (And.intro @xK_ @hq) ?_
    exact Again.mk (k+1) (by omega) ⟨hk,h2⟩ rfl rfl
   ·rw[hq,if_pos rfl] at h2
    rw[h2]
    first|with_reducible refine ks [] (And.intro @xK_ @hq) ?_|refine kp (And.intro @xK_ @hq) ?_
    refine⟨_,(ke @xK_),⟨hw1,trivial⟩, ?_⟩
    rfl
  ·obtain rfl:k=l.length:=by omega
   rw[List.drop_length] at h2
   rw[h2]
   first|with_reducible refine ks [] @xK_ ?_|refine kp @xK_ ?_
   refine⟨_,(ke @xK_),⟨hw1,trivial⟩, ?_⟩
   rfl
theorem k0_ (v:Value) (l:List IdL) (x:IdL) (w:World) (hv:IdS w v l) (hl:l.length<1000000):
  Rets Tryz.prog 55 #[v, .agg (a8 x.l)] w (fun v' D=>v'= .bool (l.any fun y=>x.l==y.l)∧D= []):=by
 refine Rets.enterV Tryz.func55 rfl (rs:= [.tmp 4]) Tryz.results55 Tryz.ntmps55 ?_
 refine kf ?_
 first|with_reducible refine ks [] @xK_ ?_|refine kp @xK_ ?_
 refine Ow.box rfl rfl fun b1 hb1 hw1=> ?_
 simp only[zD_,zH_,zG_,za_,List.nil_append,List.cons_append]
 refine Ow.go rfl ?_
 simp(disch:=(first|assumption|omega| (simp only[wr_,we_,UInt64.reduceToNat];try omega))) only[↓Sx.S0,Sx.S1,Tryz.fx,xK_,Nat.reduceAdd,Nat.reducePow,Int.reducePow,Nat.reduceBEq, ↓reduceIte,UInt8.reduceToNat,UInt16.reduceToNat,UInt32.reduceToNat,UInt64.reduceToNat,Int.reduceToNat]
 first|with_reducible refine ks [] @xK_ ?_|refine kp @xK_ ?_
 refine Ow.callFV rfl Tryz.call93 (fun w' hw'=>We_ v l x w' (hv.oldN hw' ⟨hw1,trivial⟩) hl) ?_
 refine ko @xK_ ?_
 refine⟨_,(ke @xK_),⟨hw1,trivial⟩, ?_⟩
 exact congrArg Value.bool (aen_ x l 0)
end Go.Proofs
end
section
open Go Go.Proofs Go.Sx Go.StP
namespace Go.Proofs
set_option maxRecDepth 10000
set_option maxHeartbeats 4000000
set_option linter.unusedSimpArgs false
structure ComL where
 tree:IdL
 par:List IdL
 text:List UInt8
def qY_ (t:IdL) (p:Value) (x:List UInt8):List Value:=t.l.map v8++ ([p]++ [vs x])
theorem vN_ (t:IdL) (p:Value) (x:List UInt8): (qY_ t p x).length=34:=by simp[qY_,t.h]
theorem amu_ (t:IdL) (p:Value) (x:List UInt8) (hp:Value.oneCell' p=true): (qY_ t p x).all Value.oneCell'=true:=by
 unfold qY_
 simp only[List.all_append,List.all_cons,List.all_nil,XP_,hp,Bool.and_true,Bool.true_and]
 rfl
theorem wX_ (t:IdL) (p:Value) (x:List UInt8):Value.cells (.agg (qY_ t p x).toArray)=(qY_ t p x).toArray:=za_ _
theorem aao_ (t:IdL) (p:Value) (x:List UInt8) (E:TypeId) (fz:Nat×Nat):zl_ (some (true,32)) (some (.cells (qY_ t p x).toArray E fz)) 0=some (.agg (a8 t.l)):=by
 unfold qY_;exact kL_ [] _ _ E fz rfl (by simp[t.h])
theorem aau_ (t:IdL) (p:Value) (x:List UInt8) (n:Nat) (E:TypeId) (fz:Nat×Nat):zl_ (some (false,n)) (some (.cells (qY_ t p x).toArray E fz)) 32=some p:=by
 unfold qY_;exact kE_ _ _ p n E fz (by simp[t.h])
theorem aa6_ (t:IdL) (p:Value) (x:List UInt8) (n:Nat) (E:TypeId) (fz:Nat×Nat):zl_ (some (false,n)) (some (.cells (qY_ t p x).toArray E fz)) 33=some (vs x):=by
 have e:qY_ t p x=(t.l.map v8++ [p])++ ([vs x]++ []):=by unfold qY_;simp only[List.append_assoc,List.append_nil]
 rw[e];exact kE_ _ _ (vs x) n E fz (by simp[t.h])
theorem adZ_ (t:IdL) (p:Value) (x:List UInt8) (E:TypeId) (fz:Nat×Nat):zl_ (some (true,34)) (some (.cells (qY_ t p x).toArray E fz)) 0=some (.agg (qY_ t p x).toArray):=xn_ _ E fz 34 (by rw[List.size_toArray,vN_])
theorem JS_ (old:Array Value) (t:IdL) (p:Value) (x:List UInt8) (a:Bool) (E:TypeId) (h:old.size=34) (hp:Value.oneCell' p=true):zn_ (some (a,34)) (some (.cells old E (0,0))) 0 (.agg (qY_ t p x).toArray)=some (.cells (qY_ t p x).toArray E (0,0)):=j2_ _ a old E (vN_ t p x) (amu_ t p x hp) h
def wd_ (l:List IdL) (i:Nat):Bool:= !((l.take i).any fun y=>(l.getD i id0).l==y.l)
def vs_ (c:ComL):Bool:=(decide (c.par.length≤4)&&decide (c.text.length≤64))&& (List.range c.par.length).all (wd_ c.par)
theorem aeN_ {c:ComL} {k:Nat} (hk:k<c.par.length) (h:wd_ c.par k=false):vs_ c=false:=by
 unfold vs_
 have: (List.range c.par.length).all (wd_ c.par)=false:=by
  rw[List.all_eq_false]
  exact⟨k,List.mem_range.2 hk,by simp[h]⟩
 rw[this,Bool.and_false]
theorem aa3_ {c:ComL} (h: ∀i,i<c.par.length→wd_ c.par i=true):vs_ c=(decide (c.par.length≤4)&&decide (c.text.length≤64)):=by
 unfold vs_
 have: (List.range c.par.length).all (wd_ c.par)=true:=List.all_eq_true.2 fun i hi=>h i (List.mem_range.1 hi)
 rw[this,Bool.and_true]
abbrev ComS (w:World) (v:Value) (c:ComL):Prop:= ∃p,v= .agg (qY_ c.tree p c.text).toArray∧IdS w p c.par
theorem SlV.one {α:Type} {m:Nat} {enc:α→List Value} {z:α} {w:World} {v:Value} {l:List α} (h:SlV m enc z w v l):Value.oneCell' v=true∧v.cells= #[v]:=by
 obtain⟨b,off,c,arr,E,fz,-,-,⟨rfl,-,-⟩ | ⟨rfl,-,-⟩⟩:=h<;>exact⟨rfl,rfl⟩
set_option linter.defProp false
def z0_:=And.intro (And.intro (And.intro (@aoR_) (@apD_)) (And.intro (@wL_) (And.intro (@zA_) (@zz_)))) (And.intro (And.intro (@aao_) (@aau_)) (And.intro (@aa6_) (And.intro (@adZ_) (@wX_))))
theorem acy_ (v:Value) (c:ComL) (w:World) (hv:ComS w v c) (hl:c.par.length<1000000) (ht:c.text.length<1099511627776):
  Rets Tryz.prog 136 #[v] w (fun v' D=>v'= .bool (vs_ c)∧D= []):=by
 obtain⟨p,rfl,hp⟩:=hv
 obtain⟨b,off,arr,E,fz,hr⟩:=hp.row
 have ln:=hp.len
 refine Rets.enterV Tryz.func136 rfl (rs:= [.tmp 2]) Tryz.results136 Tryz.ntmps136 ?_
 refine kf ?_
 first|with_reducible refine ks [] @z0_ ?_|refine kp @z0_ ?_
 refine Ow.box rfl rfl fun bx hbx hwx=> ?_
 simp only[zD_,zH_,zG_,za_,List.nil_append,List.cons_append]
 refine Ow.go rfl ?_
 simp(disch:=(first|assumption|omega| (simp only[wr_,we_,UInt64.reduceToNat];try omega))) only[↓Sx.S0,Sx.S1,Tryz.fx,z0_,Nat.reduceAdd,Nat.reducePow,Int.reducePow,Nat.reduceBEq, ↓reduceIte,UInt8.reduceToNat,UInt16.reduceToNat,UInt32.reduceToNat,UInt64.reduceToNat,Int.reduceToNat]
 first|with_reducible refine ks [] (And.intro @z0_ @ln) ?_|refine kp (And.intro @z0_ @ln) ?_
 refine Cw.loopG (G:=Nat) [9,10,11,12,4,3,13,14,15,16,17,18,2,19,8] (fun g=> [(8,vi g)]) (fun g=> [(bx, .cells (qY_ c.tree p c.text).toArray 76 (0,0))]) (fun g=>g≤c.par.length∧ ∀i,i<g→wd_ c.par i=true) (fun g=>c.par.length - g) 0 rfl rfl ?_ ?_
 ·exact⟨Nat.zero_le _,fun i hi=>absurd hi (Nat.not_lt_zero i)⟩
 ·intro k jk hk
  refine kv ?_
  obtain⟨h1,h2⟩:=hk
  by_cases hk:k<c.par.length
  ·have h0:0<c.par.length:=by omega
   have hbl:=hr.lt h0
   have hnb:bx≠b:=by omega
   have r2:=hr.has h0
   have i2:=hr.idx true k hk
   have l2:=aay_ hr hk
   obtain⟨v3,s3,hv3,-⟩:=hp.take (show k≤c.par.length by omega) true
   first|with_reducible refine ks [6] (And.intro @z0_ (And.intro @i2 (And.intro @r2 (@l2)))) ?_|refine kp (And.intro @z0_ (And.intro @i2 (And.intro @r2 (@l2)))) ?_
   refine Ow.alloc rfl rfl Tryz.zr41 fun b4 hb4 hw4=> ?_
   simp only[za_,List.nil_append,List.cons_append]
   obtain⟨h4,-⟩:=hb4
   have hxl:=(c.par.getD k id0).h
   refine ko @z0_ ?_
   refine Cw.regionS [bx,b4] [0,2,1,3,4,5] [] (by kernel_rfl) (by kernel_rfl) (by kernel_rfl) ?_
   refine kya ?_
   refine kq (And.intro @z0_ @s3) ?_
   refine Ow.callFV rfl Tryz.call55 (fun w' hw'=>k0_ v3 (c.par.take k) (c.par.getD k id0) w' (hv3.oldN hw' ⟨hwx,hw4,trivial⟩) (by rw[List.length_take];omega)) ?_
   cases hq: (c.par.take k).any fun y=>(c.par.getD k id0).l==y.l
   ·have e1:wd_ c.par k=true:=by unfold wd_;rw[hq];rfl
    refine kq @z0_ ?_
    refine Cw.forgetN [(bx, .cells (qY_ c.tree p c.text).toArray 76 (0,0))] (by exact⟨hwx,hw4,trivial⟩) (by intro p hp;simp only[List.mem_cons,List.not_mem_nil,or_false] at hp ⊢;all_goals (first| (rcases hp with rfl|hp<;>simp_all) | (subst hp;simp) |simp_all)) (by simp[keys]<;>omega) ?_
    first|with_reducible refine ks [] @z0_ ?_|refine kp @z0_ ?_
    exact Again.mk (k+1) (by omega) ⟨by omega,fun i hi=>by
     rcases Nat.lt_succ_iff_lt_or_eq.1 hi with h|rfl
     ·exact h2 i h
     ·exact e1⟩ rfl rfl
   ·have e1:wd_ c.par k=false:=by unfold wd_;rw[hq];rfl
    rw[aeN_ hk e1]
    refine kq @z0_ ?_
    refine⟨_,(ke @z0_),⟨hwx,hw4,trivial⟩, ?_⟩
    rfl
  ·obtain rfl:k=c.par.length:=by omega
   rw[aa3_ h2]
   by_cases h4:c.par.length≤4
   ·have d1:decide (((c.par.length:Nat):Int)≤4)=true:=decide_eq_true (by omega)
    first|with_reducible refine ks [] (And.intro @z0_ (And.intro @ln (@d1))) ?_|refine kp (And.intro @z0_ (And.intro @ln (@d1))) ?_
    refine⟨_,(ke @z0_),⟨hwx,trivial⟩, ?_⟩
    rw[show decide (c.par.length≤4)=true from decide_eq_true h4,Bool.true_and];exact congrArg Value.bool (decide_eq_decide.2 (by omega))
   ·have d1:decide (((c.par.length:Nat):Int)≤4)=false:=decide_eq_false (by omega)
    first|with_reducible refine ks [] (And.intro @z0_ (And.intro @ln (@d1))) ?_|refine kp (And.intro @z0_ (And.intro @ln (@d1))) ?_
    refine⟨_,(ke @z0_),⟨hwx,trivial⟩, ?_⟩
    rw[show decide (c.par.length≤4)=false from decide_eq_false h4];rfl
end Go.Proofs
end
section
open Go Go.Proofs Go.Sx Go.StP
namespace Go.Proofs
set_option maxRecDepth 10000
set_option maxHeartbeats 4000000
set_option linter.unusedSimpArgs false
set_option linter.defProp false
theorem alX_ {l:List IdL} {k:Nat} {x:IdL} (hk:k<l.length) (h: ((l.take k).any fun y=>x.l==y.l)=false) (h2: (x.l==(l.getD k id0).l)=false): ((l.take (k+1)).any fun y=>x.l==y.l)=false:=by
 rw[take_snoc (z:=id0) hk,List.any_append,h,Bool.false_or,List.any_cons,h2];rfl
theorem aon_ {l:List IdL} {k i:Nat} {x:IdL} (hk:k<l.length) (hi:k<i) (h2: (x.l==(l.getD k id0).l)=true): ((l.take i).any fun y=>x.l==y.l)=true:=by
 rw[List.any_eq_true]
 refine⟨l.getD k id0, ?_,h2⟩
 rw[←aiQ_ (l:=l) (z:=id0) hi]
 exact Ql_ (by rw[List.length_take];omega)
theorem Z2_ (v:Value) (c:ComL) (w:World) (hv:ComS w v c) (hl:c.par.length<1000000) (ht:c.text.length<1099511627776):
  Rets Tryz.prog 62 #[v] w (fun v' D=>v'= .bool (vs_ c)∧D= []):=by
 obtain⟨p,rfl,hp⟩:=hv
 obtain⟨b,off,arr,E,fz,hr⟩:=hp.row
 have ln:=hp.len
 refine Rets.enterV Tryz.func62 rfl (rs:= [.tmp 2]) Tryz.results62 Tryz.ntmps62 ?_
 refine kf ?_
 first|with_reducible refine ks [] @z0_ ?_|refine kp @z0_ ?_
 refine Ow.box rfl rfl fun bx hbx hwx=> ?_
 simp only[zD_,zH_,zG_,za_,List.nil_append,List.cons_append]
 refine Ow.go rfl ?_
 simp(disch:=(first|assumption|omega| (simp only[wr_,we_,UInt64.reduceToNat];try omega))) only[↓Sx.S0,Sx.S1,Tryz.fx,z0_,Nat.reduceAdd,Nat.reducePow,Int.reducePow,Nat.reduceBEq, ↓reduceIte,UInt8.reduceToNat,UInt16.reduceToNat,UInt32.reduceToNat,UInt64.reduceToNat,Int.reduceToNat]
 by_cases h4:4<c.par.length
 ·have d1:decide (4< ((c.par.length:Nat):Int))=true:=decide_eq_true (by omega)
  first|with_reducible refine ks [] (And.intro @z0_ (And.intro @ln (@d1))) ?_|refine kp (And.intro @z0_ (And.intro @ln (@d1))) ?_
  have:vs_ c=false:=by unfold vs_;rw[show decide (c.par.length≤4)=false from decide_eq_false (by omega)];rfl
  rw[this]
  refine⟨_,(ke @z0_),⟨hwx,trivial⟩, ?_⟩
  rfl
 have d1:decide (4< ((c.par.length:Nat):Int))=false:=decide_eq_false (by omega)
 by_cases h64:64<c.text.length
 ·have d2:decide (64< ((c.text.length:Nat):Int))=true:=decide_eq_true (by omega)
  first|with_reducible refine ks [] (And.intro @z0_ (And.intro @ln (And.intro @d1 (@d2)))) ?_|refine kp (And.intro @z0_ (And.intro @ln (And.intro @d1 (@d2)))) ?_
  have:vs_ c=false:=by unfold vs_;rw[show decide (c.text.length≤64)=false from decide_eq_false (by omega),Bool.and_false];rfl
  rw[this]
  refine⟨_,(ke @z0_),⟨hwx,trivial⟩, ?_⟩
  rfl
 have d2:decide (64< ((c.text.length:Nat):Int))=false:=decide_eq_false (by omega)
 first|with_reducible refine ks [] (And.intro @z0_ (And.intro @ln (And.intro @d1 (@d2)))) ?_|refine kp (And.intro @z0_ (And.intro @ln (And.intro @d1 (@d2)))) ?_
 refine Cw.loopG (G:=Nat) [15,16,17,18,19,4,22,23,24,27,28,29,30,31,32,33,34,35,36,37,2,25,26,20,21,3] (fun g=> [(3,vi g)]) (fun g=> [(bx, .cells (qY_ c.tree p c.text).toArray 76 (0,0))]) (fun g=>g≤c.par.length∧ ∀i,i<g→wd_ c.par i=true) (fun g=>c.par.length - g) 0 rfl rfl ?_ ?_
 ·exact⟨Nat.zero_le _,fun i hi=>absurd hi (Nat.not_lt_zero i)⟩
 ·intro i ji hi
  refine kv ?_
  obtain⟨h1,h2⟩:=hi
  by_cases hi:i<c.par.length
  ·have h0:0<c.par.length:=by omega
   have hbl:=hr.lt h0
   have hnb:bx≠b:=by omega
   have r2:=hr.has h0
   have i2:=hr.idx true i hi
   have l2:=aay_ hr hi
   first|with_reducible refine ks [] (And.intro @z0_ @ln) ?_|refine kp (And.intro @z0_ @ln) ?_
   refine Cw.loopG (G:=Nat) [22,23,24,27,28,29,30,31,32,33,34,35,36,37,2,25,26,4] (fun g=> [(4,vi g)]) (fun g=> [(bx, .cells (qY_ c.tree p c.text).toArray 76 (0,0))]) (fun g=>g≤i∧((c.par.take g).any fun y=>(c.par.getD i id0).l==y.l)=false) (fun g=>i - g) 0 rfl rfl ?_ ?_
   ·exact⟨Nat.zero_le _,rfl⟩
   ·intro k jk hk
    refine kv ?_
    obtain⟨g1,g2⟩:=hk
    by_cases hk:k<i
    ·have i3:=hr.idx true k (show k<c.par.length by omega)
     have l3:=aay_ hr (show k<c.par.length by omega)
     first|with_reducible refine ks [] @z0_ ?_|refine kp @z0_ ?_
     refine Cw.regionS [bx,b] [0,2,5,7,1,3,4,6,8,9,10] [] (by kernel_rfl) (by kernel_rfl) (by kernel_rfl) ?_
     refine kya ?_
     refine kq (And.intro @z0_ (And.intro @i2 (And.intro @r2 (And.intro @l2 (And.intro @i3 (@l3)))))) ?_
     cases hq: ((c.par.getD i id0).l==(c.par.getD k id0).l)
     ·first|with_reducible refine ks [] (And.intro @z0_ @hq) ?_|refine kp (And.intro @z0_ @hq) ?_
      exact Again.mk (k+1) (by omega) ⟨by omega,alX_ (by omega) g2 hq⟩ rfl rfl
     ·have e1:wd_ c.par i=false:=by unfold wd_;rw[aon_ (by omega) hk hq];rfl
      rw[aeN_ hi e1]
      first|with_reducible refine ks [] (And.intro @z0_ @hq) ?_|refine kp (And.intro @z0_ @hq) ?_
      refine⟨_,(ke @z0_),⟨hwx,trivial⟩, ?_⟩
      rfl
    ·obtain rfl:k=i:=by omega
     have e1:wd_ c.par k=true:=by unfold wd_;rw[g2];rfl
     first|with_reducible refine ks [] @z0_ ?_|refine kp @z0_ ?_
     exact Again.mk (k+1) (by omega) ⟨by omega,fun i hi=>by
      rcases Nat.lt_succ_iff_lt_or_eq.1 hi with h|rfl
      ·exact h2 i h
      ·exact e1⟩ rfl rfl
  ·obtain rfl:i=c.par.length:=by omega
   rw[aa3_ h2,show decide (c.par.length≤4)=true from decide_eq_true (by omega),show decide (c.text.length≤64)=true from decide_eq_true (by omega)]
   first|with_reducible refine ks [] (And.intro @z0_ @ln) ?_|refine kp (And.intro @z0_ @ln) ?_
   refine⟨_,(ke @z0_),⟨hwx,trivial⟩, ?_⟩
   rfl
end Go.Proofs
end
section
open Go Go.Proofs Go.Sx
namespace Go.Proofs
set_option maxRecDepth 10000
set_option maxHeartbeats 4000000
set_option linter.unusedSimpArgs false
theorem ko_ {n:Nat} (h:n<1099511627776):zx_ (n:Int)=n:=by unfold zx_ maxN;omega
theorem vg_: ∀ (k:Nat) (n:Int) (w:World),zx_ n≤k→
  Rets Tryz.prog 96 #[vi n] w (fun v D=>v=vs (jb_ (zx_ n))∧D= []):=by
 intro k
 induction k using Nat.strongRecOn with
 |ind k ih=>
  intro n w hk
  refine Rets.enterV Tryz.func96 rfl (rs:= [.tmp 2]) Tryz.results96 Tryz.ntmps96 ?_
  refine kf ?_
  by_cases h0:n<0
  ·have d1:decide (n<0)=true:=decide_eq_true h0
   have e:zx_ n=0:=by unfold zx_ maxN;omega
   rw[e]
   first|with_reducible refine ks [] @d1 ?_|refine kp @d1 ?_
   refine Ow.buildSlice (e:=5) #[v8 0] rfl rfl (by kernel_rfl) fun b1 hb1 hw1=> ?_
   rw[show(#[v8 0]:Array Value)=a8 [0] from rfl]
   refine ko @Nat.add_zero ?_
   first|with_reducible refine ks [] @Nat.add_zero ?_|refine kp @Nat.add_zero ?_
   refine⟨_,(ke @Nat.add_zero),⟨hw1,trivial⟩, ?_⟩
   rw[qw_ (by omega)];rfl
  ·have d1:decide (n<0)=false:=decide_eq_false h0
   generalize hm:zx_ n=m at hk ⊢
   have hm2:m≤1099511627775:=by unfold zx_ maxN at hm;omega
   by_cases h1:n>1099511627775
   ·have d2:decide (1099511627775<n)=true:=decide_eq_true h1
    have e: (1099511627775:Int)=(m:Int):=by unfold zx_ maxN at hm;omega
    first|with_reducible refine ks [5] (And.intro @d1 @d2) ?_|refine kp (And.intro @d1 @d2) ?_
    rw[e]
    by_cases h2:m<128
    ·have d3:decide ((m:Int)<128)=true:=decide_eq_true (by omega)
     rw[qw_ h2]
     first|with_reducible refine ks [] (And.intro @d1 @d3) ?_|refine kp (And.intro @d1 @d3) ?_
     generalize hc:UInt8.ofInt (m:Int)=c
     have hc':c=UInt8.ofNat m:=by rw[←hc,vL_]
     refine Ow.buildSlice (e:=5) #[v8 c] rfl rfl (by kernel_rfl) fun b1 hb1 hw1=> ?_
     rw[show(#[v8 c]:Array Value)=a8 [c] from rfl]
     have e4:List.take 1 (List.drop 0 [c])= [c]:=rfl
     refine ko @e4 ?_
     first|with_reducible refine ks [] @Nat.add_zero ?_|refine kp @Nat.add_zero ?_
     refine⟨_,(ke @Nat.add_zero),⟨hw1,trivial⟩, ?_⟩
     rw[hc'];rfl
    ·have d3:decide ((m:Int)<128)=false:=decide_eq_false (by omega)
     have ih2:=fun w=>ih (m / 128) (by omega) ((m / 128:Nat):Int) w (by rw[ko_ (by omega)];omega)
     rw[ko_ (by omega)] at ih2
     have hl2:=j6_ 6 (m / 128) (by omega) (by omega)
     rw[kA_ h2]
     first|with_reducible refine ks [] (And.intro @d1 @d3) ?_|refine kp (And.intro @d1 @d3) ?_
     refine Cw.regionK 11 (by kernel_rfl) (by kernel_rfl) ?_
     refine OwK.run [0,1,2,3,6,7] [true,true,true,true,false,false,true,true,false,false,false] 5 rfl (by kernel_rfl) (by kernel_rfl) fun k hk=> ?_
     refine kya ?_
     simp(disch:=(first|assumption|omega| (simp only[wr_,we_,UInt64.reduceToNat];try omega))) only[↓Sx.S0,Sx.S1,Tryz.fx,Nat.reduceAdd,Nat.reducePow,Int.reducePow,Nat.reduceBEq, ↓reduceIte,UInt8.reduceToNat,UInt16.reduceToNat,UInt32.reduceToNat,UInt64.reduceToNat,Int.reduceToNat]
     (with_reducible refine hk _ _ _ ?_);clear hk k
     generalize hc:UInt8.ofInt ((m:Int)%128+128)=c
     have hc':c=UInt8.ofNat (m%128+128):=by rw[←hc,show((m:Int)%128+128)=((m%128+128:Nat):Int) from rfl,vL_]
     rw[show(m:Int) / 128=((m / 128:Nat):Int) from rfl]
     refine OwK.two 4 8 _ _ (by kernel_rfl) rfl rfl ?_ ?_
     ·refine Ow.buildSlice (e:=5) #[v8 c] rfl rfl (by kernel_rfl) fun b1 hb1 hw1=> ?_
      rw[show(#[v8 c]:Array Value)=a8 [c] from rfl]
      have e4:List.take 1 (List.drop 0 [c])= [c]:=rfl
      refine ko @e4 ?_
      try with_reducible refine Ow.nil ?_
      refine OwK.two 5 8 _ _ (by kernel_rfl) rfl rfl ?_ ?_
      ·refine ko @e4 ?_
       refine OwK.rest [8,9,10] [4,8] rfl (by kernel_rfl) (by kernel_rfl) ?_
       refine kya ?_
       refine Ow.callFV rfl Tryz.call96 (fun w' hw'=>ih2 w') ?_
       refine ko @Nat.add_zero ?_
       first|with_reducible refine ks [] @Nat.add_zero ?_|refine kp @Nat.add_zero ?_
       refine⟨_,(ke @Nat.add_zero),⟨hw1,trivial⟩, ?_⟩
       rw[hc'];rfl
      ·refine Ow.callFV rfl Tryz.call96 (fun w' hw'=>ih2 w') ?_
       refine ko @Nat.add_zero ?_
       refine OwK.rest [5,9,10] [4,8] rfl (by kernel_rfl) (by kernel_rfl) ?_
       refine kya ?_
       refine ko @e4 ?_
       first|with_reducible refine ks [] @Nat.add_zero ?_|refine kp @Nat.add_zero ?_
       refine⟨_,(ke @Nat.add_zero),⟨hw1,trivial⟩, ?_⟩
       rw[hc'];rfl
     ·refine Ow.callFV rfl Tryz.call96 (fun w' hw'=>ih2 w') ?_
      refine ko @Nat.add_zero ?_
      refine OwK.rest [4,5,9,10] [4,8] rfl (by kernel_rfl) (by kernel_rfl) ?_
      refine kya ?_
      refine Ow.buildSlice (e:=5) #[v8 c] rfl rfl (by kernel_rfl) fun b1 hb1 hw1=> ?_
      rw[show(#[v8 c]:Array Value)=a8 [c] from rfl]
      have e4:List.take 1 (List.drop 0 [c])= [c]:=rfl
      refine ko @e4 ?_
      first|with_reducible refine ks [] @Nat.add_zero ?_|refine kp @Nat.add_zero ?_
      refine⟨_,(ke @Nat.add_zero),⟨hw1,trivial⟩, ?_⟩
      rw[hc'];rfl
   ·have d2:decide (1099511627775<n)=false:=decide_eq_false h1
    have e:n=(m:Int):=by unfold zx_ maxN at hm;omega
    subst e
    first|with_reducible refine ks [5] (And.intro @d1 @d2) ?_|refine kp (And.intro @d1 @d2) ?_
    by_cases h2:m<128
    ·have d3:decide ((m:Int)<128)=true:=decide_eq_true (by omega)
     rw[qw_ h2]
     first|with_reducible refine ks [] (And.intro @d1 @d3) ?_|refine kp (And.intro @d1 @d3) ?_
     generalize hc:UInt8.ofInt (m:Int)=c
     have hc':c=UInt8.ofNat m:=by rw[←hc,vL_]
     refine Ow.buildSlice (e:=5) #[v8 c] rfl rfl (by kernel_rfl) fun b1 hb1 hw1=> ?_
     rw[show(#[v8 c]:Array Value)=a8 [c] from rfl]
     have e4:List.take 1 (List.drop 0 [c])= [c]:=rfl
     refine ko @e4 ?_
     first|with_reducible refine ks [] @Nat.add_zero ?_|refine kp @Nat.add_zero ?_
     refine⟨_,(ke @Nat.add_zero),⟨hw1,trivial⟩, ?_⟩
     rw[hc'];rfl
    ·have d3:decide ((m:Int)<128)=false:=decide_eq_false (by omega)
     have ih2:=fun w=>ih (m / 128) (by omega) ((m / 128:Nat):Int) w (by rw[ko_ (by omega)];omega)
     rw[ko_ (by omega)] at ih2
     have hl2:=j6_ 6 (m / 128) (by omega) (by omega)
     rw[kA_ h2]
     first|with_reducible refine ks [] (And.intro @d1 @d3) ?_|refine kp (And.intro @d1 @d3) ?_
     refine Cw.regionK 11 (by kernel_rfl) (by kernel_rfl) ?_
     refine OwK.run [0,1,2,3,6,7] [true,true,true,true,false,false,true,true,false,false,false] 5 rfl (by kernel_rfl) (by kernel_rfl) fun k hk=> ?_
     refine kya ?_
     simp(disch:=(first|assumption|omega| (simp only[wr_,we_,UInt64.reduceToNat];try omega))) only[↓Sx.S0,Sx.S1,Tryz.fx,Nat.reduceAdd,Nat.reducePow,Int.reducePow,Nat.reduceBEq, ↓reduceIte,UInt8.reduceToNat,UInt16.reduceToNat,UInt32.reduceToNat,UInt64.reduceToNat,Int.reduceToNat]
     (with_reducible refine hk _ _ _ ?_);clear hk k
     generalize hc:UInt8.ofInt ((m:Int)%128+128)=c
     have hc':c=UInt8.ofNat (m%128+128):=by rw[←hc,show((m:Int)%128+128)=((m%128+128:Nat):Int) from rfl,vL_]
     rw[show(m:Int) / 128=((m / 128:Nat):Int) from rfl]
     refine OwK.two 4 8 _ _ (by kernel_rfl) rfl rfl ?_ ?_
     ·refine Ow.buildSlice (e:=5) #[v8 c] rfl rfl (by kernel_rfl) fun b1 hb1 hw1=> ?_
      rw[show(#[v8 c]:Array Value)=a8 [c] from rfl]
      have e4:List.take 1 (List.drop 0 [c])= [c]:=rfl
      refine ko @e4 ?_
      try with_reducible refine Ow.nil ?_
      refine OwK.two 5 8 _ _ (by kernel_rfl) rfl rfl ?_ ?_
      ·refine ko @e4 ?_
       refine OwK.rest [8,9,10] [4,8] rfl (by kernel_rfl) (by kernel_rfl) ?_
       refine kya ?_
       refine Ow.callFV rfl Tryz.call96 (fun w' hw'=>ih2 w') ?_
       refine ko @Nat.add_zero ?_
       first|with_reducible refine ks [] @Nat.add_zero ?_|refine kp @Nat.add_zero ?_
       refine⟨_,(ke @Nat.add_zero),⟨hw1,trivial⟩, ?_⟩
       rw[hc'];rfl
      ·refine Ow.callFV rfl Tryz.call96 (fun w' hw'=>ih2 w') ?_
       refine ko @Nat.add_zero ?_
       refine OwK.rest [5,9,10] [4,8] rfl (by kernel_rfl) (by kernel_rfl) ?_
       refine kya ?_
       refine ko @e4 ?_
       first|with_reducible refine ks [] @Nat.add_zero ?_|refine kp @Nat.add_zero ?_
       refine⟨_,(ke @Nat.add_zero),⟨hw1,trivial⟩, ?_⟩
       rw[hc'];rfl
     ·refine Ow.callFV rfl Tryz.call96 (fun w' hw'=>ih2 w') ?_
      refine ko @Nat.add_zero ?_
      refine OwK.rest [4,5,9,10] [4,8] rfl (by kernel_rfl) (by kernel_rfl) ?_
      refine kya ?_
      refine Ow.buildSlice (e:=5) #[v8 c] rfl rfl (by kernel_rfl) fun b1 hb1 hw1=> ?_
      rw[show(#[v8 c]:Array Value)=a8 [c] from rfl]
      have e4:List.take 1 (List.drop 0 [c])= [c]:=rfl
      refine ko @e4 ?_
      first|with_reducible refine ks [] @Nat.add_zero ?_|refine kp @Nat.add_zero ?_
      refine⟨_,(ke @Nat.add_zero),⟨hw1,trivial⟩, ?_⟩
      rw[hc'];rfl
theorem x9_ (s:List UInt8) (w:World) (hs:s.length<1099511627776):
  Rets Tryz.prog 66 #[vs s] w (fun v D=>v=vs (jN_ s)∧D= []):=by
 have hnl:=zp_ (s.length:Int)
 refine Rets.enterV Tryz.func66 rfl (rs:= [.tmp 2]) Tryz.results66 Tryz.ntmps66 ?_
 refine kf ?_
 first|with_reducible refine ks [] @Nat.add_zero ?_|refine kp @Nat.add_zero ?_
 refine Ow.callFV rfl Tryz.call96 (fun w' hw'=>vg_ _ _ w' (Nat.le_refl _)) ?_
 refine ko @Nat.add_zero ?_
 first|with_reducible refine ks [] @Nat.add_zero ?_|refine kp @Nat.add_zero ?_
 refine⟨_,(ke @Nat.add_zero),trivial, ?_⟩
 rfl
theorem VW_ (x:IdL) (w:World):
  Rets Tryz.prog 97 #[.agg (a8 x.l)] w (fun v D=>v=vs x.l∧D= []):=by
 have hxl:=x.h
 refine Rets.enterV Tryz.func97 rfl (rs:= [.tmp 2]) Tryz.results97 Tryz.ntmps97 ?_
 refine kf ?_
 first|with_reducible refine ks [] @Nat.add_zero ?_|refine kp @Nat.add_zero ?_
 refine Ow.box rfl rfl fun bx hbx hwx=> ?_
 simp only[zD_,zH_,zG_,za_,List.nil_append,List.cons_append]
 refine Ow.go rfl ?_
 simp(disch:=(first|assumption|omega| (simp only[wr_,we_,UInt64.reduceToNat];try omega))) only[↓Sx.S0,Sx.S1,Tryz.fx,Nat.reduceAdd,Nat.reducePow,Int.reducePow,Nat.reduceBEq, ↓reduceIte,UInt8.reduceToNat,UInt16.reduceToNat,UInt32.reduceToNat,UInt64.reduceToNat,Int.reduceToNat]
 have e4:List.take 32 (List.drop 0 x.l)=x.l:=by rw[List.drop_zero,List.take_of_length_le (by omega)]
 first|with_reducible refine ks [] @e4 ?_|refine kp @e4 ?_
 refine⟨_,(ke @Nat.add_zero),⟨hwx,trivial⟩, ?_⟩
 rfl
end Go.Proofs
end
section
open Go Go.Proofs Go.Sx Go.StP
namespace Go.Proofs
set_option maxRecDepth 10000
set_option maxHeartbeats 400000
set_option linter.unusedSimpArgs false
set_option linter.defProp false
def entB (e:EntL):List UInt8:=(jb_ (zx_ e.kind)++jN_ e.name)++e.id.l
def xZ_ (l:List EntL):List UInt8:=(l.map entB).flatten
theorem Kd_ {l:List EntL} {k:Nat} (hk:k<l.length):xZ_ (l.take (k+1))=xZ_ (l.take k)++entB (l.getD k ju_):=by
 unfold xZ_
 rw[List.take_succ_eq_append_getElem hk,List.map_append,List.flatten_append,List.getD_eq_getElem?_getD,List.getElem?_eq_getElem hk]
 simp
theorem adp_ {l:List EntL} {k:Nat} (hk:k<l.length):xZ_ (l.take (k+1))=xZ_ (l.take k)++jb_ (zx_ (l.getD k ju_).kind)++jN_ (l.getD k ju_).name++ (l.getD k ju_).id.l:=by
 rw[Kd_ hk];simp only[entB,List.append_assoc]
theorem km_ {s:List UInt8} (h:s.length<1099511627776): (jN_ s).length<1099511627783:=by
 have:=zp_ (s.length:Int)
 unfold jN_;rw[List.length_append];omega
theorem aas_ {l:List EntL} (hsh:WR_ l): ∀k,k≤l.length→(xZ_ (l.take k)).length≤k*1099511627830
 |0,_=>by simp[xZ_]
 |k+1,hk=>by
  have ih:=aas_ hsh k (by omega)
  have h1:=km_ (hsh k hk)
  have h2:=zp_ (l.getD k ju_).kind
  have h3:=(l.getD k ju_).id.h
  rw[Kd_ hk]
  unfold entB
  simp only[List.length_append]
  omega
theorem KY_ (v:Value) (l:List EntL) (w:World) (hv:EntS w v l) (hl:l.length<1000000) (hsh:WR_ l):
  Rets Tryz.prog 61 #[v] w (fun v' D=>v'=vs (xZ_ l)∧D= []):=by
 obtain⟨b,off,arr,E,fz,hr⟩:=hv.row
 have ln:=hv.len
 refine Rets.enterV Tryz.func61 rfl (rs:= [.tmp 2]) Tryz.results61 Tryz.ntmps61 ?_
 refine kf ?_
 first|with_reducible refine ks [] (And.intro @zZ_ @ln) ?_|refine kp (And.intro @zZ_ @ln) ?_
 refine Cw.loopG (G:=Nat) [5,6,7,8,11,12,13,14,15,16,17,18,19,20,21,22,23,24,25,26,27,28,29,30,31,32,3,9,10,4] (fun g=> [(3,vs (xZ_ (l.take g))),(4,vi g)]) (fun g=> []) (fun g=>g≤l.length) (fun g=>l.length - g) 0 rfl rfl ?_ ?_
 ·exact Nat.zero_le _
 ·intro k jk hk
  refine kv ?_
  have h1:k≤l.length:=hk
  clear hk
  by_cases hk:k<l.length
  ·have h0:0<l.length:=by omega
   have hbl:=hr.lt h0
   have r2:=hr.has h0
   have i2:=hr.idx true k hk
   have m0: ∀n,zl_ (some (false,n)) (some (.cells arr E fz)) (off+k*34)=some (vs (l.getD k ju_).name):=fun n=>wM_ hr hk n
   have m1: ∀n,zl_ (some (false,n)) (some (.cells arr E fz)) (off+k*34+1)=some (vi (l.getD k ju_).kind):=fun n=>ae4_ hr hk n
   have m2:zl_ (some (true,32)) (some (.cells arr E fz)) (off+k*34+2)=some (.agg (a8 (l.getD k ju_).id.l)):=akT_ hr hk
   have hs:=hsh k hk
   have t1:=aas_ hsh k h1
   have t2:=km_ hs
   have t3:=zp_ (l.getD k ju_).kind
   have t4:=(l.getD k ju_).id.h
   first|with_reducible refine ks [] (And.intro @zZ_ @ln) ?_|refine kp (And.intro @zZ_ @ln) ?_
   refine Cw.regionS [b] [0,1,2,3,4,8,9,10,11,15,16,17,18,5,12,19,6,7,13,14,20,21,22] [] (by kernel_rfl) (by kernel_rfl) (by kernel_rfl) ?_
   refine kya ?_
   refine kq (And.intro @zZ_ (And.intro @r2 (And.intro @i2 (And.intro @m0 (And.intro @m1 (@m2)))))) ?_
   refine Ow.callFV rfl Tryz.call96 (fun w' hw'=>vg_ _ _ w' (Nat.le_refl _)) ?_
   refine kq (And.intro @zZ_ (And.intro @r2 (And.intro @i2 (And.intro @m0 (And.intro @m1 (@m2)))))) ?_
   refine Ow.callFV rfl Tryz.call66 (fun w' hw'=>x9_ _ w' hs) ?_
   refine kq (And.intro @zZ_ (And.intro @r2 (And.intro @i2 (And.intro @m0 (And.intro @m1 (@m2)))))) ?_
   refine Ow.callFV rfl Tryz.call97 (fun w' hw'=>VW_ _ w') ?_
   refine kq (And.intro @zZ_ (And.intro @r2 (And.intro @i2 (And.intro @m0 (And.intro @m1 (@m2)))))) ?_
   exact Again.mk (k+1) (by omega) (by omega) rfl (by rw[adp_ hk];rfl)
  ·obtain rfl:k=l.length:=by omega
   first|with_reducible refine ks [] (And.intro @zZ_ @ln) ?_|refine kp (And.intro @zZ_ @ln) ?_
   refine⟨_,(ke @zZ_),trivial, ?_⟩
   rw[List.take_length];rfl
def idsB (l:List IdL):List UInt8:=(l.map IdL.l).flatten
theorem ahn_ {l:List IdL} {k:Nat} (hk:k<l.length):idsB (l.take (k+1))=idsB (l.take k)++ (l.getD k id0).l:=by
 unfold idsB
 rw[List.take_succ_eq_append_getElem hk,List.map_append,List.flatten_append,List.getD_eq_getElem?_getD,List.getElem?_eq_getElem hk]
 simp
theorem aej_: ∀ (l:List IdL),(idsB l).length=l.length*32
 | []=>rfl
 |x::r=>by
  have h:=aej_ r
  have:=x.h
  unfold idsB at h ⊢
  rw[List.map_cons,List.flatten_cons,List.length_append,h,List.length_cons]
  omega
def ab6_ (c:ComL):List UInt8:=c.tree.l++jb_ (zx_ c.par.length)
def comB (c:ComL):List UInt8:=ab6_ c++idsB c.par++jN_ c.text
set_option linter.defProp false
theorem JG_ (v:Value) (c:ComL) (w:World) (hv:ComS w v c) (hl:c.par.length<1000000) (ht:c.text.length<1099511627776):
  Rets Tryz.prog 63 #[v] w (fun v' D=>v'=vs (comB c)∧D= []):=by
 obtain⟨p,rfl,hp⟩:=hv
 obtain⟨b,off,arr,E,fz,hr⟩:=hp.row
 have ln:=hp.len
 have t2:=km_ ht
 have t3:=zp_ (c.par.length:Int)
 have t4:=c.tree.h
 have t5: (ab6_ c).length≤38:=by unfold ab6_;rw[List.length_append];omega
 refine Rets.enterV Tryz.func63 rfl (rs:= [.tmp 2]) Tryz.results63 Tryz.ntmps63 ?_
 refine kf ?_
 first|with_reducible refine ks [] @z0_ ?_|refine kp @z0_ ?_
 refine Ow.box rfl rfl fun bx hbx hwx=> ?_
 simp only[zD_,zH_,zG_,za_,List.nil_append,List.cons_append]
 refine Ow.go rfl ?_
 simp(disch:=(first|assumption|omega| (simp only[wr_,we_,UInt64.reduceToNat];try omega))) only[↓Sx.S0,Sx.S1,Tryz.fx,z0_,Nat.reduceAdd,Nat.reducePow,Int.reducePow,Nat.reduceBEq, ↓reduceIte,UInt8.reduceToNat,UInt16.reduceToNat,UInt32.reduceToNat,UInt64.reduceToNat,Int.reduceToNat]
 first|with_reducible refine ks [] (And.intro @z0_ @ln) ?_|refine kp (And.intro @z0_ @ln) ?_
 refine Cw.regionS [bx] [0,3,1,4,5,2,6,7,8] [] (by kernel_rfl) (by kernel_rfl) (by kernel_rfl) ?_
 refine kya ?_
 refine kq (And.intro @z0_ @ln) ?_
 refine Ow.callFV rfl Tryz.call97 (fun w' hw'=>VW_ _ w') ?_
 refine kq (And.intro @z0_ @ln) ?_
 refine Ow.callFV rfl Tryz.call96 (fun w' hw'=>vg_ _ _ w' (Nat.le_refl _)) ?_
 refine kq (And.intro @z0_ @ln) ?_
 rw[show c.tree.l++jb_ (zx_ c.par.length)=ab6_ c++idsB (c.par.take 0) by simp[ab6_,idsB]]
 refine Cw.loopG (G:=Nat) [13,14,15,16,17,20,21,22,23,24,25,26,27,3,18,19,4] (fun g=> [(3,vs (ab6_ c++idsB (c.par.take g))),(4,vi g)]) (fun g=> [(bx, .cells (qY_ c.tree p c.text).toArray 76 (0,0))]) (fun g=>g≤c.par.length) (fun g=>c.par.length - g) 0 rfl rfl ?_ ?_
 ·exact Nat.zero_le _
 ·intro k jk hk
  refine kv ?_
  have h1:k≤c.par.length:=hk
  clear hk
  have t6:=aej_ (c.par.take k)
  rw[List.length_take,Nat.min_eq_left h1] at t6
  by_cases hk:k<c.par.length
  ·have h0:0<c.par.length:=by omega
   have hbl:=hr.lt h0
   have hnb:bx≠b:=by omega
   have r2:=hr.has h0
   have i2:=hr.idx true k hk
   have l2:=aay_ hr hk
   have hxl:=(c.par.getD k id0).h
   first|with_reducible refine ks [] (And.intro @z0_ (And.intro @ln (And.intro @r2 (And.intro @i2 (@l2))))) ?_|refine kp (And.intro @z0_ (And.intro @ln (And.intro @r2 (And.intro @i2 (@l2))))) ?_
   refine Ow.callFV rfl Tryz.call97 (fun w' hw'=>VW_ _ w') ?_
   refine ko (And.intro @z0_ (And.intro @ln (And.intro @r2 (And.intro @i2 (@l2))))) ?_
   exact Again.mk (k+1) (by omega) (by omega) rfl (by rw[ahn_ hk,←List.append_assoc];rfl)
  ·obtain rfl:k=c.par.length:=by omega
   rw[List.take_length]
   rw[List.take_length] at t6
   first|with_reducible refine ks [] (And.intro @z0_ @ln) ?_|refine kp (And.intro @z0_ @ln) ?_
   refine Ow.callFV rfl Tryz.call66 (fun w' hw'=>x9_ _ w' ht) ?_
   refine ko @z0_ ?_
   refine⟨_,(ke @z0_),⟨hwx,trivial⟩, ?_⟩
   rfl
end Go.Proofs
end
section
open Go Go.Proofs Go.Sx Go.StP
namespace Go.Proofs
set_option maxRecDepth 10000
set_option maxHeartbeats 400000
set_option linter.unusedSimpArgs false
instance:DecidableEq EntL:=fun a b=>if h:a.name=b.name∧a.kind=b.kind∧a.id.l=b.id.l then .isTrue (by cases a;cases b;simp only at h;obtain⟨rfl,rfl,h3⟩:=h;rw[IdL.ext' h3]) else .isFalse (fun e=>h (by rw[e];exact⟨rfl,rfl,rfl⟩))
theorem EntL.ext' {a b:EntL} (h: (a.name==b.name&&a.kind==b.kind&&a.id.l==b.id.l)=true):a=b:=by
 simp only[Bool.and_eq_true,beq_iff_eq] at h
 cases a;cases b;simp only at h;obtain⟨⟨rfl,rfl⟩,h3⟩:=h;rw[IdL.ext' h3]
set_option linter.defProp false
end Go.Proofs
end
namespace Go.Sx
open Go
section
variable {α:Type} {m:Nat} {enc:α→List Value} {z:α} {w:World} {v:Value} {l:List α}
end
section
variable {P:Program} {w0:World} {f:Fr} {L:zb_} {N:Fr→zb_→Prop} {ops:Array Oper} {rest:List Oper} {md:Md} {d:Option Tmp} {ty:TypeId} {ps:String} {af:Array Edge} {g:Option (Nat×Bool)}
theorem Ow.callFnX {x y:Operand} {b:Value} {ts:Array TypeId} {k:FuncId} {X Y:zb_} {S:Value→zb_→Prop} {md':Md} (hL:L=X++Y) (he:md.turn=some md')
  (hs:zg_ ops f ⟨d, .call ⟨.value x, #[y],ts⟩,ty,ps,af,g⟩=false)
  (hx:ev f x= .func (.func k) #[] #[]) (hy:ev f y=b)
  (hk: ∀a w,(callFunc k a).run P w= .ok (.enter k a) w)
  (hc: ∀w,Hp w0 L w→(∀p,p∈X→w.heap[p.1]? =some p.2)→(keys X).Nodup→Rets P k #[b] w (XS w X S))
  (hn: ∀v D,Came w0 L X D→S v D→Ow P w0 ops md' rest (qd_ f d v) (D++Y) N):
  Ow P w0 ops md (⟨d, .call ⟨.value x, #[y],ts⟩,ty,ps,af,g⟩::rest) f L N:=by
 subst hL
 have hnd: ∀w,Hp w0 (X++Y) w→(keys X).Nodup∧ ∀c,c∈keys Y→c∉keys X:=by
  intro w hw
  have:=hw.nodup
  rw[ze_,List.nodup_append] at this
  exact⟨this.1,fun c hc hx=>this.2.2 c hx c hc rfl⟩
 refine Ow.call (S:=fun B v D=>((∀c,c∈keys D→c∈keys X∨B≤c)∧(∀c,c∈keys X→c∈keys D)∧S v D)∧ ∃w,Hp w0 (X++Y) w∧w.heap.size=B) he hs hx hk (fun w hw=> ?_) ?_
 ·show Rets P k (#[]++ #[y].map (ev f)++ #[]) w _
  rw[show(#[]++ #[y].map (ev f)++ #[]:Array Value)= #[b] by simp[hy]]
  refine Calls.mono (hc w hw (fun p hp=>hw.has _ _ (List.mem_append_left _ hp)) (hnd w hw).1) ?_
  rintro e w' ⟨v,D,he,hp,hS⟩
  exact⟨v,D,he,hp,⟨hS.1.new,hS.1.all,hS.2⟩,w,hw,rfl⟩
 ·rintro B v D hab hB ⟨⟨h1,h2,h3⟩,w1,hw1,hwB⟩
  refine⟨D++Y, ?_,hn v D ⟨fun c hc=>(h1 c hc).imp id fun h=>⟨z2_ fun b hb=>by have:=hw1.lt hb;omega,by have:=hw1.size;omega⟩,h2⟩ h3⟩
  intro w w' hwb h k
  have ht:=h.trans k
  have hY: ∀c,c∈keys Y→c∉keys D:=by
   intro c hc hd
   rcases h1 c hd with hx|hx
   ·exact(hnd w h).2 c hc hx
   ·have:=h.lt (b:=c) (by rw[ze_];exact List.mem_append_right _ hc)
    omega
  have e1:X.filter (fun p=> !(keys D).contains p.1)= []:=by
   rw[List.filter_eq_nil_iff]
   intro p hp
   have:=h2 p.1 (List.mem_map.2 ⟨p,hp,rfl⟩)
   simpa using this
  have e2:Y.filter (fun p=> !(keys D).contains p.1)=Y:=je_ hY
  rw[List.filter_append,e1,e2,List.nil_append] at ht
  refine ht.same (fun p=>by simp[or_comm]) ?_
  have:=ht.nodup
  rw[ze_] at this ⊢
  exact(List.perm_append_comm.nodup_iff).1 this
end
section
variable {P:Program} {w0:World} {f:Fr} {L:zb_} {K:xp_}
theorem Cw.world {c:Code} (h: ∀w,Hp w0 L w→Cw P w0 c f L K):Cw P w0 c f L K:=fun w hw=>h w hw w hw
theorem Gr.read {E:TypeId} {m n:Nat} {v:Value} {cs:List Value} (h:Gr L E m v n cs) {b:Nat} (hb:slB v=some b) {w:World} (hw:Hp w0 L w) {o:Obj} (ho:w.heap[b]? =some o):zk_ w0 L b=some o:=by
 obtain⟨a,ha⟩:=h.at_ hb
 rw[hw.has _ _ (zw_ ha)] at ho
 rw[zt_ ha];exact ho
end
end Go.Sx
section
open Go Go.Proofs Go.Sx Go.StP
namespace Go.Proofs
set_option maxRecDepth 10000
set_option maxHeartbeats 400000
set_option linter.unusedSimpArgs false
set_option linter.defProp false
end Go.Proofs
end
section
open Go Go.Proofs Go.Sx Go.StP
namespace Go.Proofs
set_option maxRecDepth 10000
set_option maxHeartbeats 400000
set_option linter.unusedSimpArgs false
def vU_ (l:List UInt8):IdL:=if h:l.length=32 then⟨l,h⟩ else id0
theorem ky_ {l:List UInt8} (h:l.length=32): (vU_ l).l=l:=by unfold vU_;rw[dif_pos h]
theorem wm_ (s:List UInt8) (a:Nat) (e:Int): (idR s a e).1.length=32:=by
 unfold idR
 simp only
 split
 ·assumption
 ·simp[z32]
theorem Kl_ {s:List UInt8} {a:Nat} {e:Int} (ha:a≤s.length):a≤ (idR s a e).2.1∧(idR s a e).2.1≤s.length:=kw_ ha
theorem xS_ {s:List UInt8} {a:Nat} {e most:Int} (ha:a≤s.length):a≤ (zS_ s a e most).2.1∧(zS_ s a e most).2.1≤s.length:=by
 have hp:=qh_ (e:=e) (most:=most) ha
 have hq:=kw_ (e:=(zs_ s a e most).2.2) (n:=(zs_ s a e most).1) hp.2
 unfold zS_
 simp only
 split
 ·exact⟨Nat.le_refl _,ha⟩
 ·exact⟨by omega,hq.2⟩
theorem Qy_ (s:List UInt8) (a:Nat) (e most:Int): (zS_ s a e most).1.length≤s.length:=by
 have: ∀ (b:Nat) (e n:Int),(jp_ s b e n).1.length≤s.length:=by
  intro b e n
  unfold jp_
  split
  ·simp
  ·split
   ·simp
   ·split
    ·simp
    ·simp only[List.length_take,List.length_drop];omega
 unfold zS_
 simp only
 split
 ·simp
 ·exact this _ _ _
theorem Ky_ {s:List UInt8} {a:Nat} {e n:Int} (he:e≠0): (jp_ s a e n).2=(a,e):=by unfold jp_;rw[if_pos he]
theorem JD_ {s:List UInt8} {a:Nat} {e most:Int} (he:e≠0): (zs_ s a e most).2=(a,e):=by unfold zs_;rw[if_pos he]
theorem VI_ {s:List UInt8} {a:Nat} {e most:Int} (he:e≠0): (zS_ s a e most).2=(a,e):=by
 unfold zS_
 simp only[JD_ he,Ky_ he]
 rw[if_pos he]
theorem ah7_ {s:List UInt8} {a:Nat} {e:Int} (he:e≠0): (idR s a e).2=(a,e):=by unfold idR;simp only[Ky_ he]
theorem ajf_ {s:List UInt8} {a:Nat} {e n:Int} (h:e≠5): (jp_ s a e n).2.2≠5:=by
 unfold jp_
 split
 ·exact h
 ·split
  ·show(2:Int)≠5;decide
  ·split
   ·show(3:Int)≠5;decide
   ·show(0:Int)≠5;decide
theorem anq_ (most:Int): ∀ (l:List UInt8) (k n x:Nat),z5_ most l k n= .error x→x≠5:=by
 intro l
 induction l with
 |nil=>intro k n x h;unfold z5_ at h;cases h;decide
 |cons c r ih=>
  intro k n x h
  unfold z5_ at h
  split at h
  ·split at h
   ·cases h;decide
   ·exact ih _ _ _ h
  ·split at h
   ·cases h;decide
   ·split at h
    ·cases h
    ·cases h;decide
theorem aiP_ (most:Int): ∀ (l:List UInt8) (k n:Nat),z5_ most l k n≠ .error 0:=by
 intro l
 induction l with
 |nil=>intro k n h;unfold z5_ at h;cases h
 |cons c r ih=>
  intro k n h
  unfold z5_ at h
  split at h
  ·split at h
   ·cases h
   ·exact ih _ _ h
  ·split at h
   ·cases h
   ·split at h
    ·cases h
    ·cases h
theorem ag8_ {s:List UInt8} {a:Nat} {e most:Int} (h:e≠5): (zs_ s a e most).2.2≠5:=by
 unfold zs_
 split
 ·exact h
 ·split
  ·show(0:Int)≠5;decide
  ·rename_i x hx
   have:=anq_ _ _ _ _ _ hx
   show((x:Nat):Int)≠5
   omega
theorem anv_ {s:List UInt8} {a:Nat} {e most:Int} (h:e≠5): (zS_ s a e most).2.2≠5:=by
 unfold zS_
 simp only
 split
 ·exact ajf_ (ag8_ h)
 ·exact ajf_ (ag8_ h)
theorem aq8_ {s:List UInt8} {a:Nat} {e:Int} (h:e≠5): (idR s a e).2.2≠5:=by unfold idR;exact ajf_ h
theorem aiO_ {s:List UInt8} {a:Nat} {e most:Int} (h: (zs_ s a e most).2.2=0):a< (zs_ s a e most).2.1:=by
 unfold zs_ at h ⊢
 split
 ·rename_i he
  rw[if_pos he] at h
  exact absurd h he
 ·rename_i he
  rw[if_neg he] at h
  split
  ·rename_i n k hk
   have:=Vk_ _ _ _ _ _ _ hk
   show a<a+k
   omega
  ·rename_i x hx
   rw[hx] at h
   exfalso
   have:x=0:=by have: ((x:Nat):Int)=0:=h;omega
   subst this
   exact aiP_ _ _ _ _ hx
def J3_ (s:List UInt8) (a:Nat) (e:Int):EntL×Nat×Int:=
 let p:=zs_ s a e 2
 let q:=zS_ s p.2.1 p.2.2 32
 let i:=idR s q.2.1 q.2.2
 (⟨q.1,p.1,vU_ i.1⟩,i.2)
theorem ada_ {s:List UInt8} {a:Nat} {e:Int} (ha:a≤s.length):a≤ (J3_ s a e).2.1∧(J3_ s a e).2.1≤s.length:=by
 have h1:=qh_ (e:=e) (most:=2) ha
 have h2:=xS_ (e:=(zs_ s a e 2).2.2) (most:=32) h1.2
 have h3:=Kl_ (e:=(zS_ s (zs_ s a e 2).2.1 (zs_ s a e 2).2.2 32).2.2) h2.2
 unfold J3_
 exact⟨by simp only;omega,h3.2⟩
theorem apC_ {s:List UInt8} {a:Nat} {e:Int} (h:e≠5): (J3_ s a e).2.2≠5:=aq8_ (anv_ (ag8_ h))
theorem aha_ {s:List UInt8} {a:Nat} {e:Int} (ha:a≤s.length) (h: (J3_ s a e).2.2=0):a< (J3_ s a e).2.1:=by
 have h1:=qh_ (e:=e) (most:=2) ha
 have h2:=xS_ (e:=(zs_ s a e 2).2.2) (most:=32) h1.2
 have h3:=Kl_ (e:=(zS_ s (zs_ s a e 2).2.1 (zs_ s a e 2).2.2 32).2.2) h2.2
 unfold J3_ at h ⊢
 simp only at h ⊢
 have e2: (zS_ s (zs_ s a e 2).2.1 (zs_ s a e 2).2.2 32).2.2=0:=Decidable.byContradiction fun hn=>by rw[ah7_ hn] at h;exact hn h
 have e1: (zs_ s a e 2).2.2=0:=Decidable.byContradiction fun hn=>by rw[VI_ hn] at e2;exact hn e2
 have:=aiO_ e1
 omega
def xR_ (s:List UInt8):Nat→Nat→Int→List EntL→List EntL×Nat×Int
 |0,a,e,l=>(l,a,e)
 |n+1,a,e,l=>if e=0∧a<s.length then xR_ s n (J3_ s a e).2.1 (J3_ s a e).2.2 (l++ [(J3_ s a e).1]) else(l,a,e)
theorem QO_ {s:List UInt8} {n a:Nat} {e:Int} {l:List EntL} (h:e=0∧a<s.length):xR_ s (n+1) a e l=xR_ s n (J3_ s a e).2.1 (J3_ s a e).2.2 (l++ [(J3_ s a e).1]):=by rw[xR_,if_pos h]
theorem Ze_ {s:List UInt8} {n a:Nat} {e:Int} {l:List EntL} (h: ¬ (e=0∧a<s.length)):xR_ s n a e l=(l,a,e):=by
 cases n with
 |zero=>rfl
 |succ n=>rw[xR_,if_neg h]
def jC_ (s:List UInt8):List EntL×Nat×Int:=xR_ s (s.length+1) 0 0 []
structure EntsJ (s:List UInt8) (n a:Nat) (e:Int) (l:List EntL):Prop where
 go:jC_ s=xR_ s n a e l
 le:a≤s.length
 five:e≠5
 fuel:e=0→s.length<a+n
 cnt:l.length+n=s.length+1
 short: ∀i,i<l.length→(l.getD i ju_).name.length≤s.length
theorem EntsJ.init (s:List UInt8):EntsJ s (s.length+1) 0 0 []:=⟨rfl,Nat.zero_le _,by decide,fun _=>by omega,by simp,fun i hi=>by simp at hi⟩
theorem EntsJ.next {s:List UInt8} {n a:Nat} {e:Int} {l:List EntL} (h:EntsJ s n a e l) (hc:e=0∧a<s.length): ∃m,n=m+1∧EntsJ s m (J3_ s a e).2.1 (J3_ s a e).2.2 (l++ [(J3_ s a e).1]):=by
 have:=h.fuel hc.1
 obtain⟨m,rfl⟩: ∃m,n=m+1:=⟨n - 1,by omega⟩
 refine⟨m,rfl,h.go.trans (QO_ hc),(ada_ h.le).2,apC_ h.five,fun h0=> ?_, ?_,fun i hi=> ?_⟩
 ·have:=aha_ h.le h0;omega
 ·have:=h.cnt;simp only[List.length_append,List.length_cons,List.length_nil];omega
 ·by_cases hlt:i<l.length
  ·rw[kl_ hlt];exact h.short i hlt
  ·have:i=l.length:=by simp only[List.length_append,List.length_cons,List.length_nil] at hi;omega
   subst this
   rw[kg_ (Nat.le_refl _),Nat.sub_self]
   exact Qy_ _ _ _ _
theorem EntsJ.done {s:List UInt8} {n a:Nat} {e:Int} {l:List EntL} (h:EntsJ s n a e l) (hc: ¬ (e=0∧a<s.length)):jC_ s=(l,a,e):=h.go.trans (Ze_ hc)
theorem EntsJ.sh {s:List UInt8} {n a:Nat} {e:Int} {l:List EntL} (h:EntsJ s n a e l) (hs:s.length<1000000):WR_ l:=fun i hi=>by have:=h.short i hi;omega
end Go.Proofs
end
section
open Go Go.Proofs Go.Sx Go.StP
namespace Go.Proofs
set_option maxRecDepth 10000
set_option maxHeartbeats 400000
set_option linter.unusedSimpArgs false
theorem abF_:qR_ (x7_ Tryz.prog 120) (zI_ Tryz.prog 120) []=some (.agg (q5_ ju_).toArray):=by
 rw[show x7_ Tryz.prog 120=some [(0,1),(1,1),(2,32)] from id (by kernel_rfl),Va_];rfl
def abJ_ (s:List UInt8):Option (List EntL):=if(jC_ s).2.2=0∧xF_ (jC_ s).1=true∧xZ_ (jC_ s).1=s then some (jC_ s).1 else none
def ait_ (s:List UInt8) (v:Value) (D:zb_):Prop:=
 match abJ_ s with
 |some l=> ∃v1,v= .tuple #[v1, .bool true]∧Gr D 120 34 v1 l.length (l.map q5_).flatten
 |none=>v= .tuple #[.slice none 0 0, .bool false]
structure EnG where
 n:Nat
 a:Nat
 e:Int
 l:List EntL
 v:Value
 D:zb_
set_option linter.defProp false
def qW_:=And.intro (And.intro (And.intro (@vC_) (And.intro (@vK_) (@vR_))) (And.intro (@kf_) (And.intro (@kj_) (@Vi_)))) (And.intro (And.intro (@X1_) (And.intro (@XO_) (@Kq_))) (And.intro (And.intro (@vP_) (@vp_)) (And.intro (@zA_) (@zz_))))
theorem VP_ (s:List UInt8) (w:World) (hs:s.length<100000):
  Rets Tryz.prog 30 #[vs s] w (XS w [] (ait_ s)):=by
 refine Rets.enterX Tryz.func30 rfl (rs:= [.tmp 2, .tmp 3]) Tryz.results30 Tryz.ntmps30 (fun p hp=>by cases hp) (by simp[keys]) ?_
 refine kf ?_
 first|with_reducible refine ks [] @qW_ ?_|refine kp @qW_ ?_
 refine Ow.build ((.agg #[vs s,vi 0,vi 0])) rfl (by kernel_rfl) ?_
 refine ko @qW_ ?_
 refine Ow.box rfl rfl fun br hbr hwr=> ?_
 simp only[zD_,zH_,zG_,za_,List.nil_append]
 refine ko @qW_ ?_
 refine Cw.loopG (G:=EnG) [10,11,12,13,14,15,16,17,18,19,20,21,22,23,24,6,25,26,27,28,29,30,31,32,33,34,35,36,37,5] (fun q=> [(5,q.v)]) (fun q=>(br, .cells #[vs s,vi q.a,vi q.e] 118 (0,0))::q.D) (fun q=>EntsJ s q.n q.a q.e q.l∧New (br+1) q.D∧Gr q.D 120 34 q.v q.l.length (q.l.map q5_).flatten) (fun q=>q.n) ⟨s.length+1,0,0,[], .slice none 0 0,[]⟩ rfl rfl ?_ ?_
 ·exact⟨EntsJ.init s,trivial,Gr.nl⟩
 ·intro q jq hq
  refine kv ?_
  obtain⟨n,a,e,l,v,D⟩:=q
  simp only at hq ⊢
  obtain⟨hJ,hN,hG⟩:=hq
  have hle:=hJ.le
  by_cases hc:e=0∧a<s.length
  ·obtain⟨m,rfl,hJ'⟩:=hJ.next hc
   obtain⟨he,hlt⟩:=hc
   have d1: (e==0)=true:=by simp[he]
   have d2:decide ((a:Int)< (s.length:Int))=true:=decide_eq_true (by omega)
   have hp:=qh_ (e:=e) (most:=2) hle
   have hq:=xS_ (e:=(zs_ s a e 2).2.2) (most:=32) hp.2
   have heq:J3_ s a e=(⟨(zS_ s (zs_ s a e 2).2.1 (zs_ s a e 2).2.2 32).1,(zs_ s a e 2).1,vU_ (idR s (zS_ s (zs_ s a e 2).2.1 (zs_ s a e 2).2.2 32).2.1 (zS_ s (zs_ s a e 2).2.1 (zs_ s a e 2).2.2 32).2.2).1⟩,(idR s (zS_ s (zs_ s a e 2).2.1 (zs_ s a e 2).2.2 32).2.1 (zS_ s (zs_ s a e 2).2.1 (zs_ s a e 2).2.2 32).2.2).2):=rfl
   have hil:=wm_ s (zS_ s (zs_ s a e 2).2.1 (zs_ s a e 2).2.2 32).2.1 (zS_ s (zs_ s a e 2).2.1 (zs_ s a e 2).2.2 32).2.2
   first|with_reducible refine ks [] (And.intro @qW_ (And.intro @d1 (@d2))) ?_|refine kp (And.intro @qW_ (And.intro @d1 (@d2))) ?_
   refine Ow.build (.agg (q5_ ju_).toArray) rfl abF_ ?_
   refine ko @qW_ ?_
   refine Ow.alloc rfl rfl Va_ fun b6 hb6 hw6=> ?_
   simp only[za_,List.nil_append,List.cons_append]
   have hr6:br<b6:=zh_ hb6 (by simp[keys])
   refine Ow.permL (M:=(b6,Obj.cells (q5_ ju_).toArray 120 (0,0)):: (br, .cells #[vs s,vi a,vi e] 118 (0,0))::D) (by classical exact List.perm_iff_count.2 fun a=>by simp only[List.count_append,List.count_cons,List.count_nil]<;>omega) ?_
   refine ko @qW_ ?_
   refine Ow.callM rfl rfl Tryz.call56 (by simp[keys]) (fun w' hw'=>x3_ br s a e 2 w' hle (by omega) (hw'.has _ _ (List.mem_cons_of_mem _ List.mem_cons_self))) ?_
   generalize zs_ s a e 2=p at*
   obtain⟨kd,a1,e1⟩:=p
   simp only at hp hq heq hil ⊢
   refine kn ?_
   refine ko @qW_ ?_
   first|with_reducible refine ks [] @qW_ ?_|refine kp @qW_ ?_
   refine Ow.callM rfl rfl Tryz.call57 (by simp[keys]) (fun w' hw'=>ZQ_ br s a1 e1 32 w' hp.2 (by omega) (hw'.has _ _ (List.mem_cons_of_mem _ List.mem_cons_self))) ?_
   generalize zS_ s a1 e1 32=q at*
   obtain⟨tt,a2,e2⟩:=q
   simp only at hq heq hil ⊢
   refine kn ?_
   refine ko @qW_ ?_
   first|with_reducible refine ks [] @qW_ ?_|refine kp @qW_ ?_
   refine Ow.callM rfl rfl Tryz.call58 (by simp[keys]) (fun w' hw'=>Zw_ br s a2 e2 w' hq.2 (by omega) (hw'.has _ _ (List.mem_cons_of_mem _ List.mem_cons_self))) ?_
   generalize idR s a2 e2=i at*
   obtain⟨il,a3,e3⟩:=i
   simp only at heq hil ⊢
   obtain⟨I,hI⟩: ∃I,vU_ il=I:=⟨_,rfl⟩
   have hiI:il=I.l:=by rw[←hI,ky_ hil]
   rw[hI] at heq
   rw[hiI]
   refine kn ?_
   refine ko @qW_ ?_
   generalize hx: ({name:=tt,kind:=kd,id:=I}:EntL)=x
   rw[hx] at heq
   rw[heq] at hJ'
   refine Ow.buildSlice (e:=120) (q5_ x).toArray rfl rfl (qn_ Tryz.underlying72 Tryz.ag120 Va_ (by decide) (q6_ x)) fun b13 hb13 hw13=> ?_
   have hr13:br<b13:=zh_ hb13 (by simp[keys])
   refine Ow.permL (M:=D++ ((b6,Obj.cells (q5_ x).toArray 120 (0,0)):: (br, .cells #[vs s,vi a3,vi e3] 118 (0,0)):: [(b13,Obj.cells (q5_ x).toArray 120 (0,0))])) (by classical exact List.perm_iff_count.2 fun a=>by simp only[List.count_append,List.count_cons,List.count_nil]<;>omega) ?_
   refine ko @qW_ ?_
   refine Ow.appendX (e:=120) (k:=1) (new:=q5_ x) (X:=D) v rfl rfl rfl rfl Tryz.underlying72 Tryz.ag120 (by kernel_rfl) Va_ (by rw[vp_,List.size_toArray,q6_]) Tryz.underlying72 (by intro k h;cases h) hG (fun w' hw'=>AppX.one1 (hw'.has b13 (.cells (q5_ x).toArray 120 (0,0)) (by simp)) (q6_ _) (Vd_ _)) (by omega) (by have:=hJ.cnt;omega) (fun B v4 D4 hA4 hB4 hbuf hk1 hk2 hlk=> ?_)
   have hB13:b13<B:=zh_ hA4 (by simp[ze_,keys])
   have hN4:New (br+1) D4:=New.of_le fun q hq=>by
    rcases hk2 q hq with h|h
    ·exact hN.le q h
    ·omega
   refine Ow.permL (M:=(br, .cells #[vs s,vi a3,vi e3] 118 (0,0)):: (D4++ [(b6,Obj.cells (q5_ x).toArray 120 (0,0)),(b13,Obj.cells (q5_ x).toArray 120 (0,0))])) (by classical exact List.perm_iff_count.2 fun a=>by simp only[List.count_append,List.count_cons,List.count_nil]<;>omega) ?_
   refine ko @qW_ ?_
   refine Again.mk (EnG.mk m a3 e3 (l++ [x]) v4 (D4++ [(b6,Obj.cells (q5_ x).toArray 120 (0,0)),(b13,Obj.cells (q5_ x).toArray 120 (0,0))])) (by show m<m+1;omega) ⟨hJ',hN4.app ⟨by omega,by omega,trivial⟩, ?_⟩ rfl rfl
   show Gr _ _ _ _ (l++ [x]).length ((l++ [x]).map q5_).flatten
   rw[List.length_append,List.map_append,List.flatten_append,show([x].map q5_).flatten=q5_ x by simp]
   exact Gr.app (.inl hbuf)
  ·have hd:=hJ.done hc
   have hsh:=hJ.sh (by omega)
   have hcn:=hJ.cnt
   have hR:abJ_ s=if e=0∧xF_ l=true∧xZ_ l=s then some l else none:=by unfold abJ_;rw[hd]
   unfold ait_
   rw[hR]
   have hNe:New w.heap.size ((br,Obj.cells #[vs s,vi a,vi e] 118 (0,0))::D):=⟨hwr,New.mono (by omega) hN⟩
   by_cases he:e=0
   ·have d1: (e==0)=true:=by simp[he]
    have d2:decide ((a:Int)< (s.length:Int))=false:=decide_eq_false (by omega)
    have hend: (if e≠0 then e else if(a:Int)< (s.length:Int) then 5 else 0)=(0:Int):=by rw[if_neg (by simp[he]),if_neg (by omega)]
    first|with_reducible refine ks [] (And.intro @qW_ (And.intro @d1 (@d2))) ?_|refine kp (And.intro @qW_ (And.intro @d1 (@d2))) ?_
    refine Ow.callFV rfl Tryz.call59 (fun w' hw'=>wh_ br s a e w' (hw'.has _ _ (by simp))) ?_
    rw[hend]
    have d4: ((0:Int) !=0)=false:=rfl
    refine ko (And.intro @qW_ @d4) ?_
    refine Ow.callFV rfl Tryz.call60 (fun w' hw'=>Xz_ v l w' (hG.slM (fun b o hm=>hw'.has b o (by simp[hm])) rfl rfl q6_) (by omega) hsh) ?_
    cases hr:xF_ l
    ·rw[if_neg (by simp)]
     refine ko @qW_ ?_
     first|with_reducible refine ks [] @qW_ ?_|refine kp @qW_ ?_
     refine⟨_,(ke @qW_), ?_⟩
     exact⟨Ext.of_new hNe,rfl⟩
    ·refine ko @qW_ ?_
     refine Ow.callFV rfl Tryz.call61 (fun w' hw'=>KY_ v l w' (hG.slM (fun b o hm=>hw'.has b o (by simp[hm])) rfl rfl q6_) (by omega) hsh) ?_
     by_cases hb:xZ_ l=s
     ·have d3: (xZ_ l !=s)=false:=by simp[hb]
      rw[if_pos ⟨he,rfl,hb⟩]
      refine ko (And.intro @qW_ @d3) ?_
      first|with_reducible refine ks [] @qW_ ?_|refine kp @qW_ ?_
      refine⟨_,(ke @qW_), ?_⟩
      exact⟨Ext.of_new hNe,v,rfl,hG.keep fun b o hb ho=>by rw[Sx.look,if_neg (by have:=hN.le b (zo_ ho);omega)];exact ho⟩
     ·have d3: (xZ_ l !=s)=true:=by simp[hb]
      rw[if_neg (fun h=>hb h.2.2)]
      refine ko (And.intro @qW_ @d3) ?_
      first|with_reducible refine ks [] @qW_ ?_|refine kp @qW_ ?_
      refine⟨_,(ke @qW_), ?_⟩
      exact⟨Ext.of_new hNe,rfl⟩
   ·have d1: (e==0)=false:=by simp[he]
    have d3: (e !=0)=true:=by simp[he]
    have hend: (if e≠0 then e else if(a:Int)< (s.length:Int) then 5 else 0)=e:=by rw[if_pos he]
    rw[if_neg (fun h=>he h.1)]
    first|with_reducible refine ks [] (And.intro @qW_ @d1) ?_|refine kp (And.intro @qW_ @d1) ?_
    refine Ow.callFV rfl Tryz.call59 (fun w' hw'=>wh_ br s a e w' (hw'.has _ _ (by simp))) ?_
    rw[hend]
    refine ko (And.intro @qW_ @d3) ?_
    first|with_reducible refine ks [] @qW_ ?_|refine kp @qW_ ?_
    refine⟨_,(ke @qW_), ?_⟩
    exact⟨Ext.of_new hNe,rfl⟩
end Go.Proofs
end
